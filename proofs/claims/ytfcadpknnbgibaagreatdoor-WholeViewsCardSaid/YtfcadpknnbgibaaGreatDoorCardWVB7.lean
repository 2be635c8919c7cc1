/- Part 7. -/
import Derived.Deep.AppendSrc
import Derived.RangeFuncBox
import Derived.Lib.ItoaNum
import Derived.Test.YtfcadpknnbgibaaGreatDoorCardWVB6
set_option maxRecDepth 100000
set_option maxHeartbeats 4000000
namespace Go.Proofs.YtfcadpknnbgibaaGreatDoor
open Go.Proofs.Tryz
namespace PW
section
open Go.RowKit Go.Shelf cm Mem iF
attribute [local go_sem] Oper.semAt_some
section
variable {P:Program} {σ:bH} {t:cd} {o:Oper}
theorem uj(L:List Nat)(l h:Nat)(a:h<=L.length):PV.slice (h - l) (((ei L).drop (l*1)).take ((h - l)*1))=cE ((L.drop l).take (h - l)):=by
 unfold cE ei;rw[Xt,Xt,YP,Za,V8,XY,Xe (by omega)]
theorem yG{ty e l h:Nat}{x lo b}{L M:List Nat}{k j}{li c:Int}(ho:o.op= .slice ty x (some lo) (some b) none)(he:uX P ty=some (e,1))(hx:aI t x=some (cE L))(i:aI t lo=some (.raw (.int k li)))(d:aI t b=some (.raw (.int j c)))(g:li=(l:Int))(a:c=(h:Int))(f:l<=h)(hl:h<=L.length)(hM:(L.drop l).take (h - l)=M):bE P σ t o (cE M):=by
 have:=C7 (σ:=σ) ho he hx i d (by simp[ei]) g a f hl;rw[uj L l h hl,hM]at this;exact this
theorem zi{ty e s n l:Nat}{x lo}{xs:List PV}{k}{a:Act}{E w}(ho:o.op= .slice ty x (some lo) none none)(he:uX P ty=some (e,s))(hx:dj E w (a.eval x) (.slice n xs))(g:a.eval lo= .int k (l:Int))(h:xs.length=n*s)(hl:l<=n):
  ∃v,(execOp a.eval o).run P w= .ok (.value v) w/\dj E w v (.slice (n - l) ((xs.drop (l*s)).take ((n - l)*s))):=by
 obtain⟨hu,i,hi,hs⟩:=gj he;generalize p:a.eval x=v at hx;obtain⟨d,c,rfl,f,m⟩:=jy hx;have j:=lB (s:=s) hx h hl (Vh _) f (Vh c);have b:(Instr.sliceAt ty (.slice d n c) (some (.int k (l:Int))) none none).run P w= .ok (.slice (if c=l then d else d.map (·.add (l*s))) (n - l) (c - l)) w:=by
  simp[Instr.sliceAt,run_underlying hu,Instr.slice,Instr.sliceBounds,Instr.sliceBound,asIntOf,hl,sizeOf,typeInfo,hi,hs]
 refine⟨_,?_,j⟩;simp only[execOp,ho,p,g,Wj,YM,Sem.run_bind,b,Result.andThen_ok,Sem.run_pure]
end
def Ty(f:Func):Array Oper:=
 let rec go:Code->Array Oper
  | .seq _ y=>go y
  | .block _ x=>go x
  | .loop x=>go x
  | .region _ ops _=>ops
  |_=> #[]
 (f.body.map go).getD #[]
def Mq(F0:Nat->Prop)(B s b:Nat):Prop:=F0 b\/b=B\/s<=b
def Fq(F0:Nat->Prop)(s:Nat)(A:World)(b:Nat):Prop:=(F0 b\/s<=b)/\b<A.heap.size
def GQ(F0:Nat->Prop)(B s:Nat)(l:List Rc)(k:Nat)(vs:Array Value)(A0 A:World):Prop:=∃v,vs= #[v,.bool true]/\RK B A/\dj (EF (Fq F0 s A0)) A v (.agg (nQ (l.getD k EA)))
theorem OA(L:List Nat):MO (cE L):=.ints _ _ (λh=>by rw[lr];exact h) (λi u hu=>by
 have hi:i<L.length:=by have:=(Vf.1 hu).1;rwa [lr]at this
 rw[rL L i hi]at hu;cases hu;exact⟨_,_,rfl⟩)
theorem FO:∀(l:List Rc) (i:Nat) u,(iK l)[i]? =some u->MO u
 | [],i,u,h=>by simp[iK]at h
 |r::l,0,u,h=>by cases h;exact .raw _
 |r::l,1,u,h=>by cases h;exact OA _
 |r::l,i+2,u,h=>FO l i u h
theorem G4{l:List Rc}{k:Nat}(h:k<l.length):je (l.drop k)=qK (l.getD k EA)++je (l.drop (k+1)):=by
 have e:l.getD k EA=l[k]:=by simp[Qo,Vm h]
 rw[e];show(l.drop k).flatMap qK=_;rw[YB h,Wm]
 rfl
structure uA (F0:Nat->Prop) (B s:Nat) (J:Nat->World->Prop) (lp:Nat) (l:List Rc) (k:Nat) (a:Act) (A:World):Prop where
 j:∃A0,J k A0/\nr B A0 A/\s<=A0.heap.size
 d:a.defers=[]
 z:a.tmps.size=52
 t0:a.eval (.tmp 0)= .func (.yield lp) #[] #[]
 t1:a.eval (.tmp 1)= .pointer (some ⟨B,0,none⟩)
 c:∃cv,A.heap[B]? =some (.cells #[cv] 89 (0,0))/\dj (EF (Mq F0 B s)) A cv (cE (je (l.drop k)))
 g:ou (Mq F0 B s) A
def tQ(lp:Nat)(X:List Nat):cd:=[(0,.raw (.func (.yield lp) #[] #[])),(1,.cH [cE X] 0)]
section
variable {F0:Nat->Prop} {B s:Nat} {J:Nat->World->Prop} {lp:Nat} {l:List Rc} {k:Nat} {a:Act} {A:World}
theorem uA.sat(h:uA F0 B s J lp l k a A)(d:¬F0 B)(e:B<s):dT (Fq F0 s A) A.heap.size 52 ⟨tQ lp (je (l.drop k)),[]⟩ (EF (Fq F0 s A)) a A:=by
 obtain⟨cv,hc,hv⟩:=h.c;have hlt:=(Vs.1 hc).1;have c:∀b,Fq F0 s A b->Mq F0 B s b:=λb hb=>hb.1.elim .inl (λh=>.inr (.inr h));refine⟨Zl _ A (λb hb=>hb.2) (h.g.sub c),eF.on ?_ (eF.on ?_ eF.ni),h.d,h.z⟩
 ·rw[h.t0];exact .raw _
 ·rw[h.t1];refine .cH B 0 0 [cv] [cE (je (l.drop k))] hlt (λhm=>hm.1.elim d (λh=>by omega)) (λi x hx=>?_) I (λi x u h1 h2=>?_)
  ·match i,hx with
   |0,hx=>cases hx;simp[World.cell?,hc]
  ·match i,h1,h2 with
   |0,h1,h2=>cases h1;cases h2;exact hv.goes (rv (Vh _) (λb _ hn hm=>hn (c b hm)) (λ_ _ _=>rfl))
def Q3(B:Nat)(A:World):Nat:=match A.cell? ⟨B,0,none⟩with
 |some (.slice _ n _)=>n
 |_=>0
theorem uA.TP(h:uA F0 B s J lp l k a A):Q3 B A=(je (l.drop k)).length:=by
 obtain⟨cv,hc,hv⟩:=h.c;obtain⟨b,c,rfl,_⟩:=jy hv;unfold Q3;simp[World.cell?,hc]
end
theorem zX{l:List Rc}(hl:∀r∈l,r.Ok){B:Nat}{cv}{W:World}{F0:Nat->Prop}(hF:∀b,F0 b->b<W.heap.size)(V:¬F0 B)(gl:ou (λb=>F0 b\/b=B) W)(hB:W.heap[B]? =some (.cells #[cv] 89 (0,0)))(ax:dj (EF (λb=>F0 b\/b=B)) W cv (cE (je l))):
  I9 prog 206 #[.pointer (some ⟨B,0,none⟩)] l.length (GQ F0 B W.heap.size l) B F0 W:=by
 intro n' lp J hY au;have U:B<W.heap.size:=(Vs.1 hB).1;have⟨s,hs⟩:=dw (W.heap.size);rw[hs]at U;refine callsIn_of_wp_marks func206 I trivial ?_ rfl;have L:c8 (EF (λb=>F0 b\/b=B)) W (EF (Mq F0 B s)) W:=rv (Vh _) (λb hb hn hm=>hn (by rcases hm with h|h|h;exact .inl h;exact .inr h;omega)) (λ_ _ _=>rfl);have F:=mz (N:=52) (Zl (λ_=>False) W (λ_ h=>h.elim) (gl.sub (λ_ h=>h.elim))) (vs:= #[Value.func (.yield lp) #[] #[]]++ #[.pointer (some ⟨B,0,none⟩)]) (ps:=[.raw (.func (.yield lp) #[] #[]),.raw (.pointer (some ⟨B,0,none⟩))]) (XP (.raw _) (XP (.raw _) (Yn _ _))) (by simp);have ar:uA F0 B s J lp l 0 _ W:=⟨⟨W,au,nr.refl _ _,by omega⟩,F.lO,F.size,dt (F.tmp 0 _ rfl),dt (F.tmp 1 _ rfl),⟨cv,hB,ax.goes L⟩,gl.goes (E:=EF _) (E':=EF _) L⟩;refine wpIn_block<|wpIn_loop (λa A=>∃k,k<=l.length/\uA F0 B s J lp l k a A) (λ_ A=>Q3 B A) ⟨0,We _,ar⟩ ?_;rintro a A ⟨k,hk,hH⟩;have aa:=hH.TP;have ae:=hH.sat V U;obtain⟨A0,ad,C,aN⟩:=hH.j;have⟨q,hq⟩:=dw (decide ((0:Int)<((je (l.drop k)).length:Int)));have⟨X,Y⟩:=dw (je (l.drop k));rw[Y]at ae hq;refine wpIn_seq (wpIn_seq (pb (S:=(· ∈[0,1])) (K:=λs=>s=⟨[(0,.raw (.func (.yield lp) #[] #[])),(1,.cH [cE X] 0),(6,flag q)],[]⟩) (nY.of I) ae rfl ?_ ?_))
 ·refine fQ.wr (.a 2 I<|.v (Qu I I I hq) I<|.k [0,1,6] I)<|rfl
 rintro _ E1 a1 w1 rfl G g1 b1 m1;have Z:=dt (G.tmp 6 _ rfl);rcases Ww k l.length with u|u
 ·
  have⟨r,hr⟩:=dw (l.getD k EA);have Q:r.Ok:=by rw[<-hr];exact hl _ (b9 u)
  have aS:=Q.len;have aQ:=Q.k0;have aR:=Q.k1;have⟨T,hT⟩:=dw (je (l.drop (k+1)));have i:X=r.k::r.v.length / 256::r.v.length % 256::(r.v++T):=by rw[<-Y,G4 u,hr,hT];rfl
  have aP:X.length=3+r.v.length+T.length:=by rw[i];simp;omega
  have o0:(ei X)[0]? =some (.raw (.int .u8 ((r.k:Nat):Int))):=by rw[i];rfl
  have o1:(ei X)[1]? =some (.raw (.int .u8 ((r.v.length / 256:Nat):Int))):=by rw[i];rfl
  have o2:(ei X)[2]? =some (.raw (.int .u8 ((r.v.length % 256:Nat):Int))):=by rw[i];rfl
  have ay:(X.drop 3).take (3+r.v.length - 3)=r.v:=by
   rw[i,show 3+r.v.length - 3=r.v.length by omega];simp
  have az:X.drop (3+r.v.length)=T:=by
   rw[i,YJ 3];simp
  have aH:q=true:=by rw[<-hq];exact VM (by omega)
  subst aH;have aA:decide (((r.k:Nat):Int)=0)=false:=VA (by omega);have aB:decide ((X.length:Int)<3)=false:=VA (by omega);have aC:decide ((X.length:Int)<((3+r.v.length:Nat):Int))=false:=VA (by omega);have ab:(0:Int)<(X.length:Int):=by omega
  have aD:(1:Int)<(X.length:Int):=by omega
  have aE:(2:Int)<(X.length:Int):=by omega
  refine wpIn_cond_true Z (wpIn_skip ?_);refine wpIn_block<|wpIn_seq (wpIn_seq (pb (S:=(· ∈[0,1])) (K:=λs=>s=⟨[(0,.raw (.func (.yield lp) #[] #[])),(1,.cH [cE X] 0),(15,flag false)],[]⟩) (nY.of I) G G.sat.len ?_ ?_))
  ·refine fQ.wr (.a 1 I<|.v (aX (0) I (by decide) ab) I<|.v (aO I o0) I<|.v (yD I I I aA) I<|.a 3 I<|.v (MD I I I aB) I<|.a 1 I<|.k [0,1,15] I)<|rfl
  rintro _ E2 a2 w2 rfl af g2 b2 m2;refine wpIn_cond_false (dt (af.tmp 15 _ rfl)) (wpIn_skip ?_);refine wpIn_seq (uW (S:=(· ∈[0,1])) 12 20 [19,20,21,22,23,24,25,26,27,28,29,3] (nY.of I) mixed (by kernel_rfl) (by kernel_rfl) (by kernel_rfl) I af
   (.a 1 I<|.v [19] (aX (1) I (by decide) aD) I I<|.v [20] (aO I o1) I I<|.v [21] (eE I Tryz.underlying5 Tryz.underlying3 rfl (lh _ (by omega))) I I<|.v [22] (Qw I I I (by decide) (show r.v.length / 256*2 ^ 8=r.v.length / 256*256 from rfl) (lh _ (by omega))) I I<|.v [23] (aU I (hc:=show(3:Int)+((r.v.length / 256*256:Nat):Int)=((3+r.v.length / 256*256:Nat):Int) by omega)) I I<|.a 1 I<|.v [25] (aX (2) I (by decide) aE) I I<|.v [26] (aO I o2) I I<|.v [27] (eE I Tryz.underlying5 Tryz.underlying3 rfl (lh _ (by omega))) I I<|.v [24,28] (aU I (hc:=show((3+r.v.length / 256*256:Nat):Int)+((r.v.length % 256:Nat):Int)=((3+r.v.length:Nat):Int) by omega)) I I<|.a 1 I<|.k [0,1,3] I) ?_)
  intro a3 w3 b3 ag m3;refine wpIn_seq (wpIn_seq (pb (S:=(· ∈[0,1])) (K:=λs=>s=⟨[(0,.raw (.func (.yield lp) #[] #[])),(1,.cH [cE X] 0),(3,num ((3+r.v.length:Nat):Int)),(33,flag false)],[]⟩) (nY.of I) ag ag.sat.len ?_ ?_))
  ·refine fQ.wr (.a 3 I<|.v (MD I I I aC) I<|.k [0,1,3,33] I)<|rfl
  rintro _ E4 a4 w4 rfl ah g4 b4 m4;refine wpIn_cond_false (dt (ah.tmp 33 _ rfl)) (wpIn_skip ?_);refine wpIn_seq (wpIn_seq (uW (S:=(· ∈[0,1])) 10 20 [37,38,39,40,41,42,43,44,45,46] (nY.of I) mixed (by kernel_rfl) (by kernel_rfl) (by kernel_rfl) I ah
   (.a 2 I<|.v [38] (aX (0) I (by decide) ab) I I<|.v [39] (aO I o0) I I<|.v [40] (eE I Tryz.underlying5 Tryz.underlying3 rfl (lh _ (by omega))) I I<|.a 2 I<|.v [42,43] (yG I (WN I) I I I (show(3:Int)=((3:Nat):Int) from rfl) I (by omega) (by omega) ay) I I<|.v [44] (dW I (Ej r.v (by omega))) I I<|.a 1 I<|.k [0,1,3,37,46] I) ?_))
  intro a5 R b5 n m5;have z2:A.heap.size<=w2.heap.size:=VL b1.size b2.size;have z4:A.heap.size<=w4.heap.size:=VL z2 (VL b3.size b4.size);have g:Ext A R:=(((Below.trans b1.toBelow b2.toBelow).trans (Below.iB b3 z2)).trans b4.toBelow).trans (Below.iB b5 z4);have m15:Same (· ∈[0,1]) a a5:=(((m1.trans m2).trans m3).trans m4).trans m5;have aj:=n.size;have ao:=dt (n.tmp 37 _ rfl);have aq:dj E4 R (a5.eval (.tmp 46)) (.agg (nQ r)):=n.tmp 46 _ rfl;have h3:=dt (n.tmp 3 _ rfl);have ai:dj (EF (Fq F0 s A0)) R (a5.eval (.tmp 46)) (.agg (nQ r)):=(inferInstance:IsPure (.agg (nQ r))).out _ _ _ _ (λb hb=>(n.sat.mm b).2 (.inl ⟨hb.1,VS hb.2 C.size⟩)) aq;have aK:RK B R:=by
   obtain⟨d,t,H⟩:=hH.c;obtain⟨a0,c0,rfl,_⟩:=jy H;exact⟨_,_,_,_,(g.block B (Vs.1 t).1).trans t⟩
  refine Em (x:=.tmp 37) (y:=.tmp 46) I I I ao (hY _ k _ A0 R u ad (C.trans (nr.ext g)) (by omega) ⟨_,rfl,aK,by rw[hr,hs];exact ai⟩) ?_;rintro e f ⟨rfl,aF,z⟩;refine⟨_,rfl,?_⟩;refine uq (.inl rfl) I I (λc e=>by cases e) (J7 rfl (eval_put (by omega)))<|wpIn_cond_false (eval_put (by simp[Act.put,aj])) (wpIn_skip ?_);obtain⟨d,t,H⟩:=hH.c;have aw:R.heap[B]? =some (.cells #[d] 89 (0,0)):=(g.block B (Vs.1 t).1).trans t;have M:f.heap[B]? =some (.cells #[d] 89 (0,0)):=(z.block B (by omega) V).trans aw;have gA:c8 (EF (Mq F0 B s)) R (EF (Mq F0 B s)) f:=rv z.size (λb _ hn=>hn) (λb hb hn=>z.block b (by rw[hs];exact Nat.lt_of_not_le λh=>hn (.inr (.inr h))) (λh=>hn (.inl h)));have aL:dj (EF (Mq F0 B s)) f d (cE X):=by
   rw[Y]at H;exact(H.goes (.ext g)).goes gA
  have an:ou (Mq F0 B s) f:=(hH.g.goes (E:=EF _) (E':=EF _) (.ext g)).goes (E:=EF _) (E':=EF _) gA;have O:f.cell? ⟨B,0,none⟩=some d:=by simp[World.cell?,M]
  have⟨p,D⟩:=dw ((a5.put (some 47) (.bool true)).put (some 48) (.bool (!true)));have z7:p.tmps.size=52:=by rw[<-D];simp[Act.put,aj]
  have d7:p.defers=[]:=by rw[<-D];exact n.lO
  have n7:∀j,j≠47->j≠48->p.eval (.tmp j)=a5.eval (.tmp j):=λj h1 h2=>by rw[<-D,dV h2,dV h1]
  have e0:p.eval (.tmp 0)= .func (.yield lp) #[] #[]:=(n7 0 (by decide) (by decide)).trans ((m15 0 (by simp)).trans hH.t0);have e1:p.eval (.tmp 1)= .pointer (some ⟨B,0,none⟩):=(n7 1 (by decide) (by decide)).trans ((m15 1 (by simp)).trans hH.t1);have e3:p.eval (.tmp 3)= .int .i64 ((3+r.v.length:Nat):Int):=(n7 3 (by decide) (by decide)).trans h3
  change Code.wpIn Fence.wide n' _ (Code.region 7 _ false) _ ((a5.put (some 47) (.bool true)).put (some 48) (.bool (!true))) f
  rw[D];refine wpIn_region<|uq (.inl rfl) I I (λc e=>by cases e) (G5 rfl (VJ I) e1 O) ?_;refine uq (.inl rfl) I I (λc e=>by cases e) (G6 rfl) ?_;have⟨a9,m⟩:=dw ((p.put (some 49) d).put (some 50) ((p.put (some 49) d).eval (.tmp 3)));have z9:a9.tmps.size=52:=by rw[<-m];simp[Act.put,z7]
  have ak:a9.eval (.tmp 49)=d:=by rw[<-m,dV (by decide),eval_put (by omega)]
  have al:a9.eval (.tmp 50)= .int .i64 ((3+r.v.length:Nat):Int):=by rw[<-m,eval_put (by simp[Act.put,z7]),dV (by decide),e3]
  have n9:∀j,j≠49->j≠50->a9.eval (.tmp j)=p.eval (.tmp j):=λj h1 h2=>by rw[<-m,dV h2,dV h1]
  show wpOpsIn _ _ _ _ _ _ ((p.put (some 49) d).put (some 50) ((p.put (some 49) d).eval (.tmp 3))) _;rw[m];obtain⟨v,aJ,hv⟩:=zi (P:=prog) (o:=((Ty Tryz.f206).getD 2 default)) (a:=a9) (w:=f) (E:=EF (Mq F0 B s)) (x:=.tmp 49) (lo:=.tmp 50) (l:=3+r.v.length) I (WN I) (by rw[ak];exact aL) al (by simp[ei]) (by omega);rw[uj X _ _ (Vh _),V2 (by simp),az]at hv;refine uq (.inl rfl) I I (λc e=>by cases e) aJ ?_;have f1:(a9.put (some 51) v).eval (.tmp 1)= .pointer (some ⟨B,0,none⟩):=by rw[dV (by decide),n9 1 (by decide) (by decide),e1]
  have f0:(a9.put (some 51) v).eval (.tmp 0)= .func (.yield lp) #[] #[]:=by rw[dV (by decide),n9 0 (by decide) (by decide),e0]
  refine Lh rfl rfl rfl (Bf rfl (VJ I) f1 (eval_put (by omega)) hv M) ?_;have oq:∀b,b≠B->(f.setRow B #[v]).heap[b]? =f.heap[b]? :=λb hb=>setRow_other _ _ _ _ hb;have aT:(f.setRow B #[v]).heap.size=f.heap.size:=setRow_size _ _ _;have gB:c8 (EF (Mq F0 B s)) f (EF (Mq F0 B s)) (f.setRow B #[v]):=rv (by omega) (λb _ hn=>hn) (λb _ hn=>oq b (λe=>hn (.inr (.inl e))));have aM:s<=f.heap.size:=by have:=z.size;have:=C.size;have:=g.size;omega
  have hN:uA F0 B s J lp l (k+1) (a9.put (some 51) v) (f.setRow B #[v]):=
   ⟨⟨f,aF,⟨rfl,rfl,rfl,by omega,λb _ hb=>oq b hb⟩,aM⟩,by rw[<-m];exact d7,by simp[Act.put,z9],f0,f1,⟨v,setRow_heap _ _ _ _ _ _ M,by rw[hT];exact hv.goes gB⟩,an.goes (E:=EF _) (E':=EF _) gB⟩
  refine⟨⟨k+1,u,hN⟩,?_⟩;rw[hN.TP,aa,hT,Y];omega
 ·
  have aG:k=l.length:=by omega
  subst aG;have av:X=[]:=by rw[<-Y,Zs];rfl
  subst av;cases hq;refine wpIn_cond_false Z (wpIn_exit ?_);show LeavesInM _ _ _ _ _ _ a1.defers _ _;rw[G.lO];exact⟨_,results_none rfl _ _ _,⟨_,rfl⟩,A0,ad,C.trans (nr.ext b1.toBelow),by omega⟩
theorem zW(L:List Nat)(σ:bH):aD prog 151 [cE L] σ (λr σ'=>r= .func 206 [.ptr σ.length 0]/\σ'=σ++[some (.cells 89 [cE L])]):=by
 refine aV func151 I ntmps151 I<|aK<|bW (dv (xs:=[_]) I I I) I<|av 1 I<|aF [1] I ?_;exact aj (.a 2 I<|.k [2] I)<|aA<|⟨_,V5 I,rfl,rfl⟩
def MU(l:List Rc)(k:Nat):bH:=[some (.cells 216 [.raw (.slice none 0 0)]),some (.cells 34 [num 0]),some (.cells 216 [.own 3]),some (.row 220 2 k (iK (l.take k)))]
theorem F5(l:List Rc)(k:Nat):∀(i:Nat) bl,(MU l k)[i]? =some (some bl)->RQ bl
 |0,bl,h=>by cases h;exact λi u hu=>by match i,hu with|0,hu=>cases hu;exact .raw _
 |1,bl,h=>by cases h;exact λi u hu=>by match i,hu with|0,hu=>cases hu;exact .raw _
 |2,bl,h=>by cases h;exact λi u hu=>by match i,hu with|0,hu=>cases hu;exact .own _
 |3,bl,h=>by cases h;exact FO _
 |_+4,bl,h=>by cases h
def T2(F0:Nat->Prop)(B:Nat)(w:World)(M2:Nat->Prop)(s:Nat)(p:Nat->Value)(l:List Rc)(k:Nat)(A:World):Prop:=
 ∃E,Sat F0 w.heap.size (MU l k) E A/\(¬E.M B/\RK B A)/\(∀i,i<3->E.at_ i=p i)/\(∀b,E.M b->M2 b\/s<=b)/\Below w.heap.size w A
theorem qx{l:List Rc}(hl:∀r∈l,r.Ok)(hlen:l.length<=100000):Can prog 108 [cE (je l)] (· = .tuple [wJ l,num 0]):=by
 have⟨X,hX⟩:=dw (je l)
 intro F0 w vs hF gl hR
 rw[hX]at hR
 refine(callsIn_wide (n:=4)).1 ?_
 refine callsIn_of_wp_marks func108 I trivial ?_ rfl
 have hs0:=mz (N:=18) (Zl F0 w hF gl) hR (by have:=hR.1;simp at this;omega)
 have hc0:uw F0 w.heap.size 0 (EF F0) w (EF F0) w:=⟨rfl,YN _ _,Yh _ _ _⟩
 refine wpIn_seq (piece (L:=0) (K:=λs=>s=⟨[(0,cE X),(2,.ptr 0 0),(3,.ptr 1 0)],[some (.cells 216 [.raw (.slice none 0 0)]),some (.cells 34 [num 0])]⟩) hc0 hs0 ?_ ?_)
 ·skip
  refine bp<|av 2 I<|aF [0,2,3] I ?_
  exact rfl
 rintro _ E1 a1 w1 rfl hs1 g1 b1
 refine wpIn_seq (piece (L:=0) (K:=λs=>s=⟨[(0,cE X),(2,.ptr 0 0),(3,.ptr 1 0),(4,.ptr 2 0)],[some (.cells 216 [.raw (.slice none 0 0)]),some (.cells 34 [num 0]),some (.cells 216 [.raw (.slice none 0 0)])]⟩) ⟨rfl,g1,b1⟩ hs1 ?_ ?_)
 ·skip
  refine bp<|av 1 I<|aF [0,2,3,4] I ?_
  exact rfl
 rintro _ E2 a2 w2 rfl hs2 g2 b2
 refine wpIn_seq (wpIn_seq (piece (L:=0) (K:=λs=>s=⟨[(2,.ptr 0 0),(3,.ptr 1 0),(4,.ptr 2 0),(8,.func 206 [.ptr 4 0])],[some (.cells 216 [.raw (.slice none 0 0)]),some (.cells 34 [num 0]),some (.cells 216 [.own 3]),some (.row 220 2 0 []),some (.cells 89 [cE X])]⟩) ⟨rfl,g2,b2⟩ hs2 ?_ ?_))
 ·refine cO 2 0 220 2 I I ?_
  refine bp<|av 1 I<|br I I (VO (zW X _) (λ_ σ' h=>?_))
  obtain⟨rfl,rfl⟩:=h
  refine aF [2,3,4,8] I ?_
  exact rfl
 rintro _ E3 a3 w3 rfl hs3 g3 b3
 obtain⟨B,cs4,hB4,hBb,hBh,hBr⟩:=hs3.sat.blk 4 _ rfl
 obtain⟨P0,cs0,hP0,_,_,_⟩:=hs3.sat.blk 0 _ rfl
 obtain⟨P1,cs1,hP1,_,_,_⟩:=hs3.sat.blk 1 _ rfl
 obtain⟨P2,cs2,hP2,_,_,_⟩:=hs3.sat.blk 2 _ rfl
 have ptr_at:∀ {E:Env} {W:World} {v:Value} {i b:Nat},E.at_ i= .pointer (some ⟨b,0,none⟩)->dj E W v (.ptr i 0)->v= .pointer (some ⟨b,0,none⟩):=λ{E W v i b} he h=>by
  cases h with
  |ptr _ _ b' _ h6=>
   rcases h6 with h6|⟨_,_,h6⟩<;>rw[he]at h6<;>cases h6
   rfl
 have h2:=ptr_at hP0 (hs3.tmp 2 _ rfl)
 have h3:=ptr_at hP1 (hs3.tmp 3 _ rfl)
 have h4:=ptr_at hP2 (hs3.tmp 4 _ rfl)
 have h8:=hs3.tmp 8 _ rfl
 obtain⟨Ti⟩:=cs4
 match Ti,hBr with
 | [],hBr=>exact absurd hBr.1 (by simp)
 |_::_::_,hBr=>exact absurd hBr.1 (by simp)
 | [cv],hBr=>
 have hcv:=hBr.2 0 cv _ rfl rfl
 have hM3:∀b,E3.M b->b<w3.heap.size:=λb hb=>hs3.sat.lt hb
 have hBM:E3.M B:=(hs3.sat.mm B).2 (.inr ⟨4,_,rfl,by rw[hB4];rfl⟩)
 have hBlt:=hM3 B hBM
 have hE3:Ext w w3:=b3.toBelow
 have hd3:=hs3.lO
 have hz3:=hs3.size
 generalize hz48:a3.eval (.tmp 8)=z48 at h8
 cases h8 with
 |func _ cs _ hcl hcr=>
 obtain⟨cs⟩:=cs
 match cs,hcl,hcr with
 | [xb],_,hcr=>
 have hxb:=ptr_at hB4 (hcr 0 xb _ rfl rfl)
 subst hxb
 obtain⟨hk2,_⟩:=hs3.sat.kill 4 I
 have hgB:∀g cs,(g,cs)∈GG->g≠B:=λg cs hg e=>(hs3.sat.gl g cs hg).1 (e▸hBM)
 obtain⟨ca,cc,rfl,_⟩:=jy hcv
 obtain⟨M0,hM0,hS0⟩:=hk2.oI (fs:=[0,1,2,3]) (σ':=MU l 0) (.kept rfl (.cells (WU Wp))<|.kept rfl (.cells (WU Wp))<|.kept rfl (.cells (V0 (Ren.own (i:=3) I) Wp))<|.kept rfl (.row VT) .nil) I
 refine wpIn_block ?_
 refine C4 hz48 (enters_of func206 (by kernel_rfl) I) (K:=l.length) (B:=B) (G:=GQ (λb=>E3.M b/\b≠B) B (w3.heap.size+2) l) (F0:=λb=>E3.M b/\b≠B) (λb h=>hM3 b h.1) hBlt ?_ ?_ (T2 F0 B w E3.M (w3.heap.size+2) E3.at_ l) ?_ ?_ ?_ ?_
 ·intro W hEW hzW
  have hEM:∀b,(E3.M b/\b≠B)\/b=B->E3.M b:=λb h=>h.elim (λh=>h.1) (λh=>h▸hBM)
  have:=zX hl (B:=B) (W:=W) (F0:=λb=>E3.M b/\b≠B) (λb h=>VS (hM3 b h.1) hEW.size) (λh=>h.2 rfl) ((hs3.sat.gl.goes (E:=EF _) (E':=EF _) (.ext hEW)).sub hEM) ((hEW.block B hBlt).trans hBh) (by
   rw[hX]
   exact((inferInstance:IsPure (cE X)).out _ _ _ _ hEM hcv).goes (.ext hEW))
  rw[hzW]at this
  exact this
 ·rintro k vs A0 A ⟨v,rfl,_⟩
  rfl
 ·rintro k A l' r o rfl ⟨E,hS,⟨hnB,t0,a0,n0,c0,hsl⟩,hat,hK,hb⟩ hr
  exact⟨E,hS.other hr (by simp) (λk hk=>World.putObj_heap_other hk),⟨hnB,t0,a0,n0,c0,(World.putObj_heap_other (by omega)).trans hsl⟩,hat,hK,hb.trans ⟨rfl,rfl,rfl,by simp,λb hb'=>World.putObj_heap_other (by have:=hE3.size;omega)⟩⟩
 ·intro W1 hE1 hz1
  refine⟨_,hS0.ext hE1,⟨λh=>(hM0 B h).2 (by rw[hB4];rfl),_,_,_,_,(hE1.block B hBlt).trans hBh⟩,λi hi=>?_,λb hb=>.inl (hM0 b hb).1,Below.trans b3.toBelow (Below.iB hE1 hE3.size)⟩
  match i,hi with
  |0,_=>rfl
  |1,_=>rfl
  |2,_=>rfl
 ·rintro m l2 k vs A0 A1 hl2 ⟨rl,hrl⟩ hk ⟨E,hS0',⟨hnB,hsl0⟩,hat,hK,hbw⟩ hO hsz ⟨v,rfl,hslA,hvr⟩
  have hS:=hS0'.only hnB hgB (F5 l k) hsl0 hO
  have⟨r,hr⟩:=dw (l.getD k EA)
  rw[hr]at hvr
  have hEM0:∀b,E.M b->b<A0.heap.size:=λb hb=>hS0'.lt hb
  have hMc:∀b,E.M b->(E3.M b/\b≠B)\/w3.heap.size+2<=b:=λb hm=>(hK b hm).imp (λh=>⟨h,λe=>hnB (e▸hm)⟩) id
  have hvE:dj E A1 v (.agg (nQ r)):=dj.back (hvr.goes (rv (M':=E.M) (Vh _) (λb hb hn hm=>hn ⟨hMc b hm,hEM0 b hm⟩) (λ_ _ _=>rfl)))
  obtain⟨arr3,ds3⟩:=a3
  simp only at hd3 hz3
  subst hd3
  have hEL:E.L=4:=hS.len
  have h4E:dj E A1 (Act.eval ⟨arr3,[]⟩ (.tmp 4)) (.ptr 2 0):=by
   rw[h4]
   exact .ptr 2 0 P2 (by omega) (.inl ((hat 2 (by omega)).trans hP2))
  have hsA:dT F0 w.heap.size 18 ⟨[(10,flag true),(9,.agg (nQ r)),(4,.ptr 2 0)],MU l k⟩ E (((⟨arr3,[]⟩:Act).put (some 9) v).put (some 10) (.bool true)) A1:=by
   refine⟨hS,?_,rfl,by simp[Act.put,hz3]⟩
   refine eF.on ?_ (eF.on ?_ (eF.on ?_ eF.ni))
   ·rw[eval_put (by simp[Act.put,hz3])];exact .raw _
   ·rw[dV (by decide),eval_put (by show 9<arr3.size;omega)];exact hvE
   ·rw[dV (by decide),dV (by decide)];exact h4E
  rw[show({tmps:=(#[9,10].zip #[v,Value.bool true]).foldl (λt (p,v)=>t.setIfInBounds p v) arr3,defers:=[]}:Act)=((⟨arr3,[]⟩:Act).put (some 9) v).put (some 10) (.bool true) from by simp[Act.put]]
  refine wpIn_seq (pT (m:=2) (L:=E.L) (K:=λs=>s=⟨[(10,flag true),(4,.ptr 2 0),(5,.cH (nQ r) 0)],MU l k++[none]⟩) I I hsA rfl (by
   rw[hEL]
   refine av 2 I ?_
   refine QD 4 (σ':=MU l k++[none]) (t':=[(10,flag true),(4,.ptr 2 0),(5,.cH (nQ r) 0)]) (blk:=.cells 220 (nQ r)) I ⟨rfl,rfl,λj hj=>.inl (by match j,hj with|0,_=>rfl|1,_=>rfl|2,_=>rfl|3,_=>rfl|4,h=>exact absurd rfl h|_+5,_=>rfl)⟩ (.cons 10 I (.same _)<|.cons 4 I (.same _)<|.cons 5 I (.ptr 0) .nil) ?_
   exact bM I) ?_)
  rintro _ Eb a6 Wb6 rfl hsB0 gB0 bB0
  refine pT (m:=1) (L:=Eb.L) (K:=λs=>s=⟨[(4,.ptr 2 0),(5,.cH (nQ r) 0),(6,flag true)],MU l k++[none]⟩) I I hsB0 rfl (by
   refine av 1 I ?_
   refine aF [4,5,6] I ?_
   exact rfl) ?_
  rintro _ Ea a7 Wa rfl hsB gB1 bB1
  have gB:=gB0.trans gB1
  have bB:Below w.heap.size A1 Wa:=Below.trans bB0.toBelow bB1.toBelow
  have kB:yN (λb=>E3.M b/\b≠B) (w3.heap.size+2) A1 Wa:=⟨gB.size,λb hb hn=>gB.heap b (by have:=hO.size;omega) (λhm=>(hMc b hm).elim hn (λh=>by omega))⟩
  refine⟨kB,λWb ob hWb=>?_⟩
  have hla:Wa.heap[l2]? =some (.loop rl):=(kB.block _ (by omega) (λh=>by have:=hM3 _ h.1;omega)).trans hrl
  have hzb:Wb.heap.size=Wa.heap.size:=by rw[hWb];simp
  have hoth:∀k,k≠l2->Wb.heap[k]? =Wa.heap[k]? :=λk hk=>by rw[hWb];exact World.putObj_heap_other hk
  have hsC:dT F0 w.heap.size 18 ⟨[(4,.ptr 2 0),(5,.cH (nQ r) 0),(6,flag true)],MU l k++[none]⟩ Ea a7 Wb:=
   ⟨hsB.sat.other hla hzb hoth,hsB.tmp.other hla hzb hoth,hsB.lO,hsB.size⟩
  refine wpIn_block ?_
  refine wpIn_seq (wpIn_seq (pT (m:=2) (L:=Ea.L) (K:=λs=>s=⟨[(4,.ptr 2 0),(5,.cH (nQ r) 0),(12,flag false)],MU l k++[none]⟩) I I hsC rfl (by
   refine av 2 I ?_
   refine aF [4,5,12] I ?_
   exact rfl) ?_))
  rintro _ Ec a8 Wc rfl hsD gC bC
  refine wpIn_cond_false (dt (hsD.tmp 12 _ rfl)) (wpIn_skip ?_)
  refine pT (m:=5) (L:=Ec.L) (K:=λs=>s.σ=[some (.cells 216 [.raw (.slice none 0 0)]),some (.cells 34 [num 0]),some (.cells 216 [.own 5]),none,none,some (.row 220 2 (k+1) (iK (l.take k)++nQ r))]) I I hsD rfl (by
   refine av 2 I ?_
   refine aZ (so (xs:=nQ r) I (YC I) ⟨Wy rfl,Wy rfl⟩ rfl rfl) I ?_
   refine bW (bP (e:=220) (s:=2) (i:=3) (m:=1) (n:=k) (xs:=iK (l.take k)) (ys:=nQ r) I (VW I) I I I I ⟨by unfold maxLen;omega,by omega⟩) I ?_
   refine bw (eh I (VJ I) I I I (Wy rfl)) I I ?_
   exact bM I) ?_
  rintro⟨t8,σ8⟩ E8 a9 W3 hσ8 hs8 g8 b8
  simp only at hσ8
  subst hσ8
  have hx:iK (l.take k)++nQ r=iK (l.take (k+1)):=by
   rw[mQ,XJ,Vm hk,<-hr,Qo,Vm hk]
   rfl
  obtain⟨M,hM,hS'⟩:=hs8.sat.oI (fs:=[0,1,2,5]) (σ':=[some (.cells 216 [.raw (.slice none 0 0)]),some (.cells 34 [num 0]),some (.cells 216 [.own 3]),some (.row 220 2 (k+1) (iK (l.take k)++nQ r))]) (.kept rfl (.cells (WU Wp))<|.kept rfl (.cells (WU Wp))<|.kept rfl (.cells (V0 (Ren.own (i:=3) I) Wp))<|.kept rfl (.row VT) .nil) I
  rw[hx]at hS'
  have zB:=gB.size
  have zC:=gC.size
  have z8:=g8.size
  have zO:=hO.size
  have nM:∀b,b<A1.heap.size->¬E.M b->¬Ea.M b/\¬Ec.M b/\¬E8.M b:=λb hb hn=>by
   have h1:=gB.M b hb hn
   have h2:=gC.M b (by omega) h1
   exact⟨h1,h2,g8.M b (by omega) h2⟩
  have keep3:∀b,b<A1.heap.size->¬E.M b->W3.heap[b]? =Wb.heap[b]? :=λb hb hn=>by
   obtain⟨h1,h2,_⟩:=nM b hb hn
   rw[g8.heap b (by omega) h2,gC.heap b (by omega) h1]
  have hEM8:∀b,E8.M b->E3.M b\/w3.heap.size+2<=b:=λb hb=>by
   rcases Ww b A1.heap.size with h|h
   ·by_cases hm:E.M b
    ·exact hK b hm
    ·exact absurd hb (nM b h hm).2.2
   ·exact .inr (by omega)
  have hBW:W3.heap[B]? =A1.heap[B]? :=by
   rw[keep3 B (by omega) hnB,hoth B (by omega),gB.heap B (by omega) hnB]
  obtain⟨t0,a0,n0,c0,hslc⟩:=hslA
  have hEaL:Ea.L=5:=hsC.sat.len
  have hEcL:Ec.L=5:=hsD.sat.len
  refine⟨⟨_,hS',⟨λh=>(nM B (by omega) hnB).2.2 (hM B h),t0,a0,n0,c0,hBW.trans hslc⟩,λi hi=>?_,λb hb=>hEM8 b (hM b hb),(hbw.trans ⟨hO.os,hO.tape,hO.output,hO.size,λb hb=>hO.block b (by have:=hE3.size;omega) (by omega)⟩).trans ?_⟩,⟨by omega,λb h1 h2=>keep3 b (by omega) (λhm=>(hMc b hm).elim h2 (λh=>by omega))⟩⟩
  ·have key:E8.at_ i=E3.at_ i:=by rw[g8.at_ i (by omega),gC.at_ i (by omega),gB.at_ i (by omega),hat i hi]
   match i,hi with
   |0,_=>exact key
   |1,_=>exact key
   |2,_=>exact key
  ·exact(bB.trans ⟨by rw[hWb];rfl,by rw[hWb];rfl,by rw[hWb];rfl,by omega,λb hb'=>hoth b (by have:=hE3.size;omega)⟩).trans (bC.toBelow.trans b8.toBelow)
 ·rintro A0 W' ⟨E,hS0',⟨hnB,hsl0⟩,hat,hK,hbw⟩ hO hsz hD
  have hS:=hS0'.only hnB hgB (F5 l _) hsl0 hO
  have hzE:=hE3.size
  have zO:=hO.size
  have hbw':Below w.heap.size w W':=hbw.trans ⟨hO.os,hO.tape,hO.output,hO.size,λb hb=>hO.block b (by omega) (by omega)⟩
  have hEL:E.L=4:=hS.len
  obtain⟨arr3,ds3⟩:=a3
  simp only at hd3 hz3
  subst hd3
  have hsZ:dT F0 w.heap.size 18 ⟨[(2,.ptr 0 0),(3,.ptr 1 0),(4,.ptr 2 0)],MU l l.length⟩ E ⟨arr3,[]⟩ W':=by
   refine⟨hS,?_,rfl,hz3⟩
   refine eF.on ?_ (eF.on ?_ (eF.on ?_ eF.ni))
   ·rw[h2];exact .ptr 0 0 P0 (by omega) (.inl ((hat 0 (by omega)).trans hP0))
   ·rw[h3];exact .ptr 1 0 P1 (by omega) (.inl ((hat 1 (by omega)).trans hP1))
   ·rw[h4];exact .ptr 2 0 P2 (by omega) (.inl ((hat 2 (by omega)).trans hP2))
  have hDm:¬E.M w3.heap.size:=λhm=>(hK _ hm).elim (λh=>by have:=hM3 _ h;omega) (λh=>by omega)
  refine wpIn_seq (Ig (N:=18) (L:=E.L) (K:=λs=>s=⟨[(2,.ptr 0 0),(3,.ptr 1 0)],[some (.cells 216 [.own 3]),some (.cells 34 [num 0]),some (.cells 216 [.own 3]),some (.row 220 2 l.length (iK (l.take l.length)))]⟩) hsZ rfl ?_ ?_)
  ·rw[hEL]
   refine av 3 I ?_
   refine aF [2,3] I ?_
   exact rfl
  rintro _ Ef arrf wf rfl hsf gf bf
  refine wpIn_ret ?_
  have hDf:wf.heap[w3.heap.size]? =some (.deferred (some [])):=(gf.heap _ (by omega) hDm).trans hD
  have hDmf:¬Ef.M w3.heap.size:=gf.M _ (by omega) hDm
  show LeavesInM _ _ _ _ _ _ ({target:=.collected w3.heap.size,args:= #[]}::[]) _ _
  refine⟨by simp,.inl ⟨_,_,rfl,run_takeDeferred hDf,?_⟩⟩
  have hA:Gj (λb=>b=w3.heap.size) wf (wf.putObj w3.heap.size (.deferred none)):=⟨rfl,rfl,rfl,by simp,λb _ hb=>World.putObj_heap_other hb,λb o hb hc=>(World.putObj_heap_other (λe=>by subst e;rw[hDf]at hb;cases hb;cases hc)).trans hb⟩
  have hsg:dT F0 w.heap.size 18 _ Ef ⟨arrf,[]⟩ (wf.putObj w3.heap.size (.deferred none)):=⟨hsf.sat.R6 (O:=λb=>b=w3.heap.size) (λb hb e=>hDmf (e▸hb)) hA,hsf.tmp.yX hA.size hA.cells,rfl,hsf.size⟩
  obtain⟨v,hrv,hv⟩:=pc (P:=prog) (fn:=Tryz.f108) hsg (V5 I)
  refine⟨v,hrv,v,rfl,?_,_,rfl,?_⟩
  ·exact Below.trans hbw' (Below.trans bf.toBelow ⟨rfl,rfl,rfl,by simp,λb hb=>World.putObj_heap_other (by omega)⟩)
  ·have hp:aQ [some (.cells 216 [.own 3]),some (.cells 34 [num 0]),some (.cells 216 [.own 3]),some (.row 220 2 l.length (iK (l.take l.length)))] (.tuple [.own 3,num 0]) (.tuple [wJ l,num 0]):=by
    rw[VN]
    exact Yi (Vp (Yw rfl W9) (Vp aQ.pure Wg))
   exact hp.rep hsg.sat (G:=F0) (λb hb=>(hsg.sat.mm b).2 (.inl hb)) (λb hb=>(hsg.sat.fb b hb).2) _ hv
end
section
open Go.RowKit cm Mem
section
variable {P:Program} {σ:bH} {t:cd} {o:Oper}
end
open Net iF
structure qX where
 id:Int
 src:Int
 dst:Int
 NL:Int
 stack:List eW
 DW:Int
def Rm(p:qX):List PV:=[num p.id,num p.src,num p.dst,num p.NL,kg p.stack,num p.DW]
def OQ(p:qX):PV:=.agg (Rm p)
instance (p:qX):aM (Rm p):=by unfold Rm;infer_instance
instance (p:qX):IsPure (OQ p):=by unfold OQ;infer_instance
structure Out where
 ec:List Int
 I5:qX
 Ux:Int
def tp(p:qX)(r:Int):Out:=⟨[],p,r⟩
def vk(p:qX)(s:List eW)(ec:List Int):Out:=⟨ec,⟨p.id,p.src,p.dst,p.NL,s,p.DW+1⟩,0⟩
def QZ(p:qX)(s:List eW)(e:qT):Out:=
 if e.rep then(if 32<(e.push++s.drop 1).length then tp p 5 else vk p (e.push++s.drop 1) e.ec) else vk p s e.ec
def PZ(x:oc)(v:Int):qT:=x.jN.getD v.toNat Sf
def L3(h:eW):List eW->List eW
 | []=>[]
 |a::l=>if a=h then L3 h l else a::l
def TS(T:aw)(x:oc)(p:qX)(s:List eW)(v:Int)(K:Out):Out:=if(bZ T v&&decide (0<((PZ x v).ec.length:Int)))=true then QZ p s (PZ x v) else K
def LO(T:aw)(x:oc)(p:qX)(s:List eW)(K:Out):Out:=
 if(decide ((s.length:Int)=0)&&decide (p.dst=x.node))=true then⟨[],⟨p.id,p.src,p.dst,p.NL,[],p.DW⟩, -1⟩
 else if(decide (255<=p.DW)||decide (p.DW<0))=true then tp p 4
 else match s with
  | []=>TS T x p [] p.dst (tp p 1)
  |a::l=>if a.kind=1 then TS T x p (a::l) a.num K
   else if a.kind=2 then(if(!(jE T a.num)||decide (bI T a.num.toNat≠x.node))=true then tp p 2 else if a.num∈x.down then K else vk p l [a.num])
   else tp p 1
def SH(T:aw)(x:oc)(p:qX):Out:=
 if((!SJ T x)|| !(bZ T p.dst))=true then tp p 1
 else if 32<(p.stack.length:Int) then tp p 5
 else LO T x p (L3 ⟨1,x.node⟩ p.stack) (LO T x p [] (tp p 1))
end
section
open Go.RowKit cm Mem Net
section
variable {T:aw} {D:List Bool}
theorem ox.tail{n y m:Nat}{a:Int}{p:List Int}(h:ox T D n y (a::p))(hm:bx T a.toNat=(m:Int)):(p=[]/\m=y)\/ox T D m y p:=by
 have l:=h.sp;cases l with
 | @cons n a m' p t s hp=>
  rw[Vi,s]at hm;have e:m'=m:=by omega
  subst e;cases p with
  |nil=>cases hp;exact .inl ⟨rfl,rfl⟩
  |cons b p=>
   refine .inr ?_;have d:=h.part (i:=1) (k:=p.length+1) (by omega) (by simp);have hb:∃b':Nat,b=(b':Int)/\bI T b'=(m':Int):=by
    cases hp with
    |cons j _ _=>exact⟨_,rfl,j.tail⟩
   obtain⟨b',rfl,g⟩:=hb;have f:=h.sp.ch.fin;have c:bx T (((a:Int)::(b':Int)::p).getD (p.length+1) 0).toNat=(y:Int):=by
    rw[<-f];have:=kL T (n:Int) ((a:Int)::(b':Int)::p) (p.length+1) (by simp);rw[<-this,V2 (by simp)]
   rw[c]at d;have o:bI T (((a:Int)::(b':Int)::p).getD 1 0).toNat=(m':Int):=g;rw[o]at d;obtain⟨u,v,w,x,hs,_⟩:=Pr d;have q:m'=u:=by omega
   have r:y=v:=by omega
   subst q;subst r;have:=hs.sp.unique hs.valid hs.hy hp hs.qk;rw[this]at hs;exact hs
theorem ox.TQ{E}{n y:Nat}{p:List Int}(h:ox T D n y p)(c:cf T E=true)(b:∀a,bO D a=false->bO E a=false):ox T E n y p:=
 ⟨h.valid,c,h.ne,h.hx,h.hy,h.uniq,h.sp,λa ha=>b _ (h.up a ha)⟩
inductive PQ (T:aw) (D:List Bool) (d:Nat):Nat->List eW->List Int->Prop
 |nil:PQ T D d d [] []
 |node {n y:Nat} {p q:List Int} {l:List eW}:ox T D n y p->PQ T D d y l q->PQ T D d n (⟨1,(y:Int)⟩::l) (p++q)
 |nu {n a m:Nat} {q:List Int} {l:List eW}:a<2*T.ah.length->bI T a=(n:Int)->bO D a=false->bx T a=(m:Int)->PQ T D d m l q->PQ T D d n (⟨2,(a:Int)⟩::l) ((a:Int)::q)
theorem PQ.len{d n:Nat}{l:List eW}{q:List Int}(h:PQ T D d n l q):l.length<=q.length:=by
 induction h with
 |nil=>exact Vh _
 |node hs _ ih=>have:=hs.pos;simp only[VI,Vu];omega
 |nu _ _ _ _ _ ih=>simp only[VI];omega
end
end
end PW
namespace iF
section
open Go.RowKit Go.Shelf Net
attribute [local go_sem] Oper.semAt_some
end
end iF
namespace PW
section
open Go.RowKit cm Mem Net
theorem Hd(rs:List (List Int))(i:Nat)(hi:i<rs.length):Can prog 218 ([num i]++[.cH [mS rs] 0]) (· =bm (rs.getD i [])):=by
 exact aR func218 I ntmps218 I<|aj (.a 1 I<|.k [0,1] I)<|aj (.a 2 I<|.v (aX (i) I) I<|.v (aO I ((show(rs.map bm)[i]? =some (bm (rs.getD i [])) by simp[hi]))) I<|.a 1 I<|.k [3] I)<|aA<|jF I aQ.pure rfl
theorem He(T:aw)(a:Nat)(ha:a<2*T.ah.length)(hl:T.ah.length<=4611686018427387902):Can prog 219 ([num a]++[.cH (bJ T) 0]) (· =num (bx T a)):=by
 exact aR func219 I ntmps219 I<|aj (.a 1 I<|.k [0,1] I)<|aj (.a 2 I<|.c rfl (jq T a ha hl) I<|.a 1 I<|.k [3] I)<|aA<|jF I aQ.pure rfl
theorem Kj(T:aw)(D:List Bool)(d:Int):Can prog 173 [bu T,aY D,num d] (· =fx (dG T D [d]) (bN T D d.toNat true)):=by
 refine aR func173 I ntmps173 I<|aj (.a 3 I<|.k [1,2,3] I)<|an<|aj (.a 4 I<|.c rfl (sC T D [d] (by simp)) I<|.a 1 I<|.k [1,2,3,8] I)<|aj (.a 2 I<|.k [1,2,3,8,17] I)<|ak I (λhc=>?_) (λhc=>?_)
 ·have he:dG T D [d]≠0:=Vg hc;exact aj (.a 3 I<|.k [6,7] I)<|aA<|jF I (Yi (Vp aQ.cg (Vp aQ.pure Wg))) (by unfold fx;rw[Vk he];rfl)
 ·have he:dG T D [d]=0:=by have:=Vj hc;omega
  have c:(aH T&&cf T D)=true/\bZ T d=true:=by
   unfold dG at he;split at he
   ·rename_i h1;split at he
    ·rename_i h2;exact⟨h1,by simpa using h2⟩
    ·omega
   ·omega
  obtain⟨e,b⟩:=c;obtain⟨hv,f⟩:=Wd.1 e;have hd:0<=d/\d<T.nodes:=by simpa[bZ]using b
  obtain⟨n,rfl⟩:=Vo hd.1;have g:=bz hv;refine ao<|aK<|av 1 I<|fW I (o3 T hv) I<|av 2 I<|aF [1,2,3,9] I ?_;refine aK<|av 3 I<|aZ (ia I I) I<|av 4 I<|aF [10] I ?_;refine oK (.cons 10 I (ZA rfl (Vp aQ.pure<|Vp aQ.pure<|Vp aQ.pure<|Vp aQ.pure<|Vp aQ.pure<|Vp (aQ.mD (Vp (ZA rfl (Vp aQ.pure Wg)) Wg))<|Vp aQ.pure Wg)) .nil)<|aj (.a 1 I<|.c rfl (FU T D n true 218 219 [.cH [mS (ep (bI T) T.nodes.toNat (2*T.ah.length))] 0] [.cH (bJ T) 0] hv f hd.2 (by kernel_rfl) (by kernel_rfl) (λi hi=>by have h:=Hd (ep (bI T) T.nodes.toNat (2*T.ah.length)) i (by rw[gv];omega);rw[kQ _ _ _ _ (by omega)]at h;exact h) (λa ha=>He T a ha (by have:=dy hv;omega))) I<|.a 2 I<|.k [6,7] I)<|aA<|jF I aQ.pure (by unfold fx;rw[Vn he,he];rfl)
open iF
theorem Gr{P:Program}{N L:Nat}{id:Nat}{l:List Oper}{y st}{Q:Exit->St->Prop}(t':cd)(σ':bH)(a:cd)(σ'':bH)(hm:P.follows .mixedOrders=true)(h:WA P N L l.toArray l.length (Array.replicate l.length false) st (λs=>(s.σ=σ'/\Sub s.t t')\/(s.σ=σ''/\Sub s.t a)))(hr:W P N L y ⟨t',σ'⟩ Q->W P N L y ⟨a,σ''⟩ Q)(b:W P N L y ⟨t',σ'⟩ Q):W P N L (.seq (.region id l.toArray true) y) st Q:=
 sx hm (h.mono λs hs=>by
  obtain⟨t,σ⟩:=s;rcases hs with⟨h1,h2⟩|⟨h1,h2⟩
  ·subst h1;exact gQ h2 b
  ·subst h1;exact gQ h2 (hr b))
theorem D9(T:aw)(k x:Int):cf T (j9 T k x)=true:=by
 unfold j9;split
 ·exact xG T k x
 ·exact oW T
theorem Jo(T:aw)(k x:Int)(n:Nat)(hv:aH T=true)(hn:(n:Int)<T.nodes):Can prog 172 ([fh k x]++[.cH (bJ T) 0,.cH [num n] 0]) (· =bm (bN T (j9 T k x) n true)):=by
 have b:=BV T k x;unfold uN at b;have a:=Kj T (j9 T k x) n;have c:dG T (j9 T k x) [(n:Int)]=0:=by
  unfold dG;rw[hv,D9];simp[bY.2 (show 0<=(n:Int)/\(n:Int)<T.nodes by omega)]
 rw[c]at a;unfold fx at a;rw[Vn rfl,Vi]at a;exact aR func172 I ntmps172 I<|aj (.a 2 I<|.k [1,2,3] I)<|aj (.a 2 I<|.c rfl (b) I<|.a 5 I<|.k [1,2,5] I)<|aj (.a 3 I<|.c rfl (a) I<|.a 5 I<|.k [7] I)<|aj (.a 2 I<|.k [4] I)<|aA<|jF I aQ.pure rfl
theorem Jp(g:Int)(L:List Int)(d:Nat)(c:Bool)(b:0<g->d<L.length/\decide (0<=L.getD d 0)=c):Can prog 174 ([num d]++[.cH (eR 3 g) 0,.cH [bm L] 0]) (· = .tuple [fh 3 g,flag (decide (0<g)&&c)]):=by
 have⟨c1,a⟩:=dw (decide (0<g));rw[a];refine aR func174 I ntmps174 I<|aK<|av 2 I<|aF [0,1,2,4] I ?_;refine Dm (Q1:=λst=>st=⟨[(4,.ptr 0 0),(5,flag (c1&&c))],[some (.cells 112 (eR 3 g))]⟩) ?_ ?_
 ·cases c1
  ·refine oL 20 1 (([some (.cells 112 [num 0,num 0])])::([some (.cells 112 (eR 3 g))])::[]) (⟨_,none,0,0⟩::⟨_,none,0,0⟩::⟨_,none,0,0⟩::⟨_,none,0,0⟩::⟨_,none,0,0⟩::⟨_,none,0,1⟩::⟨_,none,0,1⟩::⟨_,none,0,1⟩::⟨_,none,0,1⟩::⟨_,none,0,1⟩::⟨_,none,0,1⟩::⟨_,some 0,0,0⟩::⟨_,none,1,1⟩::[]) _ mixed ?grd1 rfl rfl rfl rfl (.cons (.val [1] I I (yz (bF (aP I) b7)) I I)<|.cons (.val [1] I I (yz (bF (aP I) b7)) I I)<|.cons (.val [7] I I (yz (bF (aP I) b7)) I I)<|.cons (.val [8] I I (yz (bF (cT I (a)) b7)) I I)<|.cons (.val [9] I I (yz (bF (aP I) b7)) I I)<|.cons (.skip rfl rfl rfl)<|.cons (.skip rfl rfl rfl)<|.cons (.skip rfl rfl rfl)<|.cons (.skip rfl rfl rfl)<|.cons (.skip rfl rfl rfl)<|.cons (.val [10,15] I I (yz (bF (aP I) (bF (aP I) b7))) I I)<|.cons (.gT [4,6] I I I I (cG I) I)<|.cons (.val [16] I I (yz (bF (aP I) b7)) I I) .nil) (aJ (ks:=[4,5]) I) ?_
   case grd1=>kernel_rfl
   rfl
  ·refine oL 20 1 (([some (.cells 112 [num 0,num 0])])::([some (.cells 112 (eR 3 g))])::[]) (⟨_,none,0,0⟩::⟨_,none,0,0⟩::⟨_,none,0,0⟩::⟨_,none,0,0⟩::⟨_,none,0,0⟩::⟨_,none,0,1⟩::⟨_,none,0,1⟩::⟨_,none,0,1⟩::⟨_,none,0,1⟩::⟨_,none,0,1⟩::⟨_,none,0,1⟩::⟨_,some 0,0,0⟩::⟨_,none,1,1⟩::[]) _ mixed ?grd2 rfl rfl rfl rfl (.cons (.val [1] I I (yz (bF (aP I) b7)) I I)<|.cons (.val [1] I I (yz (bF (aP I) b7)) I I)<|.cons (.val [7] I I (yz (bF (aP I) b7)) I I)<|.cons (.val [8] I I (yz (bF (cT I (a)) b7)) I I)<|.cons (.val [9] I I (yz (bF (aP I) b7)) I I)<|.cons (.val [2] I I (yz (bF (aP I) (bF (aP I) b7))) I I)<|.cons (.val [0] I I (yz (bF (aP I) (bF (aP I) b7))) I I)<|.cons (.val [11,12] I I (yz (bF (aX (d) I (by omega) (by have:=(b (tt a)).1;omega)) (bF (aX (d) I (by omega) (by have:=(b (tt a)).1;omega)) b7))) I I)<|.cons (.val [13] I I (yz (bF (aO I (aS L d (b (tt a)).1)) (bF (aO I (aS L d (b (tt a)).1)) b7))) I I)<|.cons (.val [14] I I (yz (bF (cT I ((b (tt a)).2)) (bF (cT I ((b (tt a)).2)) b7))) I I)<|.cons (.val [10,15] I I (yz (bF (aP I) (bF (aP I) b7))) I I)<|.cons (.gT [4,6] I I I I (cG I) I)<|.cons (.val [16] I I (yz (bF (aP I) b7)) I I) .nil) (aJ (ks:=[4,5]) I) ?_
   case grd2=>kernel_rfl
   rfl
 rintro _ rfl;exact aA<|jF I (aQ.pure (p:=.tuple [fh 3 g,flag (c1&&c)])) rfl
theorem Jq(h:Int)(L:List Int)(d:Nat)(c:Bool)(hd:d<L.length)(f:decide (0<=L.getD d 0)=c):Can prog 175 ([num d]++[.cH (eR 2 h) 0,.cH [num h] 0,.cH [bm L] 0]) (· = .tuple [fh 2 h,flag (decide (h≠d)&&c)]):=by
 have⟨c1,a⟩:=dw (decide ((d:Int)≠h));have b:decide (h≠(d:Int))=c1:=by rw[<-a];exact decide_eq_decide.2 ⟨λe=>e.symm,λe=>e.symm⟩
 rw[b];refine aR func175 I ntmps175 I<|aK<|av 2 I<|aF [0,1,2,3,5] I ?_;refine Dm (Q1:=λst=>st=⟨[(5,.ptr 0 0),(6,flag (c1&&c))],[some (.cells 112 (eR 2 h))]⟩) ?_ ?_
 ·cases c1
  ·refine oL 20 1 (([some (.cells 112 [num 0,num 0])])::([some (.cells 112 (eR 2 h))])::[]) (⟨_,none,0,0⟩::⟨_,none,0,0⟩::⟨_,none,0,0⟩::⟨_,none,0,0⟩::⟨_,none,0,0⟩::⟨_,none,0,1⟩::⟨_,none,0,1⟩::⟨_,none,0,1⟩::⟨_,none,0,1⟩::⟨_,none,0,1⟩::⟨_,none,0,1⟩::⟨_,some 0,0,0⟩::⟨_,none,1,1⟩::[]) _ mixed ?grd3 rfl rfl rfl rfl (.cons (.val [1] I I (yz (bF (aP I) b7)) I I)<|.cons (.val [0] I I (yz (bF (aP I) b7)) I I)<|.cons (.val [2] I I (yz (bF (aP I) b7)) I I)<|.cons (.val [8,9] I I (yz (bF (cT I (a)) b7)) I I)<|.cons (.val [10] I I (yz (bF (aP I) b7)) I I)<|.cons (.skip rfl rfl rfl)<|.cons (.skip rfl rfl rfl)<|.cons (.skip rfl rfl rfl)<|.cons (.skip rfl rfl rfl)<|.cons (.skip rfl rfl rfl)<|.cons (.val [11,16] I I (yz (bF (aP I) (bF (aP I) b7))) I I)<|.cons (.gT [5,7] I I I I (cG I) I)<|.cons (.val [17] I I (yz (bF (aP I) b7)) I I) .nil) (aJ (ks:=[5,6]) I) ?_
   case grd3=>kernel_rfl
   rfl
  ·refine oL 20 1 (([some (.cells 112 [num 0,num 0])])::([some (.cells 112 (eR 2 h))])::[]) (⟨_,none,0,0⟩::⟨_,none,0,0⟩::⟨_,none,0,0⟩::⟨_,none,0,0⟩::⟨_,none,0,0⟩::⟨_,none,0,1⟩::⟨_,none,0,1⟩::⟨_,none,0,1⟩::⟨_,none,0,1⟩::⟨_,none,0,1⟩::⟨_,none,0,1⟩::⟨_,some 0,0,0⟩::⟨_,none,1,1⟩::[]) _ mixed ?grd4 rfl rfl rfl rfl (.cons (.val [1] I I (yz (bF (aP I) b7)) I I)<|.cons (.val [0] I I (yz (bF (aP I) b7)) I I)<|.cons (.val [2] I I (yz (bF (aP I) b7)) I I)<|.cons (.val [8,9] I I (yz (bF (cT I (a)) b7)) I I)<|.cons (.val [10] I I (yz (bF (aP I) b7)) I I)<|.cons (.val [3] I I (yz (bF (aP I) (bF (aP I) b7))) I I)<|.cons (.val [0] I I (yz (bF (aP I) (bF (aP I) b7))) I I)<|.cons (.val [12,13] I I (yz (bF (aX (d) I) (bF (aX (d) I) b7))) I I)<|.cons (.val [14] I I (yz (bF (aO I (aS L d hd)) (bF (aO I (aS L d hd)) b7))) I I)<|.cons (.val [15] I I (yz (bF (cT I (f)) (bF (cT I (f)) b7))) I I)<|.cons (.val [11,16] I I (yz (bF (aP I) (bF (aP I) b7))) I I)<|.cons (.gT [5,7] I I I I (cG I) I)<|.cons (.val [17] I I (yz (bF (aP I) b7)) I I) .nil) (aJ (ks:=[5,6]) I) ?_
   case grd4=>kernel_rfl
   rfl
 rintro _ rfl;exact aA<|jF I (aQ.pure (p:=.tuple [fh 2 h,flag (c1&&c)])) rfl
def F2(g:Int)(L:List Int):PV:=.func 174 [.cH (eR 3 g) 0,.cH [bm L] 0]
def F3(h:Int)(L:List Int):PV:=.func 175 [.cH (eR 2 h) 0,.cH [num h] 0,.cH [bm L] 0]
def nv(g h k:Int)(L M:List Int):List PV:=[.cH [.slice 2 [F2 g L,F3 h M]] 0,.cH (eR 1 k) 0]
instance (g:Int) (L:List Int):IsPure (F2 g L):=by unfold F2;infer_instance
instance (g:Int) (L:List Int):IsPure (F3 g L):=by unfold F3;infer_instance
instance (g h k:Int) (L M:List Int):aM (nv g h k L M):=by unfold nv;infer_instance
theorem Jr(g h k:Int)(L M:List Int)(d:Nat)(l m:Bool)(B:0<g->d<L.length/\decide (0<=L.getD d 0)=l)(hd:d<M.length)(hM:decide (0<=M.getD d 0)=m):Can prog 176 ([num d]++nv g h k L M) (· =if(decide (0<g)&&l)=true then fh 3 g else if(decide (h≠d)&&m)=true then fh 2 h else fh 1 k):=by
 have h2:=Jp g L d l B;have A:=Jq h M d m hd hM;have⟨o1,u⟩:=dw (decide (0<g)&&l);have⟨z,v⟩:=dw (decide (h≠(d:Int))&&m);rw[u]at h2 ⊢;rw[v]at A ⊢;have c:∀i,i<2->∃f cap,[F2 g L,F3 h M][i]? =some (.func f cap)/\enters prog f=true/\aM ([num d]++cap)/\Can prog f ([num d]++cap) (· = .tuple [if i=0 then fh 3 g else fh 2 h,flag (if i=0 then o1 else z)]):=λi hi=>by
  match i,hi with
  |0,_=>exact⟨_,_,rfl,by kernel_rfl,inferInstance,h2⟩
  |1,_=>exact⟨_,_,rfl,by kernel_rfl,inferInstance,A⟩
 unfold nv;refine aR func176 I ntmps176 I<|aK<|av 1 I<|aF [0,1,2,4] I ?_;refine an<|aj (.a 3 I<|.k [0,2,4,9,10,11] I)<|ay<|eX [0,2,4,9,10,11] I<|bq (λr s=>∃i,i<=2/\r=2 - i/\(1<=i->o1=false)/\(i=2->z=false)/\s=⟨[(0,num d),(2,.cH (eR 1 k) 0),(4,.ptr 0 0),(9,.slice 2 [F2 g L,F3 h M]),(10,num 2),(11,num i)],[some (.cells 112 [num 0,num 0])]⟩) 2 ⟨0,by omega,by omega,λh=>by omega,λh=>by omega,rfl⟩ ?_;rintro r s ⟨i,hi,rfl,b,q,rfl⟩;refine aj (.a 1 I<|.k [0,2,4,9,10,11,12] I)<|an<|ak I (λh1=>?_) (λh1=>?_)
 ·have hlt:i<2:=by have:=tt h1;omega
  obtain⟨f,cap,C,n,w,a⟩:=c i hlt;obtain⟨y,x,j⟩:∃y x,(if i=0 then fh 3 g else fh 2 h)=fh y x:=by
   split
   ·exact⟨_,_,rfl⟩
   ·exact⟨_,_,rfl⟩
  have⟨o,ho⟩:=dw (if i=0 then o1 else z);rw[ho,j]at a;haveI:=w;refine ao<|an<|ay<|aj (.v (aX (i) I) I<|.v (aO I (C)) I<|.a 1 I<|.k [0,2,4,6,9,10,11] I)<|aK<|av 2 I<|aZ (Av I n rfl rfl a) I<|av 6 I<|aF [0,2,4,7,8,9,10,11] I ?_;refine aj (.a 1 I<|.k [0,2,4,7,9,10,11,21] I)<|ak I (λh2=>?_) (λh2=>?_)
  ·subst h2;refine aK<|av 2 I<|aF [4] I ?_;refine aA<|⟨_,_,V5 I,aQ.pure (p:=fh y x),?_⟩;rw[<-j];by_cases e:i=0
   ·rw[Vn e]at ho ⊢;rw[Vn ho]
   ·rw[Vk e]at ho ⊢;rw[Vk (by rw[b (by omega)];simp),Vn ho]
  ·subst h2;refine ao<|dM [0] (.c 0<|.c 2<|.c 4<|.c 9<|.c 10<|.c 11<|.nil) (.kept rfl (.cells VT)<|.nil) I I ?_;refine aL (.v (aU I) I<|.a 1 I<|.k [0,2,4,9,10,11] I)<|⟨2 - (i+1),by omega,i+1,by omega,rfl,λ_=>?_,λe=>?_,rfl⟩
   ·by_cases e:i=0
    ·rw[Vn e]at ho;exact ho
    ·exact b (by omega)
   ·rw[Vk (by omega)]at ho;exact ho
 ·have t:i=2:=by have:=ff h1;omega
  subst t;rw[Vk (by rw[b (by omega)];simp),Vk (by rw[q rfl];simp)];refine bh<|aK<|av 2 I<|aF [4] I ?_;exact aA<|jF I (aQ.pure (p:=fh 1 k)) rfl
noncomputable def Qs(T:aw)(a:Nat):List Int:=if 0<jf T a then bN T (j9 T 3 (jf T a)) (bI T a).toNat true else []
noncomputable def Qt(T:aw)(a:Nat):List Int:=bN T (j9 T 2 (bx T a)) (bI T a).toNat true
theorem Ds(T:aw)(a:Nat)(hv:aH T=true)(ha:a<2*T.ah.length):Can prog 129 [bu T,num a] (· = .func 176 (nv (jf T a) (bx T a) ((a / 2:Nat):Int) (Qs T a) (Qt T a))):=by
 have b6:=dy hv;have hi:a / 2<T.ah.length:=by omega
 have hS:=bz hv;have b:=mY T a ha;have H:=jq T a ha (by omega);obtain⟨n,hn⟩:=Vo (hS.tail a ha).1;have b0:(n:Int)<T.nodes:=by rw[<-hn];exact(hS.tail a ha).2
 have hL:Qs T a=if 0<jf T a then bN T (j9 T 3 (jf T a)) n true else []:=by unfold Qs;rw[hn,Vi]
 have hM:Qt T a=bN T (j9 T 2 (bx T a)) n true:=by unfold Qt;rw[hn,Vi]
 rw[hn]at b;have⟨h,hh⟩:=dw (bx T a);have⟨g,hg⟩:=dw (jf T a);have bZ:(bV T.ah (a / 2)).wC=g:=hg;rw[hh]at H hM;rw[hg]at hL;rw[hL,hM,hh,hg];have h1:=λk x=>Jo T k x n hv b0;have⟨c1,bD⟩:=dw (decide (0<g));refine aR func129 I ntmps129 I<|aj (.a 2 I<|.k [1,2] I)<|Gr ([(1,num a),(2,.cH (bJ T) 0),(5,.ptr 0 0),(6,.ptr 1 0)]) ([some (.cells 3 [num n]),some (.cells 3 [num h])]) ([(1,num a),(2,.cH (bJ T) 0),(5,.ptr 1 0),(6,.ptr 0 0)]) ([some (.cells 3 [num h]),some (.cells 3 [num n])]) mixed ?_ (λhh=>dM [1,0] (.c 1<|.c 2<|.c 5<|.c 6<|.nil) (.kept rfl (.cells VT)<|.kept rfl (.cells VT)<|.nil) I I hh) ?_
 ·refine iG [[(1,num a),(2,.cH (bJ T) 0),(14,bu T),(15,num a),(16,num n),(17,bu T),(18,num a),(19,num h)],[(1,num a),(2,.cH (bJ T) 0),(5,.ptr 0 0),(14,bu T),(15,num a),(16,num n),(17,bu T),(18,num a),(19,num h)],[(1,num a),(2,.cH (bJ T) 0),(6,.ptr 0 0),(14,bu T),(15,num a),(16,num n),(17,bu T),(18,num a),(19,num h)],[(1,num a),(2,.cH (bJ T) 0),(5,.ptr 0 0),(6,.ptr 1 0),(14,bu T),(15,num a),(16,num n),(17,bu T),(18,num a),(19,num h)],[(1,num a),(2,.cH (bJ T) 0),(5,.ptr 1 0),(6,.ptr 0 0),(14,bu T),(15,num a),(16,num n),(17,bu T),(18,num a),(19,num h)]] [[],[some (.cells 3 [num n]),some (.cells 3 [num h])],[some (.cells 3 [num n]),some (.cells 3 [num 0])],[some (.cells 3 [num 0]),some (.cells 3 [num 0])],[some (.cells 3 [num 0])],[some (.cells 3 [num h]),some (.cells 3 [num n])],[some (.cells 3 [num 0]),some (.cells 3 [num n])]] [1,2] I (by kernel_rfl) (λM hi ho=>?_);have b1:M 0 1023 3 [1,2,5,6] 1:=hi<|gP I (by kernel_rfl) (.inl ⟨rfl,aJ (ks:=[1,2,5,6]) I⟩);have b2:M 1 511 3 [1,2,5,6,19] 2:=hi<|aa [(9,1023)] I<|lJ I I (cG I) I I (ho b1) I I ae;have bP:M 2 255 3 [1,2,5,6,16,19] 3:=hi<|aa [(8,511)] I<|lJ I I (cG I) I I (ho b2) I I ae;have bR:M 3 127 1 [1,2,5,16,19] 4:=hi<|aa [(7,255)] I<|bG I I (cG I) I (ho bP) I I ae;have b3:M 0 1023 4 [1,2,5,6] 5:=hi<|gP I (by kernel_rfl) (.inr ⟨rfl,aJ (ks:=[1,2,5,6]) I⟩);have b4:M 1 511 4 [1,2,5,6,19] 6:=hi<|aa [(9,1023)] I<|lJ I I (cG I) I I (ho b3) I I ae;have bS:M 2 255 4 [1,2,5,6,16,19] 3:=hi<|aa [(8,511)] I<|lJ I I (cG I) I I (ho b4) I I ae;have bU:M 3 191 2 [1,2,6,16,19] 4:=hi<|aa [(6,255)] I<|bG I I (cG I) I (ho bS) I I ae;have b5:M 4 63 0 [1,2,16,19] 0:=hi<|aa [(6,127),(7,191)] I<|bG I I (cG I) I (ho bR) I I<|bG I I (cG I) I (ho bU) I I ae;have aW:M 3 223 3 [1,2,5,6,16,17,18] 3:=hi<|aa [(5,255)] I<|aC I I (dW I (H)) I (ho bP) I I ae;have i:M 4 95 1 [1,2,5,16,17,18] 4:=hi<|aa [(5,127),(7,223)] I<|aC I I (dW I (H)) I (ho bR) I I<|bG I I (cG I) I (ho aW) I I ae;have j:M 3 223 4 [1,2,5,6,16,17,18] 3:=hi<|aa [(5,255)] I<|aC I I (dW I (H)) I (ho bS) I I ae;have l:M 4 159 2 [1,2,6,16,17,18] 4:=hi<|aa [(5,191),(6,223)] I<|aC I I (dW I (H)) I (ho bU) I I<|bG I I (cG I) I (ho j) I I ae;have N:M 5 31 0 [1,2,16,17,18] 0:=hi<|aa [(5,63),(6,95),(7,159)] I<|aC I I (dW I (H)) I (ho b5) I I<|bG I I (cG I) I (ho i) I I<|bG I I (cG I) I (ho l) I I ae;have O:M 4 207 3 [1,2,5,6,16,17] 3:=hi<|aa [(4,223)] I<|af (ho aW) I I ae;have P:M 5 79 1 [1,2,5,16,17] 4:=hi<|aa [(4,95),(7,207)] I<|af (ho i) I I<|bG I I (cG I) I (ho O) I I ae;have Q:M 4 207 4 [1,2,5,6,16,17] 3:=hi<|aa [(4,223)] I<|af (ho j) I I ae;have R:M 5 143 2 [1,2,6,16,17] 4:=hi<|aa [(4,159),(6,207)] I<|af (ho l) I I<|bG I I (cG I) I (ho Q) I I ae;have aY:M 6 15 0 [1,2,16,17] 0:=hi<|aa [(4,31),(6,79),(7,143)] I<|af (ho N) I I<|bG I I (cG I) I (ho P) I I<|bG I I (cG I) I (ho R) I I ae;have S:M 4 215 3 [1,2,5,6,16,18] 3:=hi<|aa [(3,223)] I<|af (ho aW) I I ae;have U:M 5 87 1 [1,2,5,16,18] 4:=hi<|aa [(3,95),(7,215)] I<|af (ho i) I I<|bG I I (cG I) I (ho S) I I ae;have V:M 4 215 4 [1,2,5,6,16,18] 3:=hi<|aa [(3,223)] I<|af (ho j) I I ae;have W:M 5 151 2 [1,2,6,16,18] 4:=hi<|aa [(3,159),(6,215)] I<|af (ho l) I I<|bG I I (cG I) I (ho V) I I ae;have a1:M 6 23 0 [1,2,16,18] 0:=hi<|aa [(3,31),(6,87),(7,151)] I<|af (ho N) I I<|bG I I (cG I) I (ho U) I I<|bG I I (cG I) I (ho W) I I ae;have a6:M 5 199 3 [1,2,5,6,16] 3:=hi<|aa [(3,207),(4,215)] I<|af (ho O) I I<|af (ho S) I I ae;have a7:M 6 71 1 [1,2,5,16] 4:=hi<|aa [(3,79),(4,87),(7,199)] I<|af (ho P) I I<|af (ho U) I I<|bG I I (cG I) I (ho a6) I I ae;have a8:M 5 199 4 [1,2,5,6,16] 3:=hi<|aa [(3,207),(4,215)] I<|af (ho Q) I I<|af (ho V) I I ae;have ba:M 6 135 2 [1,2,6,16] 4:=hi<|aa [(3,143),(4,151),(6,199)] I<|af (ho R) I I<|af (ho W) I I<|bG I I (cG I) I (ho a8) I I ae;have bQ:M 7 7 0 [1,2,16] 0:=hi<|aa [(3,15),(4,23),(6,71),(7,135)] I<|af (ho aY) I I<|af (ho a1) I I<|bG I I (cG I) I (ho a7) I I<|bG I I (cG I) I (ho ba) I I ae;have c:M 4 219 3 [1,2,5,6,14,15,17,18] 3:=hi<|aa [(2,223)] I<|aC I I (dW I (b)) I (ho aW) I I ae;have d:M 5 91 1 [1,2,5,14,15,17,18] 4:=hi<|aa [(2,95),(7,219)] I<|aC I I (dW I (b)) I (ho i) I I<|bG I I (cG I) I (ho c) I I ae;have e:M 4 219 4 [1,2,5,6,14,15,17,18] 3:=hi<|aa [(2,223)] I<|aC I I (dW I (b)) I (ho j) I I ae;have f:M 5 155 2 [1,2,6,14,15,17,18] 4:=hi<|aa [(2,159),(6,219)] I<|aC I I (dW I (b)) I (ho l) I I<|bG I I (cG I) I (ho e) I I ae;have m:M 6 27 0 [1,2,14,15,17,18] 0:=hi<|aa [(2,31),(6,91),(7,155)] I<|aC I I (dW I (b)) I (ho N) I I<|bG I I (cG I) I (ho d) I I<|bG I I (cG I) I (ho f) I I ae;have o:M 5 203 3 [1,2,5,6,14,15,17] 3:=hi<|aa [(2,207),(4,219)] I<|aC I I (dW I (b)) I (ho O) I I<|af (ho c) I I ae;have q:M 6 75 1 [1,2,5,14,15,17] 4:=hi<|aa [(2,79),(4,91),(7,203)] I<|aC I I (dW I (b)) I (ho P) I I<|af (ho d) I I<|bG I I (cG I) I (ho o) I I ae;have r:M 5 203 4 [1,2,5,6,14,15,17] 3:=hi<|aa [(2,207),(4,219)] I<|aC I I (dW I (b)) I (ho Q) I I<|af (ho e) I I ae;have s:M 6 139 2 [1,2,6,14,15,17] 4:=hi<|aa [(2,143),(4,155),(6,203)] I<|aC I I (dW I (b)) I (ho R) I I<|af (ho f) I I<|bG I I (cG I) I (ho r) I I ae;have X:M 7 11 0 [1,2,14,15,17] 0:=hi<|aa [(2,15),(4,27),(6,75),(7,139)] I<|aC I I (dW I (b)) I (ho aY) I I<|af (ho m) I I<|bG I I (cG I) I (ho q) I I<|bG I I (cG I) I (ho s) I I ae;have t:M 5 211 3 [1,2,5,6,14,15,18] 3:=hi<|aa [(2,215),(3,219)] I<|aC I I (dW I (b)) I (ho S) I I<|af (ho c) I I ae;have u:M 6 83 1 [1,2,5,14,15,18] 4:=hi<|aa [(2,87),(3,91),(7,211)] I<|aC I I (dW I (b)) I (ho U) I I<|af (ho d) I I<|bG I I (cG I) I (ho t) I I ae;have w:M 5 211 4 [1,2,5,6,14,15,18] 3:=hi<|aa [(2,215),(3,219)] I<|aC I I (dW I (b)) I (ho V) I I<|af (ho e) I I ae;have y:M 6 147 2 [1,2,6,14,15,18] 4:=hi<|aa [(2,151),(3,155),(6,211)] I<|aC I I (dW I (b)) I (ho W) I I<|af (ho f) I I<|bG I I (cG I) I (ho w) I I ae;have Y:M 7 19 0 [1,2,14,15,18] 0:=hi<|aa [(2,23),(3,27),(6,83),(7,147)] I<|aC I I (dW I (b)) I (ho a1) I I<|af (ho m) I I<|bG I I (cG I) I (ho u) I I<|bG I I (cG I) I (ho y) I I ae;have Z:M 6 195 3 [1,2,5,6,14,15] 3:=hi<|aa [(2,199),(3,203),(4,211)] I<|aC I I (dW I (b)) I (ho a6) I I<|af (ho o) I I<|af (ho t) I I ae;have ab:M 7 67 1 [1,2,5,14,15] 4:=hi<|aa [(2,71),(3,75),(4,83),(7,195)] I<|aC I I (dW I (b)) I (ho a7) I I<|af (ho q) I I<|af (ho u) I I<|bG I I (cG I) I (ho Z) I I ae;have ad:M 6 195 4 [1,2,5,6,14,15] 3:=hi<|aa [(2,199),(3,203),(4,211)] I<|aC I I (dW I (b)) I (ho a8) I I<|af (ho r) I I<|af (ho w) I I ae;have ag:M 7 131 2 [1,2,6,14,15] 4:=hi<|aa [(2,135),(3,139),(4,147),(6,195)] I<|aC I I (dW I (b)) I (ho ba) I I<|af (ho s) I I<|af (ho y) I I<|bG I I (cG I) I (ho ad) I I ae;have bb:M 8 3 0 [1,2,14,15] 0:=hi<|aa [(2,7),(3,11),(4,19),(6,67),(7,131)] I<|aC I I (dW I (b)) I (ho bQ) I I<|af (ho X) I I<|af (ho Y) I I<|bG I I (cG I) I (ho ab) I I<|bG I I (cG I) I (ho ag) I I ae;have z:M 5 217 3 [1,2,5,6,14,17,18] 3:=hi<|aa [(1,219)] I<|af (ho c) I I ae;have A:M 6 89 1 [1,2,5,14,17,18] 4:=hi<|aa [(1,91),(7,217)] I<|af (ho d) I I<|bG I I (cG I) I (ho z) I I ae;have B:M 5 217 4 [1,2,5,6,14,17,18] 3:=hi<|aa [(1,219)] I<|af (ho e) I I ae;have C:M 6 153 2 [1,2,6,14,17,18] 4:=hi<|aa [(1,155),(6,217)] I<|af (ho f) I I<|bG I I (cG I) I (ho B) I I ae;have ah:M 7 25 0 [1,2,14,17,18] 0:=hi<|aa [(1,27),(6,89),(7,153)] I<|af (ho m) I I<|bG I I (cG I) I (ho A) I I<|bG I I (cG I) I (ho C) I I ae;have ai:M 6 201 3 [1,2,5,6,14,17] 3:=hi<|aa [(1,203),(4,217)] I<|af (ho o) I I<|af (ho z) I I ae;have al:M 7 73 1 [1,2,5,14,17] 4:=hi<|aa [(1,75),(4,89),(7,201)] I<|af (ho q) I I<|af (ho A) I I<|bG I I (cG I) I (ho ai) I I ae;have an:M 6 201 4 [1,2,5,6,14,17] 3:=hi<|aa [(1,203),(4,217)] I<|af (ho r) I I<|af (ho B) I I ae;have aq:M 7 137 2 [1,2,6,14,17] 4:=hi<|aa [(1,139),(4,153),(6,201)] I<|af (ho s) I I<|af (ho C) I I<|bG I I (cG I) I (ho an) I I ae;have bc:M 8 9 0 [1,2,14,17] 0:=hi<|aa [(1,11),(4,25),(6,73),(7,137)] I<|af (ho X) I I<|af (ho ah) I I<|bG I I (cG I) I (ho al) I I<|bG I I (cG I) I (ho aq) I I ae;have ar:M 6 209 3 [1,2,5,6,14,18] 3:=hi<|aa [(1,211),(3,217)] I<|af (ho t) I I<|af (ho z) I I ae;have au:M 7 81 1 [1,2,5,14,18] 4:=hi<|aa [(1,83),(3,89),(7,209)] I<|af (ho u) I I<|af (ho A) I I<|bG I I (cG I) I (ho ar) I I ae;have ax:M 6 209 4 [1,2,5,6,14,18] 3:=hi<|aa [(1,211),(3,217)] I<|af (ho w) I I<|af (ho B) I I ae;have ay:M 7 145 2 [1,2,6,14,18] 4:=hi<|aa [(1,147),(3,153),(6,209)] I<|af (ho y) I I<|af (ho C) I I<|bG I I (cG I) I (ho ax) I I ae;have bd:M 8 17 0 [1,2,14,18] 0:=hi<|aa [(1,19),(3,25),(6,81),(7,145)] I<|af (ho Y) I I<|af (ho ah) I I<|bG I I (cG I) I (ho au) I I<|bG I I (cG I) I (ho ay) I I ae;have bf:M 7 193 3 [1,2,5,6,14] 3:=hi<|aa [(1,195),(3,201),(4,209)] I<|af (ho Z) I I<|af (ho ai) I I<|af (ho ar) I I ae;have bg:M 8 65 1 [1,2,5,14] 4:=hi<|aa [(1,67),(3,73),(4,81),(7,193)] I<|af (ho ab) I I<|af (ho al) I I<|af (ho au) I I<|bG I I (cG I) I (ho bf) I I ae;have bh:M 7 193 4 [1,2,5,6,14] 3:=hi<|aa [(1,195),(3,201),(4,209)] I<|af (ho ad) I I<|af (ho an) I I<|af (ho ax) I I ae;have bj:M 8 129 2 [1,2,6,14] 4:=hi<|aa [(1,131),(3,137),(4,145),(6,193)] I<|af (ho ag) I I<|af (ho aq) I I<|af (ho ay) I I<|bG I I (cG I) I (ho bh) I I ae;have bT:M 9 1 0 [1,2,14] 0:=hi<|aa [(1,3),(3,9),(4,17),(6,65),(7,129)] I<|af (ho bb) I I<|af (ho bc) I I<|af (ho bd) I I<|bG I I (cG I) I (ho bg) I I<|bG I I (cG I) I (ho bj) I I ae;have D:M 5 218 3 [1,2,5,6,15,17,18] 3:=hi<|aa [(0,219)] I<|af (ho c) I I ae;have E:M 6 90 1 [1,2,5,15,17,18] 4:=hi<|aa [(0,91),(7,218)] I<|af (ho d) I I<|bG I I (cG I) I (ho D) I I ae;have F:M 5 218 4 [1,2,5,6,15,17,18] 3:=hi<|aa [(0,219)] I<|af (ho e) I I ae;have G:M 6 154 2 [1,2,6,15,17,18] 4:=hi<|aa [(0,155),(6,218)] I<|af (ho f) I I<|bG I I (cG I) I (ho F) I I ae;have az:M 7 26 0 [1,2,15,17,18] 0:=hi<|aa [(0,27),(6,90),(7,154)] I<|af (ho m) I I<|bG I I (cG I) I (ho E) I I<|bG I I (cG I) I (ho G) I I ae;have aB:M 6 202 3 [1,2,5,6,15,17] 3:=hi<|aa [(0,203),(4,218)] I<|af (ho o) I I<|af (ho D) I I ae;have aD:M 7 74 1 [1,2,5,15,17] 4:=hi<|aa [(0,75),(4,90),(7,202)] I<|af (ho q) I I<|af (ho E) I I<|bG I I (cG I) I (ho aB) I I ae;have aE:M 6 202 4 [1,2,5,6,15,17] 3:=hi<|aa [(0,203),(4,218)] I<|af (ho r) I I<|af (ho F) I I ae;have aG:M 7 138 2 [1,2,6,15,17] 4:=hi<|aa [(0,139),(4,154),(6,202)] I<|af (ho s) I I<|af (ho G) I I<|bG I I (cG I) I (ho aE) I I ae;have bk:M 8 10 0 [1,2,15,17] 0:=hi<|aa [(0,11),(4,26),(6,74),(7,138)] I<|af (ho X) I I<|af (ho az) I I<|bG I I (cG I) I (ho aD) I I<|bG I I (cG I) I (ho aG) I I ae;have aL:M 6 210 3 [1,2,5,6,15,18] 3:=hi<|aa [(0,211),(3,218)] I<|af (ho t) I I<|af (ho D) I I ae;have aM:M 7 82 1 [1,2,5,15,18] 4:=hi<|aa [(0,83),(3,90),(7,210)] I<|af (ho u) I I<|af (ho E) I I<|bG I I (cG I) I (ho aL) I I ae;have aN:M 6 210 4 [1,2,5,6,15,18] 3:=hi<|aa [(0,211),(3,218)] I<|af (ho w) I I<|af (ho F) I I ae;have aP:M 7 146 2 [1,2,6,15,18] 4:=hi<|aa [(0,147),(3,154),(6,210)] I<|af (ho y) I I<|af (ho G) I I<|bG I I (cG I) I (ho aN) I I ae;have bl:M 8 18 0 [1,2,15,18] 0:=hi<|aa [(0,19),(3,26),(6,82),(7,146)] I<|af (ho Y) I I<|af (ho az) I I<|bG I I (cG I) I (ho aM) I I<|bG I I (cG I) I (ho aP) I I ae;have bn:M 7 194 3 [1,2,5,6,15] 3:=hi<|aa [(0,195),(3,202),(4,210)] I<|af (ho Z) I I<|af (ho aB) I I<|af (ho aL) I I ae;have bo:M 8 66 1 [1,2,5,15] 4:=hi<|aa [(0,67),(3,74),(4,82),(7,194)] I<|af (ho ab) I I<|af (ho aD) I I<|af (ho aM) I I<|bG I I (cG I) I (ho bn) I I ae;have bq:M 7 194 4 [1,2,5,6,15] 3:=hi<|aa [(0,195),(3,202),(4,210)] I<|af (ho ad) I I<|af (ho aE) I I<|af (ho aN) I I ae;have br:M 8 130 2 [1,2,6,15] 4:=hi<|aa [(0,131),(3,138),(4,146),(6,194)] I<|af (ho ag) I I<|af (ho aG) I I<|af (ho aP) I I<|bG I I (cG I) I (ho bq) I I ae;have bX:M 9 2 0 [1,2,15] 0:=hi<|aa [(0,3),(3,10),(4,18),(6,66),(7,130)] I<|af (ho bb) I I<|af (ho bk) I I<|af (ho bl) I I<|bG I I (cG I) I (ho bo) I I<|bG I I (cG I) I (ho br) I I ae;have aS:M 6 216 3 [1,2,5,6,17,18] 3:=hi<|aa [(0,217),(1,218)] I<|af (ho z) I I<|af (ho D) I I ae;have aT:M 7 88 1 [1,2,5,17,18] 4:=hi<|aa [(0,89),(1,90),(7,216)] I<|af (ho A) I I<|af (ho E) I I<|bG I I (cG I) I (ho aS) I I ae;have aU:M 6 216 4 [1,2,5,6,17,18] 3:=hi<|aa [(0,217),(1,218)] I<|af (ho B) I I<|af (ho F) I I ae;have aV:M 7 152 2 [1,2,6,17,18] 4:=hi<|aa [(0,153),(1,154),(6,216)] I<|af (ho C) I I<|af (ho G) I I<|bG I I (cG I) I (ho aU) I I ae;have bs:M 8 24 0 [1,2,17,18] 0:=hi<|aa [(0,25),(1,26),(6,88),(7,152)] I<|af (ho ah) I I<|af (ho az) I I<|bG I I (cG I) I (ho aT) I I<|bG I I (cG I) I (ho aV) I I ae;have bt:M 7 200 3 [1,2,5,6,17] 3:=hi<|aa [(0,201),(1,202),(4,216)] I<|af (ho ai) I I<|af (ho aB) I I<|af (ho aS) I I ae;have bw:M 8 72 1 [1,2,5,17] 4:=hi<|aa [(0,73),(1,74),(4,88),(7,200)] I<|af (ho al) I I<|af (ho aD) I I<|af (ho aT) I I<|bG I I (cG I) I (ho bt) I I ae;have bA:M 7 200 4 [1,2,5,6,17] 3:=hi<|aa [(0,201),(1,202),(4,216)] I<|af (ho an) I I<|af (ho aE) I I<|af (ho aU) I I ae;have bB:M 8 136 2 [1,2,6,17] 4:=hi<|aa [(0,137),(1,138),(4,152),(6,200)] I<|af (ho aq) I I<|af (ho aG) I I<|af (ho aV) I I<|bG I I (cG I) I (ho bA) I I ae;have bY:M 9 8 0 [1,2,17] 0:=hi<|aa [(0,9),(1,10),(4,24),(6,72),(7,136)] I<|af (ho bc) I I<|af (ho bk) I I<|af (ho bs) I I<|bG I I (cG I) I (ho bw) I I<|bG I I (cG I) I (ho bB) I I ae;have bC:M 7 208 3 [1,2,5,6,18] 3:=hi<|aa [(0,209),(1,210),(3,216)] I<|af (ho ar) I I<|af (ho aL) I I<|af (ho aS) I I ae;have J:M 8 80 1 [1,2,5,18] 4:=hi<|aa [(0,81),(1,82),(3,88),(7,208)] I<|af (ho au) I I<|af (ho aM) I I<|af (ho aT) I I<|bG I I (cG I) I (ho bC) I I ae;have K:M 7 208 4 [1,2,5,6,18] 3:=hi<|aa [(0,209),(1,210),(3,216)] I<|af (ho ax) I I<|af (ho aN) I I<|af (ho aU) I I ae;have L:M 8 144 2 [1,2,6,18] 4:=hi<|aa [(0,145),(1,146),(3,152),(6,208)] I<|af (ho ay) I I<|af (ho aP) I I<|af (ho aV) I I<|bG I I (cG I) I (ho K) I I ae;have bF:M 9 16 0 [1,2,18] 0:=hi<|aa [(0,17),(1,18),(3,24),(6,80),(7,144)] I<|af (ho bd) I I<|af (ho bl) I I<|af (ho bs) I I<|bG I I (cG I) I (ho J) I I<|bG I I (cG I) I (ho L) I I ae;have bH:M 8 192 3 [1,2,5,6] 3:=hi<|aa [(0,193),(1,194),(3,200),(4,208)] I<|af (ho bf) I I<|af (ho bn) I I<|af (ho bt) I I<|af (ho bC) I I ae;have bK:M 9 64 1 [1,2,5] 4:=hi<|aa [(0,65),(1,66),(3,72),(4,80),(7,192)] I<|af (ho bg) I I<|af (ho bo) I I<|af (ho bw) I I<|af (ho J) I I<|bG I I (cG I) I (ho bH) I I ae;have bL:M 8 192 4 [1,2,5,6] 3:=hi<|aa [(0,193),(1,194),(3,200),(4,208)] I<|af (ho bh) I I<|af (ho bq) I I<|af (ho bA) I I<|af (ho K) I I ae;have bM:M 9 128 2 [1,2,6] 4:=hi<|aa [(0,129),(1,130),(3,136),(4,144),(6,192)] I<|af (ho bj) I I<|af (ho br) I I<|af (ho bB) I I<|af (ho L) I I<|bG I I (cG I) I (ho bL) I I ae;have bO:M 10 0 0 [1,2] 0:=hi<|aa [(0,1),(1,2),(3,8),(4,16),(6,64),(7,128)] I<|af (ho bT) I I<|af (ho bX) I I<|af (ho bY) I I<|af (ho bF) I I<|bG I I (cG I) I (ho bK) I I<|bG I I (cG I) I (ho bM) I I ae;exact bO
 refine aK<|av 3 I<|aZ (lI I I I (by decide) ((show(a:Int).tdiv 2=((a / 2:Nat):Int) by rw[XI (by omega)];omega)) (by unfold In64;omega)) I<|aZ (aX ((a / 2*7)) I) I<|av 1 I<|aZ (aO I ((eM T.ah (a / 2) 6 hi (by omega)).trans (show(jt (bV T.ah (a / 2)))[6]? =some (num g) by rw[<-bZ];rfl))) I<|av 3 I<|aF [1,2,5,6,7] I ?_;refine aK<|av 4 I<|aF [1,2,5,6,7,8] I ?_;refine aK<|av 1 I<|aZ (lI I I I (by decide) ((show(a:Int).tdiv 2=((a / 2:Nat):Int) by rw[XI (by omega)];omega)) (by unfold In64;omega)) I<|av 3 I<|aF [2,5,6,7,8,9] I ?_;refine kK (xs:=[num n]) 5 0 0 I I<|kK (xs:=[num h]) 6 1 0 I I ?_;refine kK (xs:=eR 3 g) 7 2 0 I I<|kK (xs:=eR 2 h) 8 3 0 I I ?_;refine kK (xs:=eR 1 ((a / 2:Nat):Int)) 9 4 0 I I<|dM [] (.c 2<|.c 5<|.c 6<|.c 7<|.c 8<|.c 9<|.nil) .nil rfl rfl ?_;refine aj (.v (ia I I) I<|.a 1 I<|.k [6,7,8,9,10] I)<|aK<|av 1 I<|aF [6,7,8,9,10,11] I ?_;refine Ji ([(6,.cH [num h] 0),(7,.cH (eR 3 g) 0),(8,.cH (eR 2 h) 0),(9,.cH (eR 1 ((a / 2:Nat):Int)) 0),(10,.func 172 [.cH (bJ T) 0,.cH [num n] 0]),(11,.ptr 0 0)]) (λσ=>∃v,(∀σ',aQ σ' v (bm (if 0<g then bN T (j9 T 3 g) n true else [])))/\σ=[some (.cells 49 [v])]) ?_ ?_
 ·refine cD 36 (.raw (.bool (c1))) [6,7,8,9,10,11] I ?_ ?_
  ·exact .a 2 I<|.v (cT I (bD)) I<|.k [36,6,7,8,9,10,11] I
  refine ak I (λh2=>?_) (λh2=>?_)
  ·have bE:0<g:=tt (by rw[bD,h2]);rw[Vn bE];refine bp<|av 2 I<|fW I (h1 3 g) I<|av 1 I<|aF [6,7,8,9,10,11] I ?_;first
    |exact⟨aJ (ks:=[6,7,8,9,10,11]) I,_,λ_=>aQ.pure (p:=bm _),rfl⟩
    |exact⟨aJ (ks:=[6,7,8,9,10,11]) I,_,λ_=>aQ.cg,rfl⟩
  ·have bE:¬0<g:=ff (by rw[bD,h2]);rw[Vk bE];refine ao ?_;first
    |exact⟨aJ (ks:=[6,7,8,9,10,11]) I,_,λ_=>aQ.pure (p:=bm _),rfl⟩
    |exact⟨aJ (ks:=[6,7,8,9,10,11]) I,_,λ_=>aQ.cg,rfl⟩
 ·rintro σ ⟨v,hv,rfl⟩;refine aK<|av 2 I<|fW I (h1 2 h) I<|av 2 I<|aF [6,7,8,9,11,12] I ?_;refine aK<|aZ (ia I I) I<|aZ (ia I I) I<|bW (nG (xs:=[_,_]) I (YC I) ⟨Wy rfl,Wy rfl⟩ rfl rfl) I<|av 2 I<|aF [9,13] I ?_;refine aj (.v (ia I I) I<|.a 1 I<|.k [4] I)<|aA ?_;unfold nv F2 F3;exact⟨_,_,V5 I,aQ.mD (Vp (ZA rfl (Vp (Yw rfl (Vp (aQ.mD (Vp aQ.pure<|Vp (ZA rfl (Vp (hv _) Wg)) Wg))<|Vp (aQ.mD (Vp aQ.pure<|Vp aQ.pure<|Vp (ZA rfl (Vp (aQ.pure (p:=bm _)) Wg)) Wg)) Wg)) Wg))<|Vp aQ.pure Wg),rfl⟩
theorem HH{T}{k x:Int}(h:lS T k x=0):(aH T&&fG T k x)=true:=by
 unfold lS at h;split at h
 ·assumption
 ·omega
theorem KV{T}{k x:Int}(h:lS T k x≠0):lS T k x=1:=by
 unfold lS at*;split
 ·rename_i a;rw[Vn a]at h;exact absurd rfl h
 ·rfl
theorem AQ{T:aw}{a:Nat}(hv:aH T=true)(ha:a<2*T.ah.length){d:Nat}(hd:(d:Int)<T.nodes){n:Nat}(hn:bI T a=(n:Int))(k x:Int)(hm:(aH T&&fG T k x)=true):d<(bN T (j9 T k x) n true).length/\decide (0<=(bN T (j9 T k x) n true).getD d 0)=qf T (dq T k x) (bI T a) d:=by
 have b:(n:Int)<T.nodes:=by rw[<-hn];exact((bz hv).tail a ha).2
 have hl:=(fi (D:=j9 T k x) hv (dir:=true) b).1;refine⟨by omega,?_⟩;rw[hn,KU hm,XV,VH,OY hv (xG T k x) b hd,NQ hv b hd]
theorem Np(T:aw)(a d:Nat)(hv:aH T=true)(ha:a<2*T.ah.length)(hd:(d:Int)<T.nodes):Can prog 176 ([num d]++nv (jf T a) (bx T a) ((a / 2:Nat):Int) (Qs T a) (Qt T a)) (· =fh (kU T a d).1 (kU T a d).2):=by
 obtain⟨n,hn⟩:=Vo ((bz hv).tail a ha).1;have b:(bI T a).toNat=n:=by omega
 have h2:=AQ hv ha hd hn 2 (bx T a) (Jt hv ha);have hM:Qt T a=bN T (j9 T 2 (bx T a)) n true:=by unfold Qt;rw[b]
 have c:0<jf T a->Qs T a=bN T (j9 T 3 (jf T a)) n true:=λh=>by unfold Qs;rw[Vn h,b]
 have h:=Jr (jf T a) (bx T a) ((a / 2:Nat):Int) (Qs T a) (Qt T a) d (qf T (dq T 3 (jf T a)) (bI T a) d) (qf T (dq T 2 (bx T a)) (bI T a) d)
  (λhg=>by rw[c hg];exact AQ hv ha hd hn 3 (jf T a) (Nk hv ha hg)) (by rw[hM];exact h2.1) (by rw[hM];exact h2.2)
 have e:(if(decide (0<jf T a)&&qf T (dq T 3 (jf T a)) (bI T a) d)=true then fh 3 (jf T a) else if(decide (bx T a≠(d:Int))&&qf T (dq T 2 (bx T a)) (bI T a) d)=true then fh 2 (bx T a) else fh 1 ((a / 2:Nat):Int))=fh (kU T a d).1 (kU T a d).2:=by
  unfold kU;split
  ·rfl
  ·split<;>rfl
 rw[e]at h;exact h
def N2(own:List Bool):List Int->Nat->Int
 | [],_=> -1
 |a::l,i=>bif bO own a.toNat then(i:Int) else N2 own l (i+1)
theorem KC(own:List Bool):∀(l:List Int) (i:Nat),(N2 own l i= -1/\tU own l=none)\/∃j,j<l.length/\N2 own l i=((i+j:Nat):Int)/\tU own l=some (l.getD j 0)
 | [],i=>.inl ⟨rfl,rfl⟩
 |a::l,i=>by
  simp only[N2];by_cases h:bO own a.toNat=true
  ·refine .inr ⟨0,by simp,by rw[h];rfl,?_⟩;unfold tU;rw[List.find?_cons_of_pos (by exact h)]
   rfl
  ·rw[YX.2 h];simp only[cond_false];have e:tU own (a::l)=tU own l:=by
    unfold tU;rw[List.find?_cons_of_neg (by exact h)]
   rw[e];rcases KC own l (i+1)with b|⟨j,h1,h2,c⟩
   ·exact .inl b
   ·exact .inr ⟨j+1,by simpa using h1,by rw[h2];congr 1;omega,by rw[c];rfl⟩
theorem J4(own:List Bool)(k:Nat)(hk:k<own.length):Can prog 128 ([num k]++[.cH [aY own] 0]) (· =flag (bO own k)):=by
 exact aR func128 I ntmps128 I<|aj (.a 1 I<|.k [0,1] I)<|aj (.a 2 I<|.v (aX (k) I) I<|.v (aO I ((show(aT own)[k]? =some (flag (bO own k)) by rw[eD _ k hk,pE]))) I<|.a 1 I<|.k [3] I)<|aA<|jF I aQ.pure rfl
theorem Kx(l:List Int)(own:List Bool)(hl:l.length<=1000)(hm:∀a∈l,∃k:Nat,a=(k:Int)/\k<own.length):Can prog 127 [bm l,.func 128 [.cH [aY own] 0]] (· =num (N2 own l 0)):=by
 refine aR func127 I ntmps127 I<|aj (.a 1 I<|.k [0,1] I)<|an<|aj (.a 3 I<|.k [0,1,7,8] I)<|ay<|eX [0,1,7,8] I<|bq (λr s=>∃i,i<=l.length/\r=l.length - i/\N2 own l 0=N2 own (l.drop i) i/\s=⟨[(0,bm l),(1,.func 128 [.cH [aY own] 0]),(7,num l.length),(8,num i)],[]⟩) l.length ⟨0,by omega,by omega,rfl,rfl⟩ ?_;rintro r s ⟨i,hi,rfl,hx,rfl⟩;refine aj (.a 1 I<|.k [0,1,7,8,9] I)<|an<|ak I (λh1=>?_) (λh1=>?_)
 ·have hlt:i<l.length:=by have:=tt h1;omega
  obtain⟨k,hk,c⟩:=hm _ (b9 (d:=0) hlt);rw[drop_cons l i hlt,hk]at hx;simp only[N2,Vi]at hx;have⟨q,e⟩:=dw (bO own k);have he:=J4 own k c;rw[e]at he hx;refine ao<|an<|ay<|aj (.a 2 I<|.k [0,1,5,7,8] I)<|aj (.a 3 I<|.v (aX (i) I) I<|.v (aO I ((aS l i hlt).trans (by rw[hk]))) I<|.c rfl (he) I<|.k [0,1,5,7,8,16] I)<|ak I (λh2=>?_) (λh2=>?_)
  ·subst h2;rw[cond_true]at hx;rw[hx];exact aj (.a 2 I<|.k [4] I)<|aA<|jF I aQ.pure rfl
  ·subst h2;rw[cond_false]at hx;refine ao<|aL (.v (aU I) I<|.a 1 I<|.k [0,1,7,8] I) ?_;exact⟨l.length - (i+1),by omega,i+1,by omega,rfl,hx,rfl⟩
 ·have b:i=l.length:=by have:=ff h1;omega
  subst b;rw[Zs]at hx;rw[hx];exact bh<|aj (.a 1 I<|.k [4] I)<|aA<|jF I aQ.pure rfl
theorem U2(p:List Int):Can prog 178 ([bm p]++[]) (· = .tuple []):=by
 exact aR func178 I ntmps178 I<|ao<|⟨_,_,V5 I,aQ.pure,rfl⟩
theorem Ci(T:aw)(D:List Bool)(n d:Int):Can prog 177 [bu T,aY D,num n,num d,.func 178 []] (· =num (lM T D n d)):=by
 refine aR func177 I ntmps177 I<|aj (.a 2 I<|.k [1,2,3,4,5] I)<|aj (.a 4 I<|.c rfl (yo T D n d) I<|.a 5 I<|.k [4,11,12] I)<|an<|aj (.a 2 I<|.k [4,11,12,22] I)<|ak I (λh1=>?_) (λh1=>?_)
 ·skip
  refine aL (.a 2 I<|.c rfl (U2 _) I<|.k [12] I)<|aj (.a 2 I<|.k [10] I)<|aA<|jF I aQ.pure rfl
 ·skip
  exact ao<|aj (.a 2 I<|.k [10] I)<|aA<|jF I aQ.pure rfl
theorem Ew(T:aw)(D:List Bool)(n d:Int):Can prog 130 [bu T,aY D,num n,num d] (· =flag (qf T D n d)):=by
 have⟨q,a⟩:=dw (decide (lM T D n d=0));unfold qf;rw[a];exact aR func130 I ntmps130 I<|aj (.a 2 I<|.k [1,2,3,4] I)<|aj (.a 4 I<|.c rfl (Ci T D n d) I<|.v (cT I (a)) I<|.a 1 I<|.k [8] I)<|aA<|jF I aQ.pure rfl
theorem HG(T:aw)(k x:Int)(hm:(aH T&&fG T k x)=true)(σ:bH):aD prog 85 [bu T,fh k x] σ (λr σ'=>r= .tuple [.own σ.length,num 0]/\σ'=σ++[yV (dq T k x)]):=by
 obtain⟨hv,hc⟩:=Wd.1 hm;refine aD.frame (VO (xF T k x hv hc) ?_);rintro r σ' ⟨rfl,rfl⟩;refine⟨[.row 4 1 (2*T.ah.length) (aT (dq T k x))],rfl,_,_,Up.cM (su.cons (Up.own rfl) (su.cons Up.pure su.nil)),ZB (.row ZH) nf.nil,by simp,?_⟩;unfold yV;rw[pK]
 rfl
theorem Lw(T:aw)(own:List Bool)(n d:Nat)(hv:aH T=true)(G:own.length=2*T.ah.length)(hn:(n:Int)<T.nodes)(hd:(d:Int)<T.nodes)(O:T.nodes<=12):Can prog 86 [bu T,aY own,num n,num d] (· =Bd (Ii T own n d)):=by
 have R:=dy hv;have U:cf T own=true:=by unfold cf;rw[G];simp
 have L:bZ T (n:Int)=true:=bY.2 ⟨by omega,hn⟩;have F:bZ T (d:Int)=true:=bY.2 ⟨by omega,hd⟩;have f:=B3 T [] n d;rw[xf hv (oW T) L F,Vi,Vi]at f;unfold fx at f;rw[Vn rfl]at f;have K:=HJ hv [] n d;have c:∀a∈cA T [] n d,∃k:Nat,a=(k:Int)/\k<2*T.ah.length:=λa ha=>by
  obtain⟨k,hk,Q⟩:=gW ha;exact⟨k,hk,Q.nu⟩
 unfold Ii;have⟨l,hl⟩:=dw (cA T [] n d);rw[hl]at f K c ⊢;have t:=Kx l own (by omega) (λa ha=>by rw[G];exact c a ha);have⟨ix,i⟩:=dw (N2 own l 0);have e:=KC own l 0;rw[i]at t e;simp only[Ws]at e;refine aR func86 I ntmps86 I<|aK<|av 3 I<|aF [2,3,4,5,8] I ?_;refine aj (.a 3 I<|.v (EX I (Vp aQ.pure<|Vp aQ.cg<|Vp aQ.pure<|Vp aQ.pure Wg) (f)) I<|.a 5 I<|.k [2,3,4,5,8,9] I)<|aj (.a 1 I<|.v (ia I I) I<|.c rfl (t) I<|.a 1 I<|.k [2,3,4,5,8,9,11] I)<|an<|aj (.a 2 I<|.k [2,3,4,5,8,9,11,28] I)<|ak I (λw=>?_) (λw=>?_)
 ·have S:tU own l=none:=by
   rcases e with h|⟨j,_,h,_⟩
   ·exact h.2
   ·rw[h]at w;have:=tt w;omega
  rw[S];refine aK<|av 3 I<|aF [8] I ?_;exact aA<|jF I (Zr (Vp (aQ.pure (p:=bm l))<|Vp aQ.pure<|Vp aQ.cg Wg)) rfl
 ·obtain⟨j,H,rfl,ha⟩:∃j,j<l.length/\ix=((j:Nat):Int)/\tU own l=some (l.getD j 0):=by
   rcases e with h|h
   ·rw[h.1]at w;exact absurd w (by decide)
   ·exact h
  obtain⟨k,J,hk⟩:=c _ (b9 (d:=0) H);rw[ha];simp only[];rw[J,Vi];have C:(aH T&&fG T (kU T k d).1 (kU T k d).2)=true:=by rw[hv,Js hv hk];rfl
  have B:=Np T k d hv hk hd;have has:=Ds T k hv hk;have u:=λσ=>HG T (kU T k d).1 (kU T k d).2 C σ;have b:Ed T own n d k=if qf T (orM T (dq T (kU T k d).1 (kU T k d).2) own) n d=true then orM T (dq T (kU T k d).1 (kU T k d).2) own else own:=rfl;generalize kU T k (d:Int)=X at*;obtain⟨ck,N⟩:=X;simp only at C B u b;have y:=pK T ck N;have⟨M,hM⟩:=dw (dq T ck N);rw[hM]at u b y;have g:=Lr T (Ed T own n d k) n d R O;rw[xf hv (KX U k) L F]at g;clear w c e t i;refine ao<|gQ (aJ (ks:=[2,3,4,5,8,9,11]) I) ?_;refine eC _ _ mixed (UD [2,3,4,5,8,9,11] [2,3,4,5,8,12] [9] [(0,1),(0,1),(0,1),(0,1),(0,1),(0,1),(0,1),(0,1),(0,1),(0,1),(1,1),(1,1),(1,1),(1,1),(1,1)] [(2,_),(3,_),(4,_),(5,_),(8,_),(9,_),(11,_),(12,.own 1),(13,num 0),(31,.tuple [.own 1,num 0]),(32,bu T),(33,bu T),(34,bm l),(35,num j),(36,.cH (cb l) j),(37,num k),(38,.func 176 (nv (jf T k) (bx T k) ((k / 2:Nat):Int) (Qs T k) (Qt T k))),(39,num d),(40,fh ck N),(41,.tuple [.own 1,num 0]),(42,.own 1),(43,num 0)] [_,[some (.cells 102 [.raw (.slice none 0 0),flag false,.raw (.slice none 0 0)]),yV M]] 20 (by kernel_rfl) I I I I (UG 4 I<|UK rfl (UL (UE rfl (aX (j) I)))<|UK rfl (UL (UE rfl (aO I ((aS l j H).trans (by rw[J])))))<|UK rfl (UL (UE rfl (dW I (has))))<|UG 1 I<|UK rfl (UL (UE rfl (dW I (B))))<|UN rfl (UH rfl rfl ((u _)) I)<|UG 5 I<|UT rfl))<|an<|aj (.a 3 I<|.k [2,3,4,5,8,12,45,46] I)<|dY (σ':=[some (.cells 102 [.raw (.slice none 0 0),flag false,.raw (.slice none 0 0)]),yV (oD T M own 0)]) (by rw[HV y]) ?_;refine ay<|eX [2,3,4,5,8,12,45,46] I<|bq (λr s=>∃a,a<=2*T.ah.length/\r=2*T.ah.length - a/\s=⟨[(2,num n),(3,num d),(4,.cH (bJ T) 0),(5,.cH [aY own] 0),(8,.ptr 0 0),(12,.own 1),(45,num M.length),(46,num a)],[some (.cells 102 [.raw (.slice none 0 0),flag false,.raw (.slice none 0 0)]),yV (oD T M own a)]⟩) (2*T.ah.length) ⟨0,by omega,by omega,rfl⟩ ?_;rintro r s ⟨a,Y,rfl,rfl⟩;have Z:=vt T M own a;refine aj (.a 1 I<|.k [2,3,4,5,8,12,45,46,47] I)<|an<|ak I (λx=>?_) (λx=>?_)
  ·have hlt:a<2*T.ah.length:=by have:=tt x;omega
   have v:=HU T M own a;have o:=OG (T:=T) (D:=M) (E:=own) hlt;clear x;refine ao<|an<|ay<|aj (.a 2 I<|.k [2,3,4,5,8,12,14,45,46] I) ?_;have⟨c1,z⟩:=dw (bO M a);have⟨W,A⟩:=dw (bO own a);rw[z,A]at v;rw[z]at o;refine QH (Q1:=λst=>st=⟨[(2,num n),(3,num d),(4,.cH (bJ T) 0),(5,.cH [aY own] 0),(8,.ptr 0 0),(12,.own 1),(45,num M.length),(46,num a)],[some (.cells 102 [.raw (.slice none 0 0),flag false,.raw (.slice none 0 0)]),yV (oD T M own (a+1))]⟩) ?_ ?_
   ·cases c1
    ·refine bp<|av 4 I<|aZ (aX (a) I) I<|aZ (aO I ((show(aT (oD T M own a))[a]? =some (flag false) by rw[eD _ a (by omega),o]))) I<|av 3 I<|aZ (aX (a) I) I<|aZ (aO I ((show(aT own)[a]? =some (flag W) by rw[eD _ a (by omega),pE,A]))) I<|av 1 I<|aZ (aX (a) I) I<|bw (cP I (VJ I) I I I (by first|omega|(simp;omega))) I I<|aF [2,3,4,5,8,12,45,46] I ?_;rw[<-v];unfold yV;rw[VK]
     rfl
    ·refine bp<|av 4 I<|aZ (aX (a) I) I<|aZ (aO I ((show(aT (oD T M own a))[a]? =some (flag true) by rw[eD _ a (by omega),o]))) I<|av 6 I<|aZ (aX (a) I) I<|bw (cP I (VJ I) I I I (by first|omega|(simp;omega))) I I<|aF [2,3,4,5,8,12,45,46] I ?_;rw[<-v];unfold yV;rw[VK]
     rfl
   rintro _ rfl;refine aL (.v (aU I) I<|.a 1 I<|.k [2,3,4,5,8,12,45,46] I)<|⟨2*T.ah.length - (a+1),by omega,a+1,by omega,rfl,rfl⟩
  ·have P:a=2*T.ah.length:=by have:=ff x;omega
   subst P;rw[Li];clear x;refine bh<|an<|sy 12 1 I I ?_;refine dM [0] (.c 2<|.c 3<|.c 4<|.c 5<|.c 8<|.c 12<|.nil) (.kept rfl (.cells (WU<|WU<|WU<|Wp))<|.nil) I I ?_;have⟨q,V⟩:=dw (qf T (orM T M own) n d);rw[V]at b;refine aj (.a 4 I<|.c rfl (V▸Ew T (orM T M own) n d) I<|.a 1 I<|.k [2,3,4,5,8,12,68] I)<|ak I (λm=>?_) (λm=>?_)
   ·have m:q=false:=by simpa using m
    rw[m,Vk (by simp)]at b;rw[b]at g ⊢;refine aL (.a 2 I<|.k [2,3,4,8,12] I)<|aK<|av 4 I<|fW I (g) I<|av 6 I<|aF [8,15] I ?_;refine aK<|av 2 I<|aF [8] I ?_;exact aA<|jF I (aQ.pure (p:=Bd _)) rfl
   ·have m:q=true:=by simpa using m
    rw[m,Vn rfl]at b;rw[b]at g ⊢;refine ao<|aK<|av 4 I<|fW I (g) I<|av 6 I<|aF [8,15] I ?_;refine aK<|av 2 I<|aF [8] I ?_;exact aA<|jF I (aQ.pure (p:=Bd _)) rfl
def p8(T:aw)(M:List Bool)(o:List Int)(i:Nat):List Bool:=(List.range (2*T.ah.length)).map fun(b:Nat)=>decide ((b:Int)∈o.take i)&&bO M b
theorem JW(T:aw)(M:List Bool)(o:List Int)(i:Nat):(p8 T M o i).length=2*T.ah.length:=by simp[p8]
theorem uS{T M}{o:List Int}{i b:Nat}(h:b<(p8 T M o i).length):(p8 T M o i)[b]=(decide ((b:Int)∈o.take i)&&bO M b):=by simp[p8]
theorem GP(T:aw)(M:List Bool)(o:List Int):p8 T M o 0=List.replicate (2*T.ah.length) false:=by
 apply XG (by simp[p8]);intro i h1 h2;rw[uS];simp
theorem GO{T:aw}{M}{o:List Int}{i k:Nat}(hi:i<o.length)(hk:o.getD i 0=(k:Int))(d:k<2*T.ah.length):p8 T M o (i+1)=if bO M k then(p8 T M o i).set k true else p8 T M o i:=by
 have a:∀b:Nat,((b:Int)∈o.take (i+1))↔((b:Int)∈o.take i\/b=k):=λb=>by
  rw[cL o i 0 hi,W5,WW,hk];exact⟨λh=>h.imp id (λe=>by omega),λh=>h.imp id (λe=>by omega)⟩
 split
 ·rename_i hd;apply XG (by simp[p8]);intro b h1 h2;rw[uS,List.getElem_set];by_cases e:k=b
  ·subst e;rw[Vn rfl,VM ((a k).2 (.inr rfl)),hd]
   rfl
  ·rw[Vk e,uS];congr 1;exact decide_eq_decide.2 ((a b).trans ⟨λh=>h.resolve_right (λc=>e c.symm),.inl⟩)
 ·rename_i hd;unfold p8;refine Wh λb _=>?_;by_cases e:b=k
  ·subst e;rw[YX.2 hd];simp
  ·congr 1;exact decide_eq_decide.2 ((a b).trans ⟨λh=>h.resolve_right e,.inl⟩)
theorem JV(T:aw)(M:List Bool)(n:Int):p8 T M (cw T n) (cw T n).length=Ce T M n:=by
 unfold p8 Ce;refine Wh λb hb=>?_;have hb:=VP.1 hb;rw[VN,Bool.and_comm];congr 1;refine decide_eq_decide.2 (vu.trans ⟨λh=>by have:=h.2;rwa [Vi]at this,λh=>⟨gR.2 (by omega),by rw[Vi];exact h⟩⟩)
theorem H7(T:aw)(k x n:Int)(p:T.nodes<=12):Can prog 45 [bu T,fh k x,num n] (· =SI (if lS T k x=0 then(if bZ T n then 0 else 2) else 1) (LI T (dq T k x) n.toNat)):=by
 have g:=BV T k x;unfold uN at g;refine aR func45 I ntmps45 I<|aK<|av 4 I<|aF [2,3,4,6] I ?_;refine aj (.a 2 I<|.c rfl (g) I<|.a 5 I<|.k [2,3,6,8,9] I)<|an<|aj (.a 2 I<|.k [2,3,6,8,9,22] I)<|ak I (λh1=>?_) (λh1=>?_)
 ·have h1:=tt h1;rw[Vk h1];have o:=KV h1;rw[o];refine aK<|av 4 I<|aF [6,7] I ?_;exact aA<|jF I (Yi (Vp (Zr (Vp aQ.pure<|Vp aQ.cg<|Vp aQ.cg Wg)) (Vp aQ.pure Wg))) rfl
 ·have h1:lS T k x=0:=VQ (ff h1);obtain⟨hv,hc⟩:=Wd.1 (HH h1);rw[Vn h1,Vn h1];have z:=dy hv;refine ao<|an<|aj (.a 2 I<|.c rfl (jw T n) I<|.a 1 I<|.k [2,3,6,8,28] I)<|ak I (λh2=>?_) (λh2=>?_)
  ·have hn:bZ T n=false:=by simpa using h2
   rw[hn];refine aK<|av 3 I<|aF [6,7] I ?_;exact aA<|jF I (Yi (Vp (Zr (Vp aQ.pure<|Vp aQ.cg<|Vp aQ.cg Wg)) (Vp aQ.pure Wg))) rfl
  ·have hn:bZ T n=true:=by simpa using h2
   rw[hn,Vn rfl];rw[bY]at hn;obtain⟨m,rfl⟩:=Vo hn.1;rw[Vi];obtain⟨N,hN⟩:∃N:Nat,T.nodes=(N:Int):=⟨T.nodes.toNat,by omega⟩;have u:=pK T k x;have⟨M,hM⟩:=dw (dq T k x);rw[hM]at u ⊢;have D:(cw T m).length<=512:=VL (fK T m _) (by omega);clear h2 g;refine ao<|aK<|av 4 I<|aF [2,3,6,8,10] I ?_;refine cO 1 1 102 3 I I<|cO 1 2 3 1 I I ?_;refine aK<|av 1 I<|fW I (jl T (by omega)) I<|bW (eJ I (VW I) I I (show 2*(T.ah.length:Int)=((2*T.ah.length:Nat):Int) by omega) (show 2*(T.ah.length:Int)=((2*T.ah.length:Nat):Int) by omega) ⟨by unfold maxLen;omega,by omega⟩) I<|av 1 I<|aF [2,3,6,8,10,11] I ?_;refine an<|aj (.a 2 I<|.c rfl (ur T z _) I<|.a 2 I<|.k [2,3,6,8,10,11,37,38,39] I)<|ay<|eX [2,3,6,8,10,11,37,38,39] I<|dY (σ':=[some (.cells 51 [num 0,.raw (.slice none 0 0),.raw (.slice none 0 0)]),some (.cells 51 [num m,.own 2,.own 3]),some (.row 102 3 0 []),some (.row 3 1 0 []),some (.row 4 1 (2*T.ah.length) (aT (p8 T M (cw T m) 0)))]) (by rw[GP,<-jd];rfl) ?_;refine bq (λr s=>∃i,i<=(cw T m).length/\r=(cw T m).length - i/\s=⟨[(2,num m),(3,.cH (bJ T) 0),(6,.ptr 0 0),(8,aY M),(10,.ptr 1 0),(11,.own 4),(37,bm (cw T m)),(38,num (cw T m).length),(39,num i)],[some (.cells 51 [num 0,.raw (.slice none 0 0),.raw (.slice none 0 0)]),some (.cells 51 [num m,.own 2,.own 3]),some (.row 102 3 0 []),some (.row 3 1 (fR M ((cw T m).take i)).length (cb (fR M ((cw T m).take i)))),some (.row 4 1 (2*T.ah.length) (aT (p8 T M (cw T m) i)))]⟩) (cw T m).length ⟨0,by omega,by omega,rfl⟩ ?_;rintro r s ⟨i,hi,rfl,rfl⟩
   skip
   refine aj (.a 1 I<|.k [2,3,6,8,10,11,37,38,39,40] I)<|an<|ak I (λe=>?_) (λe=>?_)
   ·have hlt:i<(cw T m).length:=by have:=tt e;omega
    obtain⟨a0,E⟩:=mM (b9 (d:=0) hlt);obtain⟨a,ha⟩:=Vo a0;have v:a<2*T.ah.length:=by omega
    have b:fR M ((cw T m).take (i+1))=fR M ((cw T m).take i)++(if bO M a then [(a:Int)] else []):=by
     unfold fR;rw[cL _ i 0 hlt,WI,ha];simp only[W6,Ya,Vi]
    have h:(fR M ((cw T m).take i)).length<=1000:=VL (Wl _ _) (by rw[V8];omega);have c:=GO (T:=T) (M:=M) hlt ha v;have C:=JW T M (cw T m) i;have⟨q,B⟩:=dw (bO M a);rw[B]at b c;clear e;refine ao<|an<|ay<|aj (.v (aX (i) I) I<|.v (aO I ((aS _ i hlt).trans (by rw[ha]))) I<|.a 1 I<|.k [2,3,6,8,10,11,13,37,38,39] I)<|aj (.a 2 I<|.v (aX (a) I) I<|.v (aO I ((show(aT M)[a]? =some (flag q) by rw[eD _ a (by omega),pE,B]))) I<|.k [2,3,6,8,10,11,13,37,38,39,46] I)<|ak I (λt=>?_) (λt=>?_)
    ·subst t;rw[Vn rfl]at b c;refine aK<|av 2 I<|aZ (aX (a) I) I<|bw (cP I (VJ I) I I I (by first|omega|(simp;omega))) I I<|aF [2,3,6,8,10,11,13,37,38,39] I ?_;refine bp<|av 4 I<|bW (bP I (VW I) I I I I (by unfold maxLen;omega)) I<|av 2 I ?_;refine ft [0,1,2,5,4] (.c 2<|.c 3<|.c 6<|.c 8<|.c 10<|.c 11<|.c 37<|.c 38<|.c 39<|.nil) (.kept rfl (.cells (WU<|WU<|WU<|Wp))<|.kept rfl (.cells (WU<|WU<|WU<|Wp))<|.kept rfl (.row VT)<|.kept rfl (.eZ rfl (ed _ _))<|.kept rfl (.row VT)<|.nil) I I (bM ?_);refine aL (.v (aU I) I<|.a 1 I<|.k [2,3,6,8,10,11,37,38,39] I)<|⟨(cw T m).length - (i+1),by omega,i+1,by omega,rfl,?_⟩;rw[b,c];first
      |rfl
      |(simp only[Vu,VR];rfl)
    ·subst t;rw[Vk (by simp),V6]at b;rw[Vk (by simp)]at c;refine ao<|aL (.v (aU I) I<|.a 1 I<|.k [2,3,6,8,10,11,37,38,39] I) ?_;refine⟨(cw T m).length - (i+1),by omega,i+1,by omega,rfl,?_⟩;rw[b,c];first
      |rfl
      |(simp only[Vu,VR];rfl)
   ·have w:i=(cw T m).length:=by have:=ff e;omega
    subst w;rw[JV,VN];clear e;refine bh<|an ?_;have f:(Ce T M m).length=2*T.ah.length:=by simp[Ce]
    unfold LI;have⟨own,l⟩:=dw (Ce T M m);rw[l]at f ⊢;have⟨dl,h⟩:=dw (fR M (cw T m));rw[h];refine dM [0,1,2,3,4] (.c 2<|.c 3<|.c 6<|.c 10<|.c 11<|.nil) (.kept rfl (.cells (WU<|WU<|WU<|Wp))<|.kept rfl (.cells (WU<|WU<|WU<|Wp))<|.kept rfl (.row VT)<|.kept rfl (.row VT)<|.kept rfl (.eZ (show 2*T.ah.length=own.length by omega) I)<|.nil) I I<|sy 11 4 I I ?_;refine dM [0,1,2,3] (.c 2<|.c 3<|.c 6<|.c 10<|.c 11<|.nil) (.kept rfl (.cells (WU<|WU<|WU<|Wp))<|.kept rfl (.cells (WU<|WU<|WU<|Wp))<|.kept rfl (.row VT)<|.kept rfl (.row VT)<|.nil) I I<|aj (.a 1 I<|.v (aO I ((show some (num T.nodes)=some (num (N:Int)) by rw[hN]))) I<|.a 1 I<|.k [2,3,6,10,11,58,59] I)<|ay<|eX [2,3,6,10,11,58,59] I<|bq (λr s=>∃j,j<=N/\r=N - j/\s=⟨[(2,num m),(3,.cH (bJ T) 0),(6,.ptr 0 0),(10,.ptr 1 0),(11,aY own),(58,num N),(59,num j)],[some (.cells 51 [num 0,.raw (.slice none 0 0),.raw (.slice none 0 0)]),some (.cells 51 [num m,.own 2,.own 3]),some (.row 102 3 j (lP (Ab T own m j))),some (.row 3 1 dl.length (cb dl))]⟩) N ⟨0,by omega,by omega,rfl⟩ ?_;rintro r s ⟨j,hj,rfl,rfl⟩;refine aj (.a 1 I<|.k [2,3,6,10,11,58,59,60] I)<|an<|ak I (λe=>?_) (λe=>?_)
    ·have hlt:j<N:=by have:=tt e;omega
     have A:=Lw T own m j hv f hn.2 (by omega) p;refine ao<|an<|ay<|aj (.a 2 I<|.k [2,3,6,10,11,14,58,59] I)<|dE 8 20 mixed (.val [10] I (aP I) I I<|.val [62] I (aP I) I I<|.val [3] I (aP I) I I<|.val [11] I (aP I) I I<|.val [2] I (aP I) I I<|.val [14] I (aP I) I I<|.val [64,65,66,67] I (dW I (A)) I I<|.val [68] I (aP I) I I<|.nil) (by kernel_rfl) I I (aJ (ks:=[2,3,6,10,11,58,59,63,69]) I) ?_;refine bW (bP I (VW I) I I I I (by unfold maxLen;omega)) I<|av 2 I ?_;refine ft [0,1,4,3] (.c 2<|.c 3<|.c 6<|.c 10<|.c 11<|.c 58<|.c 59<|.nil) (.kept rfl (.cells (WU<|WU<|WU<|Wp))<|.kept rfl (.cells (WU<|WU<|WU<|Wp))<|.kept rfl (.eZ rfl (show _=lP (Ab T own m (j+1)) by rw[Ih];exact qB _ _))<|.kept rfl (.row VT)<|.nil) I I (bM ?_);refine aL (.v (aU I) I<|.a 1 I<|.k [2,3,6,10,11,58,59] I)<|⟨N - (j+1),by omega,j+1,by omega,rfl,rfl⟩
    ·have y:j=N:=by have:=ff e;omega
     subst y;refine bh<|aK<|aZ (jD (ys:=[num m,.own 2,.own 3]) I (VJ I) I I I I) I<|av 2 I<|aF [6,7] I ?_;refine aA<|⟨_,_,V5 I,Yi (Vp (Zr (Vp aQ.pure<|Vp (Yw rfl W9)<|Vp (Yw rfl W9) Wg)) (Vp aQ.pure Wg)),?_⟩;unfold SI s9 oG tr bm;rw[Vn rfl,LH,show T.nodes.toNat=j by omega]
end
end PW
namespace PW
open Go.RowKit cm Mem Net iF
namespace MX
def SA(T:aw)(D:List Bool)(d:Nat)(L:List Int)(a:Nat):List Int:=
 if(!bO D a)&&decide (0<=L.getD (bx T a).toNat 0)&&(decide (bx T a=(d:Int))|| !cW T (bx T a).toNat)&&(decide (L.getD (bI T a).toNat 0<0)||decide (L.getD (bx T a).toNat 0+cr T a<L.getD (bI T a).toNat 0))
 then L.set (bI T a).toNat (L.getD (bx T a).toNat 0+cr T a) else L
def dC(T:aw)(D:List Bool)(d:Nat):List Int:=(List.range T.nodes.toNat).foldl (λL _=>(List.range (2*T.ah.length)).foldl (SA T D d) L) ((List.replicate T.nodes.toNat (-1)).set d 0)
def Pw(T:aw)(D:List Bool)(n:Nat)(out:List Int)(a:Nat):Bool:= !bO D a&&decide (0<=at' out (dF T false a))&&(decide (dF T false a=(n:Int))|| !cW T (dF T false a).toNat)
def QU(T:aw)(D:List Bool)(n:Nat)(out:List Int):Bool:=
 decide (out.length=T.nodes.toNat)&&decide (at' out (n:Int)=0)&&(List.range T.nodes.toNat).all (λx=>decide (-1<=at' out (x:Int)))&&
 (List.range (2*T.ah.length)).all (λa=> !Pw T D n out a||(decide (0<=at' out (gJ T false a))&&decide (at' out (gJ T false a)<=at' out (dF T false a)+cr T a)))&&
 (List.range T.nodes.toNat).all (λx=>decide (x=n)||decide (at' out (x:Int)<0)||(List.range (2*T.ah.length)).any λa=>decide (gJ T false a=(x:Int))&&Pw T D n out a&&decide (at' out (x:Int)=at' out (dF T false a)+cr T a))
def qv(T:aw)(D:List Bool):Bool:=(List.range T.nodes.toNat).all λd=>QU T D d (dC T D d)
theorem Ar(T:aw)(D:List Bool)(n:Nat)(out:List Int)(a:Nat):Net.Way T D n false out a↔Pw T D n out a=true:=by
 unfold Net.Way Pw;simp[and_assoc]
theorem NA{T D}(hv:aH T=true){n:Nat}{out:List Int}(h:QU T D n out=true):kl T D n false out:=by
 have hN:=(bz hv).nodes;simp only[QU,Vx,VH,VG,VP,Xf,WG,Xo]at h;obtain⟨⟨⟨⟨h1,h2⟩,b⟩,c⟩,d⟩:=h;refine⟨by rw[h1];omega,h2,λx hx=>b x (by omega),λa ha hw=>?_,λx hx h0=>?_⟩
 ·rcases c a ha with h|h
  ·rw[(Ar T D n out a).1 hw]at h;cases h
  ·exact h
 ·rcases d x (by omega)with(h|h)|⟨a,ha,⟨e,f⟩,h8⟩
  ·exact .inl h
  ·omega
  ·exact .inr ⟨a,ha,e,(Ar T D n out a).2 f,h8⟩
theorem Nz{T:aw}{D}(hv:aH T=true)(h:qv T D=true){d:Nat}(hd:(d:Int)<T.nodes):bN T D d false=dC T D d:=by
 refine mw (bz hv) (NA hv ?_);simp only[qv,VG,VP]at h;exact h d (by omega)
def oo(T:aw)(D:List Bool)(n d:Nat):List Int:=if n=d\/(dC T D d).getD n 0<0 then [] else lT T D (dC T D d) ((dC T D d).getD n 0) d (cw T n)
theorem next{T:aw}{D}(hv:aH T=true)(h:qv T D=true){n d:Nat}(hd:(d:Int)<T.nodes):cA T D n d=oo T D n d:=by
 unfold cA oo;rw[Nz hv h hd]
def zl(T:aw)(D:List Bool)(d:Nat):Nat->Nat->List Int
 |0,_=>[]
 |f+1,n=>match oo T D n d with
  | []=>[]
  |a::_=>a::zl T D d f (bx T a.toNat).toNat
def vP(T:aw)(D:List Bool)(n d:Nat):List Int:=zl T D d ((dC T D d).getD n 0).toNat n
theorem first{T:aw}{D}(hv:aH T=true)(h:qv T D=true){d:Nat}(hd:(d:Int)<T.nodes):∀f n,jo T D d f n=zl T D d f n
 |0,_=>rfl
 |f+1,n=>by
  simp only[jo,zl,next hv h hd];cases oo T D n d with
  |nil=>rfl
  |cons a l=>simp only[first hv h hd f]
theorem SG{T:aw}{D}(hv:aH T=true)(h:qv T D=true){n d:Nat}(hd:(d:Int)<T.nodes):eT T D n d=vP T D n d:=by
 unfold eT vP dN;rw[Nz hv h hd,first hv h hd]
def Pj(T:aw)(D:List Bool)(s d:Int):Int:=if c9 T D s d=0 then(if(dC T D d.toNat).getD s.toNat 0<0 then 11 else 0) else c9 T D s d
theorem ui{T:aw}{D}{s d:Int}(h:c9 T D s d=0):(d.toNat:Int)<T.nodes/\0<=d:=by
 obtain⟨_,_,_,a⟩:=iZ h;rw[bY]at a;omega
theorem Ta{T D}(hv:aH T=true)(h:qv T D=true)(s d:Int):lM T D s d=Pj T D s d:=by
 unfold lM Pj dN;by_cases h0:c9 T D s d=0
 ·rw[Vn h0,Vn h0,Nz hv h (ui h0).1]
 ·rw[Vk h0,Vk h0]
def Dw(T:aw)(D:List Bool)(d:Nat):Nat->Nat->Int
 |0,m=>if m=d then 1 else 0
 |f+1,m=>if m=d then 1 else(oo T D m d).foldl (λc a=>min 2 (c+Dw T D d f (bx T a.toNat).toNat)) 0
theorem qk{T:aw}{D}(hv:aH T=true)(h:qv T D=true){d:Nat}(hd:(d:Int)<T.nodes):∀f m,p7 T D d f m=Dw T D d f m
 |0,_=>rfl
 |f+1,m=>by
  simp only[p7,Dw,next hv h hd];split
  ·rfl
  ·exact foldl_congr λc a _=>by rw[qk hv h hd f]
def GF(T:aw)(D:List Bool)(n:Int)(p:List Int)(i j:Nat):Bool:=
 decide ((dC T D (dB T n (p.take j)).toNat).getD (dB T n (p.take i)).toNat 0=dU T (p.take j) - dU T (p.take i))&&(decide (c9 T D (dB T n (p.take i)) (dB T n (p.take j))=0)&&decide (Dw T D (dB T n (p.take j)).toNat ((dC T D (dB T n (p.take j)).toNat).getD (dB T n (p.take i)).toNat 0).toNat (dB T n (p.take i)).toNat=1))
theorem Tj{T D}(hv:aH T=true)(h:qv T D=true)(n:Int)(p:List Int)(i j:Nat):iH T D n p i j=GF T D n p i j:=by
 unfold iH GF iD eQ dN;by_cases h0:c9 T D (dB T n (p.take i)) (dB T n (p.take j))=0
 ·rw[Nz hv h (ui h0).1,qk hv h (ui h0).1]
 ·rw[VA h0];simp
def KR(T:aw)(D:List Bool)(n:Int)(p:List Int):Nat->Nat->List eW
 |0,_=>[]
 |f+1,i=>if i<p.length then(match qi (GF T D n p i) i p.length with
  |some j=>⟨1,dB T n (p.take j)⟩::KR T D n p f j
  |none=>⟨2,p.getD i 0⟩::KR T D n p f (i+1)) else []
theorem Ra{T D}(hv:aH T=true)(h:qv T D=true)(n:Int)(p:List Int):∀f i,lK T D n p f i=KR T D n p f i
 |0,_=>rfl
 |f+1,i=>by
  have:iH T D n p i=GF T D n p i:=funext λj=>Tj hv h n p i j;simp only[lK,KR,this];split
  ·cases qi (GF T D n p i) i p.length with
   |none=>simp only[Ra hv h n p f]
   |some j=>simp only[Ra hv h n p f]
  ·rfl
def QY(T:aw)(D:List Bool)(n d:Int):qT:=
 if Pj T D n d=0/\n≠d then⟨[(vP T D n.toNat d.toNat).getD 0 0],true,A4 (KR T [] n (vP T D n.toNat d.toNat) (vP T D n.toNat d.toNat).length 0)⟩ else⟨[],false,[]⟩
theorem S7{T D}(hv:aH T=true)(h0:qv T []=true)(h:qv T D=true)(n d:Int):Be T D n d=QY T D n d:=by
 unfold Be QY;rw[Ta hv h];by_cases hd:(d.toNat:Int)<T.nodes
 ·unfold qc;rw[SG hv h hd,Ra hv h0]
 ·have:¬Pj T D n d=0:=by
   unfold Pj;intro a;split at a
   ·rename_i h1;exact hd (ui h1).1
   ·rename_i h1;exact h1 a
  rw[Vk (λa=>this a.1),Vk (λa=>this a.1)]
def nv(T:aw)(a:Nat)(d:Int):Int×Int:=
 if(decide (0<jf T a)&&decide (Pj T (dq T 3 (jf T a)) (bI T a) d=0))=true then(3,jf T a)
 else if(decide (bx T a≠d)&&decide (Pj T (dq T 2 (bx T a)) (bI T a) d=0))=true then(2,bx T a)
 else(1,((a / 2:Nat):Int))
theorem Ue{T}(hv:aH T=true){a:Nat}(b:qv T (dq T 3 (jf T a))=true)(h2:qv T (dq T 2 (bx T a))=true)(d:Int):kU T a d=nv T a d:=by
 unfold kU nv qf;rw[Ta hv b,Ta hv h2]
end MX
end PW
namespace PW
open Go.RowKit cm Mem Net iF
namespace MX
def FT(T:aw)(D:List Bool)(n:Nat):oc:=⟨n,(List.range T.nodes.toNat).map fun(d:Nat)=>⟨oo T D n d,false,[]⟩,fR D (cw T n)⟩
theorem Ru{T D}(hv:aH T=true)(h:qv T D=true)(n:Nat):kJ T D n=FT T D n:=by
 have hN:=(bz hv).nodes;unfold kJ FT toL;congr 1;refine Wh λd hd=>?_;have:=VP.1 hd;rw[next hv h (by omega)]
end MX
def LM:List Bool:=[true,true,false,false,false,false,false,false]
end PW
namespace PW
open Go.RowKit cm Mem Net iF
namespace MX
def Ol(T:aw)(own:List Bool)(n d:Int)(a:Nat):List Bool:=
 if Pj T (orM T (dq T (nv T a d).1 (nv T a d).2) own) n d=0 then orM T (dq T (nv T a d).1 (nv T a d).2) own else own
def Rr(T:aw)(own:List Bool)(n d:Nat):qT:=match tU own (oo T [] n d)with
 |none=>⟨oo T [] n d,false,[]⟩
 |some a=>QY T (Ol T own n d a.toNat) n d
def QV(T:aw)(own:List Bool)(n d:Nat):Bool:=match tU own (oo T [] n d)with
 |none=>true
 |some a=>qv T (dq T 3 (jf T a.toNat))&&qv T (dq T 2 (bx T a.toNat))&&qv T (orM T (dq T (nv T a.toNat d).1 (nv T a.toNat d).2) own)&&qv T (Ol T own n d a.toNat)
theorem rep{T:aw}{own}{n d:Nat}(hv:aH T=true)(h0:qv T []=true)(hd:(d:Int)<T.nodes)(h:QV T own n d=true):Ii T own n d=Rr T own n d:=by
 unfold Ii Rr;unfold QV at h;rw[next hv h0 hd];cases f:tU own (oo T [] n d)with
 |none=>rfl
 |some a=>
  rw[f]at h;simp only[Vx]at h;obtain⟨⟨⟨h1,h2⟩,b⟩,c⟩:=h;have hm:Ed T own n d a.toNat=Ol T own n d a.toNat:=by
   unfold Ed Ol qf;rw[Ue hv h1 h2,Ta hv b];by_cases e:Pj T (orM T (dq T (nv T a.toNat (d:Int)).1 (nv T a.toNat (d:Int)).2) own) n d=0
   ·rw[Vn (by simpa using e),Vn e]
   ·rw[Vk (by simpa using e),Vk e]
  simp only[];rw[hm,S7 hv h0 c]
def Qc(T:aw)(M:List Bool)(n:Nat):oc:=⟨n,(List.range T.nodes.toNat).map λd=>Rr T (Ce T M n) n d,fR M (cw T n)⟩
theorem Rs{T:aw}{M}{n:Nat}(hv:aH T=true)(h0:qv T []=true)(h:((List.range T.nodes.toNat).all λd=>QV T (Ce T M n) n d)=true):LI T M n=Qc T M n:=by
 have hN:=(bz hv).nodes;unfold LI Qc Ab;congr 1;refine Wh λd hd=>?_;have a:=VP.1 hd;exact rep hv h0 (by omega) (VG.1 h d hd)
end MX
def Qd:oc:=⟨0,[⟨[],false,[]⟩,⟨[7],true,[⟨1,3⟩,⟨1,2⟩,⟨1,1⟩]⟩,⟨[7],true,[⟨1,3⟩,⟨1,2⟩]⟩,⟨[7],false,[]⟩],[0]⟩
end PW
namespace PW
section
open Go.RowKit cm Mem Net Go.WideShapes
section
variable {H:Type} {enc:TypeId×Value->H} {W:World}
end
end
section
open Go.RowKit cm Mem Net iF
def SN(T:aw)(k x b c:Int)(m:Nat):Bool:=(List.range m).all λa=> !ej k x T.ah (a / 2)||ej b c T.ah (a / 2)
def SM(T:aw)(k x a b:Int):Bool:=SN T k x a b (2*T.ah.length)
open Go.Shelf
attribute [local go_sem] Oper.semAt_some
end
section
open Go.RowKit cm Mem Net iF
abbrev Tk(p:Int×Int):Value:=.agg (tE p)
def Ja(T:aw)(k x:Int)(l:List ((Int×Int)×PV)):Prop:=∀c v,(c,v)∈l->v=flag (SM T k x c.1 c.2)
theorem Ja.pure{T}{k x:Int}{l:List ((Int×Int)×PV)}(h:Ja T k x l):aM ((bD Tk l).map (·.2)):=⟨λi u hu=>by
 have hm:=VE hu;simp only[bD,V7,Vv]at hm;obtain⟨a,ha,rfl⟩:=hm;have:=h a.1 a.2 ha;show IsPure a.2;rw[this]
 infer_instance⟩
theorem Ja.set{T}{k x:Int}{l:List ((Int×Int)×PV)}(h:Ja T k x l)(c:Int×Int):Ja T k x (ir c (flag (SM T k x c.1 c.2)) l):=λa v hm=>by
 rcases vl hm with e|e
 ·cases e;rfl
 ·exact h a v e
section
variable {T:aw}
theorem Ch.last{D}{d n:Nat}{p:List Int}(h:Ch T D d n p):n≠d->∃a,a<2*T.ah.length/\bO D a=false/\bx T a=(d:Int):=by
 induction h with
 |nil=>intro h;exact absurd rfl h
 | @cons n a m p h1 h2 b c _ _ ih=>
  intro _;by_cases e:m=d
  ·subst e;exact⟨a,h1,b,c⟩
  ·exact ih e
end
section
variable {T:aw} {M D:List Bool} {n d:Nat}
end
section
variable {T:aw} {k x:Int} {d:Nat}
def Gn(k x:Int)(n:Nat):Prop:=k=2/\x=(n:Int)
structure Open (T:aw) (k x:Int) (d n:Nat) (s:List eW):Prop where
 nil:s=[]
 node:(n:Int)<T.nodes
 here:¬Gn k x n
 reach:0<=dN T (dq T k x) d n
structure QB (T:aw) (k x:Int) (d n:Nat) (s:List eW) (q:List Int):Prop where
 Ra:∃D,(∀a,bO D a=false->bO (dq T k x) a=false)/\PQ T D d n (L3 ⟨1,(n:Int)⟩ s) q
 node:(n:Int)<T.nodes
 here:¬Gn k x n
 len:s.length<=32
end
section
variable {T:aw} {k x:Int} {d:Nat}
noncomputable def qJ(T:aw)(D:List Bool)(d n:Nat):Nat:=((List.range T.nodes.toNat).filter λm=>decide (0<=dN T D d m)&&decide (dN T D d m<dN T D d n)).length
theorem zU{D}{n:Nat}(hn:(n:Int)<T.nodes):qJ T D d n<T.nodes.toNat:=by
 unfold qJ;have h:((List.range T.nodes.toNat).filter λm=>decide (0<=dN T D d m)&&decide (dN T D d m<dN T D d n)).length<(List.range T.nodes.toNat).length:=by
  refine Yu.2 ⟨n,VP.2 (by omega),?_⟩;simp
 simpa using h
def Way(T:aw)(k x:Int)(d:Nat)(late:Bool)(n:Nat)(s:List eW)(u:Nat):Prop:=
 (Open T k x d n s/\u=if late then T.nodes.toNat+qJ T (dq T k x) d n else 2*T.nodes.toNat+qJ T [] d n)\/∃q,QB T k x d n s q/\u=q.length/\q.length<T.nodes.toNat
theorem Way.on{n:Nat}{s}{u:Nat}(h:Way T k x d false n s u):∃u',u'<=u/\Way T k x d true n s u':=by
 rcases h with⟨h,rfl⟩|⟨q,h,rfl,hl⟩
 ·have h1:=zU (D:=dq T k x) (d:=d) h.node;refine⟨T.nodes.toNat+qJ T (dq T k x) d n,?_,.inl ⟨h,?_⟩⟩
  ·rw[Vk (by simp)];omega
  ·rw[Vn rfl]
 ·exact⟨_,Vh _,.inr ⟨q,h,rfl,hl⟩⟩
end
def Rl(p:qX)(s:List eW):qX:=⟨p.id,p.src,p.dst,p.NL,s,0⟩
section
variable {T:aw} {k x:Int} {d:Nat} {st:Nat->Int} {p0:qX}
end
section
variable {T:aw} {D D':List Bool} {k x:Int} {d:Nat} {st:Nat->Int} {p0:qX}
end
section
variable {T:aw} {k x:Int} {l:List Int}
end
section
variable {T:aw} {M:List Bool} {N a:Nat}
end
end
section
open Go.RowKit cm Mem Net
def sw(s:List eW):Prop:=∀g∈s,0<=g.kind/\g.kind<100/\0<=g.num/\g.num<100
def Sn(g:eW):List UInt8:=32::(Lib.decDigits g.kind.toNat++58::Lib.decDigits g.num.toNat)
def om(n:Nat)(s:List eW):List UInt8:=Lib.decDigits n++s.flatMap Sn
def I8(c:UInt8):Prop:=48<=c.toNat/\c.toNat<=57
theorem pC{n:Nat}(h:n<100):∀c∈Lib.decDigits n,I8 c:=by
 intro c hc;by_cases h1:n<10
 ·rw[Lib.decDigits_one h1,WW]at hc;subst hc;unfold I8;rw[YR];omega
 ·rw[Lib.decDigits_two h1 h]at hc;simp only[V9,List.not_mem_nil,or_false]at hc;rcases hc with rfl|rfl<;>(unfold I8;rw[YR];omega)
theorem ofNat_inj{a b:Nat}(ha:a<256)(hb:b<256)(h:UInt8.ofNat a=UInt8.ofNat b):a=b:=by
 have:=V1 UInt8.toNat h;rw[YR,YR]at this;omega
theorem zd{m n:Nat}(hm:m<100)(hn:n<100)(h:Lib.decDigits m=Lib.decDigits n):m=n:=by
 by_cases h1:m<10<;>by_cases h2:n<10
 ·rw[Lib.decDigits_one h1,Lib.decDigits_one h2]at h;have:=ofNat_inj (by omega) (by omega) (W4 h).1;omega
 ·rw[Lib.decDigits_one h1,Lib.decDigits_two h2 hn]at h;cases(W4 h).2
 ·rw[Lib.decDigits_two h1 hm,Lib.decDigits_one h2]at h;cases(W4 h).2
 ·rw[Lib.decDigits_two h1 hm,Lib.decDigits_two h2 hn]at h;have a:=ofNat_inj (by omega) (by omega) (W4 h).1;have b:=ofNat_inj (by omega) (by omega) (W4 (W4 h).2).1;omega
theorem pD:∀(A B X Y:List UInt8),(∀c∈A,I8 c)->(∀c∈B,I8 c)->(∀c Z,X=c::Z->¬I8 c)->(∀c Z,Y=c::Z->¬I8 c)->A++X=B++Y->A=B/\X=Y
 | [],[],X,Y,_,_,_,_,h=>⟨rfl,h⟩
 | [],b::B,X,Y,_,e,f,_,h=>absurd (e b (by simp)) (f b (B++Y) h)
 |a::A,[],X,Y,d,_,_,g,h=>absurd (d a (by simp)) (g a (A++X) h.symm)
 |a::A,b::B,X,Y,d,e,f,g,h=>by
  obtain⟨h1,h2⟩:=W4 h;obtain⟨i,j⟩:=pD A B X Y (λc hc=>d c (by simp[hc])) (λc hc=>e c (by simp[hc])) f g h2;exact⟨by rw[h1,i],j⟩
theorem pW{s:List eW}:∀c Z,s.flatMap Sn=c::Z->¬I8 c:=by
 intro c Z h;cases s with
 |nil=>cases h
 |cons g s=>
  rw[Wm]at h;have:=(W4 h).1;subst this;unfold I8
  decide
theorem CL:∀ {s s':List eW},sw s->sw s'->s.flatMap Sn=s'.flatMap Sn->s=s'
 | [],[],_,_,_=>rfl
 | [],g::s',_,_,h=>by rw[Wm]at h;cases h
 |g::s,[],_,_,h=>by rw[Wm]at h;cases h
 |g::s,g'::s',h1,h2,h=>by
  obtain⟨e,a2,a3,a4⟩:=h1 g (by simp);obtain⟨f,q,i,r⟩:=h2 g' (by simp);rw[Wm,Wm]at h;unfold Sn at h;rw[Wt,Wt,VU,VU]at h;obtain⟨j,d⟩:=pD _ _ _ _ (pC (by omega)) (pC (by omega)) (λc Z h=>by rw[Wt]at h;have:=(W4 h).1;subst this;unfold I8;decide) (λc Z h=>by rw[Wt]at h;have:=(W4 h).1;subst this;unfold I8;decide) (W4 h).2;rw[Wt,Wt]at d;obtain⟨k,l⟩:=pD _ _ _ _ (pC (by omega)) (pC (by omega)) (pW (s:=s)) (pW (s:=s')) (W4 d).2;have k1:=zd (by omega) (by omega) j;have o:=zd (by omega) (by omega) k;have p:=CL (λx hx=>h1 x (by simp[hx])) (λx hx=>h2 x (by simp[hx])) l;obtain⟨m,n⟩:=g;obtain⟨a,b⟩:=g';simp only at e f a3 i k1 o;rw[p,show m=a by omega,show n=b by omega]
theorem K3{n n':Nat}{s s'}(hn:n<100)(a:n'<100)(h1:sw s)(h2:sw s')(h:om n s=om n' s'):n=n'/\s=s':=by
 unfold om at h;obtain⟨b,c⟩:=pD _ _ _ _ (pC hn) (pC a) (pW (s:=s)) (pW (s:=s')) h;exact⟨zd hn a b,CL h1 h2 c⟩
open iF
noncomputable def fP(T:aw)(tb:Nat->oc)(p0:qX)(n:Nat)(s:List eW):Out:=SH T (tb n) (Rl p0 s)
structure R5 (T:aw) (tb:Nat->oc) (p0:qX) (Φ:Nat->Nat->List eW->Prop):Prop where
 node:∀ {u n s},Φ u n s->(n:Int)<T.nodes
 small:∀ {u n s},Φ u n s->sw s/\s.length<=1000
 step:∀ {u n s},Φ u n s->(fP T tb p0 n s).ec=[]\/((fP T tb p0 n s).ec.length<=1000/\fP T tb p0 n s=vk (Rl p0 s) (fP T tb p0 n s).I5.stack (fP T tb p0 n s).ec/\
  ∀a∈(fP T tb p0 n s).ec,∃b m:Nat,a=(b:Int)/\b<2*T.ah.length/\bx T b=(m:Int)/\∃u',u'<u/\Φ u' m (fP T tb p0 n s).I5.stack)
def Uf(cs:List Int):Int:=cs.foldl (λa c=>min (a+c) 1001) 0
def Th(ec:List Int)(cs:List Int):Int:=if ec=[] then 1 else Uf cs
def Rn(n:Nat)(o:Out)(vs:List PV)(c:Int):List PV:=[num n,num o.Ux,bm o.ec,.slice vs.length vs,flag false,num c]
inductive Good (T:aw) (tb:Nat->oc) (p0:qX) (Φ:Nat->Nat->List eW->Prop):PV->Nat->List eW->Int->Prop
 |mk {n:Nat} {s:List eW} {vs:List PV} {cs:List Int} {u:Nat}:Φ u n s->vs.length=(fP T tb p0 n s).ec.length->cs.length=(fP T tb p0 n s).ec.length->
   (∀i,i<(fP T tb p0 n s).ec.length->Good T tb p0 Φ (vs.getD i .any) (bx T ((fP T tb p0 n s).ec.getD i 0).toNat).toNat (fP T tb p0 n s).I5.stack (cs.getD i 0))->
   Good T tb p0 Φ (.cH (Rn n (fP T tb p0 n s) vs (Th (fP T tb p0 n s).ec cs)) 0) n s (Th (fP T tb p0 n s).ec cs)
section
variable {T:aw} {tb:Nat->oc} {p0:qX} {Φ:Nat->Nat->List eW->Prop}
theorem Good.state{v}{n:Nat}{s}{c:Int}(h:Good T tb p0 Φ v n s c):∃u,Φ u n s:=by
 cases h with
 |mk h _ _ _=>exact⟨_,h⟩
theorem Good.pure{v}{n:Nat}{s}{c:Int}(h:Good T tb p0 Φ v n s c):IsPure v:=by
 induction h with
 | @mk n s vs cs u _ h1 _ _ ih=>
  haveI:aM vs:=⟨λi x hx=>by
   have hlt:=(Vf.1 hx).1;have:=ih i (by rw[<-h1];exact hlt);rw[Qo,hx]at this;exact this⟩
  unfold Rn
  infer_instance
theorem Good.parts{v}{n:Nat}{s}{c:Int}(h:Good T tb p0 Φ v n s c):∃vs cs,v= .cH (Rn n (fP T tb p0 n s) vs c) 0/\vs.length=(fP T tb p0 n s).ec.length/\cs.length=(fP T tb p0 n s).ec.length/\c=Th (fP T tb p0 n s).ec cs/\
  ∀i,i<(fP T tb p0 n s).ec.length->Good T tb p0 Φ (vs.getD i .any) (bx T ((fP T tb p0 n s).ec.getD i 0).toNat).toNat (fP T tb p0 n s).I5.stack (cs.getD i 0):=by
 cases h with
 | @mk _ _ vs cs u h1 h2 a b=>exact⟨vs,cs,rfl,h2,a,rfl,b⟩
inductive S0 (T:aw) (tb:Nat->oc) (p0:qX):Nat->List eW->Nat->List eW->Prop
 |one {n m:Nat} {s:List eW} {a:Int}:a∈(fP T tb p0 n s).ec->bx T a.toNat=(m:Int)->S0 T tb p0 n s m (fP T tb p0 n s).I5.stack
 |more {n m:Nat} {s:List eW} {a:Int} {n':Nat} {s':List eW}:S0 T tb p0 n' s' n s->a∈(fP T tb p0 n s).ec->bx T a.toNat=(m:Int)->S0 T tb p0 n' s' m (fP T tb p0 n s).I5.stack
theorem R5.one(R:R5 T tb p0 Φ){u n m:Nat}{s}{a:Int}(h:Φ u n s)(ha:a∈(fP T tb p0 n s).ec)(hm:bx T a.toNat=(m:Int)):∃u',u'<u/\Φ u' m (fP T tb p0 n s).I5.stack:=by
 rcases R.step h with h0|⟨_,_,h2⟩
 ·rw[h0]at ha;cases ha
 ·obtain⟨b,m',rfl,_,c,u',d,e⟩:=h2 a ha;rw[Vi,c]at hm;have:m'=m:=by omega
  subst this;exact⟨u',d,e⟩
end
end
section
open Go.RowKit cm Mem
section
variable {P:Program} {kt:TypeId}
variable {t:cd} {σ:bH} {o:Oper}
end
open Net iF
section
variable {T:aw} {k x:Int} {d:Nat} {st:Nat->Int} {p0:qX}
end
theorem xK{α:Type}[DecidableEq α]:∀(l m:List α),l.Nodup->(∀a∈l,a∈m)->l.length<=m.length
 | [],m,_,_=>We _
 |a::l,m,hn,h=>by
  have ha:=h a (by simp);rw[Wv]at hn;have h2:=xK l (m.erase a) hn.2 (λb hb=>(List.mem_erase_of_ne (λe=>hn.1 (by rw[<-e];exact hb))).2 (h b (by simp[hb])));rw[List.length_erase_of_mem ha]at h2;have:=List.length_pos_of_mem ha;simp only[VI];omega
section
variable {T:aw} {k x:Int} {d:Nat} {st:Nat->Int} {p0:qX}
end
structure TJ (T:aw) (tb:Nat->oc) (p0:qX) (Ψ:Nat->List eW->Prop):Prop where
 node:∀ {n s},Ψ n s->(n:Int)<T.nodes
 small:∀ {n s},Ψ n s->sw s/\s.length<=1000
 step:∀ {n s},Ψ n s->(fP T tb p0 n s).ec=[]\/((fP T tb p0 n s).ec.length<=1000/\fP T tb p0 n s=vk (Rl p0 s) (fP T tb p0 n s).I5.stack (fP T tb p0 n s).ec/\
  ∀a∈(fP T tb p0 n s).ec,∃b m:Nat,a=(b:Int)/\b<2*T.ah.length/\bx T b=(m:Int)/\Ψ m (fP T tb p0 n s).I5.stack)
abbrev S1:=List (Nat×Nat×List eW)
section
variable (T:aw) (tb:Nat->oc) (p0:qX) (Ψ:Nat->List eW->Prop)
abbrev RS:=Good T tb p0 λ_=>Ψ
def T0(ks:List (List UInt8))(n:Nat)(s:List eW):Prop:=∀a∈(fP T tb p0 n s).ec,om (bx T a.toNat).toNat (fP T tb p0 n s).I5.stack∈ks
def PJ(op:S1)(ks:List (List UInt8))(n:Nat)(s:List eW)(v:PV):Prop:=((∃c,RS T tb p0 Ψ v n s c)/\T0 T tb p0 ks n s)\/∃i,(i,n,s)∈op/\v= .ptr (i+8) 0
structure Gl (op:S1) (kv:List (List UInt8×PV)):Prop where
 S7:∀e∈kv,∃n s,Ψ n s/\e.1=om n s/\PJ T tb p0 Ψ op (kv.map (·.1)) n s e.2
 nodup:(kv.map (·.1)).Nodup
end
section
variable {T:aw} {tb:Nat->oc} {p0:qX} {Ψ:Nat->List eW->Prop}
theorem Gl.Uz{U:List (Nat×List eW)}(g:∀ {n s},Ψ n s->(n,s)∈U){op}{kv:List (List UInt8×PV)}(h:Gl T tb p0 Ψ op kv):kv.length<=U.length:=by
 have key:∀kv:List (List UInt8×PV),(∀e∈kv,∃n s,Ψ n s/\e.1=om n s)->∃a:List (Nat×List eW),a.map (λx=>om x.1 x.2)=kv.map (·.1)/\∀x∈a,x∈U:=λkv=>by
  induction kv with
  |nil=>intro _;exact⟨[],rfl,λx hx=>by cases hx⟩
  |cons e kv ih=>
   intro he;obtain⟨n,s,h1,h2⟩:=he e (by simp);obtain⟨a,b,f⟩:=ih (λe h=>he e (by simp[h]));exact⟨(n,s)::a,by simp[b,h2],λx hx=>by
    rcases V9.1 hx with rfl|hx
    ·exact g h1
    ·exact f x hx⟩
 obtain⟨a,h1,h2⟩:=key kv (λe he=>by
  obtain⟨n,s,h1,h2,_⟩:=h.S7 e he;exact⟨n,s,h1,h2⟩)
 have hn:=h.nodup;rw[<-h1]at hn;have d:a.Nodup:=by
  unfold List.Nodup at hn ⊢;rw[WO]at hn;exact hn.imp λc e=>c (by rw[e])
 have:=xK a U d h2;have b:=V1 List.length h1;simp only[Wf]at b;omega
theorem Gl.Q8(R:TJ T tb p0 Ψ)(b:T.nodes<=12){op}{kv:List (List UInt8×PV)}(h:Gl T tb p0 Ψ op kv){n:Nat}{s}(a:Ψ n s){v}(hv:(om n s,v)∈kv):PJ T tb p0 Ψ op (kv.map (·.1)) n s v:=by
 obtain⟨e,s1,h1,h2,c⟩:=h.S7 _ hv;have d:=R.node h1;have a2:=R.node a;obtain⟨rfl,rfl⟩:=K3 (by omega) (by omega) (R.small a).1 (R.small h1).1 h2;exact c
theorem Gl.all(R:TJ T tb p0 Ψ)(f:T.nodes<=12){kv:List (List UInt8×PV)}(h:Gl T tb p0 Ψ [] kv){n m:Nat}{s s'}(hb:S0 T tb p0 n s m s'):Ψ n s->om n s∈kv.map (·.1)->Ψ m s'/\om m s'∈kv.map (·.1):=by
 have one:∀ {n m:Nat} {s:List eW} {a:Int},Ψ n s->om n s∈kv.map (·.1)->a∈(fP T tb p0 n s).ec->bx T a.toNat=(m:Int)->Ψ m (fP T tb p0 n s).I5.stack/\om m (fP T tb p0 n s).I5.stack∈kv.map (·.1):=λ{n m s a} d hk ha hm=>by
  obtain⟨e,he,g⟩:=Vv.1 hk;have c:=h.Q8 R f d (v:=e.2) (by rw[<-g];exact he);refine⟨?_,?_⟩
  ·rcases R.step d with h0|⟨_,_,h2⟩
   ·rw[h0]at ha;cases ha
   ·obtain⟨b,m',rfl,_,j,k⟩:=h2 a ha;rw[Vi,j]at hm;have:m'=m:=by omega
    subst this;exact k
  ·rcases c with⟨_,c⟩|⟨i,c,_⟩
   ·have:=c a ha;rwa [hm,Vi]at this
   ·cases c
 induction hb with
 |one ha hm=>intro h1 h2;exact one h1 h2 ha hm
 |more _ ha hm ih=>
  intro h1 h2;obtain⟨c,l⟩:=ih h1 h2;exact one c l ha hm
end
theorem ti{P:Program}{N L:Nat}{id:Nat}{l:List Oper}{y st}{Q a:Exit->St->Prop}(t':cd)(σ':bH)(hm:P.follows .mixedOrders=true)(b:∀s,W P N L y s a->Q .normal s)(h:WA P N L l.toArray l.length (Array.replicate l.length false) st (λs=>s.σ=σ'/\Sub s.t t'))(c:W P N L y ⟨t',σ'⟩ a):W P N L (.region id l.toArray true) st Q:=
 AG hm (h.mono λs hs=>by
  obtain⟨t,σ⟩:=s;obtain⟨h1,h2⟩:=hs;subst h1;exact b _ (gQ h2 c))
end
section
open Go.RowKit cm Mem
section
variable {P:Program} {σ:bH} {t:cd} {o:Oper}
theorem PE{ty e h:Nat}{x b}{L M:List Nat}{f}{c:Int}(ho:o.op= .slice ty x none (some b) none)(he:uX P ty=some (e,1))(hx:aI t x=some (cE L))(d:aI t b=some (.raw (.int f c)))(a:c=(h:Int))(hl:h<=L.length)(hM:L.take h=M):bE P σ t o (cE M):=by
 have:=IY (σ:=σ) ho he hx d (by simp[ei]) a hl;have e:=uj L 0 h hl;simp only[Yq,Zf,List.drop_zero]at e;rw[e,hM]at this;exact this
theorem sq{ty e l:Nat}{x lo}{L M:List Nat}{k}{li:Int}(ho:o.op= .slice ty x (some lo) none none)(he:uX P ty=some (e,1))(hx:aI t x=some (cE L))(b:aI t lo=some (.raw (.int k li)))(a:li=(l:Int))(hl:l<=L.length)(hM:L.drop l=M):bE P σ t o (cE M):=by
 have:=yH (σ:=σ) ho he hx b (by simp[ei]) a hl;rw[uj L l L.length (Vh _),V2 (by simp),hM]at this;exact this
end
section
variable {σ:bH} {t:cd} {o:Oper}
theorem MA{x}{L:List Nat}(ho:o.op= .convert 89 9 x)(hx:aI t x=some (cE L)):bE prog σ t o (.raw (.string (strOfNums (L.map Int.ofNat)))):=by
 intro F base E ρ w f _ hT;have h1:=aB f hT hx;have hr:(convert 89 9 (ρ x)).run prog w= .ok (.string (strOfNums (L.map Int.ofNat))) w:=by
  unfold cE at h1;generalize hn:L.length=n at h1;generalize e:ei L=xs at h1;generalize ρ x=z at h1;cases h1 with
  |cg=>
   have:L=[]:=Vy hn;subst this;rw[run_convert_bytes_nil w 89 5 Tryz.underlying89 Tryz.underlying5 0 0 9 Tryz.underlying9]
   rfl
  |empty a c _=>
   have:L=[]:=Vy hn;subst this;rw[run_convert_bytes_string w 89 9 5 _ 0 c Tryz.underlying89 Tryz.underlying5 Tryz.underlying9];simp[Conv.bytesToString]
   rfl
  |slice b off _ c cs _ h0 h1 h2 hb hM hc hl hr=>
   subst e;refine run_convert_bytes_arg w 89 5 Tryz.underlying89 Tryz.underlying5 b off n c _ (by rw[Wf,hn]) (λi hi=>?_) 9 Tryz.underlying9;have d:i<cs.length:=by rw[hl,lr];omega
   have g:=dt (hr i cs[i] _ (Vm d) (rL L i (by omega)));rw[hc i cs[i] (Vm d),g];simp[Qo,show i<L.length by omega]
 simp only[execOp,ho,Sem.run_bind,hr,Result.andThen_ok,Sem.run_pure];exact bA (.raw _)
end
theorem Nl(L:List Nat):Can prog 154 [cE L,cE L] (· =flag true):=by
 exact aR func154 I ntmps154 I<|aj (.a 1 I<|.k [0,1] I)<|aj (.a 1 I<|.v (MA I I) I<|.a 1 I<|.v (MA I I) I<|.v (MN I I I (show((strOfNums (L.map Int.ofNat)).toList==(strOfNums (L.map Int.ofNat)).toList)=true from beq_self_eq_true _)) I<|.a 1 I<|.k [4] I)<|aA<|jF I aQ.pure rfl
theorem cN(s n:Nat)(T:List Nat)(hs:1<=s)(f:s<=4)(hn:n<256 ^ s)(hT:T.length<=1000)(A0 c d e:Option cj):aD prog 153 [num s,.ptr 4 0] [A0,c,d,e,some (.cells 89 [cE (fw s n++T)])] (λr σ'=>r=num n/\σ'=[A0,c,d,e,some (.cells 89 [cE T])]):=by
 have b:(fw s n++T).length=s+T.length:=by rw[Vu,bK]
 have a:min (s:Int) ((fw s n++T).length:Int)=(s:Int):=by rw[b];omega
 have h1:(fw s n++T).take s=fw s n:=by rw[Xq (by rw[bK];exact Vh _),V2 (by rw[bK];exact Vh _)]
 have h2:(fw s n++T).drop s=T:=by rw[XS (by rw[bK];exact Vh _),Wi (by rw[bK];exact Vh _)];rfl
 have hu:=CZ (fw s n) (by rw[bK];exact hs) (by rw[bK];exact f) (fX _ _);rw[Qq hn]at hu;have hp:(256:Nat) ^ s<=256 ^ 4:=YA (by decide) f;generalize fw s n++T=X at*;refine aV func153 I ntmps153 I<|aj (.a 1 I<|.k [0,1] I)<|aj (.a 4 I<|.v (wh I I I a) I<|.v (PE I (WN I) I I I (by omega) h1) I<|.c rfl (hu) I<|.a 5 I<|.k [0,1,4] I)<|aK<|av 4 I<|aZ (wh I I I a) I<|aZ (sq I (WN I) I I I (by omega) h2) I<|av 1 I<|aF [4] I ?_;exact aj (.a 1 I<|.v (eE I Tryz.underlying221 Tryz.underlying3 rfl (lh _ (by omega))) I<|.a 1 I<|.k [3] I)<|aA<|⟨_,V5 I,rfl,rfl⟩
def yT(a:cC):Nat->List PV
 |0=>[num 0,num 0,num 0,flag false,.own 2,.raw (.slice none 0 0)]
 |_+1=>[num a.cn,num a.seq,num a.gM,flag a.over,.own 2,.raw (.slice none 0 0)]
def nc:List PV:=[num 0,num 0,num 0,flag false,.raw (.slice none 0 0),.raw (.slice none 0 0)]
instance:aM nc:=by unfold nc;infer_instance
theorem Fe(a:cC)(k:Nat):ax [0,1,2] (yT a k) (yT a k):=by
 cases k<;>exact WU<|WU<|WU<|WU<|WU<|WU Wp
def Pq(a:cC)(k:Nat):bH:=[some (.cells 141 nc),some (.cells 141 (yT a k)),some (.row 131 3 (a.cU.take (k - 1)).length (dZ (a.cU.take (k - 1))))]
def UF(a:cC):List Rc:=pa a++[⟨4,[wx (preB a),wz (preB a)]⟩]
theorem O0(a:cC):∀r∈UF a,r.Ok:=λr hr=>by
 rcases W5.1 hr with hr|hr
 ·exact zV a r hr
 ·rw[WW]at hr;subst hr;have h:=y6 (preB a);exact⟨(by decide:0<4),(by decide:4<256),by simp,.cons (by omega) (.cons (by omega) .nil)⟩
theorem vA(a:cC):(UF a).length=a.cU.length+2:=by simp[UF,pa]
theorem OZ(a:cC){k:Nat}(h:k<(UF a).length):(k=0/\(UF a).getD k EA=iO a)\/(∃j,k=j+1/\j<a.cU.length/\(UF a).getD k EA=jL (a.cU.getD j dK))\/(k=a.cU.length+1/\((UF a).getD k EA).k=4):=by
 rw[vA]at h;cases k with
 |zero=>exact .inl ⟨rfl,rfl⟩
 |succ j=>
  rcases Ww j a.cU.length with hj|hj
  ·refine .inr (.inl ⟨j,rfl,hj,?_⟩);simp[UF,pa,Qo,Vl,hj]
  ·have:j=a.cU.length:=by omega
   subst this;refine .inr (.inr ⟨rfl,?_⟩);simp[UF,pa,Qo]
theorem KG(a:cC)(h:a.Ok):Can prog 112 [cE (l9 a)] (· = .tuple [dP a,num 0]):=by
 have B:=h.len;have G:=rm a;have n:=u4 (l9 a) (uY a) (by omega) (CK (preB a));have d:=qx (O0 a) (by rw[vA];omega);rw[show je (UF a)=l9 a from(G3 a).symm]at d;have t:=rE a h;have v:=vA a;refine aR func112 I ntmps112 I<|aK<|av 2 I<|aF [0,2] I ?_;refine an<|aj (.a 1 I<|.c rfl (n) I<|.a 1 I<|.k [0,2,15] I)<|ak I (λhc=>?_) (λhc=>?_)
 ·exact absurd hc (by decide)
 ·refine ao<|aj (.a 1 I<|.c rfl (d) I<|.a 5 I<|.k [0,2,4,5] I)<|an<|aj (.a 2 I<|.k [0,2,4,23] I)<|ak I (λhc=>?_) (λhc=>?_)
  ·exact absurd hc (by decide)
  ·refine ao<|aK<|av 1 I<|aF [0,2,4,6] I ?_;refine an<|cO 1 4 131 3 I I ?_;refine aj (.a 3 I<|.k [0,2,6,25,26,27] I)<|ay<|eX [0,2,6,25,26,27] I<|bq (λr s=>∃k,k<=(UF a).length/\r=(UF a).length - k/\s=⟨[(0,cE (l9 a)),(2,.ptr 0 0),(6,.ptr 1 0),(25,wJ (UF a)),(26,num (UF a).length),(27,num k)],Pq a k⟩) (UF a).length ⟨0,by omega,by omega,rfl⟩ ?_;rintro r s ⟨k,hk,rfl,rfl⟩;refine aj (.a 1 I<|.k [0,2,6,25,26,27,28] I)<|an<|ak I (λhc=>?_) (λhc=>?_)
   ·have hlt:k<(UF a).length:=by have:=Vg hc;omega
    have b:=OZ a hlt;have o:=Ct (UF a) k hlt;generalize (UF a).getD k EA=x at b o;refine ao<|an<|ay<|aK<|aZ (aX (k*2) I) I<|aZ (gr I (o) I) I<|av 2 I<|aF [0,2,6,8,25,26,27] I ?_;refine aK<|av 4 I<|aF [0,2,6,8,9,25,26,27] I ?_;refine aj (.a 2 I<|.k [0,2,6,8,10,25,26,27] I)<|aj (.a 2 I<|.k [0,2,6,10,25,26,27,35] I)<|ay ?_;have⟨c1,f⟩:=dw (decide ((x.k:Int)=1));have⟨E,g⟩:=dw (decide ((x.k:Int)=2));have⟨F,l⟩:=dw (decide ((x.k:Int)=3));refine aj (.v (cT I (f)) I<|.a 1 I<|.k [0,2,6,10,25,26,27,35,36] I)<|ak I (λhc=>?_) (λhc=>?_)
    ·subst hc;obtain⟨rfl,rfl⟩:k=0/\x=iO a:=by
      have:=Vg f;rcases b with h|⟨j,_,_,rfl⟩|⟨_,h⟩
      ·exact h
      ·exact absurd this (by show ¬((2:Nat):Int)=1;decide)
      ·rw[h]at this;exact absurd this (by decide)
     have w:decide (((a.over.toNat:Nat):Int)=1)=a.over:=by cases a.over<;>rfl
     have D:=h.seq1;have A:=h.gM;have C:=h.cn;refine dY (σ':=[some (.cells 141 nc),some (.cells 141 (yT a 0)),some (.row 131 3 0 []),some (.cells 220 (nQ (iO a))),some (.cells 89 [cE (fw 2 a.cn++(fw 4 a.seq++(fw 2 a.gM++(fw 1 a.over.toNat++[]))))])]) (by
      have e:(iO a).v=fw 2 a.cn++(fw 4 a.seq++(fw 2 a.gM++(fw 1 a.over.toNat++[]))):=by simp[iO]
      rw[<-e]
      rfl) ?_
     refine bp<|av 1 I<|br I I (VO (cN 2 a.cn _ (by decide) (by decide) (by omega) (by simp[bK]) _ _ _ _) (λr σ' h=>?_));obtain⟨rfl,rfl⟩:=h;refine av 1 I<|br I I (VO (cN 4 a.seq _ (by decide) (by decide) (by omega) (by simp[bK]) _ _ _ _) (λr σ' h=>?_));obtain⟨rfl,rfl⟩:=h;refine av 1 I<|br I I (VO (cN 2 a.gM _ (by decide) (by decide) (by omega) (by simp[bK]) _ _ _ _) (λr σ' h=>?_));obtain⟨rfl,rfl⟩:=h;refine av 1 I<|br I I (VO (cN 1 a.over.toNat _ (by decide) (by decide) (by cases a.over<;>decide) (by simp[bK]) _ _ _ _) (λr σ' h=>?_));obtain⟨rfl,rfl⟩:=h;refine aZ (cT I (w)) I<|av 8 I<|aF [0,2,6,25,26,27] I ?_;refine dY (σ':=[some (.cells 141 nc),some (.cells 141 (yT a 1)),some (.row 131 3 0 []),some (.cells 220 (nQ (iO a))),some (.cells 89 [cE []])]) I<|dM [0,1,2] (σ':=[some (.cells 141 nc),some (.cells 141 (yT a 1)),some (.row 131 3 0 [])]) (.c 0<|.c 2<|.c 6<|.c 25<|.c 26<|.c 27 .nil) (.kept rfl (.cells VT)<|.kept rfl (.cells (Fe a 1))<|.kept rfl (.row VT) .nil) I I ?_;have c:[some (cj.cells 141 nc),some (.cells 141 (yT a 1)),some (.row 131 3 0 [])]=Pq a (0+1):=rfl;refine aL (.v (aU I) I<|.a 1 I<|.k [0,2,6,25,26,27] I) ?_;rw[c];exact⟨(UF a).length - (_+1),by omega,_+1,by omega,rfl,rfl⟩
    ·subst hc;refine aj (.v (cT I (g)) I<|.a 1 I<|.k [0,2,6,10,25,26,27,35,51] I)<|ak I (λhc=>?_) (λhc=>?_)
     ·subst hc;obtain⟨j,rfl,hj,rfl⟩:∃j,k=j+1/\j<a.cU.length/\x=jL (a.cU.getD j dK):=by
       have:=Vg g;rcases b with⟨_,rfl⟩|h|⟨_,h⟩
       ·exact absurd this (by show ¬((1:Nat):Int)=2;decide)
       ·exact h
       ·rw[h]at this;exact absurd this (by decide)
      have⟨y,hy⟩:=dw (a.cU.getD j dK);have q:=h.ok (a.cU.getD j dK) (b9 hj);rw[hy]at q;obtain⟨H,_,J,_,K⟩:=q;have z:a.cU.take (j+1)=a.cU.take j++[y]:=by rw[<-hy];exact cL a.cU j dK hj
      have p:(a.cU.take j).length=j:=by rw[V8];omega
      rw[hy];refine dY (σ':=[some (.cells 141 nc),some (.cells 141 [num a.cn,num a.seq,num a.gM,flag a.over,.own 2,.raw (.slice none 0 0)]),some (.row 131 3 j (dZ (a.cU.take j))),some (.cells 220 (nQ (jL y))),some (.cells 89 [cE (fw 2 y.to++(fw 2 y.lk++(fw 2 y.co++[])))])]) (by
       have e:(jL y).v=fw 2 y.to++(fw 2 y.lk++(fw 2 y.co++[])):=by simp[jL]
       rw[<-e];show _=[_,_,some (cj.row _ 3 j (dZ (a.cU.take j))),_,_];rw[show some (cj.row 131 3 j (dZ (a.cU.take j)))=some (cj.row 131 3 (a.cU.take j).length (dZ (a.cU.take j))) by rw[p]]
       rfl) ?_
      refine gQ (aJ (ks:=[0,2,6,10,25,26,27]) I)<|ti _ _ mixed (λ_ h=>h) (UD [0,2,6,10,25,26,27] [0,2,6,25,26,27] [3,5,7,10,12] [(0,4),(0,4),(0,1),(0,1),(0,2),(1,1),(0,3),(2,1),(3,1),(3,1),(3,1),(4,1),(4,1)] [(0,_),(2,_),(6,_),(10,_),(25,_),(26,_),(27,_),(53,.ptr 1 4),(54,.own 2),(55,.func 153 [.ptr 4 0]),(56,num y.to),(57,.func 153 [.ptr 4 0]),(58,num y.lk),(59,.func 153 [.ptr 4 0]),(60,num y.co),(61,.agg (jk y)),(62,.slice 1 (jk y)),(63,.own 5),(64,.ptr 1 4)] [_,[some (.cells 141 nc),some (.cells 141 [num a.cn,num a.seq,num a.gM,flag a.over,.own 2,.raw (.slice none 0 0)]),some (.row 131 3 j (dZ (a.cU.take j))),some (.cells 220 (nQ (jL y))),some (.cells 89 [cE (fw 2 y.lk++(fw 2 y.co++[]))])],[some (.cells 141 nc),some (.cells 141 [num a.cn,num a.seq,num a.gM,flag a.over,.own 2,.raw (.slice none 0 0)]),some (.row 131 3 j (dZ (a.cU.take j))),some (.cells 220 (nQ (jL y))),some (.cells 89 [cE (fw 2 y.co++[])])],[some (.cells 141 nc),some (.cells 141 [num a.cn,num a.seq,num a.gM,flag a.over,.own 2,.raw (.slice none 0 0)]),some (.row 131 3 j (dZ (a.cU.take j))),some (.cells 220 (nQ (jL y))),some (.cells 89 [cE []])],[some (.cells 141 nc),some (.cells 141 [num a.cn,num a.seq,num a.gM,flag a.over,.own 2,.raw (.slice none 0 0)]),none,some (.cells 220 (nQ (jL y))),some (.cells 89 [cE []]),some (.row 131 3 (j+1) (dZ (a.cU.take j)++jk y))],[some (.cells 141 nc),some (.cells 141 [num a.cn,num a.seq,num a.gM,flag a.over,.own 5,.raw (.slice none 0 0)]),none,some (.cells 220 (nQ (jL y))),some (.cells 89 [cE []]),some (.row 131 3 (j+1) (dZ (a.cU.take j)++jk y))]] 20 (by kernel_rfl) I I I I (UG 3 I<|UN rfl (UH rfl rfl ((cN 2 y.to _ (by decide) (by decide) (by omega) (by simp[bK]) _ _ _ _)) I)<|UG 1 I<|UN rfl (UH rfl rfl ((cN 2 y.lk _ (by decide) (by decide) (by omega) (by simp[bK]) _ _ _ _)) I)<|UG 1 I<|UN rfl (UH rfl rfl ((cN 2 y.co _ (by decide) (by decide) (by omega) (by simp) _ _ _ _)) I)<|UG 2 I<|UN rfl (UY rfl (bP I (VW I) I I I I ⟨by unfold maxLen;omega,by omega⟩) I)<|UG 1 I<|UN rfl (UW rfl rfl rfl (cG I) I)<|UT rfl)) ?_;refine dM [0,1,5] (σ':=[some (.cells 141 nc),some (.cells 141 (yT a (j+1))),some (.row 131 3 (j+1) (dZ (a.cU.take j)++jk y))]) (.c 0<|.c 2<|.c 6<|.c 25<|.c 26<|.c 27 .nil) (.kept rfl (.cells VT)<|.kept rfl (.cells (WU<|WU<|WU<|WU<|V0 (Ren.own (i:=2) I)<|WU Wp))<|.kept rfl (.row VT) .nil) I I ?_;have c:[some (cj.cells 141 nc),some (.cells 141 (yT a (j+1))),some (.row 131 3 (j+1) (dZ (a.cU.take j)++jk y))]=Pq a (j+1+1):=by
       unfold Pq;rw[Nat.add_sub_cancel,z];simp[dZ,p]
       rfl
      refine aL (.v (aU I) I<|.a 1 I<|.k [0,2,6,25,26,27] I) ?_;rw[c];exact⟨(UF a).length - (_+1),by omega,_+1,by omega,rfl,rfl⟩
     ·subst hc;refine aj (.v (cT I (l)) I<|.a 1 I<|.k [0,2,6,10,25,26,27,65] I)<|ak I (λhc=>?_) (λhc=>?_)
      ·subst hc;have:=Vg l;rcases b with⟨_,rfl⟩|⟨_,_,_,rfl⟩|⟨_,h⟩
       ·exact absurd this (by show ¬((1:Nat):Int)=3;decide)
       ·exact absurd this (by show ¬((2:Nat):Int)=3;decide)
       rw[h]at this;exact absurd this (by decide)
      ·subst hc;obtain rfl:k=a.cU.length+1:=by
        rcases b with⟨_,rfl⟩|⟨_,_,_,rfl⟩|⟨h,_⟩
        ·exact absurd rfl (Vj f)
        ·exact absurd rfl (Vj g)
        ·exact h
       refine dM [0,1,2] (σ':=Pq a (a.cU.length+1)) (.c 0<|.c 2<|.c 6<|.c 25<|.c 26<|.c 27 .nil) (.kept rfl (.cells VT)<|.kept rfl (.cells (Fe a _))<|.kept rfl (.row VT) .nil) I I ?_;have c:Pq a (a.cU.length+1)=Pq a (a.cU.length+1+1):=by
        unfold Pq;rw[show a.cU.length+1 - 1=a.cU.length by omega,show a.cU.length+1+1 - 1=a.cU.length+1 by omega,V2 (Vh _),V2 (by omega)]
        rfl
       refine ao<|aL (.v (aU I) I<|.a 1 I<|.k [0,2,6,25,26,27] I) ?_;rw[c];exact⟨(UF a).length - (_+1),by omega,_+1,by omega,rfl,rfl⟩
   ·have u:k=(UF a).length:=by have:=Vj hc;omega
    subst u;refine dY (σ':=[some (.cells 141 nc),some (.cells 141 [num a.cn,num a.seq,num a.gM,flag a.over,.own 2,.raw (.slice none 0 0)]),some (.row 131 3 a.cU.length (dZ a.cU))]) (by
     unfold Pq;rw[v,show a.cU.length+2 - 1=a.cU.length+1 by omega,V2 (by omega)]
     rfl) ?_
    refine mn 2 (σ':=[some (.cells 141 nc),some (.cells 141 [num a.cn,num a.seq,num a.gM,flag a.over,eG a.cU,.raw (.slice none 0 0)]),none]) (t':=[(0,cE (l9 a)),(2,.ptr 0 0),(6,.ptr 1 0)]) (blk:=.row 131 3 a.cU.length (dZ a.cU)) I ⟨rfl,rfl,λm hm=>by
     match m,hm with
     |0,_=>exact .inl rfl
     |1,_=>exact .inr ⟨_,_,rfl,rfl,.cells (.cons (.same _)<|.cons (.same _)<|.cons (.same _)<|.cons (.same _)<|.cons .own<|.cons (.same _) .nil)⟩
     |2,h=>exact absurd rfl h
     |_+3,_=>exact .inl rfl⟩ (.cons 0 rfl (.same _)<|.cons 2 rfl (.same _)<|.cons 6 rfl (.same _) .nil) ?_
    refine mn 1 (σ':=[some (.cells 141 nc),none,none]) (t':=[(0,cE (l9 a)),(2,.ptr 0 0),(6,.cH [num a.cn,num a.seq,num a.gM,flag a.over,eG a.cU,.raw (.slice none 0 0)] 0)]) (blk:=.cells 141 [num a.cn,num a.seq,num a.gM,flag a.over,eG a.cU,.raw (.slice none 0 0)]) I ⟨rfl,rfl,λm hm=>by
     match m,hm with
     |0,_=>exact .inl rfl
     |1,h=>exact absurd rfl h
     |2,_=>exact .inl rfl
     |_+3,_=>exact .inl rfl⟩ (.cons 0 rfl (.same _)<|.cons 2 rfl (.same _)<|.cons 6 rfl (.ptr 0) .nil) ?_
    refine bh<|an<|aj (.a 1 I<|.v (EX I (Vp (Zr (Vp aQ.pure<|Vp aQ.pure<|Vp aQ.pure<|Vp aQ.pure<|Vp aQ.pure<|Vp aQ.cg Wg)) Wg) (t)) I<|.a 5 I<|.k [0,2,6,11,12] I)<|aj (.a 5 I<|.c rfl (Nl _) I<|.a 2 I<|.k [2,6,91] I)<|ak I (λhc=>?_) (λhc=>?_)
    ·exact absurd hc (by decide)
    ·refine ao<|aK<|av 3 I<|aF [2,3] I ?_;exact aA<|⟨_,.tuple [dP a,num 0],V5 I,Yi (Vp (Zr (Vp aQ.pure<|Vp aQ.pure<|Vp aQ.pure<|Vp aQ.pure<|Vp aQ.pure<|Vp aQ.cg Wg)) (Vp aQ.pure Wg)),rfl⟩
inductive km where
 |df (node boot heard:Nat)
 |iU (kind boot:Nat) (a:cC)
def RO:List PV:=[num 0,num 0,num 0,flag false,.slice 0 [],.slice 0 []]
def B0:km->List PV
 | .df n b h=>[num 1,num n,num b,num h]++RO
 | .iU k b a=>[num k,num 0,num b,num 0]++dp a
def mb(m:km):PV:=.agg (B0 m)
def km.Ok:km->Prop
 | .df n b h=>n<64/\1<=b/\b<=1073741824/\h<=1073741824
 | .iU k b a=>(k=2\/k=3)/\1<=b/\b<=1073741824/\a.Ok
def oC:km->Rc
 | .df n b h=>⟨1,[]++fw 2 n++fw 4 b++fw 4 h⟩
 | .iU k b a=>⟨k,[]++fw 4 b++l9 a⟩
def rI(m:km):List Nat:=je [oC m]
theorem uh{m:km}(h:m.Ok):(oC m).Ok:=by
 cases m with
 |df n b h=>exact⟨by show(0:Nat)<1;decide,by show(1:Nat)<256;decide,by simp[oC,bK],((sr.nil.append (fX _ _)).append (fX _ _)).append (fX _ _)⟩
 |iU k b a=>
  have hk:k=2\/k=3:=h.1;have hl:=h.2.2.2.len;refine⟨by show 0<k;omega,by show k<256;omega,?_,(sr.nil.append (fX _ _)).append (uY _)⟩;simp only[oC,Vu,bK,rm];simp;omega
instance:aM RO:=by unfold RO;infer_instance
instance (m:km):aM (B0 m):=by cases m<;>unfold B0<;>(first|unfold RO|unfold dp)<;>simp only[Wt,WJ]<;>infer_instance
instance (m:km):IsPure (mb m):=by unfold mb;infer_instance
theorem UC(a lo hi:Int)(h1:lo<=a)(h2:a<=hi):Can prog 26 [num a,num lo,num hi] (· =flag true):=by
 exact aR func26 I ntmps26 I<|aj (.a 1 I<|.k [0,1,2] I)<|aj (.a 2 I<|.v (cT I ((VM h1))) I<|.a 3 I<|.v (cT I ((VM h2))) I<|.a 2 I<|.k [6] I)<|aA<|jF I aQ.pure rfl
theorem G2:Can prog 155 [.agg RO] (· =flag true):=by
 unfold RO;exact aR func155 I ntmps155 I<|aj (.a 2 I<|.k [1] I)<|aj (.a 31 I<|.k [2] I)<|aA<|jF I aQ.pure rfl
theorem tC(n b h:Nat)(hm:(km.df n b h).Ok):Can prog 113 [mb (.df n b h)] (· =flag true):=by
 obtain⟨h1,h2,e,f⟩:=hm;have a:=UC b 1 1073741824 (by omega) (by omega);have c:=UC n 0 63 (by omega) (by omega);have d:=UC h 0 1073741824 (by omega) (by omega);refine aR func113 I ntmps113 I<|aj (.a 2 I<|.k [1] I)<|an<|aj (.a 2 I<|.c rfl (a) I<|.a 1 I<|.k [1,6] I)<|ak I (λhc=>?_) (λhc=>?_)
 ·exact absurd hc (by decide)
 ·refine ao<|an<|aj (.a 2 I<|.k [1,8] I)<|ay<|aj (.a 2 I<|.k [1,8,9] I)<|ak I (λhc=>?_) (λhc=>?_)
  ·exact aj (.a 2 I<|.c rfl (c) I<|.a 3 I<|.c rfl (d) I<|.a 4 I<|.c rfl (G2) I<|.a 2 I<|.k [2] I)<|aA<|jF I aQ.pure rfl
  ·exact absurd hc (by decide)
theorem tB(k b:Nat)(a:cC)(hm:(km.iU k b a).Ok):Can prog 113 [mb (.iU k b a)] (· =flag true):=by
 obtain⟨h1,h2,f,d⟩:=hm;have e:=UC b 1 1073741824 (by omega) (by omega);have c:=dI a d;refine aR func113 I ntmps113 I<|aj (.a 2 I<|.k [1] I)<|an<|aj (.a 2 I<|.c rfl (e) I<|.a 1 I<|.k [1,6] I)<|ak I (λhc=>?_) (λhc=>?_)
 ·exact absurd hc (by decide)
 ·refine ao<|an<|aj (.a 2 I<|.k [1,8] I)<|ay<|aj (.a 2 I<|.k [1,8,9] I)<|ak I (λhc=>?_) (λhc=>?_)
  ·exact absurd (Vg hc) (by rcases h1 with rfl|rfl<;>decide)
  ·refine an<|aj (.a 2 I<|.k [1,8,24] I)<|ak I (λhc=>?_) (λhc=>?_)
   ·refine ao<|ak I (λhc=>?_) (λhc=>?_)
    ·exact aj (.a 11 I<|.c rfl (c) I<|.a 2 I<|.k [2] I)<|aA<|jF I aQ.pure rfl
    ·refine ao<|aj (.a 1 I<|.k [2] I)<|aA ?_;exfalso;rcases h1 with rfl|rfl<;>simp_all
   ·refine aL (.a 2 I<|.k [1,24] I)<|ak I (λhc=>?_) (λhc=>?_)
    ·exact aj (.a 11 I<|.c rfl (c) I<|.a 2 I<|.k [2] I)<|aA<|jF I aQ.pure rfl
    ·refine ao<|aj (.a 1 I<|.k [2] I)<|aA ?_;exfalso;rcases h1 with rfl|rfl<;>simp_all
theorem H4(n b h:Nat)(hm:(km.df n b h).Ok):Can prog 119 [mb (.df n b h)] (· = .tuple [cE (rI (.df n b h)),num 0]):=by
 have hv:=tC n b h hm;have a:=uh hm;obtain⟨h1,h2,c,d⟩:=hm;refine aR func119 I ntmps119 I<|aj (.a 3 I<|.k [1] I)<|an<|aj (.a 1 I<|.c rfl (hv) I<|.a 1 I<|.k [1,9] I)<|ak I (λhc=>?_) (λhc=>?_)
 ·exact absurd hc (by decide)
 ·refine ao<|aj (.a 1 I<|.k [1,4] I)<|an<|aj (.a 3 I<|.k [1,4,12] I)<|ak I (λhc=>?_) (λhc=>?_)
  ·refine aL (.v (tf (aP I) Zw) I<|.a 2 I<|.v (eE I Tryz.underlying3 Tryz.underlying221 rfl (lF n (by omega))) I<|.c rfl (q9 [] n 2 (by decide) (by decide) (by omega) (by simp)) I<|.a 4 I<|.k [1,4] I)<|aj (.a 3 I<|.v (eE I Tryz.underlying3 Tryz.underlying221 rfl (lF b (by omega))) I<|.c rfl (q9 ([]++fw 2 n) b 4 (by decide) (by decide) (by omega) (by simp[bK])) I<|.a 4 I<|.k [1,4] I)<|an<|aj (.a 3 I<|.k [1,4,31] I)<|ak I (λhc=>?_) (λhc=>?_)
   ·refine aL (.a 3 I<|.v (eE I Tryz.underlying3 Tryz.underlying221 rfl (lF h (by omega))) I<|.c rfl (q9 ([]++fw 2 n++fw 4 b) h 4 (by decide) (by decide) (by omega) (by simp[bK])) I<|.a 4 I<|.k [1,4] I)<|aj (.a 5 I<|.c rfl (uO [oC (.df n b h)] (by simpa using a) (by simp)) I<|.a 4 I<|.k [2,3] I)<|aA<|jF I aQ.pure rfl
   ·exact absurd hc (by decide)
  ·exact absurd hc (by decide)
theorem H3(k b:Nat)(a:cC)(hm:(km.iU k b a).Ok):Can prog 119 [mb (.iU k b a)] (· = .tuple [cE (rI (.iU k b a)),num 0]):=by
 have hv:=tB k b a hm;have e:=uh hm;obtain⟨h1,h2,j,f⟩:=hm;have d:=rE a f;have vf:=rm a;have g:=f.len;have c:decide ((k:Int)=1)=false:=VA (by rcases h1 with rfl|rfl<;>decide);refine aR func119 I ntmps119 I<|aj (.a 3 I<|.k [1] I)<|an<|aj (.a 1 I<|.c rfl (hv) I<|.a 1 I<|.k [1,9] I)<|ak I (λhc=>?_) (λhc=>?_)
 ·exact absurd hc (by decide)
 ·refine ao<|aj (.a 1 I<|.k [1,4] I)<|an<|aj (.a 2 I<|.v (cT I (c)) I<|.k [1,4,12] I)<|ak I (λhc=>?_) (λhc=>?_)
  ·cases hc
  ·refine ao<|aK<|aZ (tf (aP I) Zw) I<|av 2 I<|aZ (eE I Tryz.underlying3 Tryz.underlying221 rfl (lF b (by omega))) I<|br I I (VO (wR [] b 4 (by decide) (by decide) (by omega) (by simp)) (λr σ' h=>?_));obtain⟨rfl,rfl⟩:=h;refine av 4 I<|aF [1,4] I ?_;refine an<|aj (.a 2 I<|.v (cT I (c)) I<|.k [1,4,31] I)<|ak I (λhc=>?_) (λhc=>?_)
   ·cases hc
   ·refine aj (.a 2 I<|.c rfl (d) I<|.a 5 I<|.k [1,4,5] I)<|bp<|av 2 I<|bW (bP I (VW I) I I I (show(ei (l9 a)).length=(l9 a).length*1 by rw[lr,Xt]) ⟨by unfold maxLen;simp[bK];omega,by simp[bK];omega⟩) I<|av 1 I<|aF [1,4] I ?_;refine dM [1] (σ':=[some (.row 5 1 (oC (.iU k b a)).v.length (ei (oC (.iU k b a)).v))]) (.c 1<|.cons 4 I (Ren.own (i:=0) I) .nil) (.kept rfl (.eZ (by simp[oC]) (by simp[oC,ei])) .nil) I I<|oK (t':=[(1,.cH (B0 (.iU k b a)) 0),(4,cE (oC (.iU k b a)).v)]) (.cons 1 I aQ.pure<|.cons 4 I (Yw rfl W9) .nil) ?_;exact aj (.a 5 I<|.c rfl (uO [oC (.iU k b a)] (by simpa using e) (by simp)) I<|.a 4 I<|.k [2,3] I)<|aA<|jF I aQ.pure rfl
theorem si(v:List Nat)(i s n:Nat)(hM:(v.drop i).take (i+s - i)=fw s n)(hi:i+s<=v.length)(h1:1<=s)(a:s<=4)(hn:n<256 ^ s)(hv:v.length<=100000):Can prog 109 [num i,num s,.cH [cE v] 0] (· =num n):=by
 have hu:=CZ (fw s n) (by rw[bK];exact h1) (by rw[bK];exact a) (fX _ _);rw[Qq hn]at hu;have hp:(256:Nat) ^ s<=256 ^ 4:=YA (by decide) a;exact aR func109 I ntmps109 I<|aj (.a 1 I<|.k [0,1,2] I)<|aj (.a 4 I<|.v (aU I (hc:=(show(i:Int)+(s:Int)=((i+s:Nat):Int) by omega))) I<|.v (yG I (WN I) I I I I I (by omega) hi hM) I<|.c rfl (hu) I<|.a 5 I<|.k [6] I)<|aj (.a 1 I<|.v (eE I Tryz.underlying221 Tryz.underlying3 rfl (lh _ (by omega))) I<|.a 1 I<|.k [5] I)<|aA<|jF I aQ.pure rfl
theorem tM(n b h:Nat)(hm:(km.df n b h).Ok):Can prog 69 [cE (rI (.df n b h))] (· = .tuple [mb (.df n b h),num 0]):=by
 have hv:=tC n b h hm;have f:=uh hm;have c:=qx (l:=[oC (.df n b h)]) (by simpa using f) (by simp);obtain⟨h1,h2,m,o⟩:=hm;obtain⟨v,d⟩:∃v,(oC (.df n b h)).v=v:=⟨_,rfl⟩;have a:v=fw 2 n++(fw 4 b++fw 4 h):=by rw[<-d];simp[oC]
 have g:v.length=10:=by rw[a];simp[bK]
 have i:=si v 0 2 n (by rw[a];simp[Xq,bK,V2]) (by omega) (by decide) (by decide) (by omega) (by omega);have j:=si v 2 4 b (by rw[a];simp[XS,Xq,bK,V2,Wi]) (by omega) (by decide) (by decide) (by omega) (by omega);have k:=si v 6 4 h (by rw[a,show 6=(fw 2 n).length+((fw 4 b).length+0) by simp[bK],YF,YF];simp[bK,V2,Wi]) (by omega) (by decide) (by decide) (by omega) (by omega);have e:decide ((v.length:Int)≠10)=false:=by rw[g];rfl
 refine aR func69 I ntmps69 I<|aK<|av 2 I<|aF [0,2] I ?_;refine aj (.a 1 I<|.c rfl (c) I<|.a 5 I<|.k [2,4,5] I)<|an<|aj (.a 7 I<|.k [2,4,20] I)<|ak I (λhc=>?_) (λhc=>?_)
 ·exact absurd hc (by simp)
 ·refine ao<|aK<|av 1 I<|aZ (aX (0) I (Xg 0) (show(0:Int)<1 from by decide)) I<|av 5 I<|aF [2,4,6] I ?_;refine aK<|av 1 I<|aZ (aX (0) I (Xg 0) (show(0:Int)<1 from by decide)) I<|av 4 I<|aF [2,6,7] I ?_;rw[d];refine aj (.a 2 I<|.k [2,6,7,8] I)<|an<|aj (.a 2 I<|.k [2,6,7,8,33] I)<|ay<|aj (.a 2 I<|.k [2,6,7,8,33,34] I)<|ak I (λhc=>?_) (λhc=>?_)
  ·refine an<|aj (.a 2 I<|.v (cT I (e)) I<|.k [2,6,8,38] I)<|ak I (λhc=>?_) (λhc=>?_)
   ·cases hc
   ·refine ao<|aK<|av 1 I<|aZ (tY I (Vp aQ.pure<|Vp aQ.pure<|Vp (ZA rfl (Vp aQ.pure Wg)) Wg) (i)) I<|av 2 I<|aF [2,6,8] I ?_;refine aK<|av 1 I<|aZ (tY I (Vp aQ.pure<|Vp aQ.pure<|Vp (ZA rfl (Vp aQ.pure Wg)) Wg) (j)) I<|av 2 I<|aF [2,6,8] I ?_;refine bp<|av 1 I<|aZ (tY I (Vp aQ.pure<|Vp aQ.pure<|Vp (ZA rfl (Vp aQ.pure Wg)) Wg) (k)) I<|av 2 I<|aF [2,6] I ?_;refine an<|aj (.a 1 I<|.v (tY I (Vp (Zr (Vp aQ.pure<|Vp aQ.pure<|Vp aQ.pure<|Vp aQ.pure<|Vp aQ.pure<|Vp aQ.pure<|Vp aQ.pure<|Vp aQ.pure<|Vp aQ.cg<|Vp aQ.cg Wg)) Wg) (hv)) I<|.a 1 I<|.k [2,6,73] I)<|ak I (λhc=>?_) (λhc=>?_)
    ·exact absurd hc (by decide)
    ·refine ao<|aK<|av 3 I<|aF [2,3] I ?_;exact aA<|⟨_,.tuple [mb (.df n b h),num 0],V5 I,Yi (Vp (Zr (Vp aQ.pure<|Vp aQ.pure<|Vp aQ.pure<|Vp aQ.pure<|Vp aQ.pure<|Vp aQ.pure<|Vp aQ.pure<|Vp aQ.pure<|Vp aQ.cg<|Vp aQ.cg Wg)) (Vp aQ.pure Wg)),rfl⟩
  ·exact absurd hc (by simp[oC])
theorem tL(k b:Nat)(a:cC)(hm:(km.iU k b a).Ok):Can prog 69 [cE (rI (.iU k b a))] (· = .tuple [mb (.iU k b a),num 0]):=by
 have hv:=tB k b a hm;have p:=uh hm;have h:=qx (l:=[oC (.iU k b a)]) (by simpa using p) (by simp);obtain⟨h1,h2,x,q⟩:=hm;have vf:=rm a;have u:=q.len;obtain⟨v,m⟩:∃v,(oC (.iU k b a)).v=v:=⟨_,rfl⟩;have c:v=fw 4 b++l9 a:=by rw[<-m];simp[oC]
 have w:v.length=4+(l9 a).length:=by rw[c];simp[bK]
 have r:=si v 0 4 b (by rw[c];simp[Xq,bK,V2]) (by omega) (by decide) (by decide) (by omega) (by omega);have hd:v.drop 4=l9 a:=by rw[c];simp[XS,bK,Wi]
 have g:=u4 (l9 a) (uY a) (by omega) (CK (preB a));have i:=KG a q;have o:decide ((k:Int)=1)=false:=VA (by rcases h1 with rfl|rfl<;>decide);have j:decide ((v.length:Int)<4)=false:=VA (by omega);have⟨s,d⟩:=dw (decide ((k:Int)=2));have⟨t,f⟩:=dw (decide ((k:Int)=3));have n:s=false->t=true:=λe=>by
  subst e;rcases h1 with rfl|rfl
  ·cases d
  ·exact f.symm
 refine aR func69 I ntmps69 I<|aK<|av 2 I<|aF [0,2] I ?_;refine aj (.a 1 I<|.c rfl (h) I<|.a 5 I<|.k [2,4,5] I)<|an<|aj (.a 7 I<|.k [2,4,20] I)<|ak I (λhc=>?_) (λhc=>?_)
 ·exact absurd hc (by simp)
 ·refine ao<|aK<|av 1 I<|aZ (aX (0) I (Xg 0) (show(0:Int)<1 from by decide)) I<|av 5 I<|aF [2,4,6] I ?_;refine aK<|av 1 I<|aZ (aX (0) I (Xg 0) (show(0:Int)<1 from by decide)) I<|av 4 I<|aF [2,6,7] I ?_;rw[m];refine aj (.a 2 I<|.k [2,6,7,8] I)<|an<|aj (.a 2 I<|.k [2,6,7,8,33] I)<|ay<|aj (.v (cT I (o)) I<|.a 1 I<|.k [2,6,7,8,33,34] I)<|ak I (λhc=>?_) (λhc=>?_)
  ·cases hc
  ·refine an<|aj (.v (cT I (d)) I<|.a 1 I<|.k [2,6,7,8,33,49] I)<|ak I (λhc=>?_) (λhc=>?_)
   ·subst hc;refine ao<|ak I (λhc=>?_) (λhc=>?_)
    ·refine an<|aj (.a 2 I<|.v (cT I (j)) I<|.k [2,6,7,8,54] I)<|ak I (λhc=>?_) (λhc=>?_)
     ·cases hc
     ·refine ao<|an<|aj (.a 1 I<|.v (sq (l:=4) I (WN I) I I I (by omega) hd) I<|.c rfl (g) I<|.a 1 I<|.k [2,6,7,8,59] I)<|ak I (λhc=>?_) (λhc=>?_)
      ·exact absurd hc (by decide)
      ·refine ao<|aK<|av 1 I<|aZ (tY I (Vp aQ.pure<|Vp aQ.pure<|Vp (ZA rfl (Vp aQ.pure Wg)) Wg) (r)) I<|av 2 I<|aF [2,6,7] I ?_;refine bp<|av 1 I<|aZ (sq (l:=4) I (WN I) I I I (by omega) hd) I<|fW I (i) I<|av 5 I<|aF [2,6] I ?_;refine an<|aj (.a 1 I<|.v (tY I (W9) (hv)) I<|.a 1 I<|.k [2,6,73] I)<|ak I (λhc=>?_) (λhc=>?_)
       ·exact absurd hc (by decide)
       ·refine ao<|aK<|av 3 I<|aF [2,3] I ?_;exact aA<|⟨_,.tuple [mb (.iU k b a),num 0],V5 I,(aQ.pure:aQ _ (.tuple [mb (.iU k b a),num 0]) (.tuple [mb (.iU k b a),num 0])),rfl⟩
    ·cases hc
   ·obtain rfl:=n hc;refine aL (.v (cT I (f)) I<|.a 1 I<|.k [2,6,7,8,49] I)<|ak I (λhc=>?_) (λhc=>?_)
    ·refine an<|aj (.a 2 I<|.v (cT I (j)) I<|.k [2,6,7,8,54] I)<|ak I (λhc=>?_) (λhc=>?_)
     ·cases hc
     ·refine ao<|an<|aj (.a 1 I<|.v (sq (l:=4) I (WN I) I I I (by omega) hd) I<|.c rfl (g) I<|.a 1 I<|.k [2,6,7,8,59] I)<|ak I (λhc=>?_) (λhc=>?_)
      ·exact absurd hc (by decide)
      ·refine ao<|aK<|av 1 I<|aZ (tY I (Vp aQ.pure<|Vp aQ.pure<|Vp (ZA rfl (Vp aQ.pure Wg)) Wg) (r)) I<|av 2 I<|aF [2,6,7] I ?_;refine bp<|av 1 I<|aZ (sq (l:=4) I (WN I) I I I (by omega) hd) I<|fW I (i) I<|av 5 I<|aF [2,6] I ?_;refine an<|aj (.a 1 I<|.v (tY I (W9) (hv)) I<|.a 1 I<|.k [2,6,73] I)<|ak I (λhc=>?_) (λhc=>?_)
       ·exact absurd hc (by decide)
       ·refine ao<|aK<|av 3 I<|aF [2,3] I ?_;exact aA<|⟨_,.tuple [mb (.iU k b a),num 0],V5 I,(aQ.pure:aQ _ (.tuple [mb (.iU k b a),num 0]) (.tuple [mb (.iU k b a),num 0])),rfl⟩
    ·cases hc
def bT(l:List Nat):List Nat:=(pn (l.map Int.ofNat)).map Int.toNat
theorem sZ(l:List Nat):pn (l.map Int.ofNat)=(bT l).map Int.ofNat:=by
 unfold bT;rw[V7];refine(Wh (g:=id) λx hx=>?_).trans (List.map_id _) |>.symm;obtain⟨n,_,rfl⟩:=Vv.1 (sL.1 hx)
 rfl
theorem eN{l:List Nat}{x:Nat}:x∈bT l↔x∈l:=by
 unfold bT;rw[Vv];constructor
 ·rintro⟨a,h,rfl⟩;obtain⟨n,hn,rfl⟩:=Vv.1 (sL.1 h);exact hn
 ·exact λh=>⟨(x:Int),sL.2 (Vv.2 ⟨x,h,rfl⟩),rfl⟩
theorem ez(l:List Nat):(bT l).length=l.length:=by simp[bT,yn]
theorem EM(l:List Nat):(bT l).Perm l:=by
 have h:=(List.mergeSort_perm (l.map Int.ofNat) leI).map Int.toNat
 rw[V7]at h;have e:l.map (Int.toNat ∘ Int.ofNat)=l:=(Wh (g:=id) λx _=>rfl).trans (List.map_id _);rw[e]at h;exact h
theorem tJ{l:List Nat}(h:l.Nodup):(bT l).Nodup:=(EM l).nodup_iff.2 h
abbrev Db:=List (Nat×cC)
abbrev Pm:=List (Nat×(cC×Nat))
abbrev Nb:=List (Nat×Pm)
def ke(a:cC)(d:Db):Db:=bS a.cn a d
def gm(a:cC)(d:Db):Db×Nat:=match aN a.cn d with
 |none=>(ke a d,1)
 |some x=>if x.seq<a.seq then(ke a d,1) else if a.seq=x.seq then(d,2) else(d,3)
def lY(d:Db):Db:=lR (λa=>a.uk (a.gM+1)) d
def gE(d:Db):List cC:=(bT (az d)).filterMap λo=>aN o d
def dD(a:cC)(p:Pm):Pm:=match aN a.cn p with
 |none=>bS a.cn (a,0) p
 |some x=>if x.1.seq<a.seq then bS a.cn (a,0) p else p
def gi(a:cC)(p:Pm):Pm:=match aN a.cn p with
 |none=>p
 |some x=>if iC x.1 a then sG a.cn p else p
def o7(a:cC)(p:Pm):Pm:=match aN a.cn p with
 |none=>p
 |some x=>if x.1.seq<=a.seq then sG a.cn p else p
def s7(a:cC)(ex:Int)(lk:Nat)(p:Pm):Pm:=if(lk:Int)=ex then o7 a p else dD a p
def iT(a:cC)(ex:Int)(nb:Nb):Nb:=nb.map λx=>(x.1,s7 a ex x.1 x.2)
def hZ(p:Pm):Pm:=lR (λx=>(x.1,x.2 - 1)) p
def er(nb:Nb):Nb:=lR hZ nb
def zP(iv:Nat)(p:Pm):Pm:=lR (λx=>if x.2=0 then(x.1,iv) else x) p
def mc(iv:Nat)(nb:Nb):Nb:=lR (zP iv) nb
def sH(lk:Nat)(p:Pm):List (Nat×cC):=(bT (az p)).filterMap λo=>(aN o p).bind λx=>if x.2=0 then some (lk,x.1) else none
def oz(nb:Nb):List (Nat×cC):=(bT (az nb)).flatMap λlk=>sH lk ((aN lk nb).getD [])
def Az(lk:Nat)(g:Pm->Pm)(nb:Nb):Nb:=match aN lk nb with
 |none=>nb
 |some p=>bS lk (g p) nb
structure gO where
 lk:Nat
 ot:Nat
 co:Nat
 ph:Nat
 lf:Nat
 bt:Nat
structure Nd where
 node:Nat
 time:Nat
 au:List gO
 over:Bool
 db:Db
 nb:Nb
 og:C9
def dS(l:List gO):List gG:=(l.filter λp=>p.ph=2).map λp=>⟨p.ot,p.lk,p.co⟩
def l7(s:C9):cC:=⟨s.node,s.floor,s.gM,s.over,s.cU⟩
def Nd.OW(s:Nd):Nd:= {s with db:=(gm (l7 s.og) s.db).1,nb:=iT (l7 s.og) (-1) s.nb}
def Nd.il(s:Nd):Nd:=if s.og.made/\s.og.over=s.over/\s.og.cU=dS s.au then s else
 ({s with og:=⟨s.over,dS s.au,s.og.node,s.og.floor+1,true,0⟩}:Nd).OW
def cX:gO:=⟨0,0,0,0,0,0⟩
def Ku(s:Bool)(p:gO):gO:= {p with ph:=if s then 2 else 1,lf:=3,bt:=1}
def Nd.jh(s:Nd)(lk:Nat)(a:cC):Nd×Bool:=match gm a s.db with
 |(d,1)=>({s with db:=d,nb:=iT a lk s.nb},true)
 |(_,2)=>({s with nb:=Az lk (gi a) s.nb},true)
 |(_,_)=>({s with nb:=Az lk (dD ((aN a.cn s.db).getD a)) s.nb},false)
def Nd.Dc(s:Nd)(lk:Nat)(a:cC):Nd:= {s with nb:=Az lk (gi a) s.nb}
def cZ(p:gO):gO:= {p with lf:=if p.ph=0 then 0 else p.lf - 1,bt:=if p.ph=0 then 0 else p.bt}
def Nd.Md(s:Nd):Nd:= {s with time:=s.time+1,au:=s.au.map cZ,db:=lY s.db,og:= {s.og with gM:=s.og.gM+1},nb:=mc 2 (er s.nb)}
def Nd.out(s:Nd):List (Nat×km):=s.au.map (λp=>(p.lk,km.df s.node 1 p.bt))++(oz (er s.nb)).map λx=>(x.1,km.iU 2 1 x.2)
inductive Mw (g:Nat->Nat):PV->PV->Prop
 |pure {p:PV} [IsPure p]:Mw g p p
 |any {p:PV}:Mw g p .any
 |own {i j:Nat}:g i=j->Mw g (.own i) (.own j)
 |ptr {i j o:Nat}:g i=j->Mw g (.ptr i o) (.ptr j o)
 |agg {xs ys:List PV} (hl:ys.length=xs.length) (hs:∀(j:Nat) x y,xs[j]? =some x->ys[j]? =some y->Mw g x y):Mw g (.agg xs) (.agg ys)
 |tuple {xs ys:List PV} (hl:ys.length=xs.length) (hs:∀(j:Nat) x y,xs[j]? =some x->ys[j]? =some y->Mw g x y):Mw g (.tuple xs) (.tuple ys)
def fB(g:Nat->Nat)(xs ys:List PV):Prop:=ys.length=xs.length/\∀(j:Nat) x y,xs[j]? =some x->ys[j]? =some y->Mw g x y
theorem fB.nil{g:Nat->Nat}:fB g [] []:=⟨rfl,λj x y h=>by simp at h⟩
abbrev Y9:=@fB.nil
theorem fB.cons{g:Nat->Nat}{x y xs ys}(h:Mw g x y)(hs:fB g xs ys):fB g (x::xs) (y::ys):=⟨by simp[hs.1],λj a b h1 h2=>by
 cases j with
 |zero=>simp at h1 h2;subst h1;subst h2;exact h
 |succ j=>exact hs.2 j a b (by simpa using h1) (by simpa using h2)⟩
abbrev XN:=@fB.cons
theorem fB.pure{g:Nat->Nat}{xs}[h:aM xs]:fB g xs xs:=⟨rfl,λj x y h1 h2=>by
 rw[h1]at h2;cases h2;haveI:=h.out j x h1;exact Mw.pure⟩
abbrev Ye:=@fB.pure
theorem Mw.rep{g:Nat->Nat}{f k:Env}{w p q}(h:Mw g p q)(hM:∀b,k.M b->f.M b)(a:∀i,i<f.L->k.at_ (g i)=f.at_ i/\g i<k.L):∀v,dj f w v p->dj k w v q:=by
 induction h with
 | @pure p hp=>intro v h;exact dj.back (hp.out f k.M w v hM h)
 |any=>intro v _;exact .any v
 | @own i j d=>
  intro v h;subst d;cases h with
  |own _ hi _ h hs=>exact .own _ (a i hi).2 v ((a i hi).1.trans h) hs
 | @ptr i j o d=>
  intro v h;subst d;cases h with
  |ptr _ _ b hi h=>exact .ptr _ o b (a i hi).2 (by rw[(a i hi).1];exact h)
 | @agg xs ys hl _ ih=>
  intro v h;cases h with
  |agg cs _ e hr=>exact .agg cs ys (e.trans hl.symm) (λj c u h1 h2=>by
    have hj:j<xs.length:=by rw[<-hl];exact(Vf.1 h2).1
    exact ih j xs[j] u (by simp[hj]) h2 c (hr j c _ h1 (by simp[hj])))
 | @tuple xs ys hl _ ih=>
  intro v h;cases h with
  |tuple cs _ e hr=>exact .tuple cs ys (e.trans hl.symm) (λj c u h1 h2=>by
    have hj:j<xs.length:=by rw[<-hl];exact(Vf.1 h2).1
    exact ih j xs[j] u (by simp[hj]) h2 c (hr j c _ h1 (by simp[hj])))
theorem fB.rep{g:Nat->Nat}{a d:Env}{w xs ys}(h:fB g xs ys)(hM:∀b,d.M b->a.M b)(e:∀i,i<a.L->d.at_ (g i)=a.at_ i/\g i<d.L){cs}(hs:bn a w cs xs):bn d w cs ys:=⟨hs.1.trans h.1.symm,λj c u h1 h2=>by
 have hj:j<xs.length:=by rw[<-h.1];exact(Vf.1 h2).1
 exact(h.2 j xs[j] u (by simp[hj]) h2).rep hM e c (hs.2 j c _ h1 (by simp[hj]))⟩
inductive E5 (g:Nat->Nat):cj->cj->Prop
 |cells {ty:TypeId} {xs ys:List PV}:fB g xs ys->E5 g (.cells ty xs) (.cells ty ys)
 |row {e s n:Nat} {xs ys:List PV}:fB g xs ys->E5 g (.row e s n xs) (.row e s n ys)
 |win {e s n:Nat} {xs ys:List PV}:fB g xs ys->E5 g (.win e s n xs) (.win e s n ys)
 |mp {kv kv':List (Value×PV)}:kv.map (·.1)=kv'.map (·.1)->fB g (kv.map (·.2)) (kv'.map (·.2))->E5 g (.mp kv) (.mp kv')
theorem E5.sat{g:Nat->Nat}{base:Nat}{d e:Env}{w v x y}(h:E5 g x y)(hM:∀b,e.M b->d.M b)(a:∀i,i<d.L->e.at_ (g i)=d.at_ i/\g i<e.L)(hs:fV base d w v x):fV base e w v y:=
 match x,y,h,hs with
 |_,_,.cells h1,hs=>by
  obtain⟨b,cs,h2,c,j,f⟩:=hs;exact⟨b,cs,h2,c,j,h1.rep hM a f⟩
 |_,_,.row h1,hs=>by
  obtain⟨cs,h2,c⟩:=hs;exact⟨cs,h2,h1.rep hM a c⟩
 |_,_,.win h1,hs=>by
  obtain⟨cs,h2,c⟩:=hs;exact⟨cs,h2,h1.rep hM a c⟩
 |_,_,.mp hk h1,hs=>by
  obtain⟨r,k,ck,h2,c,j,f,l⟩:=hs;exact⟨r,k,ck,h2,c,j,⟨f.1.trans hk,f.2⟩,h1.rep hM a l⟩
def Tg(σ:bH)(fs:List Nat)(σ0 a b:bH):Prop:=b.length=σ.length+(a.length - fs.length)/\∀(i:Nat) c,b[i]? =some (some c)->
 (i<σ.length/\un fs σ0 i=true/\σ[i]? =some (some c))\/∃j d,a[j]? =some (some d)/\E5 (bk fs σ.length) d c/\((j<fs.length/\i<σ.length/\fs[j]? =some i)\/(fs.length<=j/\i=σ.length+(j - fs.length)))
theorem uv:∀ {fs:List Nat} {σ} {i:Nat},un fs σ i=false->∃(k:Nat) (b:cj),fs[k]? =some i/\σ[k]? =some (some b)
 | [],_,_,h=>by simp[un]at h
 |_::_,[],_,h=>by simp[un]at h
 |j::fs,some c::σ,i,h=>by
  simp only[un,Xy,Bool.not_eq_false']at h;rcases h with h|h
  ·exact⟨0,c,by rw[VF h];rfl,rfl⟩
  ·obtain⟨k,b,h1,h2⟩:=uv h;exact⟨k+1,b,by simpa using h1,by simpa using h2⟩
 |j::fs,none::σ,i,h=>by
  simp only[un]at h;obtain⟨k,b,h1,h2⟩:=uv h;exact⟨k+1,b,by simpa using h1,by simpa using h2⟩
section
variable {P:Program}
theorem aD.Qr{f ps qs}{σ σ0:bH}{R:PV->bH->Prop}(fs:List Nat)(hn:gd fs=true)(ha:ax fs qs ps)(aj:eV fs σ σ0 fs)
  (hb:(fs.all λi=>Nat.blt i σ.length)=true)
  (h:aD P f qs σ0 (λr G=>∃Y l,Mw (bk fs σ.length) r Y/\Tg σ fs σ0 G l/\R Y l)):aD P f ps σ R:=λF base E w vs q hR=>by
 have ai:∀(j i:Nat),fs[j]? =some i->i<σ.length:=λj i h=>Nat.blt_eq.mp (VG.1 hb i (VE h));obtain⟨hl,hg⟩:=aj.get;have g:∀i j,fs[i]? =some j->fs.getD i 0=j:=λi j ah=>by simp[Qo,ah]
 obtain⟨U,p⟩:∃U:Nat->Prop,U=λb=>F b\/∃i blk,σ[i]? =some (some blk)/\un fs σ0 i=true/\bg (E.at_ i)=some b:=⟨_,rfl⟩;have af:Sat U base σ0 (E.oI fs E.M) w:=by
  refine⟨q.bl,λb hb=>?_,by simp[Env.oI,hl],λb=>?_,λi blk hi=>?_,λi j bi bj b hi hj h1 h2=>?_,q.gl⟩
  ·rw[p]at hb;rcases hb with hb|⟨i,blk,h1,h2,a⟩
   ·refine⟨(q.fb b hb).1,λk bk hk=>?_⟩;obtain⟨j,b',a,c,_⟩:=hg k bk hk;simp only[Env.oI,g k j a];exact(q.fb b hb).2 j b' c
   ·refine⟨((q.blk i blk h1).lt a).2,λk bk hk c=>?_⟩;obtain⟨j,b',o,T,_⟩:=hg k bk hk;simp only[Env.oI,g k j o]at c;have:=q.inj i j blk b' b h1 T a c;subst this;rw[Mk o hk]at h2;cases h2
  ·show E.M b↔_;rw[p,q.mm b];constructor
   ·rintro(h|⟨i,blk,h1,h2⟩)
    ·exact .inl (.inl h)
    ·cases hu:un fs σ0 i with
     |true=>exact .inl (.inr ⟨i,blk,h1,hu,h2⟩)
     |false=>
      obtain⟨k,b',a,c⟩:=uv hu;exact .inr ⟨k,b',c,by simp only[Env.oI,g k i a];exact h2⟩
   ·rintro((h|⟨i,blk,h1,_,h2⟩)|⟨k,b',h1,h2⟩)
    ·exact .inl h
    ·exact .inr ⟨i,blk,h1,h2⟩
    ·obtain⟨j,K,a,c,_⟩:=hg k b' h1;simp only[Env.oI,g k j a]at h2;exact .inr ⟨j,K,c,h2⟩
  ·obtain⟨j,b',a,c,o⟩:=hg i blk hi;have A:=q.blk j b' c;simp only[Env.oI,g i j a];have hM:∀b,E.M b->E.M b:=λ_ h=>h;cases o with
   |cells hr=>
    obtain⟨b,cs,k1,n,C,D⟩:=A;exact⟨b,cs,k1,n,C,hr.rep hM D⟩
   |row hr=>
    obtain⟨cs,k1,n⟩:=A;exact⟨cs,k1,hr.rep hM n⟩
   |eZ y hx=>
    subst y;subst hx;obtain⟨cs,k1,n⟩:=A;exact⟨cs,k1,(VT (fs:=fs)).rep hM n⟩
   |mp=>
    obtain⟨r,W,ck,k1,n,C,D,S⟩:=A;exact⟨r,W,ck,k1,n,C,D,(VT (fs:=fs)).rep hM S⟩
   |De hk hr=>
    obtain⟨r,W,ck,k1,n,C,D,S⟩:=A;exact⟨r,W,ck,k1,n,C,⟨D.1.trans hk.symm,D.2⟩,hr.rep hM S⟩
   |win y hr=>
    subst y;obtain⟨cs,k1,n⟩:=A;exact⟨cs,k1,hr.rep hM n⟩
   |Af y hr=>
    subst y;obtain⟨cs,k1,n⟩:=A;exact⟨cs,k1.win,hr.rep hM n⟩
   |mK=>
    obtain⟨r,W,k1,n,C,D,S,k6⟩:=A;exact⟨r,W,k1,n,C,D,S,(VT (fs:=fs)).rep hM k6⟩
   |oB hm=>
    obtain⟨r,b',k1,n,C,D,S⟩:=A;exact⟨r,b',k1,n,C,(Vf.1 hm).1,by
     show E.at_ (fs.getD _ 0)=_;rw[Qo,hm];exact S⟩
  ·obtain⟨i',Z,a,c,_⟩:=hg i bi hi;obtain⟨j',aa,o,T,_⟩:=hg j bj hj;simp only[Env.oI,g i i' a]at h1;simp only[Env.oI,g j j' o]at h2;have:=q.inj i' j' Z aa b c T h1 h2;subst this;exact nK hn i j i' a o
 refine(h U base (E.oI fs E.M) w vs af (ha.rep (λ_ h=>h) hR)).mono ?_;rintro e w' ⟨v,r,G,J,rfl,⟨Y,l,hr,⟨ak,ag⟩,ae⟩,d,x,L,hv⟩;have al:fs.length<=G.length:=by have:=x.L;rw[d.len]at this;exact this
 have X:∀j i,fs[j]? =some i->J.at_ j=E.at_ i:=λj i m=>by
  have hj:=(Vf.1 m).1;rw[x.at_ j hj];simp[Env.oI,Qo,m]
 let H:Env:=⟨l.length,λi=>if i<σ.length then E.at_ i else J.at_ (fs.length+(i - σ.length)),λb=>F b\/∃i blk,l[i]? =some (some blk)/\bg (if i<σ.length then E.at_ i else J.at_ (fs.length+(i - σ.length)))=some b⟩
 have N:∀i,i<J.L->H.at_ (bk fs σ.length i)=J.at_ i/\bk fs σ.length i<H.L:=λi hi=>by
  rw[d.len]at hi;show(if bk fs σ.length i<σ.length then _ else _)=_/\bk fs σ.length i<l.length;unfold bk;by_cases hj:i<fs.length
  ·rw[Vn hj];have m:fs[i]? =some (fs.getD i 0):=by simp[Qo,hj]
   have hlt:fs.getD i 0<σ.length:=ai i _ m;rw[Vn hlt,X i _ m];exact⟨rfl,by omega⟩
  ·rw[Vk hj,Vk (by omega),show fs.length+(σ.length+(i - fs.length) - σ.length)=i by omega];exact⟨rfl,by omega⟩
 have src:∀i K,l[i]? =some (some K)->(i<σ.length/\un fs σ0 i=true/\σ[i]? =some (some K)/\H.at_ i=E.at_ i)\/∃j s,G[j]? =some (some s)/\E5 (bk fs σ.length) s K/\bk fs σ.length j=i/\H.at_ i=J.at_ j:=λi K h2=>by
  rcases ag i K h2 with⟨a,c,o⟩|⟨j,s,a,c,o⟩
  ·exact .inl ⟨a,c,o,Vn a⟩
  ·have m:bk fs σ.length j=i:=by
    unfold bk;rcases o with⟨T,h7,h8⟩|⟨T,h7⟩
    ·rw[Vn T];simp[Qo,h8]
    ·rw[Vk (by omega)];exact h7.symm
   refine .inr ⟨j,s,a,c,m,?_⟩;have:=(N j (by rw[d.len];exact(Vf.1 a).1)).1;rw[m]at this;exact this
 have B:∀i blk b,σ[i]? =some (some blk)->un fs σ0 i=true->bg (E.at_ i)=some b->U b:=λi blk b h1 h2 a=>by rw[p];exact .inr ⟨i,blk,h1,h2,a⟩
 have M:∀b,H.M b->J.M b:=λb O=>by
  rcases O with hF|⟨i,blk,h1,h2⟩
  ·exact(d.mm b).2 (.inl (by rw[p];exact .inl hF))
  ·have z:bg (H.at_ i)=some b:=h2;rcases src i blk h1 with⟨_,h0,a,c⟩|⟨j,s,a,_,_,c⟩
   ·rw[c]at z;exact(d.mm b).2 (.inl (B i blk b a h0 z))
   ·rw[c]at z;exact(d.mm b).2 (.inr ⟨j,s,a,z⟩)
 have g2:c8 E w H w':=⟨by show E.L<=l.length;rw[q.len];omega,λi hi=>Vn (by rw[<-q.len];exact hi),λb hb Q O=>x.M b hb Q (M b O),x.size,λb hb Q=>x.heap b hb Q⟩;refine⟨v,Y,l,H,rfl,ae,⟨d.bl,λb hb=>⟨(d.fb b (by rw[p];exact .inl hb)).1,λi blk hi h2=>?_⟩,rfl,λb=>Iff.rfl,λi blk hi=>?_,λi j bi bj b hi hj h1 h2=>?_,q.gl.goes g2⟩,g2,⟨L.toBelow,λb hb=>L.fz b (by rw[p];exact .inl hb)⟩,hr.rep M N v hv⟩
 ·rcases src i blk hi with⟨_,_,a,c⟩|⟨j,s,a,_,_,c⟩
  ·rw[c]at h2;exact(q.fb b hb).2 i blk a h2
  ·rw[c]at h2;exact(d.fb b (by rw[p];exact .inl hb)).2 j s a h2
 ·rcases src i blk hi with⟨_,h0,a,c⟩|⟨j,s,a,o,_,c⟩
  ·rw[c];exact(q.blk i blk a).goes g2 (λb hb=>L.fz b (B i blk b a h0 hb))
  ·rw[c];exact o.sat M N (d.blk j s a)
 ·rcases src i bi hi with⟨_,h0,a,c⟩|⟨k,s,a,_,o,c⟩<;>rcases src j bj hj with⟨_,ab,t,u⟩|⟨k',V,t,_,ad,u⟩
  ·rw[c]at h1;rw[u]at h2;exact q.inj i j bi bj b a t h1 h2
  ·rw[c]at h1;rw[u]at h2;exact absurd h2 ((d.fb b (B i bi b a h0 h1)).2 k' V t)
  ·rw[c]at h1;rw[u]at h2;exact absurd h1 ((d.fb b (B j bj b t ab h2)).2 k s a)
  ·rw[c]at h1;rw[u]at h2;have:=d.inj k k' s V b a t h1 h2;subst this;rw[<-o,<-ad]
end
end
end PW
end Go.Proofs.YtfcadpknnbgibaaGreatDoor
