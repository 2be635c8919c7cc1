/- Part 10. -/
import Derived.Lib.AppendStr
import Derived.Lib.UnsafeStr
import Derived.Lib.Builder
import Derived.Shelf.Strings.Builder1
import Derived.Shelf.Strings.BuilderF
import Derived.Shelf.Strings.BuilderK
import Derived.Shelf.Strconv.Itoa0
import Derived.Shelf.Strconv.Itoa1
import Derived.Shelf.LaysM
import Derived.Shelf.Strconv.Itoa2
import Derived.Shelf.Strconv.Itoa3
import Derived.Shelf.Strings.BuilderCap
import Derived.Test.YtfcadpknnbgibaaGreatDoorCardWVB9
set_option maxRecDepth 100000
set_option maxHeartbeats 4000000
namespace Go.Proofs.YtfcadpknnbgibaaGreatDoor
open Go.Proofs.Tryz
namespace PW
section
open Go.RowKit Go.Maps Go.Sort Go.Shelf cm Mem Net
section
variable {P:Program} {N L:Nat} {ops:Array Oper} {σ:bH} {t:cd}
theorem M6{o1 d:Oper}{rest}{K:St->Prop}{d1 d2 ty f e s W n q:Nat}{x T k}{xs:List PV}(H:o1.op= .indexAddr ty x T)(vf:uX P ty=some (e,s))(hx:aI t x=some (.own q))(hq:σ[q]? =some (some (.win W s (n+1) xs)))(G:aI t T=some (.raw (.int k 0)))
  (o:o1.dst=some d1) (O:eL ops t o1=some true) (l:Nat.blt d1 N=true) (J:d.op= .load f (.tmp d1)) (hk:qU P f=some (some s)) (D:d.guard=none) (B:d.dst=some d2) (p:Nat.blt d2 N=true)
  (h:WR P N L ops rest ⟨(d2,.agg (xs.take s))::(d1,.any)::t,σ⟩ K):WR P N L ops (o1::d::rest) ⟨t,σ⟩ K:=by
 intro F base E₀ w₀ E a w hc hs Q j X hl;have h0:ops[j]? =some o1:=by simpa using(hl 0).symm
 have h1:ops[j+1]? =some d:=by simpa using(hl 1).symm
 have v1:=aB (fZ a) hs.tmp hx;have v2:=aB (fZ a) hs.tmp G;have M:∃g off cap cs,a.eval x= .slice (some ⟨g,off,none⟩) (n+1) cap/\cs.length=(n+1)*s/\(∀(i:Nat) u,cs[i]? =some u->w.cell? ⟨g,off+i,none⟩=some u)/\bn E w cs xs:=by
  generalize a.eval x=z at v1;cases v1 with
  |own _ Z _ r V=>
   obtain⟨cs,k1,U⟩:=hs.sat.blk q _ hq;rw[r]at k1;have ab:=k1;rcases k1.2 with⟨_,h0⟩|⟨g,off,cap,cur,hv,_⟩
   ·omega
   ·exact⟨g,off,cap,cs,hv,k1.1,yx k1 hv,U⟩
 obtain⟨g,off,cap,cs,hz,y,A,Y⟩:=M;have S:a.eval T= .int k 0:=dt v2;have r1:(execOp a.eval o1).run P w= .ok (.value (.pointer (some ⟨g,off,none⟩))) w:=by
  simp only[execOp,H,hz,S,Sem.run_bind,pg (n:=n+1) (i:=0) vf (Xg 0) (by omega),Result.andThen_ok,Sem.run_pure];simp
 rw[VI,XQ,wpOps_cons];unfold wpOp;simp only[h0];rw[iz,nU hs.tmp O,Vn rfl];left;unfold Oper.wp;rw[r1];simp only[Oper.upon];rw[VI,XQ,wpOps_cons];unfold wpOp;simp only[h1];have c:dT F base N ⟨(d1,.any)::t,σ⟩ E (a.put o1.dst (.pointer (some ⟨g,off,none⟩))) w:=by
  rw[o];exact hs.put hs.sat (YN _ _) l (.any _)
 have R:eL ops ((d1,.any)::t) d=some true:=by unfold eL;rw[D]
 rw[iz,nU c.tmp R,Vn rfl];left;have C:(a.put o1.dst (.pointer (some ⟨g,off,none⟩))).eval (.tmp d1)= .pointer (some ⟨g,off,none⟩):=by
  rw[o];simp[Act.put,Act.eval,hs.size,Nat.blt_eq.mp l]
 have aa:s<=cs.length:=by rw[y,XL];omega
 have r2:(execOp (a.put o1.dst (.pointer (some ⟨g,off,none⟩))).eval d).run P w= .ok (.value (.agg (cs.take s).toArray)) w:=by
  have:=lV (P:=P) (w:=w) (b:=g) (off:=off) (cs:=cs.take s) hk (by rw[V8];omega) (λi u hu=>by
   rw[Wn]at hu;split at hu
   ·exact A i u hu
   ·cases hu)
  simp only[execOp,J,C,Sem.run_bind,this,Result.andThen_ok,Sem.run_pure]
 unfold Oper.wp;rw[r2];simp only[Oper.upon];refine h F base E₀ w₀ E _ w hc ?_ Q (j+1+1) X (λi=>by have:=hl (i+2);rw[show j+1+1+i=j+(i+2) by omega];simpa using this);rw[B];have m:=Y.take s;exact c.put c.sat (YN _ _) p (.agg _ _ (by simpa using m.1) (λi u v k1 U=>m.2 i u v (by simpa using k1) U))
theorem M7{c}{Q:Exit->St->Prop}{q e s n:Nat}{xs}(u:σ[q]? =some (some (.row e s n xs)))(h:W P N L c ⟨t,σ.set q (some (.win e s n xs))⟩ Q):W P N L c ⟨t,σ⟩ Q:=λF base E₀ w₀ E a w hc hs=>by
 have m:=(Vf.1 u).1;have d:∀(i:Nat) b,(σ.set q (some (.win e s n xs)))[i]? =some (some b)->∃b',σ[i]? =some (some b')/\(fV base E w (E.at_ i) b'->fV base E w (E.at_ i) b):=λi b hi=>by
  by_cases l:q=i
  ·subst l;rw[WC m]at hi;cases hi;exact⟨_,u,λ⟨cs,k1,k⟩=>⟨cs,k1.win,k⟩⟩
  ·rw[VY l]at hi;exact⟨b,hi,id⟩
 have g:∀(i:Nat) b,σ[i]? =some (some b)->∃b',(σ.set q (some (.win e s n xs)))[i]? =some (some b'):=λi b hi=>by
  by_cases l:q=i
  ·subst l;exact⟨_,WC m⟩
  ·exact⟨b,by rw[VY l];exact hi⟩
 have f:=hs.sat
 have f1:∀b,F b->b<w.heap.size/\∀i blk,(σ.set q (some (.win e s n xs)))[i]? =some (some blk)->bg (E.at_ i)≠some b:=λb hb=>⟨(f.fb b hb).1,λi blk hi=>by
  obtain⟨b',k1,_⟩:=d i blk hi;exact(f.fb b hb).2 i b' k1⟩
 have f2:∀b,E.M b↔F b\/∃i blk,(σ.set q (some (.win e s n xs)))[i]? =some (some blk)/\bg (E.at_ i)=some b:=λb=>by
  rw[f.mm b];refine or_congr Iff.rfl ⟨λh=>?_,λh=>?_⟩
  ·obtain⟨i,blk,k1,k⟩:=h;obtain⟨b',o⟩:=g i blk k1;exact⟨i,b',o,k⟩
  ·obtain⟨i,blk,k1,k⟩:=h;obtain⟨b',o,_⟩:=d i blk k1;exact⟨i,b',o,k⟩
 have f3:∀i blk,(σ.set q (some (.win e s n xs)))[i]? =some (some blk)->fV base E w (E.at_ i) blk:=λi blk hi=>by
  obtain⟨b',o,v⟩:=d i blk hi;exact v (f.blk i b' o)
 have f4:∀i j bi bj b,(σ.set q (some (.win e s n xs)))[i]? =some (some bi)->(σ.set q (some (.win e s n xs)))[j]? =some (some bj)->bg (E.at_ i)=some b->bg (E.at_ j)=some b->i=j:=λi j bi bj b hi hj=>by
  obtain⟨p,k1,_⟩:=d i bi hi;obtain⟨r,k,_⟩:=d j bj hj;exact f.inj i j p r b k1 k
 exact h F base E₀ w₀ E a w hc ⟨⟨f.bl,f1,by rw[VK];exact f.len,f2,f3,f4,f.gl⟩,hs.tmp,hs.lO,hs.size⟩
end
def Jd(T:aw)(s s':Nd)(out:List (Nat×km)):Prop:=(∀x∈az s'.nb,x<8)/\aD prog 28 [.ptr 0 0] (aW T s) (λr σ'=>r=lL out/\σ'=aW T s')
def uE(T:aw)(s:Nd)(lk:Nat)(m:km)(s':Nd)(out:List (Nat×km)):Prop:=(∀x∈az s'.nb,x<8)/\
  (aD prog 29 [.ptr 0 0, num lk, cE (rI m)] (aW T s) (λr σ' => r = .tuple [lL out, num 0] /\ σ' = aW T s') \/
   ∃l,l<8/\aD prog 29 [.ptr 0 0,num lk,cE (rI m)] (aW T s) (λr σ'=>r= .tuple [lL out,num 0]/\σ'=iu T s' l 15++[fT s'.nb l]))
theorem wo.recv{T}{L:List Nd}{d ρ:Nat}{g:Nat->Nat->Nat}{σ}(D:wo T L d ρ g σ){n:Nat}(hn:n<L.length){s s'}(he:L.getD n FH=s){lk:Nat}{m}{out:List (Nat×km)}(h:uE T s lk m s' out):
  ∃σ',aD prog 29 [.ptr (g n 0) 0,num lk,cE (rI m)] σ (λr σ''=>r= .tuple [lL out,num 0]/\σ''=σ')/\∀X,RJ L.length d ρ g σ X->gD T (L.set n s') d ρ X σ':=by
 obtain⟨h8,h|⟨l,hl,h⟩⟩:=h
 ·exact D.call hn he h8 h
 ·exact D.R9 hn hl he h8 h
def yP(T:aw)(n:Nat)(l:List (Nat×km)):Prop:=l.length<=100000/\∀x∈l,x.1<T.ah.length/\(n:Int)<=(bV T.ah x.1).a+(bV T.ah x.1).b
structure AD (T:aw) (K:Nat) (A:Nat->List Nd->Prop) (B:Nat->Nat->List Nd->List gh->Prop) (C:Nat->Nat->List Nd->List gh->Prop):Prop where
 ab:∀k L,k<K->A k L->L.length<=64/\B k 0 L []
 bb:∀k n L w,B k n L w->n<L.length->w.length<=100000/\∃s' out,Jd T (L.getD n FH) s' out/\yP T n out/\B k (n+1) (L.set n s') (w++ew T n out)
 bc:∀k L w,B k L.length L w->C k 0 L w
 cc:∀k c L m w,C k c L (m::w)->c<=4000/\w.length<=100000/\m.to<L.length/\m.to<64/\∃s' out,uE T (L.getD m.to FH) m.lk m.m s' out/\yP T m.to out/\C k (c+1) (L.set m.to s') (w++ew T m.to out)
 ca:∀k c L,C k c L []->A (k+1) L
theorem fE(n:Nat)(g:Nat->Nat->Nat){k:Nat}(h:k<n):((List.range n).map λn=>PV.ptr (g n 0) 0)[k]? =some (.ptr (g k 0) 0):=by
 rw[Vt,cV h];rfl
theorem mV{α:Type}(l:List α)(a b:α):(l++[a]).set l.length b=l++[b]:=by simp
theorem KT(m:gh)(w:List gh):(fy (m::w)).take 3=rH m:=by
 show(rH m++fy w).take 3=_;exact List.take_left' rfl
theorem KS(m:gh)(w:List gh):(fy (m::w)).drop 3=fy w:=by
 show(rH m++fy w).drop 3=_;exact Yb rfl
theorem xC(v w:List gh):fy v++fy w=fy (v++w):=by simp[fy]
theorem uU(T:aw)(hT:∀i,i<T.ah.length->(0<=(bV T.ah i).a/\(bV T.ah i).a<64)/\(0<=(bV T.ah i).b/\(bV T.ah i).b<64))(al:T.ah.length<=256){A:Nat->List Nd->Prop}{B:Nat->Nat->List Nd->List gh->Prop}{C:Nat->Nat->List Nd->List gh->Prop}(a:Nat)(H:AD T a A B C)(y:List Nd)(hA:A 0 y)(ht:a<=100000){d ρ:Nat}{X:List (Nat×cj)}{u}(hD:gD T y d ρ X u):
    aD prog 11 [.ptr d 0,num a] u (λr σ'=>r=flag true/\∃L',A a L'/\gD T L' d ρ X σ'):=by
  refine aV func11 I ntmps11 I<|aj (.a 1 I<|.k [0,1] I)<|an<|aj (.a 2 I<|.k [0,11,12] I)<|ay<|eX [0,11,12] I<|bq (λr st=>∃k L σ,k<=a/\r=a - k/\A k L/\gD T L d ρ X σ/\st=⟨[(0,.ptr d 0),(11,num a),(12,num k)],σ⟩) a ⟨0,y,u,by omega,rfl,hA,hD,rfl⟩ ?_;rintro r st ⟨k,L,σ,hk,rfl,W,af,rfl⟩;refine aj (.a 1 I<|.k [0,11,12,13] I)<|an<|ak I (λhc=>?_) (λhc=>?_)
  · have hlt:k<a:=by have:=Vg hc;omega
    obtain⟨aT,hB⟩:=H.ab k L hlt W;refine ao<|an<|ay<|aj (.a 1 I<|.k [0,5,11,12] I)<|fe 5 91 3 I ?_;have b:=af.app (.row 91 3 0 []);generalize σ++[some (.row 91 3 0 [])]=p at b ⊢;generalize σ.length=q at b ⊢;obtain⟨g1,f,g⟩:=id b;have v:=f.dd;have o:=f.rr;refine an<|aj (.a 3 I<|.v (aq I (VJ I) I v rfl) I<|.v (we I (WN I) I o) I<|.a 1 I<|.k [0,5,11,12,18,19] I)<|ay<|eX [0,5,11,12,18,19] I<|bq (λr st=>∃n M σ q w,n<=L.length/\r=L.length - n/\M.length=L.length/\B k n M w/\gD T M d ρ ((q,.row 91 3 w.length (fy w))::X) σ/\st=⟨[(0,.ptr d 0),(5,.own q),(11,num a),(12,num k),(18,num L.length),(19,num n)],σ⟩) L.length ⟨0,L,p,q,[],by omega,rfl,rfl,hB,b,rfl⟩ ?_;clear b f g v o;rintro r st ⟨n,M,p,q,w,hn,rfl,hM,O,E,rfl⟩;refine aj (.a 1 I<|.k [0,5,11,12,18,19,20] I)<|an<|ak I (λhc=>?_) (λhc=>?_)
    · have S:n<M.length:=by have:=Vg hc;omega
      obtain⟨aS,s',out,ah,s,Y⟩:=H.bb k n M w O S;obtain⟨g1,f,g⟩:=id E;have v:=f.dd;have o:=f.rr;obtain⟨t,aG,aM⟩:=f.call S rfl ah.1 ah.2;have x:=aM _ g;obtain⟨g2,Q,F⟩:=id x;have K:=(F.2 _ (VC ..)).1;have U:=Q.post (Cl T n out (by omega) hT s.1 s.2 al);have aP:(ew T n out).length=out.length:=by simp[ew]
      have ar:=s.1;refine ao<|an<|ay<|aj (.a 2 I<|.k [0,5,6,11,12,18,19] I)<|bp<|av 6 I<|aZ (aq I (VJ I) I v rfl) I<|av 1 I<|aZ (dc (j:=n) I (WN I) I o rfl (by omega) (by omega) (by omega)) I<|aZ (aq I (VJ I) I o (fE _ g1 S)) I<|br I I (VO aG (λ_ σ' h=>?_));obtain⟨rfl,h⟩:=h;rw[h];clear h;refine br I I (VO U (λ_ σ' h=>?_));obtain⟨rfl,h⟩:=h;rw[h];clear h;refine bW (bP I (VW I) I K rfl (by rw[xD]) (by unfold maxLen;omega)) I<|av 1 I<|aF [0,5,11,12,18,19] I ?_;refine aL (.v (aU I) I<|.a 1 I<|.k [0,5,11,12,18,19] I) ?_;have l:=(x.none none).app (.row 91 3 (w++ew T n out).length (fy (w++ew T n out)));rw[VK]at l;exact⟨L.length - (n+1),by omega,n+1,M.set n s',_,t.length,w++ew T n out,by omega,rfl,by rw[VK];exact hM,Y,l,by rw[<-xC,Vu];rfl⟩
    · have R:n=M.length:=by have:=Vj hc;omega
      subst R;have Z:=H.bc k M w O;obtain⟨g1,f,g⟩:=id E;have au:=(g.2 _ (VC ..)).1;refine M7 au ?_;have x:=E.put (.win 91 3 w.length (fy w));generalize p.set q (some (.win 91 3 w.length (fy w)))=t at x ⊢;refine bh<|aj (.a 1 I<|.k [0,5,7,11,12] I)<|ay<|eX [0,5,7,11,12] I<|bq (λr st=>∃c M σ q w,r=4002 - c/\(w≠[]->c<=4001)/\C k c M w/\gD T M d ρ ((q,.win 91 3 w.length (fy w))::X) σ/\st=⟨[(0,.ptr d 0),(5,.own q),(7,num c),(11,num a),(12,num k)],σ⟩) 4002 ⟨0,M,t,q,w,by omega,λ_=>by omega,Z,x,rfl⟩ ?_;clear x E f g au O Z;rintro r st ⟨c,M,p,q,w,rfl,aW,ab,D,rfl⟩;obtain⟨g1,f,g⟩:=id D;have V:=(g.2 _ (VC ..)).1;refine an<|aj (.a 1 I<|.v (MC I (WN I) I V) I<|.a 1 I<|.k [0,5,7,11,12,38] I)<|ak I (λhc=>?_) (λhc=>?_)
      · obtain⟨m,w,rfl⟩:∃m w',w=m::w':=by
         cases w with
         |nil=>cases hc
         |cons m w=>exact⟨m,w,rfl⟩
        obtain⟨aX,aS,ax,aB,s',out,aJ,s,aH⟩:=H.cc k c M m w ab;refine ao<|an<|ay<|aK<|av 1 I<|M6 I (WN I) I V rfl rfl rfl rfl rfl (VJ I) I I I<|bW (nE I (Zy I)) I<|bw (YD (jr (ys:=rH m) I (VJ I) I I (by rw[KT];rfl) I (WT ..) (Vh 3)) (mV p _ (some (.cells 91 (rH m))))) I I<|aF [0,5,7,8,11,12] I ?_;have b:=(D.app (.cells 91 (rH m))).perm (Y0 ..);generalize p++[some (.cells 91 (rH m))]=t at b ⊢;generalize p.length=e at b ⊢;clear D f g V;obtain⟨g2,Q,F⟩:=id b;have K:t[q]? =some (some (.win 91 3 (w.length+1) (fy (m::w)))):=(F.2 _ (VC ..)).1;refine aK<|av 1 I<|bW (D2 I (WN I) I K rfl) I<|av 1 I<|aF [0,5,7,8,11,12] I ?_;rw[KS];have l:=(b.none none).app (.win 91 3 w.length (fy w));rw[VK]at l;generalize t.set q none++[some (.win 91 3 w.length (fy w))]=aY at l ⊢;generalize t.length=q3 at l ⊢;clear b Q F K;obtain⟨g3,J,P⟩:=id l;have N:=J.dd;have z:=J.rr;have G:=(P.2 _ (VB _ (VC ..))).1;obtain⟨aC,aa,ai⟩:=J.recv ax rfl aJ;have ad:=ai _ P;have az:(m.to:Int)<(M.length:Int):=by omega
        refine eC _ _ mixed (UD [0,5,7,8,11,12] [0,5,7,8,9,10,11,12] [12] [(0,1),(0,1),(0,1),(0,1),(0,1),(0,1),(0,1),(0,1),(0,1),(0,1),(0,1),(0,1),(0,1),(1,1),(1,1),(1,1),(1,1),(1,1)] [(0,_),(5,_),(7,_),(8,_),(9,lL out),(10,num 0),(11,_),(12,_),(46,.tuple [lL out,num 0]),(47,.ptr d 0),(48,.ptr d 0),(49,.ptr d 3),(50,.own ρ),(51,.ptr e 0),(52,num m.to),(53,.ptr ρ m.to),(54,.ptr (g3 m.to 0) 0),(55,.ptr e 1),(56,num m.lk),(57,.ptr e 2),(58,cE (rI m.m)),(59,.tuple [lL out,num 0]),(60,lL out),(61,num 0)] [_,aC] 20 (by kernel_rfl) I I I I (UG 3 I<|UK rfl (UL (UE rfl (aq I (VJ I) I N rfl)))<|UG 1 I<|UK rfl (UL (UE rfl (aq I (VJ I) I G rfl)))<|UK rfl (UL (UE rfl (dc (j:=m.to) I (WN I) I z rfl (XO _) az (Xt _))))<|UK rfl (UL (UE rfl (aq I (VJ I) I z (fE _ g3 ax))))<|UG 1 I<|UK rfl (UL (UE rfl (aq I (VJ I) I G rfl)))<|UG 1 I<|UK rfl (UL (UE rfl (aq I (VJ I) I G rfl)))<|UN rfl (UH rfl rfl (aa) I)<|UG 5 I<|UT rfl)) ?_;clear aa ai l J P N z G;obtain⟨g4,aO,ag⟩:=id ad;have aQ:=(ag.2 _ (VC ..)).1;have aN:=(ag.2 _ (VB _ (VC ..))).1;have U:=aO.post (Cl T m.to out aB hT s.1 s.2 al);have aP:(ew T m.to out).length=out.length:=by simp[ew]
        have ar:=s.1;have e4:decide ((c:Int)>4000)=false:=VA (by omega);refine an<|aj (.a 4 I<|.v (cT I (e4)) I<|.a 1 I<|.k [0,5,7,8,9,11,12,67] I)<|ak I (λhc=>?_) (λhc=>?_)
        · cases hc
        · refine ao<|bp<|av 3 I<|aZ (aq I (VJ I) I aN rfl) I<|av 1 I<|br I I (VO U (λ_ σ' h=>?_));obtain⟨rfl,h⟩:=h;rw[h];clear h;refine bW (BJ I (VW I) I aQ rfl (by rw[xD]) (by unfold maxLen;omega)) I<|av 1 I<|aF [0,5,7,11,12] I ?_;refine aL (.a 1 I<|.v (aU I) I<|.a 1 I<|.k [0,5,7,11,12] I) ?_;have ae:=((ad.none none).sub (YV ..)).app (.win 91 3 (w++ew T m.to out).length (fy (w++ew T m.to out)));rw[VK]at ae;exact⟨4002 - (c+1),by omega,c+1,M.set m.to s',_,aC.length,w++ew T m.to out,by omega,λ_=>by omega,aH,ae,by rw[<-xC,Vu];rfl⟩
      · have aR:w=[]:=by
         cases w with
         |nil=>rfl
         |cons m w=>exact absurd hc (by simp)
        subst aR;have aE:=H.ca k c M ab;refine bh<|aL (.v (aU I) I<|.a 1 I<|.k [0,11,12] I) ?_;exact⟨a - (k+1),by omega,k+1,M,p,by omega,rfl,aE,D.sub (YV ..),rfl⟩
  · have R:k=a:=by have:=Vj hc;omega
    subst R;exact bh<|aj (.a 1 I<|.k [4] I)<|aA<|⟨_,V5 I,rfl,L,W,af⟩
end
section
open Go.RowKit cm Mem Net
variable {T:aw} {N:Nat} {H:Nat->Nat->Bool×List gG} {f:Nat->Nat} {τ β n:Nat} {s:Nd}
structure E6 (N:Nat) (H:Nat->Nat->Bool×List gG) (f:Nat->Nat):Prop where
 hc:∀o,o<N->∀q,1<=q->q<=f o->QA o (H o q)
 fb:∀o,o<N->f o<=1000000
theorem E6.ok(h:E6 N H f)(hN:N<=7)(b:τ<=900){a:cC}(ha:Kn H f τ N a):a.Ok:=ha.ok h.hc (by omega) (λo ho=>VL (h.fb o ho) (by omega)) (by omega)
theorem DO.lt{d}(h:DO H f τ N d){o:Nat}(ho:o∈az d):o<N:=by
 obtain⟨x,hx⟩:=fC ho;have:=h.all o x hx;have:=this.2.cn;omega
theorem PO.lt{d p}(h:PO H f τ N d p){o:Nat}(ho:o∈az p):o<N:=by
 obtain⟨x,hx⟩:=fC ho;have:=h.all o x hx;have:=this.2.1.cn;omega
theorem DO.len{d:Db}(h:DO H f τ N d):d.length<=N:=by
 have:=ik N _ h.nd λ_=>h.lt;rwa [fj]at this
theorem PO.len{d}{p:Pm}(h:PO H f τ N d p):p.length<=N:=by
 have:=ik N _ h.nd λ_=>h.lt;rwa [fj]at this
theorem NI.Ur(hT:cF T N)(h:NI T N H f τ β n s):s.nb.length<=8:=by
 have:=ik 8 _ h.nn (h.jG hT);rwa [fj]at this
theorem NI.lk(hT:cF T N)(h:NI T N H f τ β n s){lk:Nat}{p}(hp:aN lk s.nb=some p):∃m,gz T n lk m:=by
 obtain⟨q,a,rfl,_⟩:=(h.nk lk).1 ⟨p,hp⟩;exact⟨q.ot,me hT h.sh a⟩
theorem NI.cur(h:NI T N H f τ β n s)(hn:n<N):Kn H f τ N (l7 s.og):=⟨by show s.og.node<N;rw[h.on];exact hn,by show 1<=s.og.floor;rw[h.fl];exact h.f1,by show s.og.floor<=f s.og.node;rw[h.on,h.fl];exact Vh _,by show(s.og.over,s.og.cU)=H s.og.node s.og.floor;rw[h.on,h.fl];exact h.cu,h.ag⟩
theorem yt(p:Pm)(o:Nat):aN o (hZ p)=(aN o p).map λx=>(x.1,x.2 - 1):=gS _ _ _
theorem sR(nb:Nb)(lk:Nat):aN lk (mc 2 (er nb))=(aN lk nb).map λp=>zP 2 (hZ p):=by
 unfold mc er;rw[gS,gS,Zk];rfl
def RY(φ:Nat)(q:gO):Prop:=q.ph=φ/\q.lf=(if φ=0 then 0 else 3)/\q.bt=(if φ=0 then 0 else 1)
def S3(φ:Nat)(q:gO):Prop:=q.ph=φ/\q.lf=(if φ=0 then 0 else 2)/\q.bt=(if φ=0 then 0 else 1)
def rQ(s:Nd):List (Nat×km):=(s.au.map cZ).map (tT s.node)++(oz (er s.nb)).map IS
theorem vX{nb}{y:Nat×cC}:y∈oz (er nb)↔∃lk p o x,aN lk nb=some p/\aN o p=some x/\x.2 - 1=0/\y=(lk,x.1):=by
 rw[KW];constructor
 ·rintro⟨lk,p',hp,h2⟩;have:aN lk (er nb)=(aN lk nb).map hZ:=gS _ _ _;rw[this,Vr]at hp;obtain⟨p,hp,rfl⟩:=hp;obtain⟨o,b,hx,a,rfl⟩:=BW.1 h2;rw[yt,Vr]at hx;obtain⟨x,hx,rfl⟩:=hx;exact⟨lk,p,o,x,hp,hx,a,rfl⟩
 ·rintro⟨lk,p,o,x,hp,hx,a,rfl⟩;refine⟨lk,hZ p,by rw[show aN lk (er nb)=(aN lk nb).map hZ from gS _ _ _,hp];rfl,BW.2 ⟨o,(x.1,x.2 - 1),by rw[yt,hx];rfl,a,rfl⟩⟩
theorem NI.tick(hT:cF T N)(hk:E6 N H f)(h:NI T N H f τ β n s)(hn:n<N)(u:τ<=900)(A:β<=1000000){φ:Nat}(hφ:φ<=2)(hp:∀q∈s.au,RY φ q):
  Jd T s s.Md (rQ s)/\NI T N H f (τ+1) β n s.Md/\∀q∈s.Md.au,S3 φ q:=by
 have g:=hT.N7;have j:=h.fit hT;have v:∀q∈s.au,(cZ q).lk=q.lk/\(cZ q).ot=q.ot/\(cZ q).co=q.co/\(cZ q).ph=q.ph:=λq _=>⟨rfl,rfl,rfl,rfl⟩;have i:dS (s.au.map cZ)=dS s.au:=by
  unfold dS;rw[List.filter_map,V7]
  rfl
 have l:Je s:=by
  refine⟨j,by rw[h.nd];omega,by have:=h.tm;omega,λq k=>?_,h.dd.nd,λx hx=>by have:=h.dd.lt hx;omega,by have:=h.dd.len;omega,λo x hx=>by have:=(h.dd.all o x hx).2.ag;omega,h.ma,by have:=h.ag;omega,λlk p a=>?_,λlk p a z w=>?_,λy hy=>?_⟩
  ·obtain⟨h1,h2,b⟩:=hp q k;by_cases e:φ=0
   ·rw[Vn e]at h2 b;exact⟨.inl ⟨by omega,h2⟩,.inl (by omega),by omega⟩
   ·rw[Vk e]at h2 b;exact⟨.inr ⟨by omega,by omega,by omega⟩,.inr (by omega),by omega⟩
  ·have c:=h.pp lk p a;exact⟨by have:=c.len;omega,c.nd,λx hx=>by have:=c.lt hx;omega,λo x hx=>hk.ok g u (c.all o x hx).2.1⟩
  ·have c:=h.pp lk p a;have:=(c.all z.1 z.2 (Kq c.nd w)).2.2.1;omega
  ·obtain⟨lk,p,o,x,m,hx,_,rfl⟩:=vX.1 hy;exact hk.ok g u ((h.pp lk p m).all o x hx).2.1
 refine⟨⟨λx hx=>h.jG hT x (by have:az s.Md.nb=az s.nb:=by {show az (mc 2 (er s.nb))=_;unfold mc er;rw[keys_map,keys_map]};rwa [this]at hx),ES T s l⟩,⟨h.nd,h.on,?_,λq k=>?_,h.ma,h.fl,h.f1,h.fb,h.cu,h.uo,h.ua.trans i.symm,Y6 h.ag,Y6 h.tm,h.dd.tick,?_,λlk=>?_,λlk p a=>?_,uf.2 h.ow⟩,λq k=>?_⟩
 ·show(s.au.map cZ).map (λp=>(p.lk,p.ot))=_;rw[V7];exact h.sh
 ·obtain⟨r,hr,rfl⟩:=Vv.1 k;exact h.co r hr
 ·show(az (mc 2 (er s.nb))).Nodup;unfold mc er;rw[keys_map,keys_map];exact h.nn
 ·show(∃p,aN lk (mc 2 (er s.nb))=some p)↔∃q∈s.au.map cZ,q.lk=lk/\q.ph=2;rw[sR];constructor
  ·rintro⟨p,hp⟩;rw[Vr]at hp;obtain⟨p',d,_⟩:=hp;obtain⟨q,h1,h2,b⟩:=(h.nk lk).1 ⟨p',d⟩;exact⟨cZ q,Vv.2 ⟨q,h1,rfl⟩,h2,b⟩
  ·rintro⟨B,t,h2,b⟩;obtain⟨q,h1,rfl⟩:=Vv.1 t;obtain⟨p,hp⟩:=(h.nk lk).2 ⟨q,h1,h2,b⟩;exact⟨_,by rw[hp];rfl⟩
 ·have a:aN lk (mc 2 (er s.nb))=some p:=a;rw[sR,Vr]at a;obtain⟨p',d,rfl⟩:=a;exact(h.pp lk p' d).tick
 ·obtain⟨r,hr,rfl⟩:=Vv.1 k;obtain⟨h1,h2,b⟩:=hp r hr;refine⟨h1,?_,?_⟩
  ·show(if r.ph=0 then 0 else r.lf - 1)=_;rw[h1,h2];by_cases e:φ=0
   ·rw[Vn e,Vn e]
   ·rw[Vk e,Vk e,Vk e]
  ·show(if r.ph=0 then 0 else r.bt)=_;rw[h1,b];by_cases e:φ=0
   ·rw[Vn e,Vn e]
   ·rw[Vk e,Vk e]
theorem Lk(hT:cF T N)(h:NI T N H f τ β n s):s.au.length<=16/\(oz (er s.nb)).length<=56:=by
 refine⟨sY hT h.sh,?_⟩;have h1:(oz (er s.nb)).length<=(er s.nb).length*7:=JY λlk p hp=>by
  rw[show aN lk (er s.nb)=(aN lk s.nb).map hZ from gS _ _ _,Vr]at hp;obtain⟨p',a,rfl⟩:=hp;have:=(h.pp lk p' a).len;have:=hT.N7;unfold hZ lR;rw[Wf];omega
 have h2:(er s.nb).length=s.nb.length:=by unfold er lR;rw[Wf]
 have:=h.Ur hT;omega
def BR(g:Nat->Pm->Pm)(nb a:Nb):Prop:=az a=az nb/\∀k,aN k a=(aN k nb).map (g k)
theorem ra(lk:Nat)(g:Pm->Pm)(nb:Nb):BR (λk=>if k=lk then g else id) nb (Az lk g nb):=⟨FE ..,λk=>by
 rw[FB];by_cases e:k=lk
 ·simp only[Vn e]
 ·simp only[Vk e,Option.map_id_fun,id_eq]⟩
theorem IF(a:cC)(ex:Int)(nb:Nb):BR (s7 a ex) nb (iT a ex nb):=⟨mX ..,λk=>ru ..⟩
theorem NI.OO{b a}{g:Nat->Pm->Pm}(h:NI T N H f τ β n s)(hd:DO H f τ N b)(c:∀o q,Ge s.db o q->Ge b o q)(hm:BR g s.nb a)(hg:∀k p,aN k s.nb=some p->PO H f τ N b (g k p)):NI T N H f τ β n {s with db:=b,nb:=a}:=by
 refine⟨h.nd,h.on,h.sh,h.co,h.ma,h.fl,h.f1,h.fb,h.cu,h.uo,h.ua,h.ag,h.tm,hd,by show(az a).Nodup;rw[hm.1];exact h.nn,λk=>?_,λk p hp=>?_,c _ _ h.ow⟩
 ·show(∃p,aN k a=some p)↔_;rw[hm.2,<-h.nk k];constructor
  ·rintro⟨p,hp⟩;rw[Vr]at hp;exact⟨hp.choose,hp.choose_spec.1⟩
  ·rintro⟨p,hp⟩;exact⟨_,by rw[hp];rfl⟩
 ·have hp:aN k a=some p:=hp;rw[hm.2,Vr]at hp;obtain⟨p',d,rfl⟩:=hp;exact hg k p' d
theorem NI.Dc(hT:cF T N)(hk:E6 N H f)(h:NI T N H f τ β n s)(o:τ<=900){lk m:Nat}{a}(ha:Kn H f τ N a)(d:gz T n lk m)(l:∀q∈s.au,q.ph=2/\q.bt=1):
  uE T s lk (.iU 3 1 a) (s.Dc lk a) []/\NI T N H f τ β n (s.Dc lk a):=by
 obtain⟨i,hi,he,_,j⟩:=tI hT h.sh d;have b:=l _ (dR hi);obtain⟨pm,c⟩:=(h.nk lk).2 ⟨_,dR hi,he,b.1⟩;have r:=h.pp lk pm c;have g:az (s.Dc lk a).nb=az s.nb:=FE ..;refine⟨⟨λx hx=>h.jG hT x (by rwa [g]at hx),.inl (Cu T s lk i a pm (h.fit hT) hi he j b.1 b.2 c (hk.ok hT.N7 o ha) λx hx=>?_)⟩,h.OO h.dd (λ_ _ h=>h) (ra lk (gi a) s.nb) λk p hp=>?_⟩
 ·have:=r.all _ x hx;exact⟨hk.ok hT.N7 o this.2.1,ha.same this.2.1 this.1.symm⟩
 ·by_cases e:k=lk
  ·simp only[Vn e];exact(h.pp k p hp).Dc
  ·simp only[Vk e];exact h.pp k p hp
theorem AJ{lk k o:Nat}{a:cC}{p}{x:cC×Nat}(b:(az p).Nodup)(hp:aN k s.nb=some p)(hx:aN o p=some x):∃p',aN k (s.Dc lk a).nb=some p'/\(aN o p'=some x\/(k=lk/\o=a.cn/\x.1.seq=a.seq)):=by
 show ∃p',aN k (Az lk (gi a) s.nb)=some p'/\_;rw[FB,hp];by_cases e:k=lk
 ·rw[Vn e];refine⟨_,rfl,?_⟩;rcases AH a b o with h1|⟨h1,_,y,h2,c⟩
  ·rw[h1];exact .inl hx
  ·rw[hx]at h2;cases h2;exact .inr ⟨e,h1,c⟩
 ·rw[Vk e];exact⟨p,rfl,.inl hx⟩
theorem Gd(s:Nd)(lk:Nat)(a:cC):((∀x,aN a.cn s.db=some x->x.seq<a.seq)/\s.jh lk a=({s with db:=ke a s.db,nb:=iT a lk s.nb},true))\/
  (∃x,aN a.cn s.db=some x/\x.seq=a.seq/\s.jh lk a=({s with nb:=Az lk (gi a) s.nb},true))\/
  (∃x,aN a.cn s.db=some x/\a.seq<x.seq/\s.jh lk a=({s with nb:=Az lk (dD x) s.nb},false)):=by
 unfold Nd.jh;rcases xu a s.db with⟨e,h⟩|⟨x,hx,e,h⟩|⟨x,hx,e,h⟩
 ·rw[e];exact .inl ⟨h,rfl⟩
 ·rw[e];exact .inr (.inl ⟨x,hx,h,rfl⟩)
 ·refine .inr (.inr ⟨x,hx,h,?_⟩);rw[e,hx];rfl
structure PS (f:Nat->Nat) (lk:Nat) (a:cC) (s s':Nd):Prop where
 pt:s'.au=s.au
 ge:∀o q,Ge s.db o q->Ge s'.db o q
 mg:Ge s'.db a.cn a.seq
 j1:∀k p o x,aN k s.nb=some p->aN o p=some x->x.1.seq=f o->∃p',aN k s'.nb=some p'/\(aN o p'=some x\/(k=lk/\o=a.cn/\a.seq=f o))
 j2:∀k p o,aN k s.nb=some p->¬Ge s.db o (f o)->Ge s'.db o (f o)->o=a.cn/\a.seq=f o/\(k=lk\/∃p',aN k s'.nb=some p'/\aN o p'=some (a,0))
 nk:∀k,(∃p,aN k s'.nb=some p)->∃p,aN k s.nb=some p
theorem BR.back{g:Nat->Pm->Pm}{nb a}(h:BR g nb a){k:Nat}(hk:∃p,aN k a=some p):∃p,aN k nb=some p:=by
 obtain⟨p,hp⟩:=hk;rw[h.2,Vr]at hp;exact⟨hp.choose,hp.choose_spec.1⟩
theorem NI.jh(hT:cF T N)(hk:E6 N H f)(h:NI T N H f τ β n s)(hn:n<N)(V:τ<=900){lk m:Nat}{a}(ha:Kn H f τ N a)(G:gz T n lk m)(L:∀q∈s.au,q.ph=2/\q.bt=1):
  uE T s lk (.iU 2 1 a) (s.jh lk a).1 (if(s.jh lk a).2 then [(lk,.iU 3 1 a)] else [])/\NI T N H f τ β n (s.jh lk a).1/\PS f lk a s (s.jh lk a).1:=by
 obtain⟨i,hi,he,_,J⟩:=tI hT h.sh G;have C:=L _ (dR hi);obtain⟨pm,F⟩:=(h.nk lk).2 ⟨_,dR hi,he,C.1⟩;have t:∀ {b:cC},Kn H f τ N b->b.Ok:=λhb=>hk.ok hT.N7 V hb;have v:=h.cur hn;have U:Jf s a pm:=by
  refine⟨t ha,⟨λx hx=>?_,λk p hp x hx=>?_⟩,λe=>?_,λx hx y hy=>?_⟩
  ·have:=h.dd.all _ x hx;exact⟨t this.2,ha.same this.2 this.1.symm⟩
  ·have:=(h.pp k p hp).all _ x hx;exact⟨t this.2.1,ha.same this.2.1 this.1.symm⟩
  ·have Q:a.cn=s.og.node:=by rw[e,h.nd,h.on]
   exact⟨h.ma,t v,ha.same v Q,by have:=ha.s2;rw[e,h.nd]at this;rw[h.fl];exact this⟩
  ·have h1:=h.dd.all _ x hx;have h2:=(h.pp lk pm F).all _ y hy;exact⟨t h2.2.1,h1.2.same h2.2.1 (h1.1.trans (h1.1▸h2.1).symm)⟩
 have key:NI T N H f τ β n (s.jh lk a).1/\PS f lk a s (s.jh lk a).1:=by
  rcases Gd s lk a with⟨h1,e⟩|⟨x,hx,h1,e⟩|⟨x,hx,h1,e⟩
  ·rw[e];have A:=Ko (d:=s.db) (a:=a) λx hx=>Nat.le_of_lt (h1 x hx);have g:=IF a lk s.nb;have w:Ge (ke a s.db) a.cn a.seq:=⟨a,by rw[lx,Vn rfl],Vh _⟩;refine⟨h.OO (h.dd.put ha) A g λk p hp=>?_,rfl,A,w,λk p o x hp hx O=>?_,λk p o hp r c=>?_,λk=>g.back⟩
   ·have u:=(h.pp k p hp).db A;unfold s7;split
    ·exact u.own
    ·exact u.off ha w
   ·refine⟨_,by show aN k (iT a lk s.nb)=_;rw[ru,hp];rfl,?_⟩;have u:=h.pp k p hp;unfold s7;split
    ·rename_i l;rcases Cf a u.nd o with j|⟨j,_,y,hy,hle⟩
     ·rw[j];exact .inl hx
     ·rw[hx]at hy;cases hy;subst j;have:=ha.s2;exact .inr ⟨by omega,rfl,by omega⟩
    ·rcases rM a p o with j|⟨j,_,E⟩
     ·rw[j];exact .inl hx
     ·subst j;have:=E x hx;have:=ha.s2;omega
   ·have ho:o=a.cn:=by
     by_cases M:o=a.cn
     ·exact M
     ·refine absurd ?_ r;obtain⟨y,hy,P⟩:=c;have hy:aN o (ke a s.db)=some y:=hy;rw[lx,Vk M]at hy;exact⟨y,hy,P⟩
    subst ho;have K:a.seq=f a.cn:=by
     obtain⟨y,hy,P⟩:=c;have hy:aN a.cn (ke a s.db)=some y:=hy;rw[lx,Vn rfl]at hy;cases hy;have:=ha.s2;omega
    refine⟨rfl,K,?_⟩;by_cases l:k=lk
    ·exact .inl l
    ·refine .inr ⟨_,by show aN k (iT a lk s.nb)=_;rw[ru,hp];rfl,?_⟩;unfold s7;rw[Vk (by omega)];refine B9 λy hy=>?_;obtain⟨_,_,_,z,W,hle⟩:=(h.pp k p hp).all _ y hy;have:=h1 z W;omega
  ·rw[e];have g:=ra lk (gi a) s.nb;have B:=h.OO h.dd (λ_ _ h=>h) g λk p hp=>by
    have u:=h.pp k p hp;by_cases l:k=lk
    ·simp only[Vn l];exact u.Dc
    ·simp only[Vk l];exact u
   refine⟨B,rfl,λ_ _ h=>h,⟨x,hx,by omega⟩,λk p o y hp hy O=>?_,λk p o hp r c=>absurd c r,λk=>g.back⟩;obtain⟨p',h2,E⟩:=AJ (lk:=lk) (a:=a) (h.pp k p hp).nd hp hy;exact⟨p',h2,E.imp id λ⟨R,S,X⟩=>⟨R,S,by omega⟩⟩
  ·rw[e];have D:=h.dd.all _ x hx;have g:=ra lk (dD x) s.nb;have B:=h.OO h.dd (λ_ _ h=>h) g λk p hp=>by
    have u:=h.pp k p hp;by_cases l:k=lk
    ·simp only[Vn l];exact u.off D.2 ⟨x,by rw[D.1];exact hx,Vh _⟩
    ·simp only[Vk l];exact u
   refine⟨B,rfl,λ_ _ h=>h,⟨x,hx,by omega⟩,λk p o y hp hy O=>?_,λk p o hp r c=>absurd c r,λk=>g.back⟩;refine⟨_,by show aN k (Az lk (dD x) s.nb)=_;rw[g.2,hp];rfl,.inl ?_⟩;by_cases l:k=lk
   ·simp only[Vn l];rcases rM x p o with j|⟨j,_,E⟩
    ·rw[j];exact hy
    ·have:=E y hy;have:=D.2.s2;subst j;omega
   ·simp only[Vk l];exact hy
 exact⟨⟨key.1.jG hT,.inl (Cv T s lk i a pm (h.fit hT) hi he J C.1 C.2 F U (key.1.jG hT))⟩,key.1,key.2⟩
theorem aD.le{P f ps σ}{R a:PV->bH->Prop}(h:aD P f ps σ R)(i:∀r σ',R r σ'->∃r',fv r r'/\a r' σ'):aD P f ps σ a:=λF base E w vs j g=>by
 refine(h F base E w vs j g).mono ?_;rintro e w' ⟨v,r,σ',E',rfl,h1,h2,b,c,d⟩;obtain⟨r',k1,k⟩:=i r σ' h1;exact⟨v,r',σ',E',rfl,k,h2,b,c,k1 _ _ _ d⟩
theorem fv.cM{xs ys}(h:Dh xs ys):fv (.tuple xs) (.tuple ys):=λE w v hv=>by
 cases hv with
 |tuple cs _ hl hr=>exact .tuple cs ys (hl.trans h.1) (λi x u k1 a=>by
   have hi:=(Vf.1 a).1;have hx:xs[i]? =some (xs[i]'(by rw[<-h.1]at hi;exact hi)):=by simp
   exact h.2 i _ u hx a _ _ _ (hr i x _ k1 hx))
variable {T:aw} {N:Nat} {H:Nat->Nat->Bool×List gG} {f:Nat->Nat} {τ β n:Nat} {s:Nd}
structure NP (T:aw) (N:Nat) (H:Nat->Nat->Bool×List gG) (f:Nat->Nat) (τ β n:Nat) (s:Nd):Prop where
 nd:s.node=n
 on:s.og.node=n
 sh:s.au.map (λp=>(p.lk,p.ot))=wL T n
 co:∀p∈s.au,1<=p.co/\p.co<=65535
 ma:s.og.made=true
 fl:s.og.floor=f n
 f1:1<=f n
 fb:f n<=β
 cu:(s.og.over,s.og.cU)=H n (f n)
 ag:s.og.gM<=τ
 tm:s.time<=τ
 dd:DO H f τ N s.db
 nn:(az s.nb).Nodup
 nk:∀lk,(∃p,aN lk s.nb=some p)↔∃q∈s.au,q.lk=lk/\q.ph=2
 pp:∀lk p,aN lk s.nb=some p->PO H f τ N s.db p
 ow:Ge s.db n (f n)
theorem NP.of(h:NI T N H f τ β n s):NP T N H f τ β n s:=⟨h.nd,h.on,h.sh,h.co,h.ma,h.fl,h.f1,h.fb,h.cu,h.ag,h.tm,h.dd,h.nn,h.nk,h.pp,h.ow⟩
theorem NP.ni(h:NP T N H f τ β n s)(h1:s.og.over=s.over)(h2:s.og.cU=dS s.au):NI T N H f τ β n s:=⟨h.nd,h.on,h.sh,h.co,h.ma,h.fl,h.f1,h.fb,h.cu,h1,h2,h.ag,h.tm,h.dd,h.nn,h.nk,h.pp,h.ow⟩
theorem NP.jG(hT:cF T N)(h:NP T N H f τ β n s):∀x∈az s.nb,x<8:=λx hx=>by
 obtain⟨p,hp⟩:=fC hx;obtain⟨q,a,rfl,_⟩:=(h.nk x).1 ⟨p,hp⟩;have:=(me hT h.sh a).1;have:=hT.l8;omega
theorem NP.fit(hT:cF T N)(h:NP T N H f τ β n s):s.Fit:=⟨h.jG hT,h.nn,by
 have:=ik 8 _ h.nn (h.jG hT);rw[fj]at this;omega,by have:=sY hT h.sh;omega⟩
structure S2 (n:Nat) (H H':Nat->Nat->Bool×List gG) (f f':Nat->Nat) (s s':Nd):Prop where
 Q4:∀o,o≠n->f' o=f o
 Tm:f n<=f' n
 hH:∀o q,q<=f o->H' o q=H o q
 pt:s'.au=s.au
 ov:s'.over=s.over
 ge:∀o q,Ge s.db o q->Ge s'.db o q
 gb:∀o,o≠n->∀q,Ge s'.db o q->Ge s.db o q
 j:∀k p,aN k s.nb=some p->∃p',aN k s'.nb=some p'/\(∀o,o≠n->∀x,aN o p=some x->aN o p'=some x)/\((f' n=f n/\∀x,aN n p=some x->aN n p'=some x)\/(∃x,aN n p'=some x/\x.2=0/\x.1.seq=f' n))
 nk:∀k,(∃p,aN k s'.nb=some p)->∃p,aN k s.nb=some p
theorem S2.le{H':Nat->Nat->Bool×List gG}{f':Nat->Nat}{s'}(h:S2 n H H' f f' s s')(o:Nat):f o<=f' o:=by
 by_cases e:o=n
 ·subst e;exact h.Tm
 ·rw[h.Q4 o e];exact Vh _
theorem NP.il(hT:cF T N)(hk:E6 N H f)(h:NP T N H f τ β n s)(hn:n<N)(W:τ<=900)(aa:β+1<=1000000):∃H' f',
  aD prog 23 [.ptr 0 0] (aW T s) (λr σ'=>σ'=aW T s.il)/\NI T N H' f' τ (β+1) n s.il/\E6 N H' f'/\S2 n H H' f f' s s.il:=by
 have E:=hT.N7;have j:=Ff hT h.sh h.co s.over;have M:s.og.node<64:=by rw[h.on];omega
 have z:(⟨s.og.node,1,0,s.over,dS s.au⟩:cC).Ok:=⟨M,by simp,by simp,by simp,j.len,j.inc,λx hx=>by have:=j.ok x hx;rw[<-h.on]at this;exact this⟩;have R:s.og.cU.length<=256:=by
  have:=(hk.hc n hn (f n) h.f1 (Vh _)).len;rw[<-h.cu]at this;exact this
 have Z:=h.fl;have Y:=h.fb;have L:(l7 s.news.og).Ok:=⟨M,Y6 (We _),by show s.og.floor+1<=_;omega,by show 0<3600;omega,j.len,j.inc,z.ok⟩;have F:sN s.og s.over (dS s.au)=true->MW (l7 s.news.og) s:=λ_=>⟨λx hx=>by
  have hx:aN s.og.node s.db=some x:=hx;have h1:=h.dd.all _ x hx;have h2:=h1.2.s2;refine⟨hk.ok E W h1.2,h1.1.symm,λe=>?_⟩;have e:s.og.floor+1=x.seq:=e;rw[h1.1,h.on]at h2;omega,λk p hp x hx=>by
  have hx:aN s.og.node p=some x:=hx;have h1:=(h.pp k p hp).all _ x hx;have h2:=h1.2.1.s2;refine⟨hk.ok E W h1.2.1,h1.1.symm,λe=>?_⟩;have e:s.og.floor+1=x.1.seq:=e;rw[h1.1,h.on]at h2;omega⟩
 have b:=qm T s (h.fit hT) z R (by omega) L F;by_cases i:s.og.made=true/\s.og.over=s.over/\s.og.cU=dS s.au
 ·have e:s.il=s:=by unfold Nd.il;rw[Vn i]
  rw[e]at b ⊢;refine⟨H,f,b,(h.ni i.2.1 i.2.2).mono (λ_=>Vh _) I (λ_ _ _=>rfl) (Vh _) (XX _),hk,⟨λ_ _=>rfl,Vh _,λ_ _ _=>rfl,rfl,rfl,λ_ _ h=>h,λ_ _ _ h=>h,λk p hp=>⟨p,hp,λ_ _ _ h=>h,.inl ⟨rfl,λ_ h=>h⟩⟩,λ_ h=>h⟩⟩
 ·have e:s.il=s.news.OW:=by unfold Nd.il;rw[Vk i];rfl
  rw[e]at b ⊢;obtain⟨f',J⟩:∃f':Nat->Nat,f'=λo=>if o=n then f n+1 else f o:=⟨_,rfl⟩;obtain⟨H',D⟩:∃H':Nat->Nat->Bool×List gG,H'=λo q=>if o=n/\q=f n+1 then(s.over,dS s.au) else H o q:=⟨_,rfl⟩;have C:f' n=f n+1:=by rw[J];exact Vn rfl
  have u:∀o,o≠n->f' o=f o:=λo ho=>by rw[J];exact Vk ho
  have v:∀o,f o<=f' o:=λo=>by
   by_cases e:o=n
   ·subst e;omega
   ·rw[u o e];exact Vh _
  have l:∀o q,q<=f o->H' o q=H o q:=λo q V=>by
   rw[D];refine Vk λhh=>?_;obtain⟨rfl,rfl⟩:=hh;omega
  have A:H' n (f n+1)=(s.over,dS s.au):=by rw[D];exact Vn ⟨rfl,rfl⟩
  have Q:E6 N H' f':=⟨λo ho q h1 h2=>by
   by_cases e:o=n
   ·subst e;by_cases X:q=f o+1
    ·subst X;rw[A];exact j
    ·rw[l o q (by omega)];exact hk.hc o ho q h1 (by omega)
   ·rw[u o e]at h2;rw[l o q h2];exact hk.hc o ho q h1 h2,λo ho=>by
   by_cases e:o=n
   ·subst e;omega
   ·rw[u o e];exact hk.fb o ho⟩
  obtain⟨c,hc⟩:∃c:cC,c=l7 s.news.og:=⟨_,rfl⟩;have g:c.cn=n:=by rw[hc];exact h.on
  have B:c.seq=f n+1:=by rw[hc];show s.og.floor+1=_;omega
  have G:Kn H' f' τ N c:=⟨by rw[g];exact hn,by omega,by rw[g,C,B];exact Vh _,by rw[g,B,A,hc];rfl,by rw[hc];exact We _⟩;have hlt:∀x,aN c.cn s.db=some x->x.seq<c.seq:=λx hx=>by
   have h1:=h.dd.all _ x hx;have h2:=h1.2.s2;rw[h1.1,g]at h2;omega
  have P:(gm c s.db).1=ke c s.db:=by
   rcases xu c s.db with⟨e,_⟩|⟨x,hx,_,h2⟩|⟨x,hx,_,h2⟩
   ·rw[e]
   ·have:=hlt x hx;omega
   ·have:=hlt x hx;omega
  have O:s.news.OW= {s.news with db:=ke c s.db,nb:=iT c (-1) s.nb}:=by
   rw[<-P,hc];rfl
  rw[O]at b ⊢;have K:=Ko (d:=s.db) (a:=c) λx hx=>Nat.le_of_lt (hlt x hx);have w:Ge (ke c s.db) c.cn c.seq:=⟨c,by rw[lx,Vn rfl],Vh _⟩;have t:∀k,aN k (iT c (-1) s.nb)=(aN k s.nb).map (dD c):=λk=>by
   rw[ru,show s7 c (-1) k=dD c from funext λp=>Vk (by omega)]
  have m:∀k,(∃p,aN k (iT c (-1) s.nb)=some p)↔∃p,aN k s.nb=some p:=λk=>by
   rw[t];constructor
   ·rintro⟨p,hp⟩;rw[Vr]at hp;exact⟨hp.choose,hp.choose_spec.1⟩
   ·rintro⟨p,hp⟩;exact⟨_,by rw[hp];rfl⟩
  refine⟨H',f',b,⟨h.nd,h.on,h.sh,h.co,rfl,?_,by omega,by omega,?_,rfl,rfl,We _,h.tm,(h.dd.mono v l (Vh _)).put G,?_,λlk=>?_,λlk p hp=>?_,?_⟩,Q,⟨u,by omega,l,rfl,rfl,K,λo ho q hg=>?_,λk p hp=>?_,λk=>(m k).1⟩⟩
  ·show s.og.floor+1=f' n;omega
  ·show(s.over,dS s.au)=_;rw[C,A]
  ·show(az (iT c (-1) s.nb)).Nodup;rw[mX];exact h.nn
  ·exact(m lk).trans (h.nk lk)
  ·have hp:aN lk (iT c (-1) s.nb)=some p:=hp;rw[t,Vr]at hp;obtain⟨p',S,rfl⟩:=hp;exact(((h.pp lk p' S).mono v l (Vh _)).db K).off G w
  ·rw[C,<-B,<-g];exact w
  ·obtain⟨y,hy,V⟩:=hg;have hy:aN o (ke c s.db)=some y:=hy;rw[lx,Vk (by omega)]at hy;exact⟨y,hy,V⟩
  ·refine⟨dD c p,by show aN k (iT c (-1) s.nb)=_;rw[t,hp];rfl,λo ho x hx=>?_,.inr ⟨(c,0),?_,rfl,by show c.seq=f' n;omega⟩⟩
   ·rcases rM c p o with U|⟨U,_,_⟩
    ·rw[U];exact hx
    ·omega
   ·rw[<-g];refine B9 λx hx=>?_;have h1:=(h.pp k p hp).all _ x hx;have h2:=h1.2.1.s2;rw[h1.1,g]at h2;omega
def Nd.hl(s:Nd)(i h:Nat):Nd:= {s with au:=s.au.set i (Ku (decide (h=1)) (s.au.getD i cX))}
theorem NI.NU(hT:cF T N)(h:NI T N H f τ β n s){i lk m x:Nat}(hi:i<s.au.length)(he:(s.au.getD i cX).lk=lk)(t:(s.au.getD i cX).ot=m)(hm:m<N)(hx:x<=1)(p:∀j,j<i->(s.au.getD j cX).lk≠lk)(hb:(s.au.getD i cX).ph≠0->(s.au.getD i cX).bt=1)(A:HS (s.au.getD i cX).ph (s.au.getD i cX).lf)(a:qn x=2↔(s.au.getD i cX).ph=2):
  uE T s lk (.df m 1 x) (s.hl i x) []/\NI T N H f τ β n (s.hl i x):=by
 have z:=hT.N7;have g:=qM hT h.sh;obtain⟨p',b⟩:∃p',p'=Ku (decide (x=1)) (s.au.getD i cX):=⟨_,rfl⟩;have o:ts (s.au.getD i cX).ph (qn x)=0:=by
  unfold ts;by_cases e:qn x=2
  ·rw[Vn (a.1 e),Vn e]
  ·rw[Vk (λh=>e (a.2 h)),Vk e]
 have l:p'.ph=qn x:=by rw[b];rfl
 have k1:p'.lk=(s.au.getD i cX).lk:=by rw[b];rfl
 have w:p'.ot=(s.au.getD i cX).ot:=by rw[b];rfl
 have y:p'.co=(s.au.getD i cX).co:=by rw[b];rfl
 have v:s.hl i x= {s with au:=s.au.set i p'}:=by rw[b];rfl
 have h8:=h.jG hT;have hr:=Cy T s i m x (h.fit hT) hi hb A o;rw[PU hi]at hr;have u:=zY T s lk i m x ⟨by omega,by omega,by omega,by omega⟩ t (s.hl i x) (h.fit hT) hi he p h8 hr;refine⟨⟨h8,.inl (u.le λr σ' hr=>⟨_,?_,rfl,hr.2⟩)⟩,?_⟩
 ·rw[hr.1];exact fv.cM (.cons Zw<|.cons (WK _) .nil)
 ·rw[v];refine⟨h.nd,h.on,(EK hi k1 w).trans h.sh,λq d=>?_,h.ma,h.fl,h.f1,h.fb,h.cu,h.uo,h.ua.trans (Nh hi (by rw[l];exact a) k1 w y).symm,h.ag,h.tm,h.dd,h.nn,λk=>(h.nk k).trans ?_,h.pp,h.ow⟩
  ·rcases ka g hi d with rfl|⟨d,_⟩
   ·rw[y];exact h.co _ (dR hi)
   ·exact h.co q d
  ·constructor
   ·rintro⟨q,d,rfl,c⟩;by_cases e:q.lk=(s.au.getD i cX).lk
    ·have:=BC g d (dR hi) e;subst this;exact⟨p',CP hi p',k1,by rw[l];exact a.2 c⟩
    ·exact⟨q,xH d e,rfl,c⟩
   ·rintro⟨q,d,rfl,c⟩;rcases ka g hi d with rfl|⟨d,_⟩
    ·exact⟨_,dR hi,k1.symm,a.1 (by rw[<-l];exact c)⟩
    ·exact⟨q,d,rfl,c⟩
theorem NI.tT(hT:cF T N)(hk:E6 N H f)(h:NI T N H f τ β n s)(hn:n<N)(P:τ<=900)(Q:β+1<=1000000){i lk m:Nat}(hi:i<s.au.length)(he:(s.au.getD i cX).lk=lk)(L:(s.au.getD i cX).ot=m)(hm:m<N)(y:lk<8)(G:∀j,j<i->(s.au.getD j cX).lk≠lk)(hb:(s.au.getD i cX).bt=1)(A:(s.au.getD i cX).ph=1)(V:1<=(s.au.getD i cX).lf/\(s.au.getD i cX).lf<=3):
  ∃H' f' s2 s',s2=({s.hl i 1 with nb:=bS lk (pw (gE s.db)) s.nb}:Nd)/\uE T s lk (.df m 1 1) s' []/\NI T N H' f' τ (β+1) n s'/\E6 N H' f'/\S2 n H H' f f' s2 s':=by
 have v:=hT.N7;have t:=qM hT h.sh;have⟨p,hp⟩:=dw (s.au.getD i cX);obtain⟨p',d⟩:∃p',p'=Ku (decide (1=1)) p:=⟨_,rfl⟩;have k0:p'.ph=2:=by rw[d];rfl
 have k1:p'.lk=p.lk:=by rw[d];rfl
 have W:p'.ot=p.ot:=by rw[d];rfl
 have X:p'.co=p.co:=by rw[d];rfl
 have J:aN lk s.nb=none:=by
  cases hg:aN lk s.nb with
  |none=>rfl
  |some pm=>
   obtain⟨q,b,M,l⟩:=(h.nk lk).1 ⟨pm,hg⟩;have:=BC t b (dR hi) (M.trans he.symm);subst this;omega
 obtain⟨s2,c⟩:∃s2:Nd,s2= {s.hl i 1 with nb:=bS lk (pw (gE s.db)) s.nb}:=⟨_,rfl⟩;have e:s2.au=s.au.set i p':=by rw[c,d,<-hp];rfl
 have z:NP T N H f τ β n s2:=by
  have R:s2.node=s.node:=by rw[c];rfl
  have u:s2.og=s.og:=by rw[c];rfl
  have C:s2.db=s.db:=by rw[c];rfl
  have D:s2.nb=bS lk (pw (gE s.db)) s.nb:=by rw[c]
  have S:s2.time=s.time:=by rw[c];rfl
  refine⟨R.trans h.nd,by rw[u];exact h.on,by rw[e,EK hi (by rw[hp];exact k1) (by rw[hp];exact W)];exact h.sh,λq b=>?_,by rw[u];exact h.ma,by rw[u];exact h.fl,h.f1,h.fb,by rw[u];exact h.cu,by rw[u];exact h.ag,by rw[S];exact h.tm,by rw[C];exact h.dd,by rw[D];exact pN h.nn,λk=>?_,λk q b=>?_,by rw[C];exact h.ow⟩
  ·rw[e]at b;rcases ka t hi b with rfl|⟨b,_⟩
   ·rw[X,<-hp];exact h.co _ (dR hi)
   ·exact h.co q b
  ·rw[D,fI,e];by_cases B:k=lk
   ·subst B;rw[Vn rfl];exact⟨λ_=>⟨p',CP hi p',by rw[k1,<-hp,he],k0⟩,λ_=>⟨_,rfl⟩⟩
   ·rw[Vk B];refine(h.nk k).trans ⟨?_,?_⟩
    ·rintro⟨q,b,rfl,l⟩;exact⟨q,xH b (by rw[he];exact B),rfl,l⟩
    ·rintro⟨q,b,rfl,l⟩;rcases ka t hi b with rfl|⟨b,_⟩
     ·exact absurd (by rw[k1,<-hp,he]) B
     ·exact⟨q,b,rfl,l⟩
  ·rw[D,fI]at b;rw[C];split at b
   ·cases b;exact PO.up h.dd
   ·exact h.pp k q b
 obtain⟨H',f',w,g,F,K⟩:=z.il hT hk hn P Q;have U:=h.dd.len;have E:(gE s.db).length<=100000:=by
  have:=V1 List.length (uJ h.dd);rw[Wf,ez,fj]at this;omega
 have hr:=Cz T s s2 s2.il p i m 1 (h.fit hT) hi (λ_=>hb) (.inr ⟨.inl A,by omega,by omega⟩) (by rw[A];rfl) hp (by rw[PU hi,c,<-he];unfold Nd.hl;rw[hp]) (by rw[<-hp,he];exact y) (by rw[<-hp,he];exact J) (λx hx=>by have:=h.dd.lt hx;omega) (by omega) (λo x hx=>hk.ok v P (h.dd.all o x hx).2) (λa ha=>by
  obtain⟨o,_,ho⟩:=o5.1 ha;exact hk.ok v P (h.dd.all o a ho).2) (uI h.dd) E (z.jG hT) (g.jG hT) (Zu w)
 rw[<-hp,he]at hr;have O:=zZ T s lk i m 1 ⟨by omega,by omega,by omega,by omega⟩ L s2.il (h.fit hT) hi he G (g.jG hT) hr;exact⟨H',f',s2,s2.il,c,⟨g.jG hT,.inr ⟨lk,y,O.le λr σ' hr=>⟨_,by rw[hr.1];exact fv.cM (.cons Zw<|.cons (WK _) .nil),rfl,hr.2⟩⟩⟩,g,F,K⟩
variable {T:aw} {N:Nat} {H:Nat->Nat->Bool×List gG} {f:Nat->Nat} {φ τ β:Nat} {L:List Nd}
def oZ(φ:Nat):Nat:=if φ=0 then 0 else 1
def Ay(φ:Nat):Nat:=if φ=0 then 1 else 2
def cR(L:List Nd)(n:Nat):Nd:=L.getD n FH
theorem kF(L:List Nd){t:Nat}(a:t<L.length)(s:Nd)(n:Nat):cR (L.set t s) n=if n=t then s else cR L n:=sI L t n s a
inductive wu (T:aw) (N:Nat) (H:Nat->Nat->Bool×List gG) (f:Nat->Nat) (τ φ:Nat) (L:List Nd):gh->Prop
 |vf {n t lk:Nat} (h:gz T n lk t):wu T N H f τ φ L ⟨t,lk,.df n 1 (oZ φ)⟩
 |iU {n t lk k:Nat} {a:cC} (hφ:φ=2) (h:gz T n lk t) (hk:k=2\/k=3) (ha:Kn H f τ N a) (hg:Ge (cR L n).db a.cn a.seq):wu T N H f τ φ L ⟨t,lk,.iU k 1 a⟩
def I3(f:Nat->Nat)(o m lk:Nat)(w:List gh):Prop:=∃a,(⟨m,lk,.iU 2 1 a⟩:gh)∈w/\a.cn=o/\a.seq=f o
def RX(f:Nat->Nat)(o lk:Nat)(s:Nd):Prop:=∃p x,aN lk s.nb=some p/\aN o p=some x/\x.2=0/\x.1.seq=f o
def JJ(T:aw)(N:Nat)(f:Nat->Nat)(L:List Nd)(w:List gh):Prop:=∀n lk m o,o<N->gz T n lk m->(∃p,aN lk (cR L n).nb=some p)->Ge (cR L n).db o (f o)->Ge (cR L m).db o (f o)\/RX f o lk (cR L n)\/I3 f o m lk w
def TI(φ:Nat)(q:gO):Prop:=q.ph=Ay φ/\q.lf=3/\q.bt=1
def RU(n lk:Nat)(w:List gh):Prop:=∃m h,(⟨n,lk,.df m 1 h⟩:gh)∈w
def RZ(φ n:Nat)(q:gO)(w:List gh):Prop:=TI φ q\/(S3 φ q/\RU n q.lk w)
structure CI (T:aw) (N:Nat) (H:Nat->Nat->Bool×List gG) (f:Nat->Nat) (φ τ β:Nat) (L:List Nd) (w:List gh):Prop where
 len:L.length=N
 hk:E6 N H f
 ni:∀n,n<N->NI T N H f τ β n (cR L n)
 lt:∀l∈w,wu T N H f τ φ L l
 pt:∀n,n<N->∀q∈(cR L n).au,RZ φ n q w
 jj:JJ T N f L w
theorem CI.beta{a:Nat}{w}(C:CI T N H f φ τ β L w)(h:β<=a):CI T N H f φ τ a L w:=⟨C.len,C.hk,λn hn=>(C.ni n hn).mono (λ_=>Vh _) I (λ_ _ _=>rfl) (Vh _) h,C.lt,C.pt,C.jj⟩
theorem wu.mono{a l}(h:wu T N H f τ φ L l)(hg:∀n o q,Ge (cR L n).db o q->Ge (cR a n).db o q):wu T N H f τ φ a l:=by
 cases h with
 |vf h=>exact .vf h
 |iU h1 h2 b c d=>exact .iU h1 h2 b c (hg _ _ _ d)
theorem wu.nu{l:gh}(h:wu T N H f τ φ L l):∃n,gz T n l.lk l.to:=by
 cases h with
 |vf h=>exact⟨_,h⟩
 |iU _ h=>exact⟨_,h⟩
theorem CI.quiet(hT:cF T N){l:gh}{w out}(C:CI T N H f φ τ β L (l::w)){s':Nd}(E:NI T N H f τ β l.to s')(G:∀q∈s'.au,RZ φ l.to q (w++out))(j:∀o q,Ge (cR L l.to).db o q->Ge s'.db o q)(F:∀k,(∃p,aN k s'.nb=some p)->∃p,aN k (cR L l.to).nb=some p)(r:∀a,l.m= .iU 2 1 a->Ge s'.db a.cn a.seq)
  (hj:∀k o m,o<N->gz T l.to k m->(∃p,aN k (cR L l.to).nb=some p)->Ge s'.db o (f o)->(Ge (cR L l.to).db o (f o)->Ge (cR L m).db o (f o)\/RX f o k (cR L l.to)\/I3 f o m k w)->Ge (cR L m).db o (f o)\/RX f o k s'\/I3 f o m k w) (u:∀A∈out,wu T N H f τ φ (L.set l.to s') A):
  CI T N H f φ τ β (L.set l.to s') (w++out)/\∀n o q,Ge (cR L n).db o q->Ge (cR (L.set l.to s') n).db o q:=by
 obtain⟨M,B⟩:=(C.lt l (VC ..)).nu;have K:l.to<N:=(B.ne hT).2.2;have J:l.to<L.length:=by rw[C.len];exact K
 have b:=kF L J s';have c:∀n o q,Ge (cR L n).db o q->Ge (cR (L.set l.to s') n).db o q:=λn o q h=>by
  rw[b];by_cases e:n=l.to
  ·subst e;rw[Vn rfl];exact j o q h
  ·rw[Vk e];exact h
 refine⟨⟨by rw[VK];exact C.len,C.hk,λn hn=>?_,λA D=>?_,λn hn q v=>?_,λn lk m o ho ha hp hg=>?_⟩,c⟩
 ·rw[b];by_cases e:n=l.to
  ·subst e;rw[Vn rfl];exact E
  ·rw[Vk e];exact C.ni n hn
 ·rcases W5.1 D with h|h
  ·exact(C.lt A (VB _ h)).mono c
  ·exact u A h
 ·rw[b]at v;by_cases e:n=l.to
  ·subst e;rw[Vn rfl]at v;exact G q v
  ·rw[Vk e]at v;rcases C.pt n hn q v with h|⟨h,m,x,hm⟩
   ·exact .inl h
   ·refine .inr ⟨h,m,x,?_⟩;rcases V9.1 hm with h1|h1
    ·exact absurd (V1 gh.to h1) e
    ·exact Wr _ h1
 ·have t:=(ha.ne hT).1;rw[b]at hp hg;rw[b m,b n];by_cases e:n=l.to
  ·subst e;rw[Vn rfl]at hp hg;rw[Vn rfl,Vk (Ne.symm t)];have h0:=F lk hp;rcases hj lk o m ho ha h0 hg (λh1=>(C.jj l.to lk m o ho ha h0 h1).imp id λh2=>h2.imp id λ⟨a,i,d⟩=>⟨a,by
    rcases V9.1 i with g|g
    ·exact absurd (V1 gh.to g).symm t
    ·exact g,d⟩)with h|h|⟨a,i,d⟩
   ·exact .inl h
   ·exact .inr (.inl h)
   ·exact .inr (.inr ⟨a,Wr _ i,d⟩)
  ·rw[Vk e]at hp hg;rw[Vk e];rcases C.jj n lk m o ho ha hp hg with h|h|⟨a,i,d,g⟩
   ·refine .inl ?_;by_cases y:m=l.to
    ·subst y;rw[Vn rfl];exact j _ _ h
    ·rw[Vk y];exact h
   ·exact .inr (.inl h)
   ·rcases V9.1 i with z|z
    ·have y:m=l.to:=V1 gh.to z;refine .inl ?_;rw[Vn y];have:=r a (V1 gh.m z).symm;rw[d,g]at this;exact this
    ·exact .inr (.inr ⟨a,Wr _ z,d,g⟩)
theorem CI.up{w}(C:CI T N H f 2 τ β L w){n:Nat}(hn:n<N):∀q∈(cR L n).au,q.ph=2/\q.bt=1:=λq b=>by
 rcases C.pt n hn q b with⟨h1,_,a⟩|⟨⟨h1,_,a⟩,_⟩
 ·exact⟨h1,a⟩
 ·exact⟨h1,a⟩
theorem RZ.skip{n:Nat}{q}{l:gh}{w out}(h:RZ φ n q (l::w))(hl:∀m x,l.m≠ .df m 1 x):RZ φ n q (w++out):=by
 rcases h with h|⟨h,m,x,hm⟩
 ·exact .inl h
 ·refine .inr ⟨h,m,x,?_⟩;rcases V9.1 hm with h1|h1
  ·exact absurd (V1 gh.m h1).symm (hl m x)
  ·exact Wr _ h1
def wl(l:gh):Nat:=match l.m with
 | .iU 2 _ _=>2
 |_=>1
def wt(w:List gh):Nat:=(w.map wl).sum
theorem Mu(v w:List gh):wt (v++w)=wt v+wt w:=by simp[wt]
theorem Au(l:gh)(w:List gh):wt (l::w)=wl l+wt w:=by simp[wt]
theorem Ms(l:gh):1<=wl l:=by unfold wl;split<;>omega
theorem SL(l:gh):wl l<=2:=by unfold wl;split<;>omega
theorem KJ(w:List gh):w.length<=wt w:=by
 induction w with
 |nil=>simp
 |cons l w ih=>rw[Au,VI];have:=Ms l;omega
def Tc(s s':Nd):Prop:=s'.over=s.over/\s'.au.map (·.co)=s.au.map (·.co)
theorem FW{l:List gO}{i:Nat}(hi:i<l.length){p:gO}(h:p.co=(l.getD i cX).co):(l.set i p).map (·.co)=l.map (·.co):=by
 rw[Yt];refine Wz λj=>?_;rw[VV];by_cases e:i=j
 ·subst e;rw[Vn rfl,Vn (by simpa using hi),Vt];rw[Qo]at h;rw[Vm hi]at h ⊢;simp only[WH,Wj]at h ⊢;rw[h]
 ·rw[Vk e]
theorem Pt(s:Nd)(lk:Nat)(a:cC):Tc s (s.jh lk a).1:=by
 rcases Gd s lk a with⟨_,e⟩|⟨x,_,_,e⟩|⟨x,_,_,e⟩<;>rw[e]<;>exact⟨rfl,rfl⟩
structure AF (T:aw) (N:Nat) (H:Nat->Nat->Bool×List gG) (f:Nat->Nat) (φ τ β:Nat) (L:List Nd) (l:gh) (w:List gh) (H':Nat->Nat->Bool×List gG) (f':Nat->Nat) (s':Nd) (out:List (Nat×km)):Prop where
 rc:uE T (cR L l.to) l.lk l.m s' out
 po:yP T l.to out
 ci:CI T N H' f' φ τ (β+1) (L.set l.to s') (w++ew T l.to out)
 ff:φ=2->f'=f
 ge:∀n o q,Ge (cR L n).db o q->Ge (cR (L.set l.to s') n).db o q
 mg:∀a,l.m= .iU 2 1 a->Ge s'.db a.cn a.seq
 wt:wt (ew T l.to out)+1<=wl l
 cs:Tc (cR L l.to) s'
theorem CI.Dc(hT:cF T N)(A:τ<=900){n t lk:Nat}{a:cC}{w}(C:CI T N H f 2 τ β L (⟨t,lk,.iU 3 1 a⟩::w))(d:gz T n lk t)(ha:Kn H f τ N a)(hg:Ge (cR L n).db a.cn a.seq):AF T N H f 2 τ β L ⟨t,lk,.iU 3 1 a⟩ w H f ((cR L t).Dc lk a) []:=by
 have c:t<N:=(d.ne hT).2.2;obtain⟨h1,h2⟩:=(C.ni t c).Dc hT C.hk A ha d.symm (C.up c);obtain⟨B,D⟩:=C.quiet hT (out:=[]) (s':=(cR L t).Dc lk a) h2 (λq z=>(C.pt t c q z).skip (λm x h=>by cases h)) (λ_ _ h=>h) (λk=>(ra lk (gi a) _).back) (λb hb=>by cases hb) (λk o m ho g hp i hold=>by
  rcases hold i with h|⟨p,x,hp,hx,u,v⟩|h
  ·exact .inl h
  ·obtain⟨p',r,l⟩:=AJ (lk:=lk) (a:=a) (((C.ni t c).pp k p hp).nd) hp hx;rcases l with y|⟨rfl,rfl,E⟩
   ·exact .inr (.inl ⟨p',x,r,y,u,v⟩)
   ·have:m=n:=g.fn d.symm;subst this;refine .inl ?_;have e:a.seq=f a.cn:=by omega
    rw[e]at hg;exact hg
  ·exact .inr (.inr h)) (λF j=>by cases j)
 exact⟨h1,⟨We _,λx hx=>by cases hx⟩,B.beta (XX _),λ_=>rfl,D,(λb hb=>by cases hb),Vh _,rfl,rfl⟩
theorem CI.jh(hT:cF T N)(M:τ<=900){n t lk:Nat}{a:cC}{w}(C:CI T N H f 2 τ β L (⟨t,lk,.iU 2 1 a⟩::w))(c:gz T n lk t)(ha:Kn H f τ N a)(hg:Ge (cR L n).db a.cn a.seq):AF T N H f 2 τ β L ⟨t,lk,.iU 2 1 a⟩ w H f ((cR L t).jh lk a).1 (if((cR L t).jh lk a).2 then [(lk,.iU 3 1 a)] else []):=by
  have g:t<N:=(c.ne hT).2.2;have D:t<L.length:=by rw[C.len];exact g
  obtain⟨h1,h2,i⟩:=(C.ni t g).jh hT C.hk g M ha c.symm (C.up g);have j:=c.symm.oq hT;have v:a.seq=f a.cn->Ge (cR L n).db a.cn (f a.cn):=λe=>by rw[<-e];exact hg
  obtain ⟨O, P⟩ := C.quiet hT (out := ew T t (if ((cR L t).jh lk a).2 then [(lk, .iU 3 1 a)] else [])) (s' := ((cR L t).jh lk a).1) h2 (λq G => by
    rw[i.pt]at G;exact(C.pt t g q G).skip (λm x h=>by cases h)) i.ge i.nk (λb hb=>by cases hb;exact i.mg) (λk o m ho u hp B hold=>by
    by_cases y:Ge (cR L t).db o (f o)
    · rcases hold y with h|⟨p,x,hp,hx,E,z⟩|h
      · exact .inl h
      · obtain⟨p',r,l⟩:=i.j1 k p o x hp hx z;rcases l with A|⟨rfl,rfl,K⟩
        · exact .inr (.inl ⟨p',x,r,A,E,z⟩)
        · have:m=n:=u.fn c.symm;subst this;exact .inl (v K)
      · exact .inr (.inr h)
    · obtain⟨p,hp⟩:=hp;obtain⟨J,F,l⟩:=i.j2 k p o hp y B;subst J;rcases l with rfl|⟨p',r,A⟩
      · have:m=n:=u.fn c.symm;subst this;exact .inl (v F)
      · exact .inr (.inl ⟨p',(a,0),r,A,rfl,F⟩)) (λQ d=>by
    unfold ew at d;split at d
    · simp only[VX,Xw,WW]at d;subst d;rw[j.1];refine .iU rfl c.symm (.inr rfl) ha ?_;rw[kF L D,Vn rfl];exact i.mg
    · cases d)
  refine⟨h1,⟨?_,λx hx=>?_⟩,O.beta (XX _),λ_=>rfl,P,λb hb=>by cases hb;exact i.mg,?_,Pt _ _ _⟩
  · split<;>simp
  · split at hx
    · rw[WW]at hx;subst hx;exact⟨c.1,j.2⟩
    · cases hx
  · split
    · exact Vh 2
    · exact XX 1
theorem CI.NU(hT:cF T N)(hφ:φ<=2){n t lk:Nat}{w}(C:CI T N H f φ τ β L (⟨t,lk,.df n 1 (oZ φ)⟩::w))(d:gz T n lk t){i:Nat}(hi:i<(cR L t).au.length)(he:((cR L t).au.getD i cX).lk=lk)(D:((cR L t).au.getD i cX).ot=n)(B:∀j,j<i->((cR L t).au.getD j cX).lk≠lk)(g:φ≠1\/TI φ ((cR L t).au.getD i cX)):AF T N H f φ τ β L ⟨t,lk,.df n 1 (oZ φ)⟩ w H f ((cR L t).hl i (oZ φ)) []:=by
 have a:t<N:=(d.ne hT).2.2;have c:=C.pt t a _ (dR hi);have y:=qM hT (C.ni t a).sh;have F:((cR L t).au.getD i cX).ph≠0->((cR L t).au.getD i cX).bt=1:=λh=>by
  rcases c with⟨_,_,l⟩|⟨⟨h1,_,l⟩,_⟩
  ·exact l
  ·rw[l];exact Vk (by omega)
 have v:HS ((cR L t).au.getD i cX).ph ((cR L t).au.getD i cX).lf:=by
  unfold HS;rcases c with⟨h1,h2,_⟩|⟨⟨h1,h2,_⟩,_⟩
  ·right;rw[h1,h2];unfold Ay;split<;>omega
  ·rw[h1,h2];by_cases e:φ=0
   ·left;exact⟨e,Vn e⟩
   ·right;rw[Vk e];omega
 have r:qn (oZ φ)=2↔((cR L t).au.getD i cX).ph=2:=by
  have E:qn (oZ φ)=if φ=0 then 1 else 2:=by
   unfold oZ qn;by_cases e:φ=0
   ·rw[Vn e,Vn e];rfl
   ·rw[Vk e,Vk e];rfl
  rw[E];rcases c with⟨h1,_⟩|⟨⟨h1,_⟩,_⟩
  ·rw[h1];rfl
  ·rcases g with h|⟨h,_⟩
   ·rw[h1];by_cases e:φ=0
    ·rw[Vn e];omega
    ·rw[Vk e];omega
   ·rw[h];rfl
 obtain⟨h1,h2⟩:=(C.ni t a).NU hT (x:=oZ φ) hi he D (d.ne hT).2.1 (by unfold oZ;split<;>omega) B F v r;obtain⟨J,K⟩:=C.quiet hT (out:=[]) (s':=(cR L t).hl i (oZ φ)) h2 (λq g=>by
  rcases ka y hi g with rfl|⟨g,A⟩
  ·refine .inl ⟨?_,rfl,rfl⟩;show(if decide (oZ φ=1) then 2 else 1)=Ay φ;unfold oZ Ay;by_cases e:φ=0
   ·rw[Vn e,Vn e];rfl
   ·rw[Vk e,Vk e];rfl
  ·rcases C.pt t a q g with h|⟨h,m,x,hm⟩
   ·exact .inl h
   ·refine .inr ⟨h,m,x,?_⟩;rcases V9.1 hm with p|p
    ·exact absurd ((V1 gh.lk p).trans he.symm) A
    ·exact Wr _ p) (λ_ _ h=>h) (λ_ h=>h) (λb hb=>by cases hb) (λk o m ho G hp u hold=>hold u) (λM z=>by cases z)
 exact⟨h1,⟨We _,λx hx=>by cases hx⟩,J.beta (XX _),λ_=>rfl,K,(λb hb=>by cases hb),Vh _,rfl,FW hi rfl⟩
theorem CI.tT(hT:cF T N)(ht:τ<=900)(ar:β+1<=1000000){n t lk:Nat}{w}(C:CI T N H f 1 τ β L (⟨t,lk,.df n 1 1⟩::w))(J:gz T n lk t){i:Nat}(hi:i<(cR L t).au.length)(he:((cR L t).au.getD i cX).lk=lk)(ai:((cR L t).au.getD i cX).ot=n)(ag:∀j,j<i->((cR L t).au.getD j cX).lk≠lk)(z:S3 1 ((cR L t).au.getD i cX)):∃H' f' s',AF T N H f 1 τ β L ⟨t,lk,.df n 1 1⟩ w H' f' s' []:=by
 have B:t<N:=(J.ne hT).2.2;have ao:t<L.length:=by rw[C.len];exact B
 have r:=C.ni t B;have W:=qM hT r.sh;have au:=hT.l8;have S:=J.1;obtain⟨aj,ak,al⟩:=z;obtain⟨H',f',s2,s',A,an,ah,Z,c⟩:=r.tT hT C.hk B ht ar hi he ai (J.ne hT).2.1 (by omega) ag al aj (by rw[ak];decide);have d:=kF L ao s';have P:s2.db=(cR L t).db:=by rw[A];rfl
 have af:∀k,aN k s2.nb=if k=lk then some (pw (gE (cR L t).db)) else aN k (cR L t).nb:=λk=>by rw[A];exact fI ..
 have R:∀m o q,Ge (cR L m).db o q->Ge (cR (L.set t s') m).db o q:=λm o q h=>by
  rw[d];by_cases e:m=t
  ·subst e;rw[Vn rfl];exact c.ge o q (by rw[P];exact h)
  ·rw[Vk e];exact h
 have D:∀o m k,¬I3 f o m k (⟨t,lk,.df n 1 1⟩::w):=λo m k ⟨a,F,_⟩=>by
  have:=C.lt _ F;cases this with
  |iU h=>cases h
 have U:s'.au=(cR L t).au.set i (Ku (decide (1=1)) ((cR L t).au.getD i cX)):=by rw[c.pt,A];rfl
 refine⟨H',f',s',an,⟨We _,λx hx=>by cases hx⟩,?_,(λh=>by cases h),R,(λb hb=>by cases hb),Vh _,by rw[c.ov,A];rfl,by rw[U];exact FW hi rfl⟩;refine⟨by rw[VK];exact C.len,Z,λm hm=>?_,λl' aa=>?_,λm hm q z=>?_,λm k m' o ho ha hp hg=>?_⟩
 ·rw[d];by_cases e:m=t
  ·subst e;rw[Vn rfl];exact ah
  ·rw[Vk e];exact(C.ni m hm).mono c.le (c.Q4 m e) c.hH (Vh _) (XX _)
 ·have ab:l'∈w:=by simpa[ew]using aa
  have:=C.lt l' (VB _ ab);cases this with
  |vf h=>exact .vf h
  |iU h=>cases h
 ·rw[d]at z;by_cases e:m=t
  ·subst e;rw[Vn rfl,U]at z;rcases ka W hi z with rfl|⟨z,S⟩
   ·exact .inl ⟨rfl,rfl,rfl⟩
   ·rcases C.pt m B q z with h|⟨h,m2,x,K⟩
    ·exact .inl h
    ·refine .inr ⟨h,m2,x,?_⟩;rcases V9.1 K with G|G
     ·exact absurd ((V1 gh.lk G).trans he.symm) S
     ·exact Wr _ G
  ·rw[Vk e]at z;rcases C.pt m hm q z with h|⟨h,m2,x,K⟩
   ·exact .inl h
   ·refine .inr ⟨h,m2,x,?_⟩;rcases V9.1 K with G|G
    ·exact absurd (V1 gh.to G) e
    ·exact Wr _ G
 ·have ae:=(ha.ne hT).1;have ad:=(ha.ne hT).2.1;rw[d]at hp hg;rw[d m',d m];by_cases e:m=t
  ·subst e;rw[Vn rfl]at hp hg;rw[Vn rfl,Vk (Ne.symm ae)];obtain⟨p2,l⟩:=c.nk k hp;obtain⟨p',M,X,Y⟩:=c.j k p2 l;have uk:f' o=f o->Ge (cR L m).db o (f o)->(∀x,aN o p2=some x->aN o p'=some x)->Ge (cR L m').db o (f' o)\/RX f' o k s'\/I3 f' o m' k (w++ew T m []):=λO Q g=>by
    rw[af]at l;by_cases ek:k=lk
    ·rw[Vn ek]at l;cases l;obtain⟨y,hy,aq⟩:=Q;have u:=(r.dd.all o y hy);have v:=u.2.s2;rw[u.1]at v;exact .inr (.inl ⟨p',(y,0),M,g _ (by rw[Gc r.dd,hy];rfl),rfl,by show y.seq=f' o;omega⟩)
    ·rw[Vk ek]at l;rcases C.jj m k m' o ho ha ⟨p2,l⟩ Q with h|⟨p,x,h1,h2,F,h4⟩|h
     ·rw[O];exact .inl h
     ·rw[l]at h1;cases h1;exact .inr (.inl ⟨p',x,M,g _ h2,F,by omega⟩)
     ·exact absurd h (D o m' k)
   by_cases E:o=m
   ·subst E;rcases Y with⟨O,g⟩|⟨x,h1,h2,F⟩
    ·exact uk O r.ow g
    ·exact .inr (.inl ⟨p',x,M,h1,h2,F⟩)
   ·have O:=c.Q4 o E;refine uk O ?_ (X o E);have:=c.gb o E _ hg;rw[P,O]at this;exact this
  ·rw[Vk e]at hp hg;rw[Vk e];have V:f' o=f o:=by
    by_cases E:o=t
    ·subst E;obtain⟨y,hy,aq⟩:=hg;have u:=((C.ni m ad).dd.all o y hy);have v:=u.2.s2;rw[u.1]at v;have:=c.Tm;omega
    ·exact c.Q4 o E
   rw[V]at hg ⊢;rcases C.jj m k m' o ho ha hp hg with h|⟨p,x,h1,h2,F,h4⟩|h
   ·refine .inl ?_;have:=R m' o (f o) h;rw[d]at this;exact this
   ·exact .inr (.inl ⟨p,x,h1,h2,F,by omega⟩)
   ·exact absurd h (D o m' k)
theorem CI.step(hT:cF T N)(hφ:φ<=2)(m:τ<=900)(o:β+1<=1000000){l:gh}{w}(C:CI T N H f φ τ β L (l::w)):l.to<N/\∃H' f' s' out,AF T N H f φ τ β L l w H' f' s' out:=by
 have hl:=C.lt l (VC ..);obtain⟨p,g⟩:=hl.nu;refine⟨(g.ne hT).2.2,?_⟩;cases hl with
 | @vf n t lk b=>
  have j:t<N:=(b.ne hT).2.2;obtain⟨i,hi,he,d,c⟩:=tI hT (C.ni t j).sh b.symm;by_cases e:φ=1
  ·subst e;rcases C.pt t j _ (dR hi)with h|⟨h,_⟩
   ·exact⟨_,_,_,_,C.NU hT hφ b hi he d c (.inr h)⟩
   ·obtain⟨H',f',s',h1⟩:=C.tT hT m o b hi he d c h;exact⟨H',f',s',_,h1⟩
  ·exact⟨_,_,_,_,C.NU hT hφ b hi he d c (.inl e)⟩
 | @iU n t lk k a h2 b hk ha hg=>
  subst h2;rcases hk with rfl|rfl
  ·exact⟨_,_,_,_,C.jh hT m b ha hg⟩
  ·exact⟨_,_,_,_,C.Dc hT m b ha hg⟩
variable {T:aw} {N:Nat} {H:Nat->Nat->Bool×List gG} {f:Nat->Nat} {φ τ β:Nat} {L:List Nd}
def WS(T:aw)(o:Nat):Nat->Nat->Prop
 |0,m=>m=o
 |j+1,m=>WS T o j m\/∃n lk,WS T o j n/\gz T n lk m
def yM(T:aw)(N:Nat)(f:Nat->Nat)(L:List Nd)(j:Nat):Prop:=∀o m,o<N->WS T o j m->Ge (cR L m).db o (f o)
structure AI (T:aw) (N:Nat) (H:Nat->Nat->Bool×List gG) (f:Nat->Nat) (φ τ β:Nat) (L:List Nd):Prop where
 len:L.length=N
 hk:E6 N H f
 ni:∀n,n<N->NI T N H f τ β n (cR L n)
 pt:∀n,n<N->∀q∈(cR L n).au,RY φ q
 jj:JJ T N f L []
structure BI (T:aw) (N:Nat) (H:Nat->Nat->Bool×List gG) (f:Nat->Nat) (φ τ β k:Nat) (L:List Nd) (w:List gh):Prop where
 len:L.length=N
 hk:E6 N H f
 ni:∀n,n<N->NI T N H f (if n<k then τ+1 else τ) β n (cR L n)
 lt:∀l∈w,wu T N H f (τ+1) φ L l
 pt:∀n,n<N->∀q∈(cR L n).au,(if n<k then S3 φ q else RY φ q)/\(q.ot<k->RU n q.lk w)
 jj:JJ T N f L w
 kk:φ=2->∀n lk m o,n<k->o<N->gz T n lk m->Ge (cR L n).db o (f o)->Ge (cR L m).db o (f o)\/I3 f o m lk w
theorem AI.bi(A:AI T N H f φ τ β L):BI T N H f φ τ β 0 L []:=⟨A.len,A.hk,λn hn=>by rw[Vk (WL n)];exact A.ni n hn,(λl hl=>by cases hl),λn hn q a=>⟨by rw[Vk (WL n)];exact A.pt n hn q a,λh=>absurd h (WL _)⟩,A.jj,λ_ n lk m o h=>absurd h (WL n)⟩
theorem I3.app{o m lk:Nat}{w v}(h:I3 f o m lk w):I3 f o m lk (w++v):=by
 obtain⟨a,h1,h2⟩:=h;exact⟨a,Wr _ h1,h2⟩
theorem BI.tick(hT:cF T N)(hφ:φ<=2)(ht:τ<=900)(U:β<=1000000){k:Nat}{w}(B:BI T N H f φ τ β k L w)(v:k<N):
  Jd T (cR L k) (cR L k).Md (rQ (cR L k))/\yP T k (rQ (cR L k))/\BI T N H f φ τ β (k+1) (L.set k (cR L k).Md) (w++ew T k (rQ (cR L k)))/\(∀n o q,Ge (cR (L.set k (cR L k).Md) n).db o q↔Ge (cR L n).db o q)/\wt (ew T k (rQ (cR L k)))<=240:=by
 have P:k<L.length:=by rw[B.len];exact v
 have c:=kF L P (cR L k).Md;have a:=B.ni k v;rw[Vk (Zp k)]at a;have j:∀q∈(cR L k).au,RY φ q:=λq b=>by
  have:=(B.pt k v q b).1;rwa [Vk (Zp k)]at this
 obtain⟨h1,h2,Y⟩:=a.tick hT B.hk v ht U hφ j;obtain⟨Z,aa⟩:=Lk hT a;have d:∀n o q,Ge (cR (L.set k (cR L k).Md) n).db o q↔Ge (cR L n).db o q:=λn o q=>by
  rw[c];by_cases e:n=k
  ·subst e;rw[Vn rfl];exact uf
  ·rw[Vk e]
 have K:∀q∈(cR L k).au,(⟨q.ot,q.lk,.df k 1 (oZ φ)⟩:gh)∈ew T k (rQ (cR L k)):=λq b=>by
  have ha:=me hT a.sh b;refine Vv.2 ⟨(q.lk,.df k 1 (oZ φ)),Wr _ (Vv.2 ⟨cZ q,Vv.2 ⟨q,b,rfl⟩,?_⟩),by show(⟨Ca T q.lk k,_,_⟩:gh)=_;rw[(ha.oq hT).1]⟩;obtain⟨G,_,J⟩:=j q b;show(q.lk,km.df (cR L k).node 1 (if q.ph=0 then 0 else q.bt))=_;rw[a.nd,G,J];unfold oZ;by_cases e:φ=0
  ·rw[Vn e,Vn e]
  ·rw[Vk e,Vk e]
 have D:∀lk p o x m,aN lk (cR L k).nb=some p->aN o p=some x->x.2 - 1=0->gz T k lk m->(⟨m,lk,.iU 2 1 x.1⟩:gh)∈ew T k (rQ (cR L k)):=λlk p o x m hp hx h0 ha=>
  Vv.2 ⟨(lk,.iU 2 1 x.1),Yv _ (Vv.2 ⟨(lk,x.1),vX.2 ⟨lk,p,o,x,hp,hx,h0,rfl⟩,rfl⟩),by show(⟨Ca T lk k,_,_⟩:gh)=_;rw[(ha.oq hT).1]⟩
 have C:∀y∈rQ (cR L k),(∃q∈(cR L k).au,y=(q.lk,.df k 1 (oZ φ)))\/∃lk p o x,aN lk (cR L k).nb=some p/\aN o p=some x/\y=(lk,.iU 2 1 x.1):=λy hy=>by
  rcases W5.1 hy with h|h
  ·obtain⟨q',S,rfl⟩:=Vv.1 h;obtain⟨q,b,rfl⟩:=Vv.1 S;refine .inl ⟨q,b,?_⟩;obtain⟨G,_,J⟩:=j q b;show(q.lk,km.df (cR L k).node 1 (if q.ph=0 then 0 else q.bt))=_;rw[a.nd,G,J];unfold oZ;by_cases e:φ=0
   ·rw[Vn e,Vn e]
   ·rw[Vk e,Vk e]
  ·obtain⟨z,hz,rfl⟩:=Vv.1 h;obtain⟨lk,p,o,x,hp,hx,_,rfl⟩:=vX.1 hz;exact .inr ⟨lk,p,o,x,hp,hx,rfl⟩
 have A:∀y∈rQ (cR L k),∃m,gz T k y.1 m:=λy hy=>by
  rcases C y hy with⟨q,b,rfl⟩|⟨lk,p,o,x,hp,hx,rfl⟩
  ·exact⟨_,me hT a.sh b⟩
  ·exact a.lk hT hp
 have ab:(rQ (cR L k)).length=(cR L k).au.length+(oz (er (cR L k).nb)).length:=by simp[rQ]
 have M:∀lk p,aN lk (cR L k).nb=some p->φ=2:=λlk p hp=>by
  obtain⟨q,b,_,h⟩:=(a.nk lk).1 ⟨p,hp⟩;have:=(j q b).1;omega
 refine⟨h1,⟨by omega,λy hy=>?_⟩,⟨by rw[VK];exact B.len,B.hk,λn hn=>?_,λl hl=>?_,λn hn q b=>?_,λn lk m o ho ha hp hg=>?_,λV n lk m o hn ho ha hg=>?_⟩,d,?_⟩
 ·obtain⟨m,ha⟩:=A y hy;exact⟨ha.1,(ha.oq hT).2⟩
 ·rw[c];by_cases e:n=k
  ·subst e;rw[Vn rfl,Vn (Y3 n)];exact h2
  ·rw[Vk e];have:=B.ni n hn;by_cases t:n<k
   ·rw[Vn t]at this;rw[Vn (by omega)];exact this
   ·rw[Vk t]at this;rw[Vk (by omega)];exact this
 ·have g:∀n o q,Ge (cR L n).db o q->Ge (cR (L.set k (cR L k).Md) n).db o q:=λn o q=>(d n o q).2;rcases W5.1 hl with h|h
  ·exact(B.lt l h).mono g
  ·obtain⟨y,hy,rfl⟩:=Vv.1 h;obtain⟨m,ha⟩:=A y hy;rcases C y hy with⟨q,b,rfl⟩|⟨lk,p,o,x,hp,hx,rfl⟩
   ·rw[(ha.oq hT).1];exact .vf ha
   ·rw[(ha.oq hT).1];obtain⟨G,t,_,X⟩:=(a.pp lk p hp).all o x hx;refine .iU (M lk p hp) ha (.inl rfl) (t.mono (λ_=>Vh _) (λ_ _ _=>rfl) (XX τ)) (g _ _ _ ?_);rw[G];exact X
 ·rw[c]at b;by_cases e:n=k
  ·subst e;rw[Vn rfl]at b;rw[Vn (Y3 n)];refine⟨Y q b,λhlt=>?_⟩;obtain⟨r,hr,rfl⟩:=Vv.1 (show q∈(cR L n).au.map cZ from b);have ad:=((me hT a.sh hr).ne hT).1;have hlt:r.ot<n+1:=hlt;obtain⟨m,x,hm⟩:=(B.pt n hn r hr).2 (by omega);exact⟨m,x,Wr _ hm⟩
  ·rw[Vk e]at b;obtain⟨k1,k2⟩:=B.pt n hn q b;refine⟨?_,λhlt=>?_⟩
   ·by_cases t:n<k
    ·rw[Vn t]at k1;rw[Vn (by omega)];exact k1
    ·rw[Vk t]at k1;rw[Vk (by omega)];exact k1
   ·by_cases t:q.ot<k
    ·obtain⟨m,x,hm⟩:=k2 t;exact⟨m,x,Wr _ hm⟩
    ·have J:q.ot=k:=by omega
     have ha:=(me hT (B.ni n hn).sh b).symm;rw[J]at ha;obtain⟨i,hi,he,Q,_⟩:=tI hT a.sh ha;have:=K _ (dR hi);rw[he,Q]at this;exact⟨_,_,Yv _ this⟩
 ·have u:=(d n o _).1 hg;rw[c]at hp;have R:∃p,aN lk (cR L n).nb=some p:=by
   by_cases e:n=k
   ·subst e;rw[Vn rfl]at hp;obtain⟨p,hp⟩:=hp;have hp:aN lk (mc 2 (er (cR L n).nb))=some p:=hp;rw[sR,Vr]at hp;exact⟨hp.choose,hp.choose_spec.1⟩
   ·rw[Vk e]at hp;exact hp
  rcases B.jj n lk m o ho ha R u with h|⟨p,x,E,F,W,O⟩|h
  ·exact .inl ((d m o _).2 h)
  ·by_cases e:n=k
   ·subst e;exact .inr (.inr ⟨x.1,Yv _ (D lk p o x m E F (by omega) ha),((a.pp lk p E).all o x F).1,O⟩)
   ·refine .inr (.inl ⟨p,x,?_,F,W,O⟩);rw[c,Vk e];exact E
  ·exact .inr (.inr h.app)
 ·have u:=(d n o _).1 hg;by_cases e:n=k
  ·subst e;obtain⟨i,hi,he,_,_⟩:=tI hT a.sh ha;obtain⟨p,hp⟩:=(a.nk lk).2 ⟨_,dR hi,he,by rw[(j _ (dR hi)).1,V]⟩;rcases B.jj n lk m o ho ha ⟨p,hp⟩ u with h|⟨p,x,E,F,W,O⟩|h
   ·exact .inl ((d m o _).2 h)
   ·exact .inr ⟨x.1,Yv _ (D lk p o x m E F (by omega) ha),((a.pp lk p E).all o x F).1,O⟩
   ·exact .inr h.app
  ·rcases B.kk V n lk m o (by omega) ho ha u with h|h
   ·exact .inl ((d m o _).2 h)
   ·exact .inr h.app
 ·have h1:∀w:List gh,wt w<=2*w.length:=λw=>by
   induction w with
   |nil=>exact Vh _
   |cons l w ih=>rw[Au,VI];have:=SL l;omega
  have h2:(ew T k (rQ (cR L k))).length=(rQ (cR L k)).length:=by simp[ew]
  have:=h1 (ew T k (rQ (cR L k)));omega
theorem BI.ci(hT:cF T N){w}(B:BI T N H f φ τ β N L w):CI T N H f φ (τ+1) β L w:=⟨B.len,B.hk,λn hn=>by have:=B.ni n hn;rwa [Vn hn]at this,B.lt,λn hn q a=>by
 have h:=B.pt n hn q a;rw[Vn hn]at h;exact .inr ⟨h.1,h.2 ((me hT (B.ni n hn).sh a).ne hT).2.2⟩,B.jj⟩
theorem CI.ai(C:CI T N H f φ τ β L []):AI T N H f (Ay φ) τ β L:=⟨C.len,C.hk,C.ni,λn hn q b=>by
 rcases C.pt n hn q b with⟨h1,h2,a⟩|⟨_,m,x,h⟩
 ·exact⟨h1,by rw[h2];unfold Ay;split<;>rfl,by rw[a];unfold Ay;split<;>rfl⟩
 ·exact absurd h (by simp),C.jj⟩
def KB(T:aw)(N:Nat)(f:Nat->Nat)(L:List Nd)(w:List gh)(j:Nat):Prop:=∀o m,o<N->WS T o (j+1) m->Ge (cR L m).db o (f o)\/∃lk,I3 f o m lk w
theorem BI.kb{w}{j:Nat}(B:BI T N H f 2 τ β N L w)(hT:cF T N)(hb:yM T N f L j):KB T N f L w j:=λo m ho hw=>by
 rcases hw with h|⟨n,lk,h1,h2⟩
 ·exact .inl (hb o m ho h)
 ·exact(B.kk rfl n lk m o (h2.ne hT).2.1 ho h2 (hb o n ho h1)).imp id λh=>⟨lk,h⟩
theorem yM.zero(A:AI T N H f φ τ β L):yM T N f L 0:=λo m ho hm=>by
 have hm:m=o:=hm;subst hm;exact(A.ni m ho).ow
structure ml where
 φ0:Nat
 τ0:Nat
 β0:Nat
 K:Nat
 ov:Nat->Bool
 cs:Nat->List Nat
def ml.St(p:ml)(N:Nat)(L:List Nd):Prop:=∀n,n<N->(cR L n).over=p.ov n/\(cR L n).au.map (·.co)=p.cs n
theorem ml.St.set{p:ml}{L:List Nd}(h:p.St N L){t:Nat}(a:t<L.length)(hN:L.length=N){s'}(hc:Tc (cR L t) s'):p.St N (L.set t s'):=λn hn=>by
 rw[kF L a];by_cases e:n=t
 ·subst e;rw[Vn rfl,hc.1,hc.2];exact h n hn
 ·rw[Vk e];exact h n hn
def ml.ph(p:ml)(k:Nat):Nat:=if p.φ0+k<2 then p.φ0+k else 2
def ml.A(T:aw)(N:Nat)(p:ml)(k:Nat)(L:List Nd):Prop:=∃H f,AI T N H f (p.ph k) (p.τ0+k) (p.β0+4002*k) L/\yM T N f L (p.φ0+k - 2)/\p.St N L
def ml.B(T:aw)(N:Nat)(p:ml)(k n:Nat)(L:List Nd)(w:List gh):Prop:=k<p.K/\n<=N/\∃H f,BI T N H f (p.ph k) (p.τ0+k) (p.β0+4002*k) n L w/\wt w<=240*n/\yM T N f L (p.φ0+k - 2)/\p.St N L
def ml.C(T:aw)(N:Nat)(p:ml)(k c:Nat)(L:List Nd)(w:List gh):Prop:=k<p.K/\∃H f,CI T N H f (p.ph k) (p.τ0+k+1) (p.β0+4002*k+c) L w/\c+wt w<=1680/\(p.ph k=2->KB T N f L w (p.φ0+k - 2))/\p.St N L
theorem ml.ok(hT:cF T N)(p:ml)(ht:p.τ0+p.K<=800)(hβ:p.β0+4002*p.K<=900000):AD T p.K (p.A T N) (p.B T N) (p.C T N) where
 ab k L hk:=by
  rintro⟨H,f,hA,hb,hst⟩;have hN7:=hT.N7;exact⟨by rw[hA.len];omega,hk,We _,H,f,hA.bi,Vh _,hb,hst⟩
 bb k n L w:=by
  rintro⟨hk,hnN,H,f,hB,hw,hb,hst⟩ hn;have hN7:=hT.N7;rw[hB.len]at hn;have hβ':p.β0+4002*k<=1000000:=by
   have:4002*k<=4002*p.K:=YI _ (by omega);omega
  obtain⟨h1,h2,h3,h4,h5⟩:=hB.tick hT (by unfold ml.ph;split<;>omega) (by omega) hβ' hn;have hlw:=KJ w;have:240*n<=240*7:=YI _ (by omega);exact⟨by omega,_,_,h1,h2,hk,hn,H,f,h3,by rw[Mu,Nat.mul_succ];omega,λo m ho hm=>(h4 m o _).2 (hb o m ho hm),hst.set (by rw[hB.len];exact hn) hB.len ⟨rfl,by show((cR L n).au.map cZ).map (·.co)=_;rw[V7];rfl⟩⟩
 bc k L w:=by
  rintro⟨hk,hnN,H,f,hB,hw,hb,hst⟩;have hlen:=hB.len;rw[hlen]at hB hw;have hN7:=hT.N7;have:240*N<=240*7:=YI _ hN7;exact⟨hk,H,f,hB.ci hT,by omega,λhph=>by
   rw[hph]at hB;exact hB.kb hT hb,hst⟩
 cc k c L m w:=by
  rintro⟨hk,H,f,hC,hw,hkb,hst⟩;have hN7:=hT.N7;rw[Au]at hw;have hwl:=Ms m;have hlw:=KJ w;have hβ':p.β0+4002*k+c+1<=1000000:=by
   have:4002*k<=4002*p.K:=YI _ (by omega);omega
  obtain⟨hto,H',f',s',out,R⟩:=hC.step hT (by unfold ml.ph;split<;>omega) (by omega) hβ';refine⟨by omega,by omega,by rw[hC.len];exact hto,by omega,s',out,R.rc,R.po,hk,H',f',?_,?_,λhph o n ho hn=>?_,hst.set (by rw[hC.len];exact hto) hC.len R.cs⟩
  ·have:=R.ci;rwa [Xk]at this
  ·have:=R.wt;rw[Mu];omega
  ·have hf:=R.ff hph;subst hf;rcases hkb hph o n ho hn with h|⟨lk,a,h1,h2,h3⟩
   ·exact .inl (R.ge n o _ h)
   ·rcases V9.1 h1 with h4|h4
    ·refine .inl ?_;have e1:n=m.to:=V1 gh.to h4;have h5:=R.mg a (V1 gh.m h4).symm;rw[kF L (by rw[hC.len];exact hto),Vn e1];rw[h2,h3]at h5;exact h5
    ·exact .inr ⟨lk,a,Wr _ h4,h2,h3⟩
 ca k c L:=by
  rintro⟨hk,H,f,hC,hw,hkb,hst⟩;have hA:=hC.ai;have e:Ay (p.ph k)=p.ph (k+1):=by
   unfold Ay ml.ph;by_cases h:p.φ0+k<2
   ·rw[Vn h];by_cases h2:p.φ0+k=0
    ·rw[Vn h2,Vn (by omega)];omega
    ·rw[Vk h2,Vk (by omega)]
   ·rw[Vk h,Vk (by decide),Vk (by omega)]
  rw[e]at hA;refine⟨H,f,⟨hA.len,hA.hk,λn hn=>(hA.ni n hn).mono (λ_=>Vh _) I (λ_ _ _=>rfl) (Vh _) (by omega),hA.pt,hA.jj⟩,?_,hst⟩;by_cases h:p.φ0+k<2
  ·rw[show p.φ0+(k+1) - 2=0 by omega];exact yM.zero hA
  ·rw[show p.φ0+(k+1) - 2=p.φ0+k - 2+1 by omega];intro o m ho hm;rcases hkb (by unfold ml.ph;rw[Vk h]) o m ho hm with h1|⟨lk,a,h1,_⟩
   ·exact h1
   ·exact absurd h1 (by simp)
end
end PW
namespace PW
open Go.RowKit Go.Maps Go.Sort Go.Shelf cm Mem Net
theorem WS.mono{T}{o m j k:Nat}(h:WS T o j m)(hk:j<=k):WS T o k m:=by
 induction hk with
 |refl=>exact h
 |step _ ih=>exact .inl ih
def tR(T:aw)(o m:Nat):Prop:=∃j,WS T o j m
theorem tR.step{T}{o n lk m:Nat}(h:tR T o n)(a:gz T n lk m):tR T o m:=by
 obtain⟨j,h⟩:=h;exact⟨j+1,.inr ⟨n,lk,h,a⟩⟩
theorem tR.trans{T}{o n m:Nat}(h:tR T o n)(k:tR T n m):tR T o m:=by
 obtain⟨j,k⟩:=k;induction j generalizing m with
 |zero=>have k:m=n:=k;subst k;exact h
 |succ j ih=>
  rcases k with k|⟨x,lk,k,a⟩
  ·exact ih k
  ·exact(ih k).step a
theorem tR.symm{T}{o m:Nat}(h:tR T o m):tR T m o:=by
 obtain⟨j,h⟩:=h;induction j generalizing m with
 |zero=>have h:m=o:=h;subst h;exact⟨0,rfl⟩
 |succ j ih=>
  rcases h with h|⟨x,lk,h,a⟩
  ·exact ih h
  ·exact tR.trans (tR.step ⟨0,rfl⟩ a.symm) (ih h)
theorem u5{α:Type}{p q:α->Bool}:∀ {l:List α} {x},(∀y∈l,p y=true->q y=true)->x∈l->q x=true->p x=false->(l.filter p).length+1<=(l.filter q).length
 | [],_,_,h,_,_=>by cases h
 |a::l,x,c,hx,e,hp=>by
  have hle:∀(l:List α),(∀y∈l,p y=true->q y=true)->(l.filter p).length<=(l.filter q).length:=λl=>by
   induction l with
   |nil=>intro _;exact Vh _
   |cons b l ih=>
    intro h;have h1:=ih λy hy=>h y (VB _ hy);have h2:=h b (VC ..);simp only[W6];cases hb:p b with
    |true=>rw[Vn rfl,Vn (h2 hb)];simp only[VI];omega
    |false=>
     rw[Vk (by decide)];split
     ·simp only[VI];omega
     ·exact h1
  simp only[W6];rcases V9.1 hx with rfl|d
  ·have:=hle l λy hy=>c y (VB _ hy);rw[hp,e,Vk (by decide),Vn rfl];simp only[VI];omega
  ·have:=u5 (λy hy=>c y (VB _ hy)) d e hp;have h2:=c a (VC ..);cases hb:p a with
   |true=>rw[Vn rfl,Vn (h2 hb)];simp only[VI];omega
   |false=>
    rw[Vk (by decide)];split
    ·simp only[VI];omega
    ·exact this
open Classical in
theorem WS.Sl{T}{N:Nat}(hT:cF T N){o:Nat}(ho:o<N):∀m,tR T o m->WS T o N m:=by
 have hlt:∀j m,WS T o j m->m<N:=λj=>by
  induction j with
  |zero=>intro m h;have h:m=o:=h;omega
  |succ j ih=>
   intro m h;rcases h with h|⟨x,lk,_,a⟩
   ·exact ih m h
   ·exact(a.ne hT).2.2
 have hclosed:∀j,(∀m,WS T o (j+1) m->WS T o j m)->∀k m,WS T o k m->WS T o j m:=λj hj k=>by
  induction k with
  |zero=>intro m h;exact WS.mono h (Nat.zero_le _)
  |succ k ih=>
   intro m h;rcases h with h|⟨x,lk,h,a⟩
   ·exact ih m h
   ·exact hj m (.inr ⟨x,lk,ih x h,a⟩)
 have hcnt:∀j,(∃i,i<=j/\∀m,WS T o (i+1) m->WS T o i m)\/j+1<=((List.range N).filter λm=>decide (WS T o j m)).length:=λj=>by
  induction j with
  |zero=>
   right;have hm:o∈(List.range N).filter λm=>decide (WS T o 0 m):=List.mem_filter.2 ⟨List.mem_range.2 ho,decide_eq_true rfl⟩;exact List.length_pos_of_mem hm
  |succ j ih=>
   rcases ih with⟨i,hi,h⟩|ih
   ·exact .inl ⟨i,by omega,h⟩
   ·by_cases h:∀m,WS T o (j+1) m->WS T o j m
    ·exact .inl ⟨j,by omega,h⟩
    ·right;obtain⟨x,hx⟩:=Classical.not_forall.1 h;obtain⟨hx1,hx2⟩:=Classical.not_imp.1 hx;have:=u5 (p:=λm=>decide (WS T o j m)) (q:=λm=>decide (WS T o (j+1) m)) (l:=List.range N) (λy _ h=>decide_eq_true (.inl (of_decide_eq_true h))) (List.mem_range.2 (hlt _ _ hx1)) (decide_eq_true hx1) (decide_eq_false hx2);omega
 intro m ⟨k,hk⟩;rcases hcnt N with⟨i,hi,h⟩|h
 ·exact WS.mono (hclosed i h k m hk) hi
 ·have:=List.length_filter_le (λm=>decide (WS T o N m)) (List.range N);rw[List.length_range]at this;omega
theorem D0(T:aw)(N:Nat)(hT:cF T N)(V:0<N):Can prog 6 [bu T] (λr=>∃b:Bool,r=flag b/\(b=true->∀n,n<N->tR T 0 n)):=by
  have hN:=hT.hN;have W:=hT.N7;have X:=hT.l8;refine aR func6 I ntmps6 I<|aj (.a 2 I<|.k [1] I)<|aK<|av 2 I<|bW (eJ I (VW I) I I hN hN ⟨by unfold maxLen;omega,by omega⟩) I<|av 1 I<|aF [1,3] I ?_;refine aK<|av 1 I<|aZ (aX (0) I) I<|bw (YD (cP (L:=List.replicate N false) (j:=0) (c:=true) I (VJ I) I I (by rw[<-jd];rfl) (by simp;omega)) I) I I<|aF [1,3] I ?_;have d:∀m,m<N->((List.replicate N false).set 0 true).getD m false=true->tR T 0 m:=λm hm hb=>by
   by_cases e:m=0
   · subst e;exact⟨0,rfl⟩
   · rw[Qo,VY (Ne.symm e),Wx,Vn hm]at hb;cases hb
  have f:((List.replicate N false).set 0 true).length=N:=by simp
  generalize (List.replicate N false).set 0 true=bs at d f;refine an<|aj (.a 3 I<|.k [1,3,14,15] I)<|ay<|eX [1,3,14,15] I<|bq (λr st=>∃k bs,k<=N/\r=N - k/\bs.length=N/\(∀m,m<N->bs.getD m false=true->tR T 0 m)/\st=⟨[(1,.cH (bJ T) 0),(3,.own 0),(14,num N),(15,num k)],[some (.row 4 1 N (aT bs))]⟩) N ⟨0,bs,by omega,rfl,f,d,rfl⟩ ?_;clear d f;rintro r st ⟨k,bs,hk,rfl,f,d,rfl⟩;refine aj (.a 1 I<|.k [1,3,14,15,16] I)<|an<|ak I (λhc=>?_) (λhc=>?_)
  · have hlt:k<N:=by have:=Vg hc;omega
    refine ao<|an<|ay<|aj (.a 4 I<|.k [1,3,14,15,18,19,20] I)<|ay<|eX [1,3,14,15,18,19,20] I<|bq (λr st=>∃i bs,i<=T.ah.length/\r=T.ah.length - i/\bs.length=N/\(∀m,m<N->bs.getD m false=true->tR T 0 m)/\st=⟨[(1,.cH (bJ T) 0),(3,.own 0),(14,num N),(15,num k),(18,.slice T.ah.length (bR T.ah)),(19,num T.ah.length),(20,num i)],[some (.row 4 1 N (aT bs))]⟩) T.ah.length ⟨0,bs,by omega,rfl,f,d,rfl⟩ ?_;clear d f;rintro r st ⟨i,bs,hi,rfl,f,d,rfl⟩;refine aj (.a 1 I<|.k [1,3,14,15,18,19,20,21] I)<|an<|ak I (λhc=>?_) (λhc=>?_)
    · have z:i<T.ah.length:=by have:=Vg hc;omega
      obtain⟨a,b,t⟩:=hT.link z;have O:=t.la;have P:=t.lb;have C:=t.ea;have D:=t.eb;have v:gz T a i b:=⟨z,.inl ⟨C,D⟩⟩;have K:((bR T.ah).drop (i*7)).take 7=[num a,num b,.raw (.int .i64 (bV T.ah i).c0),.raw (.int .i64 (bV T.ah i).c1),.raw (.int .i64 (bV T.ah i).cap),.raw (.int .i64 (bV T.ah i).fH),.raw (.int .i64 (bV T.ah i).wC)]:=by
       rw[BM T.ah i z];unfold jt;rw[C,D]
      have E:=eD bs a (by omega);have F:=eD bs b (by omega);have⟨Q,G⟩:=dw (bs.getD a false);have⟨Y,H⟩:=dw (bs.getD b false);rw[G]at E;rw[H]at F;have h1:=d a O;have h2:=d b P;rw[G]at h1;rw[H]at h2;refine ao<|an<|ay<|aK<|aZ (aX (i*7) I) I<|aZ (gr I (K) I) I<|av 2 I<|aF [1,3,5,14,15,18,19,20] I ?_;refine cD 35 (.raw (.bool (Q||Y))) [1,3,5,14,15,18,19,20] I ?_ ?_
      · refine .a 3 I<|.v (aX (a) I) I<|.v (aO I (E)) I<|.a 1 I<|?_;cases Q
        · exact .a 3 I<|.v (aX (b) I) I<|.v (aO I (F)) I<|.a 1 I<|.k [35,1,3,5,14,15,18,19,20] I
        · exact .a 6 I<|.k [35,1,3,5,14,15,18,19,20] I
      refine ak I (λhc=>?_) (λhc=>?_)
      · have J:tR T 0 a/\tR T 0 b:=by
         cases Q with
         |true=>exact⟨h1 rfl,(h1 rfl).step v⟩
         |false=>exact⟨(h2 hc).step v.symm,h2 hc⟩
        refine oL 20 2 (([some (.row 4 1 N (aT bs)),some (.cells 42 [num a,num b,.raw (.int .i64 (bV T.ah i).c0),.raw (.int .i64 (bV T.ah i).c1),.raw (.int .i64 (bV T.ah i).cap),.raw (.int .i64 (bV T.ah i).fH),.raw (.int .i64 (bV T.ah i).wC)])])::([some (.row 4 1 N (aT (bs.set a true))),some (.cells 42 [num a,num b,.raw (.int .i64 (bV T.ah i).c0),.raw (.int .i64 (bV T.ah i).c1),.raw (.int .i64 (bV T.ah i).cap),.raw (.int .i64 (bV T.ah i).fH),.raw (.int .i64 (bV T.ah i).wC)])])::([some (.row 4 1 N (aT ((bs.set a true).set b true))),some (.cells 42 [num a,num b,.raw (.int .i64 (bV T.ah i).c0),.raw (.int .i64 (bV T.ah i).c1),.raw (.int .i64 (bV T.ah i).cap),.raw (.int .i64 (bV T.ah i).fH),.raw (.int .i64 (bV T.ah i).wC)])])::[]) (⟨_,none,0,0⟩::⟨_,none,0,0⟩::⟨_,none,0,0⟩::⟨_,none,0,1⟩::⟨_,none,0,1⟩::⟨_,none,0,1⟩::⟨_,none,0,0⟩::⟨_,some 0,0,0⟩::⟨_,none,1,1⟩::⟨_,some 1,0,0⟩::[]) _ mixed ?grd21 rfl rfl rfl rfl (.cons (.val [3] I I (yz (bF (aP I) b7)) I I)<|.cons (.val [5] I I (yz (bF (aP I) b7)) I I)<|.cons (.val [37] I I (yz (bF (aP I) b7)) I I)<|.cons (.val [3] I I (yz (bF (aP I) (bF (aP I) b7))) I I)<|.cons (.val [5] I I (yz (bF (aP I) (bF (aP I) b7))) I I)<|.cons (.val [40] I I (yz (bF (aP I) (bF (aP I) b7))) I I)<|.cons (.val [36,38] I I (yz (bF (aX a rfl) b7)) I I)<|.cons (.gT [42] I I I I (YD (cP (e:=4) (i:=0) (n:=N) (L:=bs) (j:=a) (c:=true) I (VJ I) I I I (by omega)) I) I)<|.cons (.val [39,41] I I (yz (bF (aX b rfl) b7)) I I)<|.cons (.gT [43] I I I I (YD (cP (e:=4) (i:=0) (n:=N) (L:=bs.set a true) (j:=b) (c:=true) I (VJ I) I I I (by rw[VK];omega)) I) I) .nil) (aJ (ks:=[1,3,14,15,18,19,20]) I) ?_
        case grd21=>kernel_rfl
        refine ko (A:=[some (cj.row 4 1 N (aT ((bs.set a true).set b true)))]) (.cons (.row VT) .nil) (.c 1<|.cons 3 I (.own (i:=0) I)<|.c 14<|.c 15<|.c 18<|.c 19<|.c 20 .nil) I ?_;obtain⟨s,g⟩:∃s,s=(bs.set a true).set b true:=⟨_,rfl⟩;have B:s.length=N:=by rw[g];simpa using f
        have w:∀m,m<N->s.getD m false=true->tR T 0 m:=λm hm hb=>by
         by_cases R:m=b
         · subst R;exact J.2
         · by_cases S:m=a
           · subst S;exact J.1
           · rw[g,Qo,VY (Ne.symm R),VY (Ne.symm S),<-Qo]at hb;exact d m hm hb
        rw[<-g];refine aL (.v (aU I) I<|.a 1 I<|.k [1,3,14,15,18,19,20] I)<|⟨T.ah.length - (i+1),by omega,i+1,_,by omega,rfl,B,w,rfl⟩
      · refine ko (A:=[some (cj.row 4 1 N (aT bs))]) (.cons (.row VT) .nil) (.c 1<|.cons 3 I (.own (i:=0) I)<|.c 14<|.c 15<|.c 18<|.c 19<|.c 20 .nil) I ?_;have B:=f;have w:=d;refine ao<|aL (.v (aU I) I<|.a 1 I<|.k [1,3,14,15,18,19,20] I) ?_;exact⟨T.ah.length - (i+1),by omega,i+1,_,by omega,rfl,B,w,rfl⟩
    · refine bh<|aL (.v (aU I) I<|.a 1 I<|.k [1,3,14,15] I) ?_;exact⟨N - (k+1),by omega,k+1,bs,by omega,rfl,f,d,rfl⟩
  · refine bh<|an<|aj (.a 3 I<|.k [46,47,48] I)<|ay<|eX [46,47,48] I<|bq (λr st=>∃k,k<=N/\r=N - k/\(∀m,m<k->bs.getD m false=true)/\st=⟨[(46,.own 0),(47,num N),(48,num k)],[some (.row 4 1 N (aT bs))]⟩) N ⟨0,by omega,rfl,λm hm=>absurd hm (WL m),rfl⟩ ?_;rintro r st ⟨k,hk,rfl,u,rfl⟩;refine aj (.a 1 I<|.k [46,47,48,49] I)<|an<|ak I (λhc=>?_) (λhc=>?_)
    · have hlt:k<N:=by have:=Vg hc;omega
      have hg:=eD bs k (by omega);have⟨q,U⟩:=dw (bs.getD k false);rw[U]at hg;refine ao<|an<|ay<|aj (.v (aX (k) I) I<|.v (aO I (hg)) I<|.a 1 I<|.k [7,46,47,48] I)<|aj (.a 1 I<|.v (cT I (rfl)) I<|.k [46,47,48,53] I)<|ak I (λhc=>?_) (λhc=>?_)
      · exact aj (.a 1 I<|.k [2] I)<|aA<|⟨_,_,V5 I,aQ.pure,false,rfl,λh=>by cases h⟩
      · refine ao<|aL (.v (aU I) I<|.a 1 I<|.k [46,47,48] I) ?_;exact⟨N - (k+1),by omega,k+1,by omega,rfl,λm hm=>by
         by_cases e:m=k
         · subst e;rw[U];cases q with
           |true=>rfl
           |false=>exact absurd hc (by decide)
         · exact u m (by omega),rfl⟩
    · have M:k=N:=by have:=Vj hc;omega
      subst M;exact bh<|aj (.a 1 I<|.k [2] I)<|aA<|⟨_,_,V5 I,aQ.pure,true,rfl,λ_ n hn=>d n hn (u n hn)⟩
end PW
namespace PW
section
open Go.RowKit Go.Maps Go.Sort Go.Shelf cm Mem Net
structure Qx (T:aw) (s:Nd) (m:Nat) (σ:bH):Prop where
 lt:m+15<=σ.length
 sp:∀k b,k<15->(jB T s (m+ ·))[k]? =some (some b)->σ[m+k]? =some (some b)
 h8:∀x∈az s.nb,x<8
theorem Pg{T}{n:Nat}{s':Nd}(h8:∀x∈az s'.nb,x<8)(σ:bH)(h:aD prog 21 [bu T,num n,num 1,.agg [num 1,num 3,num 2]] [] (λr σ'=>r= .tuple [.ptr 0 0,num 0]/\σ'=aW T s')):aD prog 21 [bu T,num n,num 1,.agg [num 1,num 3,num 2]] σ (λr σ'=>r= .tuple [.ptr σ.length 0,num 0]/\σ'=σ++jB T s' (σ.length+ ·)):=by
 refine Y5 (σ0:=[]) [] I VT .nil rfl (h.mono ?_);rintro r a ⟨rfl,rfl⟩;have hb:∀k,bk [] σ.length k=σ.length+k:=λk=>by unfold bk;rw[Vk (by simp)];simp
 have hm:fB (bk [] σ.length) [.ptr 0 0,num 0] [.ptr σ.length 0,num 0]:=XN (.ptr (hb 0)) (XN .pure Y9);refine⟨.tuple [.ptr σ.length 0,num 0],jB T s' (bk [] σ.length),We _,.tuple hm.1 hm.2,vR T s' _,rfl,?_⟩;rw[qO T s' (g:=bk [] σ.length) (g':=(σ.length+ ·)) h8 λk _=>hb k];simp[iJ]
theorem Qx.new(T:aw){s:Nd}(h8:∀x∈az s.nb,x<8)(σ:bH):Qx T s σ.length (σ++jB T s (σ.length+ ·)):=⟨by rw[Vu,CT];exact Vh _,λk b hk hb=>by rw[Vq (by omega),show σ.length+k - σ.length=k by omega];exact hb,h8⟩
theorem Qx.call{T s}{m:Nat}{σ:bH}(A:Qx T s m σ){f d}[aM d]{p}[IsPure p](h:aD prog f (.ptr 0 0::d) (aW T s) (λr σ'=>r=p/\σ'=aW T s)):∃σ',aD prog f (.ptr m 0::d) σ (λr σ''=>r=p/\σ''=σ')/\Qx T s m σ'/\σ'.length=σ.length/\∀i,i<m->σ'[i]? =σ[i]? :=by
 have hlt:∀i∈lQ (m+ ·),i<σ.length:=λi hi=>by
  obtain⟨k,hk,rfl⟩:=pI hi;have:=A.lt;show m+k<_;omega
 have c:(lQ (m+ ·)).Nodup:=by
  unfold lQ;rw[WY,WO];exact List.Pairwise.imp (λ{a b} j=>by omega) (YU (n:=15))
 refine⟨iJ σ (lQ (m+ ·)) (jB T s (m+ ·)),Y5 (lQ (m+ ·)) (gu _ c) (V0 (.ptr (j3 (m+ ·) (by omega:0<15))) VT) (vQ A.h8 (by simp[lQ]) (λk hk=>j3 _ hk) A.sp) (VG.2 λi hi=>Nat.blt_eq.mpr (hlt i hi)) (h.mono ?_),⟨by rw[eI];exact A.lt,λk b hk hb=>?_,A.h8⟩,eI ..,λi hi=>?_⟩
 ·rintro r l ⟨rfl,rfl⟩;refine⟨_,jB T s (bk (lQ (m+ ·)) σ.length),by simp[lQ,aW,EP,mN],Mw.pure,vR T s _,rfl,?_⟩;rw[qO T s (g:=bk (lQ (m+ ·)) σ.length) (g':=(m+ ·)) A.h8 λk hk=>DP _ _ hk];rw[show(jB T s (m+ ·)).drop (lQ (m+ ·)).length=[] from Wi (by simp[lQ,jB,mN]),V6]
 ·rw[rT _ _ _ c hlt (by simp[lQ,jB,mN]) (j3 (m+ ·) hk)];exact hb
 ·exact pQ _ _ _ λhm=>by
   obtain⟨k,_,e⟩:=pI hm;have e:m+k=i:=e;omega
theorem gD.push{T}{L:List Nd}{d ρ:Nat}{σ E:bH}{s}(h:gD T L d ρ [] σ)(hl:E.length=σ.length+15)(hk:∀i,i<σ.length->E[i]? =σ[i]?)(A:Qx T s σ.length E):∃g,wo T L d ρ g E/\gD T (L++[s]) d E.length [] ((E.set ρ Option.none++[some (cj.row 35 1 (L.length+1) (((List.range L.length).map λn=>.ptr (g n 0) 0)++[.ptr σ.length 0]))]).set d (some (A8 T E.length))):=by
 obtain⟨g,D, -⟩:=h;have C:=D.lt;have t:wo T L d ρ g E:=D.N3 (by omega) λi hi _=>hk i hi;refine⟨g,t,?_⟩;obtain⟨o,w⟩:∃o:Nat->Nat->Nat,o=λn=>if n<L.length then g n else(σ.length+ ·):=⟨_,rfl⟩;have c:∀n,n<L.length->o n=g n:=λn hn=>by rw[w];exact Vn hn
 have f:o L.length=(σ.length+ ·):=by rw[w];exact Vk (Zp _)
 have z:∀i,i<E.length->i≠d->i≠ρ->((E.set ρ Option.none++[some (cj.row 35 1 (L.length+1) (((List.range L.length).map λn=>.ptr (g n 0) 0)++[.ptr σ.length 0]))]).set d (some (A8 T E.length)))[i]? =E[i]? :=λi hi h1 h2=>by
  rw[VY (Ne.symm h1),Vl (by rw[VK];exact hi),VY (Ne.symm h2)]
 have q:∀n,(L++[s]).getD n FH=if n<L.length then L.getD n FH else if n=L.length then s else FH:=λn=>by
  rw[Qo,Qo];by_cases e:n<L.length
  ·rw[Vn e,Vl e]
  ·rw[Vk e];by_cases l:n=L.length
   ·subst l;rw[Vn rfl];simp
   ·rw[Vk l,V4 (by simp;omega)];rfl
 have v:∀n,n<L.length+1->∀k,k<15->o n k<E.length/\o n k≠d/\o n k≠ρ:=λn hn k a=>by
  by_cases e:n<L.length
  ·rw[c n e];exact t.bd n e k a
  ·have l:n=L.length:=by omega
   subst l;rw[f];show σ.length+k<E.length/\σ.length+k≠d/\σ.length+k≠ρ;omega
 have B:∀n,n<L.length+1->∀k b,k<15->(jB T ((L++[s]).getD n FH) (o n))[k]? =some (some b)->E[o n k]? =some (some b):=λn hn k b a hb=>by
  rw[q]at hb;by_cases e:n<L.length
  ·rw[Vn e,c n e]at hb;rw[c n e];exact t.sp n e k b a hb
  ·have l:n=L.length:=by omega
   subst l;rw[Vk e,Vn rfl,f]at hb;rw[f];exact A.sp k b a hb
 refine⟨o,⟨?_,?_,by omega,λn hn k b a hb=>?_,λn m hn hm k j a y e=>?_,λn hn k a=>?_,λn hn x hx=>?_⟩,by simp,λx hx=>by cases hx⟩
 ·rw[WC (by simp;omega)];rfl
 ·rw[VY (by omega),Vq (by simp),VK,YK];rw[Vu,VR,WM,Wu];have r:(List.range L.length).map (λn=>PV.ptr (o n 0) 0)=(List.range L.length).map (λn=>PV.ptr (g n 0) 0):=Wh λn hn=>by rw[c n (VP.1 hn)]
  rw[r];simp[f]
 ·rw[Vu,VR]at hn;have p:=v n hn k a;rw[z _ p.1 p.2.1 p.2.2];exact B n hn k b a hb
 ·rw[Vu,VR]at hn hm;by_cases r:n<L.length
  ·by_cases l:m<L.length
   ·rw[c n r,c m l]at e;exact t.inj n m r l k j a y e
   ·have u:m=L.length:=by omega
    subst u;rw[c n r,f]at e;have:=(D.bd n r k a).1;have e:g n k=σ.length+j:=e;omega
  ·have u:n=L.length:=by omega
   subst u;by_cases l:m<L.length
   ·rw[c m l,f]at e;have:=(D.bd m l j y).1;have e:σ.length+k=g m j:=e;omega
   ·have u:m=L.length:=by omega
    subst u;rw[f]at e;have e:σ.length+k=σ.length+j:=e;exact⟨rfl,by omega⟩
 ·rw[Vu,VR]at hn;have p:=v n hn k a;have:=t.lt;exact⟨by simp;omega,p.2.1,by omega⟩
 ·rw[Vu,VR]at hn;rw[q]at hx;by_cases e:n<L.length
  ·rw[Vn e]at hx;exact t.h8 n e x hx
  ·rw[Vk e,Vn (by omega)]at hx;exact A.h8 x hx
theorem gD.start(T:aw):gD T [] 0 1 [] [some (A8 T 1),some (.row 35 1 0 [])]:=⟨λ_ _=>0,⟨rfl,rfl,by decide,λn hn=>absurd hn (WL n),λn m hn=>absurd hn (WL n),λn hn=>absurd hn (WL n),λn hn=>absurd hn (WL n)⟩,by simp,λx hx=>by cases hx⟩
structure RW (T:aw) (n:Nat) (s:Nd):Prop where
 h8:∀x∈az s.nb,x<8
 nw:aD prog 21 [bu T,num n,num 1,.agg [num 1,num 3,num 2]] [] (λr σ'=>r= .tuple [.ptr 0 0,num 0]/\σ'=aW T s)
 px:aD prog 22 [.ptr 0 0,.slice 0 []] (aW T s) (λr σ'=>r=num 0/\σ'=aW T s)
theorem DC(T:aw)(N:Nat)(hN:T.nodes=(N:Int))(L:N<=64)(S:Nat->Nd)(M:∀n,n<N->RW T n (S n))(hT:∀i,i<T.ah.length->(0<=(bV T.ah i).a/\(bV T.ah i).a<64)/\(0<=(bV T.ah i).b/\(bV T.ah i).b<64))(z:T.ah.length<=256){A:Nat->List Nd->Prop}{B:Nat->Nat->List Nd->List gh->Prop}{C:Nat->Nat->List Nd->List gh->Prop}(H:AD T (2*N+40) A B C)(K:A 0 ((List.range N).map S)):
    aD prog 7 [bu T,.raw (.slice none 0 0)] [] (λr σ'=>r= .tuple [.ptr 0 0,flag true]/\∃t ρ,A (2*N+40) t/\gD T t 0 ρ [] σ'):=by
  refine aV func7 I ntmps7 I<|aj (.a 3 I<|.k [1,2] I)<|aK<|av 2 I<|bW (dv I I I) I<|av 1 I<|aF [1,2,6] I ?_;refine cO 0 3 35 1 I I<|dY (σ':=[some (A8 T 1),some (.row 35 1 0 [])]) I ?_;refine an<|aj (.a 1 I<|.k [1,2,6,7] I)<|ay<|eX [1,2,6,7] I<|bq (λr st=>∃n σ ρ,n<=N/\r=N - n/\gD T ((List.range n).map S) 0 ρ [] σ/\st=⟨[(1,.raw (.slice none 0 0)),(2,.cH (bJ T) 0),(6,.ptr 0 0),(7,num n)],σ⟩) N ⟨0,_,1,by omega,rfl,gD.start T,rfl⟩ ?_;rintro r st ⟨n,σ,ρ,hn,rfl,F,rfl⟩;refine an<|aj (.a 4 I<|.k [1,2,6,7,19] I)<|ak I (λhc=>?_) (λhc=>?_)
  · have hlt:n<N:=by have:=Vg hc;omega
    obtain⟨g8,G,J⟩:=M n hlt;have b:=Pg g8 σ G;have m:=Qx.new T g8 σ;have l:(σ++jB T (S n) (σ.length+ ·)).length=σ.length+15:=by rw[Vu,CT]
    have k:∀i,i<σ.length->(σ++jB T (S n) (σ.length+ ·))[i]? =σ[i]? :=λi hi=>Vl hi;generalize σ++jB T (S n) (σ.length+ ·)=E at b m l k;obtain⟨u,D,o,j,f⟩:=m.call J;have d:∀i,i<σ.length->u[i]? =σ[i]? :=λi hi=>(f i hi).trans (k i hi);obtain⟨g,a,e⟩:=F.push (j.trans l) d o;have p:=a.dd;have s:=a.rr;have q:((List.range n).map S).length=n:=by simp
    rw[q]at s e;have y:=a.lt;have h0:(u.set ρ none++[some (.row 35 1 (n+1) (((List.range n).map λn=>.ptr (g n 0) 0)++[.ptr σ.length 0]))])[0]? =some (some (A8 T ρ)):=by
     rw[Vl (by rw[VK];exact y.1),VY (Ne.symm a.dr)];exact p
    refine ao<|an<|ay<|aK<|av 3 I<|br I I (VO b (λ_ σ' h=>?_));obtain⟨rfl,h⟩:=h;rw[h];clear h;refine av 5 I<|aF [1,2,6,7,8,9] I ?_;refine an<|aj (.a 2 I<|.k [1,2,6,7,8,30] I)<|ak I (λhc=>?_) (λhc=>?_)
    · cases hc
    · refine ao<|aj (.v (tf (aP I) Zw) I<|.k [1,2,6,7,8,10] I)<|an<|aj (.a 3 I<|.k [1,2,6,7,8,10,31,32,33] I)<|ay<|eX [1,2,6,7,8,10,31,32,33] I<|bq (λr st=>r=0/\st=⟨[(1,.raw (.slice none 0 0)),(2,.cH (bJ T) 0),(6,.ptr 0 0),(7,num n),(8,.ptr σ.length 0),(10,.slice 0 []),(31,.raw (.slice none 0 0)),(32,num 0),(33,num 0)],E⟩) 0 ⟨rfl,rfl⟩ ?_;rintro r st ⟨rfl,rfl⟩;refine aj (.a 1 I<|.k [1,2,6,7,8,10,31,32,33,34] I)<|an<|ak I (λhc=>?_) (λhc=>?_)
      · cases hc
      · refine bh<|an<|aK<|av 2 I<|br I I (VO D (λ_ σ' h=>?_));obtain⟨rfl,h⟩:=h;rw[h];clear h;refine av 1 I<|aF [1,2,6,7,8,50] I ?_;refine ak I (λhc=>?_) (λhc=>?_)
        · cases hc
        · refine ao<|bp<|av 4 I<|aZ (aq I (VJ I) I p rfl) I<|av 2 I<|bW (bP I (VW I) I s rfl rfl (by unfold maxLen;omega)) I<|av 2 I<|bw (YD (eh (i:=0) (off:=3) (blk:=A8 T ρ) I (VJ I) I I h0 (show 3<4 by decide)) I) I I<|aF [1,2,6,7] I ?_;refine aL (.a 1 I<|.v (aU I) I<|.a 1 I<|.k [1,2,6,7] I)<|⟨N - (n+1),by omega,n+1,_,u.length,by omega,rfl,by rw[WM,Wu];exact e,rfl⟩
  · have x:n=N:=by have:=Vj hc;omega
    subst x;have c:=uU T hT z (2*n+40) H _ K (by omega) F;rw[show((2*n+40:Nat):Int)=2*T.nodes+40 by rw[hN];omega]at c;refine bh<|aK<|av 4 I<|aZ (aU I) I<|aZ (aU I) I<|br I I (VO c (λ_ σ' h=>?_));obtain⟨rfl,t,v,w⟩:=h;refine av 2 I<|aF [4,5] I ?_;exact aA<|⟨_,V5 I,rfl,t,ρ,v,w⟩
end
section
open Go.RowKit cm Mem Net
variable {T:aw} {N:Nat}
def qN(T:aw)(n:Nat):Nd:=⟨n,0,(dQ T n).map (kH T),cW T n,[(n,⟨n,1,0,cW T n,[]⟩)],[],⟨cW T n,[],n,1,true,0⟩⟩
def H0(T:aw)(o _q:Nat):Bool×List gG:=(cW T o,[])
theorem QN(T:aw)(n:Nat):dS ((dQ T n).map (kH T))=[]:=by
 unfold dS;have:((dQ T n).map (kH T)).filter (λp=>p.ph=2)=[]:=List.filter_eq_nil_iff.2 λp hp=>by
  obtain⟨a,_,rfl⟩:=Vv.1 hp;simp[kH]
 rw[this];rfl
theorem K8(T:aw)(n:Nat):(Rf T n).il=qN T n:=by
 unfold Nd.il;rw[Vk (λh=>by cases h.1)];unfold Nd.OW qN Rf;simp only[QN]
 rfl
theorem TB(T:aw)(n:Nat):((dQ T n).map (kH T)).map (λp=>(p.lk,p.ot))=wL T n:=by unfold wL;rw[V7];rfl
theorem NV(T:aw)(N:Nat):E6 N (H0 T) (λ_=>1):=⟨λo _ q _ _=>⟨We _,List.Pairwise.nil,(λx hx=>by cases hx)⟩,λ_ _=>by omega⟩
theorem TO(hT:cF T N)(n:Nat):∀p∈(dQ T n).map (kH T),1<=p.co/\p.co<=65535:=λp hp=>by
 obtain⟨a,ha,rfl⟩:=Vv.1 hp;have h1:=VP.1 (Wk.1 ha).1;have:=(hT.hc a h1).2;show 1<=(cr T a).toNat/\(cr T a).toNat<=65535;omega
theorem TW(hT:cF T N){n:Nat}(hn:n<N):NI T N (H0 T) (λ_=>1) 0 1 n (qN T n):=by
 have hk:Kn (H0 T) (λ_=>1) 0 N ⟨n,1,0,cW T n,[]⟩:=⟨hn,Vh _,Vh _,rfl,Vh _⟩;refine⟨rfl,rfl,TB T n,TO hT n,rfl,rfl,Vh _,Vh _,rfl,rfl,(QN T n).symm,Vh _,Vh _,⟨by simp[qN,az],λo x hx=>?_⟩,YZ,λlk=>⟨(λ⟨p,hp⟩=>by cases hp),λ⟨q,b,_,h2⟩=>?_⟩,(λlk p hp=>by cases hp),⟨⟨n,1,0,cW T n,[]⟩,by simp[qN,aN],Vh _⟩⟩
 ·have hx:(if o=n then some (⟨n,1,0,cW T n,[]⟩:cC) else none)=some x:=hx;split at hx
  ·rename_i e;cases hx;exact⟨e.symm,hk⟩
  ·cases hx
 ·obtain⟨a,_,rfl⟩:=Vv.1 (show q∈(dQ T n).map (kH T) from b);cases h2
theorem Sm(hT:cF T N){n:Nat}(hn:n<N):RW T n (qN T n):=by
 have g:=hT.N7;have hN:=hT.hN;have d:=TW hT hn;have b:=Ff hT (TB T n) (TO hT n) (cW T n);have h:=sY hT (TB T n);have f:(Rf T n).Fit:=⟨(λx hx=>by cases hx),YZ,We _,by show((dQ T n).map (kH T)).length<=1000;omega⟩;have c:∀q,1<=q->q<=2->(⟨n,q,0,cW T n,dS ((dQ T n).map (kH T))⟩:cC).Ok:=λq h1 h2=>⟨by show n<64;omega,h1,by show q<=_;omega,by show 0<3600;omega,b.len,b.inc,b.ok⟩;have ho:=qm T (Rf T n) f (c 1 (by omega) (by omega)) (We _) (by show 0<1000000000;omega) (c 1 (by omega) (by omega)) λ_=>⟨(λx hx=>by cases hx),(λlk p hp=>by cases hp)⟩;rw[K8]at ho;obtain⟨H',f',hc,_,_,_⟩:=(NP.of d).il hT (NV T N) hn (by omega) (by omega);have e:(qN T n).il=qN T n:=by
  unfold Nd.il;rw[Vn ⟨rfl,rfl,(QN T n).symm⟩]
 rw[e]at hc;exact⟨(λx hx=>by cases hx),L4 T n (qN T n) hT.hv hT.l8 (by omega) (λa ha=>by have:=hT.hc a ha;omega) ho,Iv T (qN T n) (qN T n) (by show n<64;omega) hc⟩
theorem pL(S:Nat->Nd){N n:Nat}(hn:n<N):cR ((List.range N).map S) n=S n:=by
 unfold cR;rw[Qo,Vt,cV hn];rfl
theorem TK(hT:cF T N):AI T N (H0 T) (λ_=>1) 0 0 1 ((List.range N).map (qN T)):=by
 refine⟨by simp,NV T N,λn hn=>by rw[pL _ hn];exact TW hT hn,λn hn q b=>?_,λn lk m o ho ha hp hg=>?_⟩
 ·rw[pL _ hn]at b;obtain⟨a,_,rfl⟩:=Vv.1 (show q∈(dQ T n).map (kH T) from b);exact⟨rfl,rfl,rfl⟩
 ·rw[pL _ (ha.ne hT).2.1]at hp;obtain⟨p,hp⟩:=hp;cases hp
def wK(T:aw)(N:Nat):ml:=⟨0,0,1,2*N+40,cW T,λn=>((dQ T n).map (kH T)).map (·.co)⟩
theorem O9(hT:cF T N):AD T (2*N+40) ((wK T N).A T N) ((wK T N).B T N) ((wK T N).C T N):=(wK T N).ok hT (by show 0+(2*N+40)<=800;have:=hT.N7;omega) (by show 1+4002*(2*N+40)<=900000;have:=hT.N7;omega)
theorem EE(hT:cF T N):(wK T N).A T N 0 ((List.range N).map (qN T)):=⟨H0 T,λ_=>1,TK hT,yM.zero (TK hT),λn hn=>by rw[pL _ hn];exact⟨rfl,rfl⟩⟩
theorem tH(hT:cF T N):aD prog 7 [bu T,.raw (.slice none 0 0)] [] (λr σ'=>r= .tuple [.ptr 0 0,flag true]/\∃a ρ,(wK T N).A T N (2*N+40) a/\gD T a 0 ρ [] σ'):=
 DC T N hT.hN (by have:=hT.N7;omega) (qN T) (λ_ hn=>Sm hT hn) hT.hT (by have:=hT.l8;omega) (O9 hT) (EE hT)
variable {H:Nat->Nat->Bool×List gG} {f:Nat->Nat} {τ β:Nat} {L:List Nd}
theorem AI.TN(hT:cF T N)(A:AI T N H f 2 τ β L)(ht:τ<=900)(aa:β+1<=1000000){t:Nat}(l:t<N){s2:Nd}(e1:s2.node=(cR L t).node)(z:s2.og=(cR L t).og)(B:s2.db=(cR L t).db)(K:s2.nb=(cR L t).nb)(e5:s2.time=(cR L t).time)(F:s2.au.map (λp=>(p.lk,p.ot))=wL T t)(M:∀p∈s2.au,1<=p.co/\p.co<=65535)(E:∀q∈s2.au,RY 2 q):
  ∃H' f',aD prog 23 [.ptr 0 0] (aW T s2) (λr σ'=>σ'=aW T s2.il)/\AI T N H' f' 2 τ (β+1) (L.set t s2.il)/\s2.il.au=s2.au/\s2.il.over=s2.over/\∀x∈az s2.il.nb,x<8:=by
 have b:=A.ni t l;have Y:t<L.length:=by rw[A.len];exact l
 have C:Hq s2.au=Hq (cR L t).au:=(EJ F).trans (EJ b.sh).symm;have Z:∀q∈(cR L t).au,q.ph=2:=λq i=>(A.pt t l q i).1;have X:NP T N H f τ β t s2:=by
  refine⟨e1.trans b.nd,by rw[z];exact b.on,F,M,by rw[z];exact b.ma,by rw[z];exact b.fl,b.f1,b.fb,by rw[z];exact b.cu,by rw[z];exact b.ag,by rw[e5];exact b.tm,by rw[B];exact b.dd,by rw[K];exact b.nn,λlk=>?_,λlk p hp=>by rw[K]at hp;rw[B];exact b.pp lk p hp,by rw[B];exact b.ow⟩;rw[K];refine(b.nk lk).trans ⟨?_,?_⟩
  ·rintro⟨q,i,rfl,_⟩;have:q.lk∈Hq s2.au:=by rw[C];exact Vv.2 ⟨q,i,rfl⟩
   obtain⟨r,hr,h⟩:=Vv.1 this;exact⟨r,hr,h,(E r hr).1⟩
  ·rintro⟨q,i,rfl,_⟩;have:q.lk∈Hq (cR L t).au:=by rw[<-C];exact Vv.2 ⟨q,i,rfl⟩
   obtain⟨r,hr,h⟩:=Vv.1 this;exact⟨r,hr,h,Z r hr⟩
 obtain⟨H',f',hc,n,U,c⟩:=X.il hT A.hk l ht aa;have d:=kF L Y s2.il;have Q:∀m o q,Ge (cR L m).db o q->Ge (cR (L.set t s2.il) m).db o q:=λm o q h=>by
  rw[d];by_cases e:m=t
  ·subst e;rw[Vn rfl];exact c.ge o q (by rw[B];exact h)
  ·rw[Vk e];exact h
 have s:∀o m k,¬I3 f o m k []:=λo m k ⟨a,v,_⟩=>by cases v
 refine⟨H',f',hc,⟨by rw[VK];exact A.len,U,λm hm=>?_,λm hm q i=>?_,λm k m' o ho ha hp hg=>?_⟩,c.pt,c.ov,n.jG hT⟩
 ·rw[d];by_cases e:m=t
  ·subst e;rw[Vn rfl];exact n
  ·rw[Vk e];exact(A.ni m hm).mono c.le (c.Q4 m e) c.hH (Vh _) (XX _)
 ·rw[d]at i;by_cases e:m=t
  ·subst e;rw[Vn rfl,c.pt]at i;exact E q i
  ·rw[Vk e]at i;exact A.pt m hm q i
 ·have W:=(ha.ne hT).1;have V:=(ha.ne hT).2.1;rw[d]at hp hg;rw[d m',d m];by_cases e:m=t
  ·subst e;rw[Vn rfl]at hp hg;rw[Vn rfl,Vk (Ne.symm W)];obtain⟨p2,j⟩:=c.nk k hp;obtain⟨p',D,R,S⟩:=c.j k p2 j;rw[K]at j;have uk:f' o=f o->Ge (cR L m).db o (f o)->(∀x,aN o p2=some x->aN o p'=some x)->Ge (cR L m').db o (f' o)\/RX f' o k s2.il\/I3 f' o m' k []:=λw P g=>by
    rcases A.jj m k m' o ho ha ⟨p2,j⟩ P with h|⟨p,x,h1,h2,v,h4⟩|h
    ·rw[w];exact .inl h
    ·rw[j]at h1;cases h1;exact .inr (.inl ⟨p',x,D,g _ h2,v,by omega⟩)
    ·exact absurd h (s o m' k)
   by_cases u:o=m
   ·subst u;rcases S with⟨w,g⟩|⟨x,h1,h2,v⟩
    ·exact uk w b.ow g
    ·exact .inr (.inl ⟨p',x,D,h1,h2,v⟩)
   ·have w:=c.Q4 o u;refine uk w ?_ (R o u);have:=c.gb o u _ hg;rw[B,w]at this;exact this
  ·rw[Vk e]at hp hg;rw[Vk e];have O:f' o=f o:=by
    by_cases u:o=t
    ·subst u;obtain⟨y,hy,ab⟩:=hg;have G:=((A.ni m V).dd.all o y hy);have J:=G.2.s2;rw[G.1]at J;have:=c.Tm;omega
    ·exact c.Q4 o u
   rw[O]at hg ⊢;rcases A.jj m k m' o ho ha hp hg with h|⟨p,x,h1,h2,v,h4⟩|h
   ·refine .inl ?_;have:=Q m' o (f o) h;rw[d]at this;exact this
   ·exact .inr (.inl ⟨p,x,h1,h2,v,by omega⟩)
   ·exact absurd h (s o m' k)
variable {T now:aw} {N k:Nat} {H:Nat->Nat->Bool×List gG} {f:Nat->Nat} {τ β:Nat} {L:List Nd}
def l6(T now:aw)(n lk:Nat):Int:=if(bV T.ah lk).a=(n:Int) then(bV now.ah lk).c0 else(bV now.ah lk).c1
structure kC (T now:aw) (N:Nat):Prop where
 nd:now.nodes=T.nodes
 ov:now.over.length=N
 ln:now.ah.length=T.ah.length
 lk:∀i,i<T.ah.length->bV now.ah i= {bV T.ah i with c0:=(bV now.ah i).c0,c1:=(bV now.ah i).c1}
 co:∀i,i<T.ah.length->(1<=(bV now.ah i).c0/\(bV now.ah i).c0<=65535)/\(1<=(bV now.ah i).c1/\(bV now.ah i).c1<=65535)
def Dy(T now:aw)(n:Nat):List Nat:=(wL T n).map λx=>(l6 T now n x.1).toNat
def Cd(now:aw)(n:Nat):Bool:=now.over.getD n false
def QC(T now:aw)(N:Nat)(L:List Nd):Prop:=∀n,n<N->(cR L n).over=Cd now n/\(cR L n).au.map (·.co)=Dy T now n
theorem Jl{l:List gO}(h:∀q∈l,q.ph=2):dS l=l.map λp=>⟨p.ot,p.lk,p.co⟩:=by
 unfold dS;rw[List.filter_eq_self.2 λq a=>VM (h q a)]
theorem xo(l:List gO){i:Nat}(hi:i<l.length):(l.map λp=>(⟨p.ot,p.lk,p.co⟩:gG)).getD i dK=⟨(l.getD i cX).ot,(l.getD i cX).lk,(l.getD i cX).co⟩:=by
 rw[Qo,Qo,Vt,Vm hi];rfl
theorem JO(hn:kC T now N){l:List gO}{n:Nat}(h:l.map (λp=>(p.lk,p.ot))=wL T n)(hc:l.map (·.co)=Dy T now n){i:Nat}(hi:i<l.length):(l.getD i cX).co=(l6 T now n (l.getD i cX).lk).toNat:=by
 unfold Dy at hc;rw[<-h,V7]at hc;have h1:=V1 (λl=>l[i]?) hc;simp only[Vt]at h1;rw[Vm hi]at h1;rw[Qo,Vm hi];simpa using h1
theorem Pu(hT:cF T N)(A:AI T N H f 2 τ β L){j:Nat}(G:yM T N f L j)(hj:N<=j)(hc:∀n,n<N->tR T 0 n)(hn:kC T now N)(hs:QC T now N L){m:Nat}(hm:m<N):∃X,yR (cR L m).db T now N X:=by
 have J:=hT.N7;have Q:=hT.l8;have O:=fr hT.hv;have hN:=hT.hN;have K:∀o,o<N->∃y,aN o (cR L m).db=some y/\y.over=(cR L o).over/\y.cU=(cR L o).au.map λp=>⟨p.ot,p.lk,p.co⟩:=λo ho=>by
  have hw:WS T o j m:=WS.mono (WS.Sl hT ho m ((hc o ho).symm.trans (hc m hm))) hj;obtain⟨y,hy,D⟩:=G o m ho hw;have h:=A.ni o ho;obtain⟨B,C⟩:=(A.ni m hm).dd.all o y hy;have E:=C.s2;rw[B]at E;have F:y.seq=f o:=by omega
  have r:=C.ct;rw[B,F,<-h.cu,h.uo,h.ua]at r;simp only[Xp]at r;exact⟨y,hy,r.1,r.2.trans (Jl λq D=>(A.pt o ho q D).1)⟩
 obtain⟨X,s⟩:∃X:Nat->cC,X=λn=>(aN n (cR L m).db).getD Oe:=⟨_,rfl⟩;have e:∀o,o<N->aN o (cR L m).db=some (X o)/\(X o).over=(cR L o).over/\(X o).cU=(cR L o).au.map λp=>⟨p.ot,p.lk,p.co⟩:=λo ho=>by
  obtain⟨y,h1,h2⟩:=K o ho;have:X o=y:=by rw[s];simp[h1]
  rw[this];exact⟨h1,h2⟩
 have g:∀n lk m',gz T n lk m'->n<N->∃i,I7 (X n) lk m' i/\(((X n).cU.getD i dK).co:Int)=l6 T now n lk:=λn lk m' ha c=>by
  obtain⟨i,hi,he,z,x⟩:=tI hT (A.ni n c).sh ha;obtain⟨_,_,l⟩:=e n c;have d:=xo (cR L n).au hi;refine⟨i,⟨by rw[l,Wf];exact hi,by rw[l,d];exact he,by rw[l,d];exact z,λk hk=>by
   rw[l,xo (cR L n).au (by omega)];exact x k hk⟩,?_⟩
  rw[l,d];have:=JO hn (A.ni n c).sh (hs n c).2 hi;show(((cR L n).au.getD i cX).co:Int)=_;rw[this,he];have P:=hn.co lk ha.1;unfold l6;split<;>omega
 refine⟨X,hT.hv,hN,by omega,by omega,by omega,λn c=>⟨(e n c).1,?_⟩,hn.nd,?_,hn.ln,λi hi=>?_⟩
 ·rw[(e n c).2.2,Wf];have:=sY hT (A.ni n c).sh;omega
 ·refine XG (by simp[hn.ov]) λk h1 h2=>?_;have hk:k<N:=by rw[<-hn.ov];exact h1
  rw[List.getElem_map,List.getElem_range,(e k hk).2.1,(hs k hk).1];unfold Cd;rw[Qo,Vm h1];rfl
 ·obtain⟨a,b,hl⟩:=hT.link hi;have h1:gz T a i b:=⟨hi,.inl ⟨hl.ea,hl.eb⟩⟩;obtain⟨ja,v,t⟩:=g a i b h1 hl.la;obtain⟨jb,w,u⟩:=g b i a h1.symm hl.lb;have M:=hl.ne;refine⟨a,b,ja,jb,hl.ea,hl.eb,hl.la,hl.lb,v,w,?_⟩;rw[t,u];unfold l6;rw[Vn hl.ea,Vk (by rw[hl.ea];omega)];exact hn.lk i hi
theorem HP(hT:cF T N)(hn:kC T now N):aH now=true:=by
 have a:=fr hT.hv;have hN:=hT.hN;have hv:=hT.hv;have d:∀l∈now.ah,iY now l=true:=λl hl=>by
  obtain⟨i,hi,rfl⟩:=Xi hl;have b:i<T.ah.length:=by rw[<-hn.ln];exact hi
  have e:now.ah[i]=bV now.ah i:=by simp[bV,hi]
  have h1:=nT hv i b;have h2:=hn.lk i b;have c:=hn.co i b;rw[e];generalize bV now.ah i=x at h2 c;generalize bV T.ah i=y at h1 h2;unfold iY at h1 ⊢;rw[h2];have g:∀z,bZ now z=bZ T z:=λz=>by unfold bZ;rw[hn.nd]
  simp only[g];simp only[Vx]at h1 ⊢;obtain⟨⟨⟨⟨⟨⟨⟨k1,h⟩,j⟩,_⟩,_⟩,m⟩,n⟩,o⟩:=h1;exact⟨⟨⟨⟨⟨⟨⟨k1,h⟩,j⟩,VM c.1⟩,VM c.2⟩,m⟩,n⟩,o⟩
 unfold aH;simp only[Vx,Xf,VH];refine⟨⟨⟨?_,by rw[hn.ln];exact a.2.2.1⟩,.inr (by rw[hn.ov,hn.nd,hN])⟩,VG.2 d⟩;rw[hn.nd];exact VM ⟨a.1,a.2.1⟩
def wE(T:aw):aw:= {T with over:=if T.over.length=0 then List.replicate T.nodes.toNat false else T.over}
theorem HN(T:aw)(n:Nat):Cd (wE T) n=cW T n:=by
 unfold Cd cW wE;by_cases h:T.over.length=0
 ·simp only[Vn h];rw[Vy h,Qo,Wx];split<;>rfl
 ·simp only[Vk h]
theorem Oz(hT:cF T N):kC T (wE T) N:=by
 have a:=fr hT.hv;have hN:=hT.hN;refine⟨rfl,?_,rfl,λ_ _=>rfl,λi hi=>?_⟩
 ·unfold wE;dsimp only;split
  ·rw[WX];omega
  ·rename_i h;have:=a.2.2.2.resolve_left h;omega
 ·obtain⟨_,_,hl⟩:=hT.link hi;exact⟨hl.c0,hl.c1⟩
theorem HO(hT:cF T N):QC T (wE T) N ((List.range N).map (qN T)):=λn hn=>by
 rw[pL _ hn];refine⟨(HN T n).symm,?_⟩;unfold Dy wL;show((dQ T n).map (kH T)).map (·.co)=_;rw[V7,V7];refine Wh λa ha=>?_;obtain⟨h1,h2⟩:=Wk.1 ha;have h1:=VP.1 h1;have h2:bI T a=(n:Int):=by simpa using h2
 obtain⟨x,y,hl⟩:=hT.link (show a / 2<T.ah.length by omega);have k1:=hl.ea;have b:=hl.eb;have c:=hl.ne;show(cr T a).toNat=(l6 T _ n (a / 2)).toNat
 unfold bI at h2;unfold cr l6 wE;dsimp only;by_cases e:a % 2=0
 ·rw[Vn e]at h2;rw[Vn e,Vn h2]
 ·rw[Vk e]at h2;rw[Vk e,Vk (by omega)]
def pO(now:aw)(n:Nat)(b:Bool):aw:= {now with over:=now.over.set n b}
def kG(now:aw)(a:Nat)(c:Int):aw:= {now with ah:=now.ah.set (a / 2) (if a % 2=0 then {bV now.ah (a / 2)with c0:=c} else {bV now.ah (a / 2)with c1:=c})}
theorem zA(l:List mh)(i k:Nat)(x:mh)(hi:i<l.length):bV (l.set i x) k=if k=i then x else bV l k:=by
 unfold bV;rw[Qo,VV];by_cases e:i=k
 ·subst e;rw[Vn rfl,Vn hi,Vn rfl];rfl
 ·rw[Vk e,Vk (λh=>e h.symm),Qo]
theorem kC.over(h:kC T now N)(n:Nat)(b:Bool):kC T (pO now n b) N:=⟨h.nd,by show(now.over.set n b).length=N;rw[VK];exact h.ov,h.ln,h.lk,h.co⟩
theorem kC.cost(h:kC T now N){a:Nat}(ha:a<2*T.ah.length){c:Int}(hc:1<=c/\c<=65535):kC T (kG now a c) N:=by
 have hi:a / 2<now.ah.length:=by rw[h.ln];omega
 refine⟨h.nd,h.ov,by show(now.ah.set _ _).length=_;rw[VK];exact h.ln,λi b=>?_,λi b=>?_⟩
 ·show bV (now.ah.set _ _) i=_;rw[show(kG now a c).ah=now.ah.set (a / 2) (if a % 2=0 then {bV now.ah (a / 2)with c0:=c} else {bV now.ah (a / 2)with c1:=c}) from rfl,zA _ _ _ _ hi];by_cases e:i=a / 2
  ·subst e;rw[Vn rfl];have:=h.lk (a / 2) b;split
   ·rw[this]
   ·rw[this]
  ·rw[Vk e];exact h.lk i b
 ·rw[show(kG now a c).ah=now.ah.set (a / 2) (if a % 2=0 then {bV now.ah (a / 2)with c0:=c} else {bV now.ah (a / 2)with c1:=c}) from rfl,zA _ _ _ _ hi];by_cases e:i=a / 2
  ·subst e;rw[Vn rfl];have:=h.co (a / 2) b;split
   ·exact⟨hc,this.2⟩
   ·exact⟨this.1,hc⟩
  ·rw[Vk e];exact h.co i b
theorem uR(hT:cF T N)(h:kC T now N){a t:Nat}(ha:a<2*T.ah.length)(g:bI T a=(t:Int))(c:Int){n lk m:Nat}(i:gz T n lk m):l6 T (kG now a c) n lk=if n=t/\lk=a / 2 then c else l6 T now n lk:=by
 have hi:a / 2<now.ah.length:=by rw[h.ln];omega
 obtain⟨x,y,hl⟩:=hT.link (show a / 2<T.ah.length by omega);have k1:=hl.ea;have j:=hl.eb;have l:=hl.ne;unfold l6;rw[show(kG now a c).ah=now.ah.set (a / 2) (if a % 2=0 then {bV now.ah (a / 2)with c0:=c} else {bV now.ah (a / 2)with c1:=c}) from rfl,zA _ _ _ _ hi];by_cases e:lk=a / 2
 ·subst e;rw[Vn rfl];obtain⟨_,h2⟩:=i;unfold bI at g;by_cases d:a % 2=0
  ·rw[Vn d]at g;rw[Vn d];by_cases b:n=t
   ·subst b;rw[Vn g,Vn ⟨rfl,rfl⟩]
   ·rw[Vk (by omega),Vk (λh=>b h.1),Vk (by omega)]
  ·rw[Vk d]at g;rw[Vk d];by_cases b:n=t
   ·subst b;rw[Vk (by omega),Vn ⟨rfl,rfl⟩]
   ·rw[Vn (by omega),Vk (λh=>b h.1),Vn (by omega)]
 ·rw[Vk e,Vk (show ¬(n=t/\lk=a / 2) from λh=>e h.2)]
def MP(T:aw)(N β:Nat)(now:aw)(L:List Nd):Prop:=∃H f,AI T N H f 2 (2*N+40) β L/\kC T now N/\QC T now N L
theorem MP.succ(C:MP T N β now L):MP T N (β+1) now L:=by
 obtain⟨H,f,A,hn,hs⟩:=C;exact⟨H,f,⟨A.len,A.hk,λn hn=>(A.ni n hn).mono (λ_=>Vh _) I (λ_ _ _=>rfl) (Vh _) (XX _),A.pt,A.jj⟩,hn,hs⟩
theorem IK(hT:cF T N){a:Nat}(ha:a<2*T.ah.length):0<=bI T a:=by
 obtain⟨x,y,hl⟩:=hT.link (show a / 2<T.ah.length by omega);have k1:=hl.ea;have b:=hl.eb;unfold bI;split<;>omega
theorem JF(hT:cF T N)(C:MP T N β now L)(i:β+1<=1000000){t:Nat}(g:t<N)(b:Bool):∃s',(∀x∈az s'.nb,x<8)/\aD prog 8 [.ptr 0 0,flag b] (aW T (cR L t)) (λr σ'=>r=num 0/\σ'=aW T s')/\MP T N (β+1) (pO now t b) (L.set t s'):=by
 obtain⟨H,f,A,hn,hs⟩:=C;have l:=hT.N7;have c:=A.ni t g;obtain⟨H',f',hc,j,hp,ho,h8⟩:=A.TN hT (by omega) i g (s2:= {cR L t with over:=b}) I I I I I c.sh c.co (A.pt t g);refine⟨_,h8,CO T (cR L t) _ b hc,H',f',j,hn.over t b,λn a=>?_⟩;rw[kF L (by rw[A.len];exact g)];have d:Cd (pO now t b) n=if n=t then b else Cd now n:=by
  unfold Cd pO;dsimp only;rw[Qo,VV];by_cases e:t=n
  ·subst e;rw[Vn rfl,Vn (by rw[hn.ov];exact g),Vn rfl];rfl
  ·rw[Vk e,Vk (λh=>e h.symm),Qo]
 by_cases e:n=t
 ·subst e;rw[Vn rfl,d,Vn rfl];exact⟨ho,(V1 (List.map (·.co)) hp).trans (hs n a).2⟩
 ·rw[Vk e,d,Vk e];exact⟨(hs n a).1,(hs n a).2⟩
theorem CW(hT:cF T N){a t:Nat}(ha:a<2*T.ah.length)(b:bI T a=(t:Int)):t<N/\∃m,gz T t (a / 2) m:=by
 have hi:a / 2<T.ah.length:=by omega
 obtain⟨x,y,hl⟩:=hT.link hi;have k1:=hl.ea;have c:=hl.eb;have d:=hl.la;have g:=hl.lb;unfold bI at b;by_cases e:a % 2=0
 ·rw[Vn e]at b;exact⟨by omega,y,hi,.inl ⟨b,c⟩⟩
 ·rw[Vk e]at b;exact⟨by omega,x,hi,.inr ⟨k1,b⟩⟩
theorem JE(hT:cF T N)(C:MP T N β now L)(G:β+1<=1000000){a t c:Nat}(ha:a<2*T.ah.length)(j:bI T a=(t:Int))(o:1<=c)(p:c<=65535):∃s',(∀x∈az s'.nb,x<8)/\aD prog 10 [.ptr 0 0,num (a / 2:Nat),num c] (aW T (cR L t)) (λr σ'=>r=num 0/\σ'=aW T s')/\MP T N (β+1) (kG now a c) (L.set t s'):=by
 obtain⟨H,f,A,hn,hs⟩:=C;have K:=hT.N7;obtain⟨v,m,D⟩:=CW hT ha j;have b:=A.ni t v;obtain⟨i,hi,he,M,E⟩:=tI hT b.sh D;have d:=qM hT b.sh;have u:=A.pt t v;obtain⟨H',f',hc,J,hp,ho,h8⟩:=A.TN hT (by omega) G v (s2:= {cR L t with au:=(cR L t).au.set i {(cR L t).au.getD i cX with co:=c}}) I I I I I ((EK hi (by rfl) (by rfl)).trans b.sh) (λq F=>by
  rcases ka d hi F with rfl|⟨h,_⟩
  ·exact⟨o,p⟩
  ·exact b.co q h) (λq F=>by
  rcases ka d hi F with rfl|⟨h,_⟩
  ·exact u ((cR L t).au.getD i cX) (dR hi)
  ·exact u q h)
 refine⟨_,h8,CM T (cR L t) _ (a / 2) i c (b.fit hT) hi he E o p hc,H',f',J,hn.cost ha (by omega),λn g=>?_⟩;rw[kF L (by rw[A.len];exact v)];by_cases e:n=t
 ·subst e;rw[Vn rfl];refine⟨ho.trans (hs n g).1,(V1 (List.map (·.co)) hp).trans ?_⟩;show((cR L n).au.set i {(cR L n).au.getD i cX with co:=c}).map (·.co)=_;have h1:=(hs n g).2;unfold Dy at h1 ⊢;rw[<-b.sh,V7]at h1 ⊢;refine XG (by simp) λk g1 g2=>?_;have hk:k<(cR L n).au.length:=by simpa using g2
  have h2:=V1 (λl=>l[k]?) h1;simp only[Vt,Vm hk,Wj,WE,Function.comp]at h2;simp only[List.getElem_map,Function.comp];have s:(cR L n).au[k]=(cR L n).au.getD k cX:=by rw[Qo,Vm hk];rfl
  have B:=me hT b.sh (Yl hk);rw[uR hT hn ha j c B];by_cases w:i=k
  ·subst w;have:(cR L n).au[i].lk=a / 2:=by rw[s];exact he
   rw[Vn ⟨rfl,this⟩,List.getElem_set_self]
   rfl
  ·rw[List.getElem_set_ne w,Vk (λh=>?_)]
   ·exact h2
   ·have y:=h.2;rw[s,<-he]at y;rcases Nat.lt_or_gt_of_ne w with z|z
    ·exact vh d z hk y.symm
    ·exact vh d z hi y
 ·rw[Vk e];refine⟨(hs n g).1,(hs n g).2.trans ?_⟩;unfold Dy;refine Wh λx hx=>?_;rw[uR hT hn ha j c ((Ai hT (lk:=x.1) (m:=x.2)).1 hx),Vk (λh=>e h.1)]
theorem Gy(hT:cF T N)(h:(wK T N).A T N (2*N+40) L):MP T N (1+4002*(2*N+40)) (wE T) L:=by
 obtain⟨H,f,a,_,b⟩:=h;have c:(wK T N).ph (2*N+40)=2:=by
  show(if 0+(2*N+40)<2 then _ else 2)=2;rw[Vk (by omega)]
 rw[c]at a;have d:(wK T N).τ0+(2*N+40)=2*N+40:=Ws _;rw[d]at a;refine⟨H,f,a,Oz hT,λn hn=>?_⟩;have h1:=HO hT n hn;rw[pL _ hn]at h1;exact⟨(b n hn).1.trans h1.1,(b n hn).2.trans h1.2⟩
def Qe(T now:aw)(N β:Nat):ml:=⟨2,2*N+40,β,N+6,Cd now,Dy T now⟩
theorem Pa(hT:cF T N)(a:β<=300000):AD T (N+6) ((Qe T now N β).A T N) ((Qe T now N β).B T N) ((Qe T now N β).C T N):=(Qe T now N β).ok hT (by show 2*N+40+(N+6)<=800;have:=hT.N7;omega) (by show β+4002*(N+6)<=900000;have:=hT.N7;omega)
theorem EG(C:MP T N β now L):(Qe T now N β).A T N 0 L:=by
 obtain⟨H,f,A,_,hs⟩:=C;exact⟨H,f,A,yM.zero A,hs⟩
theorem Ip(hT:cF T N)(hc:∀n,n<N->tR T 0 n)(hn:kC T now N)(h:(Qe T now N β).A T N (N+6) L){m:Nat}(hm:m<N):∃X,yR (cR L m).db T now N X:=by
 obtain⟨H,f,a,c,d⟩:=h;have b:(Qe T now N β).ph (N+6)=2:=by
  show(if 2+(N+6)<2 then _ else 2)=2;rw[Vk (by omega)]
 rw[b]at a;exact Pu hT a c (by show N<=2+(N+6) - 2;omega) hc hn d hm
theorem AI.Tv(h:(Qe T now N β).A T N k L):L.length=N:=by
 obtain⟨H,f,a,_⟩:=h;exact a.len
theorem Ei(hT:cF T N)(hn:kC T now N){m:Nat}(hm:m<N):dG now (List.replicate (2*T.ah.length) false) [(m:Int)]=0/\fp now (List.replicate (2*T.ah.length) false) m=fp now [] m:=by
 have hv:=HP hT hn;have hN:=hT.hN;have e:(aH now&&cf now (List.replicate (2*T.ah.length) false))=true:=by
  rw[hv,WB];exact VM (.inr (by rw[WX,hn.ln]))
 have c:(aH now&&cf now [])=true:=by
  rw[hv,WB];exact VM (.inl rfl)
 have d:(m:Int)<now.nodes:=by rw[hn.nd];omega
 have b:∀D,(aH now&&cf now D)=true->dG now D [(m:Int)]=0/\fp now D m=kJ now D m:=λD h=>by
  have h1:dG now D [(m:Int)]=0:=by
   unfold dG;rw[Vn h,Vn (by simp[bY.2 (⟨by omega,d⟩:0<=(m:Int)/\(m:Int)<now.nodes)])]
  refine⟨h1,?_⟩;unfold fp;rw[Vn h1]
  rfl
 refine⟨(b _ e).1,?_⟩;rw[(b _ e).2,(b _ c).2];refine CB hv m λa=>?_;unfold bO;rw[Qo,Wx];split<;>rfl
def kc:aw:=⟨2,[],[⟨0,1,3,4,0,1,0⟩]⟩
theorem FL:cF kc 2:=⟨by kernel_rfl,rfl,by omega,by decide⟩
theorem vv:gz kc 0 0 1:=⟨by decide,.inl ⟨rfl,rfl⟩⟩
theorem Es(n:Nat)(hn:n<2):tR kc 0 n:=by
 rcases(show n=0\/n=1 by omega)with rfl|rfl
 ·exact⟨0,rfl⟩
 ·exact tR.step ⟨0,rfl⟩ vv
theorem Lo{L:List Nd}(h:(wK kc 2).A kc 2 (2*2+40) L):L.length=2/\
  (∀n,n<2->aD prog 17 [.ptr 0 0,num 0] (aW kc (cR L n)) (λr σ'=>r=flag true/\σ'=aW kc (cR L n)))/\
  aD prog 18 [.ptr 0 0] (aW kc (cR L 0)) (λr σ'=>r=oh (gE (cR L 0).db)/\σ'=aW kc (cR L 0))/\(gE (cR L 0).db).length=2/\∀n,n<2->∀x∈az (cR L n).nb,x<8:=by
 obtain⟨H,f,g,v,_⟩:=h;have hT:=FL;have b:=g.ni 0 (by omega);have s:∀o a,aN o (cR L 0).db=some a->a.Ok:=λo a ho=>g.hk.ok hT.N7 (by decide) (b.dd.all o a ho).2;have l:(cR L 0).db.length=2:=by
  have h1:=b.dd.len;have d:∀o,o<2->o∈az (cR L 0).db:=λo ho=>by
   have hw:WS kc o (0+(2*2+40) - 2) 0:=WS.mono (WS.Sl hT ho 0 (Es o ho).symm) (by decide);obtain⟨y,hy,_⟩:=v o 0 ho hw;exact ij hy
  have h2:(az (cR L 0).db).length≠1:=λe=>by
   obtain⟨x,hx⟩:=List.length_eq_one_iff.1 e;have j:=d 0 (by omega);have t:=d 1 (by omega);rw[hx]at j t;simp at j t;omega
  have u:(az (cR L 0).db).length≠0:=λe=>by
   have j:=d 0 (by omega);rw[Vy e]at j;cases j
  rw[fj]at h2 u;omega
 refine⟨g.len,λn hn=>?_,GI kc _ (λx hx=>by have:=b.dd.lt hx;omega) (by omega) (λo x hx=>(s o x hx).len),?_,λn hn=>(g.ni n hn).jG hT⟩
 ·have p:=g.ni n hn;have c:∃m,gz kc n 0 m:=by
   rcases(show n=0\/n=1 by omega)with rfl|rfl
   ·exact⟨1,vv⟩
   ·exact⟨0,vv.symm⟩
  obtain⟨m,c⟩:=c;obtain⟨i,hi,he,_,q⟩:=tI hT p.sh c;exact KA kc _ 0 i (p.fit hT) hi he q ((g.pt n hn _ (dR hi)).1)
 ·have h1:=V1 List.length (uJ b.dd);rw[Wf,ez,fj,l]at h1;exact h1
end
section
open Go.RowKit cm Mem
section
variable {P:Program} {σ:bH} {t:cd} {o:Oper}
theorem Sat.drop{F:Nat->Prop}{base:Nat}{E:Env}{w w':World}(a:Sat F base σ E w){j g:Nat}{bj}(hj:σ[j]? =some (some bj))(hb:bg (E.at_ j)=some g)(hs:w.heap.size<=w'.heap.size)(ho:∀k,k<w.heap.size->k≠g->w'.heap[k]? =w.heap[k]?):
  Sat F base (σ.set j none) (E.kill j) w'/\c8 E w (E.kill j) w':=by
 have l:E.M g:=(a.mm g).2 (.inr ⟨j,bj,hj,hb⟩);obtain⟨k1,_⟩:=a.kill j hj;have d:c8 E w (E.kill j) w':=⟨Vh _,λ_ _=>rfl,λb _ hM h=>hM h.1,hs,λk hk hM=>ho k hk (λe=>hM (by rw[e];exact l))⟩;refine⟨⟨VL a.bl hs,λb c=>⟨VS (k1.fb b c).1 hs,(k1.fb b c).2⟩,k1.len,k1.mm,λi bl hi=>?_,k1.inj,a.gl.goes d⟩,d⟩;obtain⟨m,f⟩:=kh hi;exact(a.blk i bl f).goes d (λk hk=>ho k ((a.blk i bl f).lt hk).2 (λe=>m (a.inj i j bl bj g f hj (by rw[<-e];exact hk) hb)))
end
end
end PW
end Go.Proofs.YtfcadpknnbgibaaGreatDoor
namespace Go.Proofs
section
open Go.Shelf
end
end Go.Proofs
namespace Go.Proofs.YtfcadpknnbgibaaGreatDoor
open Go.Proofs.Tryz
namespace PW
section
open Go.RowKit cm Mem
open Net
open iF
theorem de.to{P σ σ' σ'' t o p p'}(h:de P σ t o p σ')(hp:p=p')(hs:σ'=σ''):de P σ t o p' σ'':=by subst hp;subst hs;exact h
structure Df (j:Nat) (rest rest':bH):Prop where
 len:rest.length<=rest'.length
 same:∀i,i<rest.length->i≠j->rest'[i]? =rest[i]?
theorem Df.trans{j j':Nat}{a b c:bH}(h:Df j a b)(k:Df j' b c)(hj:j'=j\/a.length<=j'):Df j a c:=
 ⟨VL h.len k.len,λi h1 h2=>(k.same i (VS h1 h.len) (by omega)).trans (h.same i h1 h2)⟩
section
variable {T:aw} {tb:Nat->oc} {p0:qX} {Ψ:Nat->List eW->Prop}
def E7(rest:bH)(y:PV)(c:Int):Prop:=0<=c/\c<=1001/\((∃xs,y= .cH xs 0/\xs[5]? =some (num c))\/∃(i:Nat) (a0 a a2 a3 f:PV),y= .ptr (i+8) 0/\rest[i]? =some (some (.cells 183 [a0,a,a2,a3,f,num c])))
theorem E7.cells{rest y}{c:Int}(h:E7 rest y c):nx y=some [y]:=by
 obtain⟨_,_,⟨xs,rfl,_⟩|⟨i,_,_,_,_,_,rfl,_⟩⟩:=h<;>rfl
theorem E7.one{rest y}{c:Int}(h:E7 rest y c):gN y:=by
 obtain⟨_,_,⟨xs,rfl,_⟩|⟨i,_,_,_,_,_,rfl,_⟩⟩:=h<;>infer_instance
theorem Df.put{j:Nat}{a b:bH}(h:Df j a b){k:Nat}(hk:k=j\/a.length<=k)(x:Option cj):Df j a (b.set k x):=
 ⟨by rw[VK];exact h.len,λi h1 h2=>by rw[VV,Vk (by omega)];exact h.same i h1 h2⟩
end
section
variable {T:aw} {tb:Nat->oc} {p0:qX} {Ψ:Nat->List eW->Prop}
end
def RM(k:Nat):List mh:=(List.range k).map fun(i:Nat)=>⟨(i:Int),(((i+1) % 4:Nat):Int),1,1,3,1,0⟩
def Al:aw:=⟨4,[],RM 4⟩
theorem Ma(k:Nat):RM (k+1)=RM k++[⟨(k:Int),(((k+1) % 4:Nat):Int),1,1,3,1,0⟩]:=by simp[RM,WM]
theorem sc:aH Al=true:=by kernel_rfl
theorem Am:MX.qv Al []=true:=by kernel_rfl
theorem Pp:dq Al 1 0=LM:=by kernel_rfl
def TC:oc:=⟨0,[⟨[],false,[]⟩,⟨[0],false,[]⟩,⟨[0,7],false,[]⟩,⟨[7],false,[]⟩],[]⟩
theorem IG:fp Al [] 0=TC:=by
 unfold fp;rw[show dG Al [] [0]=0 by kernel_rfl,Vn rfl];exact(MX.Ru sc Am 0).trans (by kernel_rfl)
theorem RB:LI Al LM 0=Qd:=(MX.Rs sc Am (by kernel_rfl)).trans (by kernel_rfl)
theorem RA:qc Al [] 0 [0,2]=[⟨1,1⟩,⟨1,2⟩]:=by
 show lK Al [] 0 [0,2] 2 0=_;rw[MX.Ra sc Am]
 kernel_rfl
theorem CY:Can prog 43 [] (· =bu Al):=by
 refine aR func43 I ntmps43 I<|aK<|av 1 I<|aF [0] I ?_;refine aK<|av 3 I<|aF [0,1] I ?_;refine cO 1 2 42 7 I I<|an<|aj (.a 1 I<|.k [0,1,2] I)<|ay<|eX [0,1,2] I<|bq (λr s=>∃k,k<=4/\r=4 - k/\s=⟨[(0,.ptr 0 0),(1,.ptr 1 0),(2,num k)],[some (.cells 25 [num 0,.raw (.slice none 0 0),.raw (.slice none 0 0)]),some (.cells 25 [num 4,.raw (.slice none 0 0),.own 2]),some (.row 42 7 k (bR (RM k)))]⟩) 4 ⟨0,by omega,by omega,rfl⟩ ?_;rintro r s ⟨k,hk,rfl,rfl⟩;refine an<|aj (.a 2 I<|.k [0,1,2,5] I)<|ak I (λhc=>?_) (λhc=>?_)
 ·have hlt:k<4:=by have:=Vg hc;omega
  refine ao<|an<|ay<|bp<|av 4 I<|aZ (aU I) I<|aZ (l4 I I I (by decide) ((show((k:Int)+1).tmod 4=(((k+1) % 4:Nat):Int) by rw[WD (by omega)];omega))) I<|aZ (C6 I (show prog.built 40 [(0,.int .i64 1),(1,.int .i64 1)]=some #[.int .i64 1,.int .i64 1] by kernel_rfl)) I<|av 2 I<|bW (bP I (VW I) I I I I (by unfold maxLen;omega)) I<|av 2 I ?_;refine ft [0,1,3] (.c 0<|.c 1<|.c 2<|.nil) (.kept rfl (.cells (WU<|WU<|WU<|Wp))<|.kept rfl (.cells (WU<|WU<|WU<|Wp))<|.kept rfl (.eZ rfl (show _=bR (RM (k+1)) by rw[Ma];exact D3 _ ⟨(k:Int),(((k+1) % 4:Nat):Int),1,1,3,1,0⟩))<|.nil) I I (bM ?_);refine aL (.a 1 I<|.v (aU I) I<|.a 1 I<|.k [0,1,2] I)<|⟨4 - (k+1),by omega,k+1,by omega,rfl,rfl⟩
 ·have a:k=4:=by have:=Vj hc;omega
  subst a;refine bh<|aK<|av 2 I<|aF [0] I ?_;exact aA<|jF I (Zr (Vp aQ.pure<|Vp aQ.cg<|Vp (Yw rfl W9) Wg)) rfl
theorem IU(T:aw)(L:List oc)(n:Int)(hv:aH T=true)(e:(L.length:Int)≠T.nodes):Can prog 132 [bu T,yp L,num n] (· =num 1):=by
 have⟨d,a⟩:=dw (decide ((L.length:Int)≠T.nodes));have b:d=true:=by rw[<-a];exact VM e
 have c:=gw T;rw[hv]at c;refine aR func132 I ntmps132 I<|aj (.a 2 I<|.k [1,2,3] I)<|an<|cD 18 (.raw (.bool (d))) [1,2,3] I ?_ ?_
 ·exact .a 1 I<|.c rfl (c) I<|.a 5 I<|.v (aO I (rfl)) I<|.v (cT I (a)) I<|.a 1 I<|.k [18,1,2,3] I
 refine ak I (λhc=>?_) (λhc=>?_)
 ·exact aj (.a 1 I<|.k [6] I)<|aA<|jF I aQ.pure rfl
 ·exact absurd hc (by rw[b];simp)
theorem EW(T:aw)(L:List oc)(p:qX)(n:Int)(hv:aH T=true)(b:(L.length:Int)≠T.nodes):Can prog 87 [bu T,yp L,OQ p,num n] (· = .tuple [.raw (.pointer none),.slice 0 [],num 1]):=by
 have a:=IU T L n hv b;refine aR func87 I ntmps87 I<|aK<|av 6 I<|aF [3,4,5,6,9] I ?_;refine an<|aj (.a 3 I<|.c rfl (a) I<|.a 1 I<|.k [3,4,5,6,9,11] I)<|aj (.a 2 I<|.k [3,4,5,6,9,11,20] I)<|ak I (λhc=>?_) (λhc=>?_)
 ·refine aK<|av 4 I<|aF [8,9,10] I ?_;exact aA<|jF I (Yi (Vp aQ.pure<|Vp aQ.cg<|Vp aQ.pure Wg)) rfl
 ·cases hc
theorem Pv(T:aw)(L:List oc)(p:qX)(n:Int)(hv:aH T=true)(a:(L.length:Int)≠T.nodes):Can prog 46 [bu T,yp L,OQ p,num n] (· = .tuple [flag false,num 1]):=by
 have hs:=EW T L p n hv a;refine aR func46 I ntmps46 I<|aj (.a 4 I<|.k [1,3,4,6] I)<|aj (.v (gr I (rfl) I) I<|.a 3 I<|.c rfl (hs) I<|.a 7 I<|.k [11,12] I)<|an<|aj (.a 2 I<|.k [11,12,25] I)<|ak I (λhc=>?_) (λhc=>?_)
 ·exact aj (.a 3 I<|.k [8,9] I)<|aA<|jF I aQ.pure rfl
 ·cases hc
theorem An:Can prog 16 [] (· =flag true):=by
 have b:=vG Al [] 0;rw[IG,show dG Al [] [0]=0 by kernel_rfl]at b;have a:=xe Al [] [0,2] 0 (by decide) (by decide) (by decide);rw[RA,show ig Al [] 0 [0,2]=0 by kernel_rfl]at a;have a:Can prog 44 [bu Al,aY [],bm [0,2],num 0] (· = .tuple [kg [⟨1,1⟩,⟨1,2⟩],num 0]):=a;have hT:=H7 Al 1 0 0 (by decide);rw[show(if lS Al 1 0=0 then(if bZ Al 0 then(0:Int) else 2) else 1)=0 by kernel_rfl,Pp,show((0:Int).toNat)=0 from rfl,RB]at hT;have hT:Can prog 45 [bu Al,fh 1 0,num 0] (· = .tuple [s9 Qd,num 0]):=hT;have c:=Pv Al [TC] ⟨0,0,2,0,[],0⟩ 0 sc (by decide);refine aR func16 I ntmps16 I<|aj (.a 1 I<|.k [] I)<|aK<|fW I (CY) I<|av 2 I<|aF [1] I ?_;refine aK<|av 1 I<|aZ (EX I (Vp aQ.pure<|Vp aQ.cg<|Vp aQ.pure Wg) (b)) I<|av 6 I<|aF [1,2,3] I ?_;refine aj (.a 2 I<|.v (EX I (Vp aQ.pure<|Vp aQ.cg<|Vp (aQ.pure (p:=bm [0,2]))<|Vp aQ.pure Wg) (a)) I<|.a 5 I<|.k [1,2,3,4,5] I)<|aK<|av 2 I<|fW I (hT) I<|av 6 I<|aF [1,2,3,4,5,6,7] I ?_;refine an<|cD 63 (.raw (.bool (false))) [1,2,6] I ?_ ?_
 ·exact .a 25 I<|.v (aX (6) I (by omega) (by decide)) I<|.a 1 I<|.v (aO I ((show _=some (bm [0,7]) from rfl))) I<|.a 8 I<|.k [63,1,2,6] I
 refine ak I (λhc=>?_) (λhc=>?_)
 ·cases hc
 ·refine ao<|aj (.a 4 I<|.v (EX I (Vp aQ.pure<|Vp (aQ.pure (p:=yp [TC]))<|Vp (Zr (Vp aQ.pure<|Vp aQ.pure<|Vp aQ.pure<|Vp aQ.pure<|Vp aQ.cg<|Vp aQ.pure Wg))<|Vp aQ.pure Wg) (c)) I<|.a 5 I<|.k [6,8,9] I)<|cD 0 (.raw (.bool (true))) [] I ?_ ?_
  ·exact .a 9 I<|.v (aX (3) I (by omega) (by decide)) I<|.a 1 I<|.v (aO I ((show _=some (flag true) from rfl))) I<|.a 4 I<|.v (aX (3) I (by omega) (by decide)) I<|.a 1 I<|.v (aO I ((show _=some (bm [7]) from rfl))) I<|.a 6 I<|.v (aX (3) I (by omega) (by decide)) I<|.a 1 I<|.v (aO I ((show _=some (bm [7]) from rfl))) I<|.v (aX (0) I (by omega) (by decide)) I<|.v (aO I ((show _=some (num 7) from rfl))) I<|.a 3 I<|.k [0] I
  exact aA<|jF I aQ.pure rfl
end
section
open Go.RowKit Go.Maps Go.Sort Go.Shelf cm Mem Net
theorem K0(L:List Nd)(n:Nat):L.set n (cR L n)=L:=by
 unfold cR;rw[Qo];by_cases h:n<L.length
 ·rw[Vm h];exact Y1 h
 ·rw[List.set_eq_of_length_le (by omega)]
theorem wo.same{T}{L:List Nd}{d ρ:Nat}{g:Nat->Nat->Nat}{σ}(D:wo T L d ρ g σ){f a}[aM a]{p}[IsPure p]{n:Nat}(hn:n<L.length)(h8:∀x∈az (cR L n).nb,x<8)(h:aD prog f (.ptr 0 0::a) (aW T (cR L n)) (λr σ'=>r=p/\σ'=aW T (cR L n))):
  ∃σ',aD prog f (.ptr (g n 0) 0::a) σ (λr σ''=>r=p/\σ''=σ')/\∀X,RJ L.length d ρ g σ X->gD T L d ρ X σ':=by
 obtain⟨σ',h1,h2⟩:=D.call hn rfl h8 h;rw[K0]at h2;exact⟨σ',h1,h2⟩
theorem nS:Can prog 4 [] (· =flag true):=by
 refine aR func4 I ntmps4 I<|aj (.a 1 I<|.k [] I)<|an<|aj (.c rfl (An) I<|.a 1 I<|.k [5] I)<|ak I (λhc=>?_) (λhc=>?_)
 ·cases hc
 ·refine ao<|aK<|aZ (C6 I (show prog.built 40 [(0,.int .i64 3),(1,.int .i64 4)]=some #[.int .i64 3,.int .i64 4] by kernel_rfl)) I<|av 2 I<|aZ (tf (gg (xs:=[_,_,_]) I (X8 I) I I) (fv.iV (.cons (WK _)<|.cons Zw<|.cons (WK _) .nil))) I<|av 2 I<|aF [1] I ?_;refine oK (t':=[(1,.cH (bJ kc) 0)]) (.cons 1 I (ZA (i:=0) (blk:=.cells 25 (bJ kc)) I (show aE _ (bJ kc) (bJ kc) from W9)) .nil)<|aK<|aZ (gr I (rfl) I) I<|br I I (VO (tH FL) (λ_ σ' h=>?_));obtain⟨rfl,L,ρ,v,y⟩:=h;refine av 5 I<|aF [2,3] I ?_;obtain⟨E,t,w,x,h8⟩:=Lo v;obtain⟨g,hg,z⟩:=id y;have s:=hg.dd;have k:=hg.rr;obtain⟨B,l,q⟩:=hg.same (n:=0) (by omega) (h8 0 (by omega)) (t 0 (by omega));obtain⟨g1,c,p⟩:=q _ z;have e:=c.dd;have a:=c.rr;obtain⟨C,m,r⟩:=c.same (n:=1) (by omega) (h8 1 (by omega)) (t 1 (by omega));obtain⟨g2,d,A⟩:=r _ p;have f:=d.dd;have b:=d.rr;obtain⟨D,o, -⟩:=d.same (n:=0) (by omega) (h8 0 (by omega)) w;have u:decide (((gE (cR L 0).db).length:Int)=2)=true:=VM (by omega);refine aK<|av 5 I<|aZ (aq I (VJ I) I s rfl) I<|aZ (dc (j:=0) I (WN I) I k rfl (by omega) (by omega) I) I<|aZ (aq I (VJ I) I k (fE _ g (by omega))) I<|br I I (VO l (λ_ σ' h=>?_));obtain⟨rfl,h⟩:=h;rw[h];clear h;refine av 5 I<|aZ (aq I (VJ I) I e rfl) I<|aZ (dc (j:=1) I (WN I) I a rfl (by omega) (by omega) I) I<|aZ (aq I (VJ I) I a (fE _ g1 (by omega))) I<|br I I (VO m (λ_ σ' h=>?_));obtain⟨rfl,h⟩:=h;rw[h];clear h;refine av 5 I<|aZ (aq I (VJ I) I f rfl) I<|aZ (dc (j:=0) I (WN I) I b rfl (by omega) (by omega) I) I<|aZ (aq I (VJ I) I b (fE _ g2 (by omega))) I<|br I I (VO o (λ_ σ' h=>?_));obtain⟨rfl,h⟩:=h;rw[h];clear h;refine av 1 I<|aZ (cT I (u)) I<|av 2 I<|aF [0] I ?_;exact aA<|jF I aQ.pure rfl
end
section
open Go.RowKit cm Mem Net
structure Gk where
 k:Nat
 w:Nat
 n:Nat
def uP(c:Gk):List PV:=[Nn c.k,Nn c.w,Nn c.n]
def JD(l:List Gk):List PV:=l.flatMap uP
def rf(l:List Gk):PV:=.slice l.length (JD l)
instance (c:Gk):di (uP c):=by unfold uP Nn;infer_instance
theorem JC(l:List Gk)(i:Nat)(e:Gk)(h:l[i]? =some e):((JD l).drop (i*3)).take 3=uP e:=pG uP 3 (λ_=>rfl) l i e h
theorem rq(σ:bH)(blk:cj):AE σ.length blk (σ++[some blk]) (σ++[none]):=⟨by simp,by simp,λj hj=>.inl (by
 by_cases h:j<σ.length
 ·rw[Vl h,Vl h]
 ·rw[V4 (by simp;omega),V4 (by simp;omega)])⟩
theorem rB(σ:bH)(b:Option cj):(σ++[b])[σ.length]? =some b:=by simp
theorem rC(σ:bH)(b b':Option cj):(σ++[b]).set σ.length b'=σ++[b']:=by simp
theorem F9{P ty}(a:Nat)(w:World):(binOp .rem ty (.int .u8 (a:Int)) (.int .u8 6)).run P w= .ok (.int .u8 ((a % 6:Nat):Int)) w:=by
 have:(a:Int).tmod 6=((a % 6:Nat):Int):=by rw[WD (by omega)];omega
 simp[binOp,Op.intDiv,this]
theorem Ap{P ty}(a:Nat)(w:World):(binOp .rem ty (.int .u8 (a:Int)) (.int .u8 2)).run P w= .ok (.int .u8 ((a % 2:Nat):Int)) w:=by
 have:(a:Int).tmod 2=((a % 2:Nat):Int):=by rw[WD (by omega)];omega
 simp[binOp,Op.intDiv,this]
theorem vY(w A:Nat):(w:Int).tmod (A:Int)=((w % A:Nat):Int):=by rw[WD (by omega)];rfl
theorem Ky:(prog.info? 4).map (·.size)=some 1:=by kernel_rfl
theorem Rk(xs:List PV)(i:Nat)(v:PV)(h:i<xs.length):over xs i [v]=xs.set i v:=by
 unfold over;rw[Xc,Vn h];simp
theorem BN:∀(L:List mh) (i j:Nat) (c:Int),i<L.length->j<2->(bR L).set (i*7+2+j) (num c)=bR (L.set i (if j=0 then {bV L i with c0:=c} else {bV L i with c1:=c}))
 | [],i,j,c,h,_=>by simp at h
 |l::L,0,j,c,_,hj=>by
  simp only[bR,Wm,XB,Zf,Ws,bV,Zc];rw[List.set_append_left _ _ (by simp[jt];omega)];congr 1;rcases(show j=0\/j=1 by omega)with rfl|rfl<;>rfl
 |l::L,i+1,j,c,h,hj=>by
  have ih:=BN L i j c (by simpa using h) hj;simp only[bR,Wm,X0,bV,YG]at ih ⊢;rw[Xd _ _ (by simp[jt];omega)];congr 1;rw[show(i+1)*7+2+j - (jt l).length=i*7+2+j by simp[jt];omega];exact ih
theorem Lc(now:aw){a:Nat}(h:a / 2<now.ah.length)(c:Int):over (bR now.ah) (a / 2*7+2+a % 2) [num c]=bR (kG now a c).ah:=by
 have hl:=mG now.ah;rw[Rk _ _ _ (by rw[hl];omega),BN _ _ _ _ h (by omega)]
 rfl
theorem PD{P σ t}{o:Oper}{ty s n m:Nat}{x e k}{i:Int}{off j:Nat}(ho:o.op= .indexAddr ty x e)(he:RL P ty=some (n,s))(hx:aI t x=some (.ptr m off))(c:aI t e=some (.raw (.int k i)))(hi:0<=i)(hn:i<n)(hj:i.toNat*s=j):bE P σ t o (.ptr m (off+j)):=by
 intro F base E ρ w a _ hT;have h1:=aB a hT hx;have h2:=aB a hT c;generalize f:ρ x=z at h1;generalize d:ρ e=g at h2;cases h2;cases h1 with
 |ptr _ _ b hb hM=>
  simp only[execOp,ho,f,d,Sem.run_bind,r4 he hi hn,Result.andThen_ok,Sem.run_pure,hj];exact bA (.ptr m (off+j) b hb hM)
theorem FY{σ:bH}{b p:Nat}{blk ty xs ys}(hb:σ[b]? =some (some blk))(hp:σ[p]? =some (some (.cells ty xs)))(c:b≠p)(h:nh b blk xs ys):AE b blk σ ((σ.set b none).set p (some (.cells ty ys))):=by
 have a:=(Vf.1 hb).1;have d:=(Vf.1 hp).1;refine⟨by simp,by rw[VY (Ne.symm c),WC a],λj hj=>?_⟩;by_cases e:j=p
 ·subst e;exact .inr ⟨_,_,hp,by rw[WC (by simpa using d)],.cells h⟩
 ·rw[VY (Ne.symm e),VY (Ne.symm hj)];exact .inl rfl
theorem L2{σ:bH}{p:Nat}{blk}(hp:σ[p]? =some (some blk)):AE p blk σ (σ.set p none):=
 ⟨by simp,by rw[WC (Vf.1 hp).1],λj hj=>.inl (by rw[VY (Ne.symm hj)])⟩
open iF
def tX(T:aw):Bool:=(aH T&&decide (T.nodes<=7))&&decide ((T.ah.length:Int)<=10)
theorem ED(T:aw):Can prog 19 [bu T,num 7,num 10] (· =flag (tX T)):=by
 have⟨a,h1⟩:=dw (aH T);have⟨b,h2⟩:=dw (decide (T.nodes<=7));have⟨d,c⟩:=dw (decide ((T.ah.length:Int)<=10));have he:tX T=((a&&b)&&d):=by unfold tX;rw[h1,h2,c]
 have hv:=lD T;rw[h1]at hv;rw[he];refine aR func19 I ntmps19 I<|aj (.a 2 I<|.k [1,2,3] I)<|cD 6 (.raw (.bool ((a&&b)&&d))) [] I ?_ ?_
 ·refine .v (gr I (rfl) I) I<|.c rfl (hv) I<|.a 1 I<|?_;cases a
  ·exact .a 13 I<|.k [6] I
  ·refine .a 3 I<|.v (cT I (h2)) I<|.a 2 I<|?_;cases b
   ·exact .a 7 I<|.k [6] I
   ·exact .a 4 I<|.v (cT I (c)) I<|.a 2 I<|.k [6] I
 exact aA<|jF I aQ.pure rfl
theorem qP(T:aw):Can prog 5 [bu T] (· =flag (tX T)):=by
 have⟨a,h1⟩:=dw (tX T);have⟨b,h2⟩:=dw (aH T);have he:tX T=(a&&b):=by
  rw[<-h1,<-h2];unfold tX;cases aH T<;>simp
 have hs:=ED T;have hv:=lD T;rw[h1]at hs;rw[h2]at hv;rw[he];refine aR func5 I ntmps5 I<|aj (.a 2 I<|.k [1] I)<|cD 2 (.raw (.bool (a&&b))) [] I ?_ ?_
 ·refine .v (gr I (rfl) I) I<|.c rfl (hs) I<|.a 1 I<|?_;cases a
  ·exact .a 4 I<|.k [2] I
  ·exact .v (gr I (rfl) I) I<|.c rfl (hv) I<|.a 2 I<|.k [2] I
 exact aA<|jF I aQ.pure rfl
end
section
open Go.RowKit Go.Maps Go.Sort Go.Shelf cm Mem Net
theorem Hu(T:aw)(l:List Gk)(hs:tX T=false):Can prog 3 [bu T,rf l] (· =flag true):=by
 have a:=qP T;rw[hs]at a;refine aR func3 I ntmps3 I<|aj (.a 2 I<|.k [1,2] I)<|an<|aj (.c rfl (nS) I<|.a 1 I<|.k [1,2,21] I)<|ak I (λhc=>?_) (λhc=>?_)
 ·cases hc
 ·clear hc;refine ao<|an<|cD 40 (.raw (.bool (true))) [1,2] I ?_ ?_
  ·exact .v (gr I (rfl) I) I<|.c rfl (a) I<|.a 17 I<|.k [40,1,2] I
  refine ak I (λhc=>?_) (λhc=>?_)
  ·skip
   exact aj (.a 1 I<|.k [4] I)<|aA<|jF I aQ.pure rfl
  ·cases hc
theorem Hv(T:aw)(l:List Gk)(hs:tX T=true)(h8:8<T.ah.length):Can prog 3 [bu T,rf l] (· =flag true):=by
 have a:=qP T;rw[hs]at a;have b:decide ((8:Int)<(T.ah.length:Int))=true:=VM (by omega);refine aR func3 I ntmps3 I<|aj (.a 2 I<|.k [1,2] I)<|an<|aj (.c rfl (nS) I<|.a 1 I<|.k [1,2,21] I)<|ak I (λhc=>?_) (λhc=>?_)
 ·cases hc
 ·clear hc;refine ao<|an<|cD 40 (.raw (.bool (true))) [1,2] I ?_ ?_
  ·exact .v (gr I (rfl) I) I<|.c rfl (a) I<|.a 5 I<|.v (cT I b) I<|.a 11 I<|.k [40,1,2] I
  refine ak I (λhc=>?_) (λhc=>?_)
  ·skip
   exact aj (.a 1 I<|.k [4] I)<|aA<|jF I aQ.pure rfl
  ·cases hc
set_option maxHeartbeats 8000000 in
theorem Hw(T:aw)(l:List Gk)(hl:∀c∈l,c.k<256/\c.w<256/\c.n<256)(N:Nat)(hT:cF T N)(hs:tX T=true):Can prog 3 [bu T,rf l] (· =flag true):=by
  have a1:=qP T;rw[hs]at a1;have hv:=hT.hv;have hN:=hT.hN;have bF:=hT.N7;have bH:=hT.l8;have bj:=fr hv;have aG:0<N:=by omega
  have hj:=D0 T N hT aG;have e8:decide ((8:Int)<(T.ah.length:Int))=false:=VA (by omega);have⟨w3,ax⟩:=dw (decide ((5:Int)<l.length));refine aR func3 I ntmps3 I<|aj (.a 2 I<|.k [1,2] I)<|an<|aj (.c rfl (nS) I<|.a 1 I<|.k [1,2,21] I)<|ak I (λhc=>?_) (λhc=>?_)
  · cases hc
  · clear hc;refine ao<|an<|aK (ZI (K:=λs=>∃q:Bool,s=⟨[(1,rf l),(2,.cH (bJ T) 0),(40,flag q)],[]⟩/\(q=false->(∀n,n<N->tR T 0 n)/\w3=false)) ?_ ?_)
    · refine aZ (gr I (rfl) I) I<|fW I (a1) I<|av 3 I<|aZ (aO I (rfl)) I<|av 1 I<|aZ (cT I (e8)) I<|av 2 I<|aZ (gr I (rfl) I) I<|br I I (VO (aD.Sq hj) (λy σ' h=>?_));obtain⟨⟨b,rfl,hb⟩,rfl⟩:=h;cases b with
      |false=>exact av 7 rfl<|aF [1,2,40] rfl ⟨true,rfl,λh=>by cases h⟩
      |true=>exact av 5 rfl<|aZ (cT rfl ax) rfl<|av 1 rfl<|aF [1,2,40] rfl ⟨w3,rfl,λh=>⟨hb rfl,h⟩⟩
    rintro _ ⟨q,rfl,hq⟩;refine ak I (λhc=>?_) (λhc=>?_)
    · skip
      exact aj (.a 1 I<|.k [4] I)<|aA<|jF I aQ.pure rfl
    · obtain ⟨bx, a8⟩ := hq hc;have bG:l.length<=5:=by rw[a8]at ax;have:=ff ax;omega
      clear hc hq;refine ao<|aK<|aZ (gr I (rfl) I) I<|br I I (VO (tH hT) (λ_ σ' h=>?_));obtain⟨rfl,L,ρ,hA,P⟩:=h;refine av 5 I<|aF [1,2,5,6] I ?_;refine an<|aj (.a 2 I<|.k [1,2,5,47] I)<|ak I (λhc=>?_) (λhc=>?_)
      · cases hc
      · refine ao<|aK<|aZ (gr I (rfl) I) I<|bW (nE I (Zy I)) I<|bw (YD (jr (ys:=bJ T) I (VJ I) I I I I (WT ..) (Vh 3)) (mV σ' _ (some (.cells 25 (bJ T))))) I I<|aF [1,2,5,7] I ?_;have o:=P.app (.cells 25 (bJ T));generalize σ'++[some (.cells 25 (bJ T))]=d at o ⊢;generalize σ'.length=p at o ⊢;have C:=(((o.app (.row 42 7 0 [])).none Option.none).app (.row 42 7 (0+T.ah.length) ([]++bR T.ah)));rw[VK]at C;have aV:((d++[some (cj.row 42 7 0 [])]).set d.length none++[some (cj.row 42 7 (0+T.ah.length) ([]++bR T.ah))])[p]? =some (some (.cells 25 (bJ T))):=by
         obtain⟨_,_,E⟩:=id C;exact(E.2 (p,_) (VB _ (VC ..))).1
        refine aK<|bW (ga I (YC I)) I<|av 1 I<|aZ (aO I (rfl)) I<|bW (bP I (VW I) I (WT ..) I (mG T.ah) (by unfold maxLen;omega)) I<|av 1 I<|bw (eh (i:=p) (off:=2) I (VJ I) I I aV (show 2<3 by decide)) I I<|aF [1,2,5,7] I ?_;have f:=(C.perm (Y0 ..)).put (.cells 25 [num T.nodes,aY T.over,.own (d++[some (cj.row 42 7 0 [])]).length]);refine dY (σ':=((d++[some (cj.row 42 7 0 [])]).set d.length none++[some (cj.row 42 7 (0+T.ah.length) ([]++bR T.ah))]).set p (some (.cells 25 [num T.nodes,aY T.over,.own (d++[some (cj.row 42 7 0 [])]).length]))) I ?_;rw[Ws,WJ]at f ⊢;generalize ((d++[some (cj.row 42 7 0 [])]).set d.length none++[some (cj.row 42 7 T.ah.length (bR T.ah))]).set p (some (.cells 25 [num T.nodes,aY T.over,.own (d++[some (cj.row 42 7 0 [])]).length]))=v at f ⊢;generalize (d++[some (cj.row 42 7 0 [])]).length=q at f ⊢;clear C aV o;have ae:=f.app (.row 4 1 N (aT (List.replicate N false)));have aW:(v++[some (cj.row 4 1 N (aT (List.replicate N false)))])[p]? =some (some (.cells 25 [num T.nodes,aY T.over,.own q])):=by
         obtain⟨_,_,E⟩:=id ae;exact(E.2 (p,_) (VB _ (VC ..))).1
        refine aK<|av 1 I<|aZ (aO I ((show some (num T.nodes)=some (num (N:Int)) by rw[hN]))) I<|bW (YD (eJ (n:=N) I (VW I) I I I I ⟨by unfold maxLen;omega,by omega⟩) (show _=v++[some (.row 4 1 N (aT (List.replicate N false)))] by rw[<-jd];rfl)) I<|av 1 I<|bw (eh (i:=p) (off:=1) I (VJ I) I I aW (show 1<3 by decide)) I I<|aF [1,2,5,7] I ?_;have R:=(ae.perm (Y0 ..)).put (.cells 25 [num T.nodes,.own v.length,.own q]);refine dY (σ':=(v++[some (cj.row 4 1 N (aT (List.replicate N false)))]).set p (some (.cells 25 [num T.nodes,.own v.length,.own q]))) I ?_;generalize (v++[some (cj.row 4 1 N (aT (List.replicate N false)))]).set p (some (.cells 25 [num T.nodes,.own v.length,.own q]))=aB at R ⊢;generalize v.length=b at R ⊢;clear ae aW f P;have al:aB[p]? =some (some (.cells 25 [num T.nodes,.own b,.own q]))/\aB[b]? =some (some (.row 4 1 N (aT (List.replicate N false)))):=by
         obtain⟨_,_,E⟩:=id R;exact⟨(E.2 (p,_) (VC ..)).1,(E.2 (b,_) (VB _ (VC ..))).1⟩
        have bs:T.over.length=0\/T.over.length=N:=by have:=bj.2.2.2;omega
        refine aK<|av 1 I<|aZ (aq I (VJ I) I al.1 rfl) I<|av 1 I<|aZ (aO I (rfl)) I<|bW (D1 I Tryz.underlying22 Ky rfl al.2 rfl bs) I<|aF [1,2,5,7] I ?_;have aE:=Gy hT hA;have V:=(R.perm (Y0 ..)).put (.row 4 1 N (aT (if T.over.length=0 then List.replicate N false else T.over)));have aN:(if T.over.length=0 then List.replicate N false else T.over)=(wE T).over:=by show _=(if T.over.length=0 then List.replicate T.nodes.toNat false else T.over);rw[hN,Vi]
        rw[aN]at V ⊢;generalize aB.set b (some (.row 4 1 N (aT (wE T).over)))=bD at V ⊢;clear R al aN;refine an<|aj (.a 3 I<|.k [2,5,7,63,64,65] I)<|ay<|eX [2,5,7,63,64,65] I<|bq (λr st=>∃k L now σ,k<=l.length/\r=l.length - k/\MP T N (1+4002*(2*N+40)+k) now L/\gD T L 0 ρ [(b,.row 4 1 N (aT now.over)),(p,.cells 25 [num T.nodes,.own b,.own q]),(q,.row 42 7 T.ah.length (bR now.ah))] σ/\st=⟨[(2,.cH (bJ T) 0),(5,.ptr 0 0),(7,.ptr p 0),(63,rf l),(64,num l.length),(65,num k)],σ⟩) l.length ⟨0,L,wE T,bD,by omega,by omega,aE,V,rfl⟩ ?_;clear aE V;rintro r st ⟨k,L,now,σ,hk,rfl,hC,P,rfl⟩;refine aj (.a 1 I<|.k [2,5,7,63,64,65,66] I)<|an<|ak I (λhy=>?_) (λhy=>?_)
        · have hlt:k<l.length:=by have:=tt hy;omega
          obtain⟨e,he⟩:∃e,l[k]? =some e:=⟨_,Vm hlt⟩;obtain⟨e1,e2,e3⟩:=hl e (VE he);have⟨v5,a7⟩:=dw (decide (((e.n % 2:Nat):Int)=1));have⟨b1,bg⟩:=dw (decide (((e.k % 2:Nat):Int)=0));have⟨b2,ah⟩:=dw (decide (((T.ah.length:Nat):Int)=0));have bb:1+4002*(2*N+40)+k+1<=1000000:=by omega
          have bc:L.length=N:=by obtain⟨_,_,hA,_⟩:=id hC;exact hA.len
          have B:kC T now N:=by obtain⟨_,_,_,hn,_⟩:=id hC;exact hn
          refine ao<|an<|ay<|aK<|aZ (aX (k*3) I) I<|aZ (gr I (JC l k e he) I) I<|bW (nE I (Zy I)) I<|bw (YD (jr (ys:=uP e) I (VJ I) I I I I (WT ..) (Vh 3)) (mV σ _ (some (.cells 33 (uP e))))) I I<|aF [2,5,7,9,63,64,65] I ?_;have o:=(P.app (.cells 33 (uP e))).none Option.none;rw[rC]at o;refine mn σ.length (rB _ _) (rq _ _) (.cons 2 I (.same _)<|.cons 5 I (.same _)<|.cons 7 I (.same _)<|.cons 9 I (.ptr 0)<|.cons 63 I (.same _)<|.cons 64 I (.same _)<|.cons 65 I (.same _) .nil) ?_;generalize σ++[none]=d at o ⊢;clear P;have ag:d[b]? =some (some (.row 4 1 N (aT now.over)))/\d[p]? =some (some (.cells 25 [num T.nodes,.own b,.own q]))/\d[q]? =some (some (.row 42 7 T.ah.length (bR now.ah))):=by
           obtain⟨_,_,E⟩:=id o;exact⟨(E.2 (b,_) (VC ..)).1,(E.2 (p,_) (VB _ (VC ..))).1,(E.2 (q,_) (VB _ (VB _ (VC ..)))).1⟩
          obtain⟨Q,U,aH⟩:=ag;refine an<|aj (.a 1 I<|.v (aO I (rfl)) I<|.v (jJ I I I (λw=>Ap e.k w)) I<|.v (yD I I I bg) I<|.k [2,5,7,9,63,64,65,72] I)<|ak I (λbm=>?_) (λbm=>?_)
          · have ar:e.w % N<N:=YW _ aG;obtain⟨s',aa,af,F⟩:=JF hT hC bb ar v5;have C:=o.put (.row 4 1 N (aT (pO now (e.w % N) v5).over));have⟨D,J⟩:=dw (d.set b (some (.row 4 1 N (aT (pO now (e.w % N) v5).over))));rw[J]at C;obtain⟨g2,u,H⟩:=id C;have z:=u.dd;have g:=u.rr;obtain⟨v,ad,O⟩:=u.call (n:=e.w % N) (by omega) I aa af;have f:=O _ H;refine aj (.a 1 I<|.v (aO I (rfl)) I<|.v (eE I (show prog.underlying 5=some (.int .u8) by kernel_rfl) (show prog.underlying 3=some (.int .i64) by kernel_rfl) I (wrap_small e2)) I<|.a 1 I<|.v (aO I ((show some (num T.nodes)=some (num (N:Int)) by rw[hN]))) I<|.v (l4 I I I (by omega) (vY e.w N)) I<|.a 1 I<|.k [2,5,7,9,10,63,64,65] I)<|aK<|av 1 I<|aZ (aq I (VJ I) I U rfl) I<|av 2 I<|aZ (aO I (rfl)) I<|aZ (jJ I I I (λw=>Ap e.n w)) I<|aZ (yD I I I a7) I<|aZ (dc (j:=e.w % N) I (WN I) I Q rfl (XO _) (show((e.w % N:Nat):Int)<(N:Int) by omega) (Xt _)) I<|bw (YD (cP (L:=now.over) (j:=e.w % N) (c:=v5) I (VJ I) I I Q (by rw[B.ov];exact ar)) J) I I<|aF [2,5,7,9,10,63,64,65] I ?_;refine an<|PT 11 20 [87,88,89,90,91,92,93,94,95,96,97] mixed (by kernel_rfl) (by kernel_rfl) (by kernel_rfl) I (.a 3 I<|.v [89] (aq I (VJ I) I z rfl) I I<|.a 1 I<|.v [90,91] (dc (j:=e.w % N) I (WN I) I g rfl (XO _) (show((e.w % N:Nat):Int)<(L.length:Int) by omega) (Xt _)) I I<|.v [92] (aq I (VJ I) I g (fE _ g2 (by omega))) I I<|.a 1 I<|.v [94] (aO I (rfl)) I I<|.v [95] (jJ I I I (λw=>Ap e.n w)) I I<|.v [96] (yD I I I a7) I I<|.k [2,5,7,63,64,65,93,97] I) ?_;refine br I I (VO ad (λ_ σ' h=>?_));obtain⟨rfl,h⟩:=h;rw[h];clear h;refine av 1 I<|aF [2,5,7,63,64,65,99] I ?_;refine ak I (λhc=>?_) (λhc=>?_)
            · cases hc
            · refine ao<|bh<|aL (.v (aU I) I<|.a 1 I<|.k [2,5,7,63,64,65] I) ?_;exact⟨l.length - (k+1),by omega,k+1,_,_,_,by omega,rfl,F,f,rfl⟩
          · skip
            refine ao<|an<|aj (.a 1 I<|.v (aO I (rfl)) I<|.a 1 I<|.v (yD I I I ah) I<|.k [2,5,7,9,63,64,65,103] I)<|ak I (λaM=>?_) (λaM=>?_)
            · have F:=hC.succ;have f:=o;refine bh<|aL (.v (aU I) I<|.a 1 I<|.k [2,5,7,63,64,65] I) ?_;exact⟨l.length - (k+1),by omega,k+1,_,_,_,by omega,rfl,F,f,rfl⟩
            · have bE:0<T.ah.length:=by rw[aM]at ah;have:=ff ah;omega
              have⟨A,hA⟩:=dw (2*T.ah.length);have⟨a,ha⟩:=dw (e.w % A);have X:a<2*T.ah.length:=by rw[hA,<-ha];exact YW _ (by omega)
              have bf:a / 2<T.ah.length:=by omega
              obtain⟨t,au⟩:∃t:Nat,bI T a=(t:Int):=⟨(bI T a).toNat,by have:=IK hT X;omega⟩;obtain⟨ar,_⟩:=CW hT X au;obtain⟨s',aa,af,F⟩:=JE hT hC bb X au (c:=1+e.n % 6) (by omega) (by omega);have a6:=lC T hv a X;rw[au]at a6;have C:=((o.perm (List.Perm.trans (List.perm_append_comm (l₁:=[_,_]) (l₂:=[_])) (List.Perm.refl _))).put (.row 42 7 T.ah.length (bR (kG now a ((1+e.n % 6:Nat):Int)).ah))).perm (List.perm_append_comm (l₁:=[_]) (l₂:=[_,_]));have⟨D,J⟩:=dw (d.set q (some (.row 42 7 T.ah.length (bR (kG now a ((1+e.n % 6:Nat):Int)).ah))));rw[J]at C;obtain⟨g2,u,H⟩:=id C;have z:=u.dd;have g:=u.rr;obtain⟨v,ad,O⟩:=u.call (n:=t) (by omega) I aa af;have f:=O _ H;have bp:=Lc now (a:=a) (by rw[B.ln];exact bf) ((1+e.n % 6:Nat):Int);refine ao<|aj (.a 1 I<|.v (aO I (rfl)) I<|.v (eE I (show prog.underlying 5=some (.int .u8) by kernel_rfl) (show prog.underlying 3=some (.int .i64) by kernel_rfl) I (wrap_small e2)) I<|.a 1 I<|.v (aO I (rfl)) I<|.a 1 I<|.v (aU I (hc:=(show(2:Int)*(T.ah.length:Int)=(A:Int) by omega))) I<|.v (l4 I I I (by omega) ((vY e.w A).trans (by rw[ha]))) I<|.a 1 I<|.k [2,5,7,9,11,63,64,65] I)<|lN 14 20 mixed (.val [7] I (aP I) I I<|.val [112] I (aq I (VJ I) I U rfl) I I<|.val [11] I (aP I) I I<|.val [114] I (lI (c:=((a / 2:Nat):Int)) I I I (by decide) (by rw[XI (by omega)];omega) (by unfold In64;omega)) I I<|.val [11] I (aP I) I I<|.val [116] I (l4 (c:=((a % 2:Nat):Int)) I I I (by decide) (vY a 2)) I I<|.val [9] I (aP I) I I<|.val [118] I (aO I (rfl)) I I<|.val [119] I (jJ I I I (λw=>F9 e.n w)) I I<|.val [120] I (eE I (show prog.underlying 5=some (.int .u8) by kernel_rfl) (show prog.underlying 3=some (.int .i64) by kernel_rfl) I (wrap_small (show e.n % 6<256 by omega))) I I<|.val [121] I (aU I (hc:=(show(1:Int)+((e.n % 6:Nat):Int)=((1+e.n % 6:Nat):Int) by omega))) I I<|.val [113,115] I (dc (j:=a / 2*7) I (WN I) I aH rfl (XO _) (show((a / 2:Nat):Int)<(T.ah.length:Int) by omega) I) I I<|.val [123] I (aP I) I I<|.val [117,124] I (PD (j:=a % 2) I (ba.ar.get I) I I (XO _) (show((a % 2:Nat):Int)<2 by omega) (Xt _)) I I<|.nil) (by kernel_rfl) I I (aJ (ks:=[2,5,7,9,11,63,64,65,122,125]) I) ?_;refine bw (YD (eh (i:=q) (off:=a / 2*7+2+a % 2) (p:=num ((1+e.n % 6:Nat):Int)) (blk:=.row 42 7 T.ah.length (bR now.ah)) I (VJ I) I I aH (show a / 2*7+2+a % 2<(bR now.ah).length by rw[mG,B.ln];omega)) ((V1 (λx=>d.set q (some (cj.row 42 7 T.ah.length x))) bp).trans J)) I I<|aF [2,5,7,9,11,63,64,65] I ?_;refine PT 16 20 [126,127,128,129,130,131,132,133,134,135,136,137,138,139,140,141] mixed (by kernel_rfl) (by kernel_rfl) (by kernel_rfl) I (.a 3 I<|.v [128] (aq I (VJ I) I z rfl) I I<|.v [2] (gr I (rfl) I) I I<|.a 1 I<|.v [130,131] (dW I (a6)) I I<|.v [129,132] (dc (j:=t) I (WN I) I g rfl (XO _) (show((t:Nat):Int)<(L.length:Int) by omega) (Xt _)) I I<|.v [133] (aq I (VJ I) I g (fE _ g2 (by omega))) I I<|.a 1 I<|.v [135] (lI (c:=((a / 2:Nat):Int)) I I I (by decide) (by rw[XI (by omega)];omega) (by unfold In64;omega)) I I<|.a 1 I<|.v [137] (aO I (rfl)) I I<|.v [138] (jJ I I I (λw=>F9 e.n w)) I I<|.v [139] (eE I (show prog.underlying 5=some (.int .u8) by kernel_rfl) (show prog.underlying 3=some (.int .i64) by kernel_rfl) I (wrap_small (show e.n % 6<256 by omega))) I I<|.v [140] (aU I (hc:=(show(1:Int)+((e.n % 6:Nat):Int)=((1+e.n % 6:Nat):Int) by omega))) I I<|.k [2,5,7,63,64,65,134,136,141] I)<|br I I (VO ad (λ_ σ' h=>?_));obtain⟨rfl,h⟩:=h;rw[h];clear h;refine av 1 I<|aF [2,5,7,63,64,65,143] I ?_;refine ak I (λhc=>?_) (λhc=>?_)
              · cases hc
              · refine ao<|aL (.v (aU I) I<|.a 1 I<|.k [2,5,7,63,64,65] I) ?_;exact⟨l.length - (k+1),by omega,k+1,_,_,_,by omega,rfl,F,f,rfl⟩
        · have bn:k=l.length:=by have:=ff hy;omega
          subst bn;refine bh<|an ?_;have B:kC T now N:=by obtain⟨_,_,_,hn,_⟩:=id hC;exact hn
          have Y:=uU T hT.hT (by omega) (N+6) (Pa hT (β:=1+4002*(2*N+40)+l.length) (now:=now) (by omega)) L (EG hC) (by omega) P;refine aK<|av 2 I<|aZ (aO I ((show some (num T.nodes)=some (num (N:Int)) by rw[hN]))) I<|aZ (aU I (hc:=(show(N:Int)+6=((N+6:Nat):Int) by omega))) I<|br I I (VO Y (λ_ σ' h=>?_));obtain⟨rfl,Z,ab,G⟩:=h;refine av 1 I<|aF [2,5,7,150] I ?_;clear Y P;have bc:=AI.Tv ab;have ag:(σ'[b]? =some (some (.row 4 1 N (aT now.over)))/\σ'[p]? =some (some (.cells 25 [num T.nodes,.own b,.own q])))/\b≠p/\q≠p:=by
           obtain⟨_,_,E⟩:=id G;have ai:=E.1;simp only[VX,Xw,Wv,V9,List.not_mem_nil,or_false,not_or]at ai;exact⟨⟨(E.2 (b,_) (VC ..)).1,(E.2 (p,_) (VB _ (VC ..))).1⟩,ai.1.1,Ne.symm ai.2.1⟩
          obtain⟨⟨Q,U⟩,bk,bt⟩:=ag;have W:=(G.none Option.none).put (.cells 25 [num T.nodes,.slice N (aT now.over),.own q]);refine mn b Q (FY Q U bk (nh.cons (.same _)<|nh.cons .own<|nh.cons (.same _) nh.nil)) (.cons 2 I (.same _)<|.cons 5 I (.same _)<|.cons 7 I (.same _)<|.cons 150 I (.same _) .nil) ?_;generalize (σ'.set b none).set p (some (cj.cells 25 [num T.nodes,.slice N (aT now.over),.own q]))=D at W ⊢;clear G Q U;have M:D[p]? =some (some (.cells 25 [num T.nodes,.slice N (aT now.over),.own q]))/\D[q]? =some (some (.row 42 7 T.ah.length (bR now.ah))):=by
           obtain⟨_,_,E⟩:=id W;exact⟨(E.2 (p,_) (VC ..)).1,(E.2 (q,_) (VB _ (VC ..))).1⟩
          have S:=((W.perm (Y0 ..)).none Option.none).put (.cells 25 [num T.nodes,.slice N (aT now.over),.slice T.ah.length (bR now.ah)]);refine mn q M.2 (FY M.2 M.1 bt (nh.cons (.same _)<|nh.cons (.same _)<|nh.cons .own nh.nil)) (.cons 2 I (.same _)<|.cons 5 I (.same _)<|.cons 7 I (.same _)<|.cons 150 I (.same _) .nil) ?_;have bB:[num T.nodes,.slice N (aT now.over),.slice T.ah.length (bR now.ah)]=bJ now:=by
           unfold bJ aY;rw[B.nd,B.ov,B.ln]
          rw[bB]at S ⊢;generalize (D.set q none).set p (some (cj.cells 25 (bJ now)))=v at S ⊢;clear W M;have O:v[p]? =some (some (.cells 25 (bJ now))):=by
           obtain⟨_,_,E⟩:=id S;exact(E.2 (p,_) (VC ..)).1
          refine mn p O (L2 O) (.cons 2 I (.same _)<|.cons 5 I (.same _)<|.cons 7 I (.ptr 0)<|.cons 150 I (.same _) .nil) ?_;have G:=S.none Option.none;generalize v.set p none=bC at G ⊢;clear S O;obtain⟨g2,u,H⟩:=id G;have z:=u.dd;have g:=u.rr;refine ak I (λhc=>?_) (λhc=>?_)
          · cases hc
          · refine ao<|an<|aj (.a 3 I<|.v (aq I (VJ I) I z rfl) I<|.v (we I (WN I) I g) I<|.a 1 I<|.k [2,5,7,155,156] I)<|ay<|eX [2,5,7,155,156] I<|bq (λr st=>∃n σ,n<=N/\r=N - n/\gD T Z 0 ρ [] σ/\st=⟨[(2,.cH (bJ T) 0),(5,.ptr 0 0),(7,.cH (bJ now) 0),(155,num Z.length),(156,num n)],σ⟩) N ⟨0,bC,by omega,by omega,G,rfl⟩ ?_;clear G u H z g;rintro r st ⟨n,σ,hn,rfl,P,rfl⟩;refine aj (.a 1 I<|.k [2,5,7,155,156,157] I)<|an<|ak I (λhy=>?_) (λhy=>?_)
            · have aS:n<N:=by have:=tt hy;omega
              obtain⟨Xv,bd⟩:=Ip hT bx B ab aS;have aC:∀x∈az (cR Z n).nb,x<8:=by obtain⟨_,_,hA,_⟩:=id ab;exact(hA.ni n aS).jG hT
              obtain⟨g2,u,H⟩:=id P;have z:=u.dd;have g:=u.rr;obtain⟨D,F,M⟩:=u.same (n:=n) (by omega) aC (II T (cR Z n) now N Xv aC bd);have C:=M _ H;refine ao<|an<|ay<|aj (.a 2 I<|.k [2,5,7,12,155,156] I)<|aK<|av 3 I<|aZ (aq I (VJ I) I z rfl) I<|av 1 I<|aZ (dc (j:=n) I (WN I) I g rfl (XO _) (show((n:Nat):Int)<(Z.length:Int) by omega) (Xt _)) I<|aZ (aq I (VJ I) I g (fE _ g2 (by omega))) I<|br I I (VO F (λ_ σ' h=>?_));obtain⟨rfl,h⟩:=h;rw[h];clear h;refine av 3 I<|bW (nE I (Zy I)) I<|bw (YD (jr (ys:=bJ now) I (VJ I) I I I I (WT ..) (Vh 3)) (mV D _ (some (.cells 25 (bJ now))))) I I<|av 1 I<|aF [2,5,7,13,14,155,156] I ?_;have f:=(C.app (.cells 25 (bJ now))).none Option.none;rw[rC]at f;refine mn D.length (rB _ _) (rq _ _) (.cons 2 I (.same _)<|.cons 5 I (.same _)<|.cons 7 I (.same _)<|.cons 13 I (.ptr 0)<|.cons 14 I (.same _)<|.cons 155 I (.same _)<|.cons 156 I (.same _) .nil) ?_;generalize D++[none]=v at f ⊢;clear P u H z g F M C;refine aj (.a 1 I<|.k [2,5,7,13,14,15,155,156] I)<|ay<|eX [2,5,7,13,14,15,155,156] I<|bq (λr st=>∃m σ,m<=N/\r=N - m/\gD T Z 0 ρ [] σ/\st=⟨[(2,.cH (bJ T) 0),(5,.ptr 0 0),(7,.cH (bJ now) 0),(13,.cH (bJ now) 0),(14,aY (List.replicate (2*T.ah.length) false)),(15,num m),(155,num Z.length),(156,num n)],σ⟩) N ⟨0,v,by omega,by omega,f,rfl⟩ ?_;clear f;rintro r st ⟨m,σ,hm,rfl,P,rfl⟩;refine an<|aj (.a 2 I<|.v (aO I ((show some (num T.nodes)=some (num (N:Int)) by rw[hN]))) I<|.a 1 I<|.k [2,5,7,13,14,15,155,156,173] I)<|ak I (λhz=>?_) (λhz=>?_)
              · have bo:m<N:=by have:=tt hz;omega
                obtain⟨bl,bz⟩:=Ei hT B bo;have hR:=vG now (List.replicate (2*T.ah.length) false) (m:Int);rw[bl,bz]at hR;have hW:=CE now [] (m:Int);have hS:=LQ (fp now [] (m:Int)) (fp now [] (m:Int));rw[VM rfl]at hS;have⟨tb,bA⟩:=dw (fp now [] (m:Int));rw[bA]at hR hW hS;have o:=(P.app (.cells 51 (oG tb))).none Option.none;rw[rC]at o;refine ao<|an<|ay<|aK<|aZ (gr I (rfl) I) I<|av 2 I<|fW I (hR) I<|av 3 I<|bW (nE I (Zy I)) I<|bw (YD (jr (ys:=oG tb) I (VJ I) I I I I (WT ..) (Vh 3)) (mV σ _ (some (.cells 51 (oG tb))))) I I<|av 1 I<|aF [2,5,7,13,14,15,16,17,155,156] I ?_;refine mn σ.length (rB _ _) (rq _ _) (.cons 2 I (.same _)<|.cons 5 I (.same _)<|.cons 7 I (.same _)<|.cons 13 I (.same _)<|.cons 14 I (.same _)<|.cons 15 I (.same _)<|.cons 16 I (.ptr 0)<|.cons 17 I (.same _)<|.cons 155 I (.same _)<|.cons 156 I (.same _) .nil) ?_;generalize σ++[none]=d at o ⊢;clear P;have f:=(o.app (.cells 51 (oG tb))).none Option.none;rw[rC]at f;refine aK<|aZ (gr I (rfl) I) I<|av 1 I<|aZ (EX I (Vp aQ.pure<|Vp aQ.cg<|Vp aQ.pure Wg) (hW)) I<|av 3 I<|bW (nE I (Zy I)) I<|bw (YD (jr (ys:=oG tb) I (VJ I) I I I I (WT ..) (Vh 3)) (mV d _ (some (.cells 51 (oG tb))))) I I<|av 1 I<|aF [2,5,7,13,14,15,16,17,18,155,156] I ?_;refine mn d.length (rB _ _) (rq _ _) (.cons 2 I (.same _)<|.cons 5 I (.same _)<|.cons 7 I (.same _)<|.cons 13 I (.same _)<|.cons 14 I (.same _)<|.cons 15 I (.same _)<|.cons 16 I (.same _)<|.cons 17 I (.same _)<|.cons 18 I (.ptr 0)<|.cons 155 I (.same _)<|.cons 156 I (.same _) .nil) ?_;generalize d++[none]=D at f ⊢;clear o;refine cD 196 (.raw (.bool (false))) [2,5,7,13,14,15,155,156] I ?_ ?_
                · exact .a 3 I<|.v (gr I (rfl) I) I<|.v (gr I (rfl) I) I<|.c rfl (hS) I<|.a 2 I<|.k [196,2,5,7,13,14,15,155,156] I
                refine ak I (λhc=>?_) (λhc=>?_)
                · cases hc
                · refine ao<|aL (.a 1 I<|.v (aU I) I<|.a 1 I<|.k [2,5,7,13,14,15,155,156] I) ?_;exact⟨N - (m+1),by omega,m+1,_,by omega,rfl,f,rfl⟩
              · skip
                refine bh<|aL (.v (aU I) I<|.a 1 I<|.k [2,5,7,155,156] I) ?_;exact⟨N - (n+1),by omega,n+1,σ,by omega,rfl,P,rfl⟩
            · skip
              exact bh<|aj (.a 1 I<|.k [4] I)<|aA<|jF I aQ.pure rfl
theorem wD(T:aw)(l:List Gk)(hl:∀c∈l,c.k<256/\c.w<256/\c.n<256):Can prog 3 [bu T,rf l] (· =flag true):=by
 cases hs:tX T with
 |false=>exact Hu T l hs
 |true=>
  by_cases h8:8<T.ah.length
  ·exact Hv T l hs h8
  ·have a:=hs;unfold tX at a;simp only[Vx,VH]at a;obtain⟨⟨hv,d⟩,_⟩:=a;have b:=fr hv;exact Hw T l hl T.nodes.toNat ⟨hv,by omega,by omega,by omega⟩ hs
end
section
open Go.RowKit Go.ChangeShapes Go.WideShapes Go.ChangeAt cm Mem Net
structure T1 where
 l:List Gk
 h:∀c∈l,c.k<256/\c.w<256/\c.n<256
section
variable {H:Type} {enc:TypeId×Value->H} {W:World}
theorem vB{n:Nat}{cs y}(h:DataW.trod enc prog W 0 (λ_=>true) true n 5 cs=some y):∃b:Nat,b<256/\cs=[.int .u8 (b:Int)]:=by
 obtain⟨a,rfl,_,c⟩:=DataW.trod_int Tryz.underlying5 h;have hb:0<=a/\a<256:=by
  simp[Lit.wf,IntKind.min,IntKind.max,IntKind.signed,IntKind.bits]at c;omega
 obtain⟨b,rfl⟩:=Vo hb.1;exact⟨b,by omega,rfl⟩
theorem Rp{n:Nat}{cs:List Value}{y}(h:DataW.trod enc prog W 0 (λ_=>true) true n 33 cs=some y)(hl:cs.length=3):∃a: {c:Gk // c.k<256/\c.w<256/\c.n<256},bn EN W cs (uP a.1):=by
 have e:prog.cellsOf 5=1:=by kernel_rfl
 obtain⟨xs,m,_,_,_,b,f⟩:=DataW.trod_struct Tryz.underlying33 h
 match cs,hl with
 | [c0,c1,d],_=>
  match xs,b with
  | [l,o,p],_=>
   have f0:DataW.trod enc prog W 0 (λ_=>true) true m 5 (([c0,c1,d].drop 0).take (prog.cellsOf 5))=some l:=f 0 _ rfl;rw[e]at f0;have f1:DataW.trod enc prog W 0 (λ_=>true) true m 5 (([c0,c1,d].drop 1).take (prog.cellsOf 5))=some o:=f 1 _ rfl;rw[e]at f1;have f2:DataW.trod enc prog W 0 (λ_=>true) true m 5 (([c0,c1,d].drop 2).take (prog.cellsOf 5))=some p:=f 2 _ rfl;rw[e]at f2;obtain⟨a0,i,h0⟩:=vB f0;obtain⟨g,j,h1⟩:=vB f1;obtain⟨a2,k,h2⟩:=vB f2;simp at h0 h1 h2;subst h0 h1 h2;exact⟨⟨⟨a0,g,a2⟩,i,j,k⟩,XP (.raw _)<|XP (.raw _)<|XP (.raw _) (Yn _ _)⟩
theorem Rq{base:Nat}{v d p}(hv:Value.okWide prog W .any base 26 v)(h:DataW.Trod enc prog W 0 (λ_=>true) true 26 v d p):∃c:T1,dj EN W v (rf c.l):=by
 obtain⟨a,len,cap,rfl⟩:=okWide_slice Tryz.underlying26 hv;obtain⟨b,i⟩:=h;obtain⟨L,g⟩:=rW (f:=λa: {c:Gk // c.k<256/\c.w<256/\c.n<256}=>uP a.1) (s:=3) Tryz.underlying26 (by kernel_rfl) (by omega) (λn cs y hy hl=>Rp hy hl) i;refine⟨⟨L.map Subtype.val,λc hc=>?_⟩,?_⟩
 ·obtain⟨a,_,rfl⟩:=Vv.1 hc;exact a.2
 ·have e:rf (L.map Subtype.val)= .slice L.length (L.flatMap λa=>uP a.1):=by
   unfold rf JD;rw[Wf,List.flatMap_map]
  rw[e];exact g
end
end
end PW
end Go.Proofs.YtfcadpknnbgibaaGreatDoor
