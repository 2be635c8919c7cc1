/- Part 10. -/
import Derived.Test.YtoopjinigmhpcaaGreatDoorCardXFB9
set_option maxRecDepth 100000
set_option maxHeartbeats 4000000
namespace Go.Proofs.YtoopjinigmhpcaaGreatDoor
open Go.Proofs.Tryz
namespace PW
section
open Go.RowKit cG Mem Net eE
section
variable {X:Type} [DecidableEq X] {nx:X->List X} {s:X}
theorem tN:∀(i:Nat),(∀j,j<i->j<(cR nx s j).length)->∀(k:Nat) x,(cR nx s i)[k]? =some x->(k=0/\x=s)\/∃j y,j<i/\j<k/\(cR nx s i)[j]? =some y/\x∈nx y
 |0,_,k,x,h=>by
  have hk:=(QT.1 h).1;simp[cR]at hk;subst hk;simp[cR]at h;exact .inl ⟨rfl,h.symm⟩
 |i+1,a,k,x,h=>by
  have d:=a i (by omega);obtain⟨m,hm⟩:=s5 (nx:=nx) (s:=s) i 1;by_cases hk:k<(cR nx s i).length
  ·have h1:(cR nx s i)[k]? =some x:=by rw[hm,Q9 hk]at h;exact h
   rcases tN i (λj p=>a j (by omega)) k x h1 with h2|⟨j,y,h2,l,n,o⟩
   ·exact .inl h2
   ·exact .inr ⟨j,y,by omega,l,oo n (by omega),o⟩
  ·refine .inr ⟨i,(cR nx s i).getD i s,by omega,by omega,oo (by rw[QU,QX d];rfl) (by omega),?_⟩;have c:x∈(nx ((cR nx s i).getD i s)).foldl jW (cR nx s i):=Ro h;rcases rz _ c with h1|h1
   ·exfalso;obtain⟨k',b⟩:=Rv h1;have g:=(QT.1 b).1;have f:=oo b (show i<=i+1 by omega);have e:=(QT.1 f).1;have:=(UJ e (kj (i+1))).1 (f.trans h.symm);omega
   ·exact h1
end
section
variable {T:ak} {tb:Nat->cQ} {p0:dq} {s0:Nat} {L:List Sq} {iL:Nat} {g:Nat->List Int} {c:Int}
theorem xS.at_{Ψ:Nat->List bG->Prop}{n:Nat}{s}(C:xS T tb p0 Ψ n s L iL g c){k:Nat}{x}:(cR (dw T tb p0) (n,s) iL)[k]? =some x↔∃q,L[k]? =some q/\q.n=x.1/\q.s=x.2:=by
 rw[<-C.bf,RE];cases h:L[k]? with
 |none=>simp
 |some q=>
  simp only[SU,SF];constructor
  ·rintro rfl;exact⟨q,rfl,rfl,rfl⟩
  ·rintro⟨a,e,h1,h2⟩;cases e;unfold G1;rw[h1,h2]
theorem xS.link{Ψ:Nat->List bG->Prop}{n:Nat}{s}(C:xS T tb p0 Ψ n s L iL g c){a b:Nat}{x y}(o:a<iL)(hx:(cR (dw T tb p0) (n,s) iL)[a]? =some x)(hy:(cR (dw T tb p0) (n,s) iL)[b]? =some y)(hm:y∈dw T tb p0 x):(b:Int)∈g a:=by
 obtain⟨p,h1,h2,f⟩:=C.at_.1 hx;obtain⟨q,h,i,j⟩:=C.at_.1 hy;obtain⟨_,r,k⟩:=C.gg.dn a p o h1;unfold dw DV at hm;rw[<-h2,<-f]at hm;obtain⟨eZ,d,rfl⟩:=RB.1 hm;obtain⟨m,hm⟩:=Rv d;obtain⟨jm,l,e⟩:=k m eZ hm;have:=C.ex.G2 jm b _ _ e ⟨q,h,i,j⟩;subst this;exact Ro l
theorem xS.MI{Ψ:Nat->List bG->Prop}{n:Nat}{s}(C:xS T tb p0 Ψ n s L iL g c):∀k:Nat,k<L.length->0=k\/tA g 0 k:=λk=>by
 induction k using Nat.strongRecOn with
 |_ k f=>
 intro hk;obtain⟨q,e⟩:∃q,L[k]? =some q:=⟨_,QX hk⟩;have hx:=(C.at_ (x:=(q.n,q.s))).2 ⟨q,e,rfl,rfl⟩;rcases tN iL C.all k _ hx with⟨h,_⟩|⟨j,y,h1,h2,b,d⟩
 ·exact .inl h.symm
 ·right;have hl:=C.link h1 b hx d;have a:tA g j k:=by have:=tA.one hl;rwa [QS]at this
  rcases f j h2 (by omega)with h|h
  ·rw[h];exact a
  ·exact h.trans a
theorem xS.full{Ψ:Nat->List bG->Prop}{n:Nat}{s}(C:xS T tb p0 Ψ n s L iL g c)(hi:iL=L.length){k:Nat}{x}(h:Rn (dw T tb p0) k (n,s) x):∃a,a<iL/\(cR (dw T tb p0) (n,s) iL)[a]? =some x:=by
 have f:(cR (dw T tb p0) (n,s) iL).length=iL:=by rw[<-C.bf,RN,hi]
 have key:∀ {y z:Xs} {k},Rn (dw T tb p0) k y z->y=(n,s)->z∈cR (dw T tb p0) (n,s) iL:=λ{y z k} h=>by
  induction h with
  |nil y=>
   intro e;have:(cR (dw T tb p0) (n,s) 0)[0]? =some (n,s):=rfl;rw[e];exact Ro (oo this (RQ _))
  | @snoc k y z w _ hw i=>
   intro e;obtain⟨a,b⟩:=Rv (i e);have d:=(QT.1 b).1;exact Hy (by omega) b (by omega) C.all hw
 obtain⟨a,b⟩:=Rv (key h rfl);have d:=(QT.1 b).1;exact⟨a,by omega,b⟩
theorem ND{x}:dw T tb p0 x=[]↔(bh T tb p0 x.1 x.2).aA=[]:=by
 unfold dw DV;exact List.map_eq_nil_iff
theorem xS.IH(R:vQ T tb p0 (sa T tb p0 s0))(C:xS T tb p0 (sa T tb p0 s0) s0 [] L iL g c)(hN:vP (dw T tb p0) (iU T tb p0) (s0,[])):¬qZ T tb p0 (sa T tb p0 s0):=by
 rintro⟨m,s',⟨S,hr⟩,hb⟩;obtain⟨W,a,h1,h2,N,_,_⟩:=hN;obtain⟨j,J,hc⟩:=Hu hb;have n:∀(t:Nat) (x:Xs),t<=W->Rn (dw T tb p0) t (s0,[]) x->∃b,b<iL/\(cR (dw T tb p0) (s0,[]) iL)[b]? =some x:=λt x D hx=>by
  rcases C.fin with⟨e,_⟩|⟨e,P⟩
  ·exact C.full e hx
  ·have K:(cR (dw T tb p0) (s0,[]) iL).length=L.length:=by rw[<-C.bf,RN]
   exact Hx C.all (by omega) (W:=W) (B:=20000) (λl hl O=>Rr (N l hl W O) h1) (by omega) t x D hx
 have N0:∀(k:Nat) (f:Nat->Xs),(∀i,i<k->f (i+1)∈dw T tb p0 (f i))->(∀i,i<=k->∃b,b<iL/\(cR (dw T tb p0) (s0,[]) iL)[b]? =some (f i))->∀a b:Nat,(cR (dw T tb p0) (s0,[]) iL)[a]? =some (f 0)->(cR (dw T tb p0) (s0,[]) iL)[b]? =some (f k)->(a=b\/tA g a b)/\(0<k->tA g a b):=λk f H he=>by
  induction k with
  |zero=>
   intro a b u hb;have w:=(QT.1 u).1;have:=(UJ w (kj iL)).1 (u.trans hb.symm);exact⟨.inl this,λh=>absurd h (by omega)⟩
  |succ k Q=>
   intro a b u hb;obtain⟨d,A,s⟩:=he k (by omega);have v:=(Q (λi hi=>H i (by omega)) (λi hi=>he i (by omega)) a d u s).1;have F:tA g d b:=by have:=tA.one (C.link A s hb (H k (by omega)));rwa [QS]at this
   have G:tA g a b:=by
    rcases v with rfl|v
    ·exact F
    ·exact v.trans F
   exact⟨.inr G,λ_=>G⟩
 obtain⟨f,f1,f2,f3⟩:=hc.fn;have r:∀i,i<=j->∃b,b<iL/\(cR (dw T tb p0) (s0,[]) iL)[b]? =some (f i):=λi hi=>by
  have E:Rn (dw T tb p0) i (m,s') (f i):=by rw[<-f1];exact mb λt D=>f3 t (by omega)
  have M:Rn (dw T tb p0) (j - i) (f i) (m,s'):=by
   have:=mb (nx:=dw T tb p0) (f:=λt=>f (i+t)) (k:=j - i) (λt D=>f3 (i+t) (by omega));simp only[Tl]at this;rwa [show i+(j - i)=j by omega,f2]at this
  obtain⟨k',p,q⟩:=h2 (f i) _ _ (hr.trans E) (show 0<j - i+i by omega) (M.trans E);exact n k' _ p q
 obtain⟨k',p,q⟩:=h2 (m,s') _ _ hr J hc;obtain⟨b,_,o⟩:=n k' _ p q;have y:=(N0 j f f3 r b b (by rw[f1];exact o) (by rw[f2];exact o)).2 J;have z:b<L.length:=by
  have:=(QT.1 o).1;rwa [<-C.bf,RN]at this
 exact C.cn.gv b (C.MI b z) y
theorem nV(R:vQ T tb p0 (sa T tb p0 s0)){m:Nat}{s'}(h:sa T tb p0 s0 m s'):(s0,([]:List bG))=(m,s')\/om T tb p0 s0 [] m s':=by
 obtain⟨k,h⟩:=h;exact(NQ R h ⟨0,.nil _⟩).2.1
theorem IQ{m:Nat}{s'}(h:(s0,([]:List bG))=(m,s')\/om T tb p0 s0 [] m s'):sa T tb p0 s0 m s':=by
 rcases h with h|h
 ·exact⟨0,by rw[h];exact .nil _⟩
 ·obtain⟨k,_,h⟩:=Hu h;exact⟨k,h⟩
theorem xS.cut(R:vQ T tb p0 (sa T tb p0 s0))(C:xS T tb p0 (sa T tb p0 s0) s0 [] L iL g c)(hN:vP (dw T tb p0) (iU T tb p0) (s0,[]))(hi:iL≠L.length):nk T tb p0 s0 []:=by
 obtain⟨W,a,h1,_,i,j,_⟩:=hN;rcases C.fin with⟨e,_⟩|⟨e,p⟩
 ·exact absurd e hi
 ·have d:0<a:=by
   apply Q4;intro d;have d:a=0:=by omega
   subst d;obtain⟨b,_,d2,_⟩:=yg iL C.all;have f:(cR (dw T tb p0) (s0,[]) iL).length=L.length:=by rw[<-C.bf,RN]
   have hbound:∃n,∀k,k<(cR (dw T tb p0) (s0,[]) iL).length->b k<=n:=by
    have:∀N,∃n,∀k,k<N->b k<=n:=λN=>by
     induction N with
     |zero=>exact⟨0,λk hk=>absurd hk (by omega)⟩
     |succ N q=>
      obtain⟨n,hn⟩:=q;exact⟨max n (b N),λk hk=>by
       by_cases h:k<N
       ·have:=hn k h;omega
       ·obtain rfl:k=N:=by omega
        omega⟩
    exact this _
   obtain⟨n,hn⟩:=hbound;have:=i _ (kj iL) n λx hx=>by
    obtain⟨k,hk⟩:=Rv hx;exact⟨b k,hn k (QT.1 hk).1,d2 k x hk⟩
   omega
  obtain⟨k,x,l,m,o⟩:=j d;exact⟨x.1,x.2,nV R ⟨k,l⟩,ND.1 m,o⟩
theorem xS.lost(R:vQ T tb p0 (sa T tb p0 s0))(C:xS T tb p0 (sa T tb p0 s0) s0 [] L iL g c)(hN:vP (dw T tb p0) (iU T tb p0) (s0,[])):(∃(k:Nat) (q:Sq),L[k]? =some q/\g k=[]/\q.dJ≠ -1)↔nk T tb p0 s0 []:=by
 constructor
 ·rintro⟨k,q,b,p,hw⟩;by_cases hk:k<iL
  ·obtain⟨h1,h2,_⟩:=C.gg.dn k q hk b;obtain⟨_,j⟩:=C.ex.st k q b;refine⟨q.n,q.s,nV R j,Rd (by rw[<-h2,p];rfl),?_⟩;rwa [Sc Sq.dJ h1]at hw
  ·exact C.cut R hN (by have:=(QT.1 b).1;omega)
 ·rintro⟨m,s',i,o,hw⟩;by_cases hi:iL=L.length
  ·obtain⟨k,hr⟩:=IQ i;obtain⟨a,d,f⟩:=C.full hi hr;obtain⟨q,b,l,n⟩:=C.at_.1 f;obtain⟨h1,h2,_⟩:=C.gg.dn a q d b;refine⟨a,q,b,Rd ?_,?_⟩
   ·rw[h2,l,n,o];rfl
   ·rw[Sc Sq.dJ h1,l,n];exact hw
  ·rcases C.fin with⟨e,_⟩|⟨e,h⟩
   ·exact absurd e hi
   ·obtain⟨q,b⟩:∃q,L[iL]? =some q:=⟨_,QX h⟩;refine⟨iL,q,b,C.gg.no iL (Rc _),?_⟩;rw[Sc Sq.dJ (C.gg.nw iL q (Rc _) b)];show(0:Int)≠ -1
    decide
inductive Cn (T:ak) (tb:Nat->cQ) (p0:dq):Nat->List bG->Int->Prop
 |mk {n:Nat} {s:List bG} {cs:List Int}:cs.length=(bh T tb p0 n s).aA.length->
   (∀i,i<(bh T tb p0 n s).aA.length->Cn T tb p0 (aN T ((bh T tb p0 n s).aA.getD i 0).toNat).toNat (bh T tb p0 n s).eJ.stack (cs.getD i 0))->Cn T tb p0 n s (fD (bh T tb p0 n s).aA cs)
theorem fU.cn{Ψ:Nat->List bG->Prop}{v}{n:Nat}{s}{c:Int}(h:fU T tb p0 Ψ v n s c):Cn T tb p0 n s c:=by
 induction h with
 |mk _ _ h2 _ a=>exact .mk h2 a
theorem xS.QK{Ψ:Nat->List bG->Prop}{n:Nat}{s}{c0:Int}(C:xS T tb p0 Ψ n s L iL g c0)(hi:iL=L.length){k:Nat}{c:Int}(h:wb g k c):∀ {q:Sq},L[k]? =some q->Cn T tb p0 q.n q.s c:=by
 induction h with
 | @mk k cs h1 h2 j=>
  intro q i;have hk:=(QT.1 i).1;obtain⟨d1,d2,d3⟩:=C.gg.dn k q (by omega) i;have e:fD (g k) cs=fD (bh T tb p0 q.n q.s).aA cs:=by
   unfold fD;by_cases a:g k=[]
   ·rw[QY a,QY (Rd (by rw[<-d2,a];rfl))]
   ·rw[QZ a,QZ (λe=>a (Rd (by rw[d2,e];rfl)))]
  rw[e];refine .mk (by omega) λz b=>?_;obtain⟨jm,g1,l,g2,g3,g4⟩:=d3 z _ (QX b);have f:(g k).getD z 0=(jm:Int):=by rw[QU,g1];rfl
  have d:(bh T tb p0 q.n q.s).aA[z]=(bh T tb p0 q.n q.s).aA.getD z 0:=by rw[QU,QX b];rfl
  have:=j z (by omega) (q:=l) (by rw[f,QS];exact g2);rw[g3,g4,d]at this;exact this
theorem Kw{n:Nat}{s}{c:Int}(h:Cn T tb p0 n s c):∀ {c':Int},Cn T tb p0 n s c'->c=c':=by
 induction h with
 | @mk n s cs h1 h2 f=>
  intro c' d;cases d with
  | @mk _ _ b i e=>
   congr 1;apply Sp;intro z;by_cases a:z<cs.length
   ·have:=f z (by omega) (e z (by omega));rw[QU,QU,QX a,QX (by omega)]at this;rw[QX a,QX (by omega)];exact Sc some this
   ·rw[RJ (by omega),RJ (by omega)]
theorem HM{n:Nat}{s}{c:Int}(h:Cn T tb p0 n s c):0<c/\c<=1001:=by
 induction h with
 | @mk n s cs h2 _ f=>
  unfold fD;split
  ·omega
  ·rename_i d;have h0:∀x∈cs,0<x:=λx hx=>by
    obtain⟨i,hi⟩:=Rv hx;have b:=(QT.1 hi).1;have:=(f i (by rw[<-h2];exact b)).1;rwa [QU,hi]at this
   refine⟨?_,BV cs⟩;cases cs with
   |nil=>exact absurd (Rd h2.symm) d
   |cons c cs=>
    have hc:=h0 c (by simp);have:=yh cs (min (0+c) 1001) (show min (0+c) 1001<=1001 by omega) (λx hx=>by have:=h0 x (by simp[hx]);omega);have e:sN (c::cs)=cs.foldl (λa c=>min (a+c) 1001) (min (0+c) 1001):=rfl;rw[e];have:(0:Int)<min (0+c) 1001:=by omega
    omega
theorem Kg{n:Nat}{s}{c:Int}(h:Cn T tb p0 n s c):c=1->∀ {p p':List Int} {e A:Nat} {w w':Int},Br T tb p0 n s p e w->Br T tb p0 n s p' A w'->p=p':=by
 induction h with
 | @mk n s cs h2 C D=>
  intro hc p p' e A w w' hb m;by_cases t:(bh T tb p0 n s).aA=[]
  ·have k:(fX T (tb n) (cu p0 s)).aA=[]:=t;cases hb with
   |stop _=>
    cases m with
    |stop _=>rfl
    |go hm _ _=>rw[k]at hm;cases hm
   |go hm _ _=>rw[k]at hm;cases hm
  ·unfold fD at hc;rw[QZ t]at hc;have b:∀x∈cs,0<x:=λx hx=>by
    obtain⟨i,hi⟩:=Rv hx;have y:=(QT.1 hi).1;have:=(HM (C i (by rw[<-h2];exact y))).1;rwa [QU,hi]at this
   obtain⟨c1,v⟩:∃c1,cs=[c1]:=by
    have f:=S5.2 t
    match cs,h2,hc,b with
    | [],h2,_,_=>rw[<-h2]at f;simp at f
    | [c1],_,_,_=>exact⟨c1,rfl⟩
    |c1::j::cs,_,hc,b=>
     exfalso;have E:=b c1 (by simp);have F:=b j (by simp);have:=yh cs (min (min (0+c1) 1001+j) 1001) (show min (min (0+c1) 1001+j) 1001<=1001 by omega) (λx hx=>by have:=b x (by simp[hx]);omega);have r:sN (c1::j::cs)=cs.foldl (λa c=>min (a+c) 1001) (min (min (0+c1) 1001+j) 1001):=rfl;rw[r]at hc;omega
   subst v;obtain⟨a,l⟩:∃a,(bh T tb p0 n s).aA=[a]:=S4.1 (by rw[<-h2];rfl);have d:(fX T (tb n) (cu p0 s)).aA=[a]:=l;have u:c1=1:=by
    have E:=b c1 (by simp);have r:sN [c1]=min (0+c1) 1001:=rfl;rw[r]at hc;omega
   have key:=D 0 (by rw[<-h2];simp);rw[l,Sa,Sa]at key;cases hb with
   |stop h=>rw[d]at h;cases h
   |go hm B hr=>
    cases m with
    |stop h=>rw[d]at h;cases h
    |go q o z=>
     rw[d,Rj]at hm q;subst hm;subst q;rw[B,QS]at key;rw[B]at o;have e:=Int.natCast_inj.1 o;subst e;exact Sc _ (key u hr z)
def Eu(T:ak)(tb:Nat->cQ)(p0:dq)(s0:Nat)(q:List Int)(e:Int):Prop:=
 (qZ T tb p0 (sa T tb p0 s0)/\q=[]/\e=16)\/(¬qZ T tb p0 (sa T tb p0 s0)/\nk T tb p0 s0 []/\q=[]/\e=8)\/
  (¬qZ T tb p0 (sa T tb p0 s0)/\¬nk T tb p0 s0 []/\∃c,Cn T tb p0 s0 [] c/\((c≠1/\q=[]/\e=6)\/(c=1/\e=0/\∃n w,Br T tb p0 s0 [] q n w)))
theorem Eu.uniq{q q':List Int}{e r:Int}(h:Eu T tb p0 s0 q e)(s:Eu T tb p0 s0 q' r):q=q'/\e=r:=by
 rcases h with⟨h1,h2,d⟩|⟨h1,h2,d,a⟩|⟨h1,h2,c,d,a⟩<;>rcases s with⟨f,i,j⟩|⟨f,i,j,b⟩|⟨f,i,c',j,b⟩
 ·exact⟨h2.trans i.symm,d.trans j.symm⟩
 ·exact absurd h1 f
 ·exact absurd h1 f
 ·exact absurd f h1
 ·exact⟨d.trans j.symm,a.trans b.symm⟩
 ·exact absurd h2 i
 ·exact absurd f h1
 ·exact absurd i h2
 ·have m:=Kw d j;subst m;rcases a with⟨a,k,l⟩|⟨a,k,n,w,l⟩<;>rcases b with⟨b,o,p⟩|⟨b,o,n',w',p⟩
  ·exact⟨k.trans o.symm,l.trans p.symm⟩
  ·exact absurd b a
  ·exact absurd a b
  ·exact⟨Kg d a l p,k.trans o.symm⟩
end
noncomputable def gi(T:ak)(k x:Int)(l:List Int)(n:Nat):cQ:=AI T k x n (iy l n)
theorem Jy{T}{k x:Int}{l:List Int}{n:Nat}(h:¬Gn k x n):gi T k x l n=P4 T (az T k x) (λn=>iy l n) n:=by
 unfold gi AI P4;rw[QZ (by rw[rA.2 h];decide)]
theorem Cg{T:ak}(hv:av T=true){n:Nat}(hn:(n:Int)<T.nodes):df T (sh T n)=true:=by
 unfold df sh;have h1:aX T (n:Int)=true:=aQ.2 ⟨by omega,hn⟩;have hN:=(aS hv).nodes;have h2:decide (((List.replicate T.nodes.toNat (⟨[],false,[]⟩:jI)).length:Int)=T.nodes)=true:=Rb (by rw[R6];omega);have a:fe T n (bK T n)=true:=uA (nS T n) λ_ c=>jD.1 c;have b:nD T n (List.replicate T.nodes.toNat (⟨[],false,[]⟩:jI))=true:=jb λd e he=>by
  have:e=⟨[],false,[]⟩:=(List.mem_replicate.1 (Ro he)).2;subst this;unfold gL fe;simp
 rw[hv,h1,h2,a,b]
 rfl
theorem pJ{T:ak}{k x:Int}{l:List Int}(hv:av T=true)(cS:T.nodes<=12):∀n:Nat,(n:Int)<T.nodes->(gi T k x l n).node=(n:Int)/\df T (gi T k x l n)=true:=λn hn=>by
 unfold gi AI;split
 ·exact⟨rfl,Cg hv hn⟩
 ·have b:=vm (D:=az T k x) (M:=az T k x) hv cS hn (cM T k x) (λa h=>h) (iy l n);exact⟨b.node,b.ok⟩
theorem ta{T}{k x:Int}{l:List Int}{m n:Nat}(h:n<m):(jP T k x l m)[n]? =some (gi T k x l n):=by
 unfold jP gi;rw[RE,Th h]
 rfl
section
variable {T:ak} {k x:Int} {l:List Int} {s d:Nat}
theorem AG(h:sP T k x l=0):(av T&&cd T k x)=true/\(l.length:Int)=T.nodes/\ik T k x l=true:=by
 unfold sP at h;split at h
 ·rename_i h1;obtain⟨h2,a⟩:=Q3.1 h1;split at h
  ·rename_i b;exact⟨h2,Q5 a,b⟩
  ·cases h
 ·cases h
theorem tY(cS:T.nodes<=12)(c:T.ah.length<=16)(D:List Bool)(n y:Int):dG (fZ T D n y).push:=by
 rcases ry T D n y with⟨e,_⟩|⟨a,b,_,_,h,e⟩
 ·rw[e];intro g f;cases f
 ·rw[e];intro g f;exact Fv cS c h.OG g (DH f)
theorem me:dG []:=λg a=>by cases a
theorem GC(cS:T.nodes<=12)(a:T.ah.length<=16):∀n:Nat,(n:Int)<T.nodes->∀v,aX T v=true->dG (cw (gi T k x l n) v).push:=λn hn v hv=>by
 obtain⟨h0,h1⟩:=aQ.1 hv;obtain⟨y,rfl⟩:=QW h0;unfold gi AI;split
 ·unfold cw sh;rw[QS,QU,Sn];split
  ·exact me
  ·exact me
 ·unfold mg;split
  ·rw[ki h1];exact me
  ·split
   ·rw[yf h1];unfold mZ;split
    ·exact me
    ·exact tY cS a _ _ _
   ·split
    ·rw[tL h1];exact tY cS a _ _ _
    ·rw[ki h1];exact me
theorem IE(c:T.nodes<=10)(q:sP T k x l=0)(hs:(s:Int)<T.nodes)(hd:(d:Int)<T.nodes):vP (dw T (gi T k x l) ⟨0,s,d,0,[],0⟩) (iU T (gi T k x l) ⟨0,s,d,0,[],0⟩) (s,[]):=by
 obtain⟨r,_,o⟩:=AG q;obtain⟨hv,a,_,_,late,hp,_⟩:=LF o;have cS:T.nodes<=12:=by omega
 have B:zt T (gi T k x l) ⟨0,s,d,0,[],0⟩ d:=⟨pJ hv cS,rfl,hd⟩;have C:Ep T k x (iy l) (gi T k x l) ⟨0,s,d,0,[],0⟩ d:=⟨B,hv,cS,λn _ m=>by rw[Jy m];rfl⟩;have b:∀v:Nat,(v:Int)<T.nodes->Gn k x v->dw T (gi T k x l) ⟨0,s,d,0,[],0⟩ (v,[])=[]:=λv p m=>by
  by_cases j:v=d
  ·subst j;exact B.jj
  ·have he:cw (gi T k x l v) (d:Int)=⟨[],false,[]⟩:=by
    unfold gi AI;have:uq k x v=true:=by
     cases h:uq k x v with
     |true=>rfl
     |false=>exact absurd m (rA.1 h)
    rw[QY this];unfold cw sh;rw[QS,QU,Sn,QY (by omega)]
    rfl
   exact(B.open_ p he (by simp)).2.1 j rfl
 cases late with
 |true=>exact Fk C c hp b hs
 |false=>
  have E:vJ T k x (iy l) (gi T k x l) ⟨0,s,d,0,[],0⟩ d:=⟨C,hp⟩;by_cases e:k=2
  ·subst e;have hx:aX T x=true:=by
    unfold cd at a;rw[QZ (by decide),QY rfl]at a;exact a
   obtain⟨h0,h1⟩:=aQ.1 hx;obtain⟨v,rfl⟩:=QW h0;exact IJ E c rfl rfl h1 (b v h1 ⟨rfl,rfl⟩) hs
  ·refine H9 E c e ?_ hs;unfold cd at a;by_cases f:k=1
   ·subst f;rw[QY rfl,Q7,R3,R3]at a;obtain⟨i,rfl⟩:=QW a.1;exact KB hv (by omega)
   ·rw[QZ f,QZ e]at a;by_cases g:k=3
    ·subst g;rw[QY rfl,Q7,R3,R3]at a;exact HO hv a
    ·rw[QZ g]at a;cases a
end
structure Lone (T:ak) (tb:Nat->cQ) (p0:dq) (Φ:Nat->Nat->List bG->Prop):Prop where
 runs:xX T tb p0 Φ
 one:∀ {u n s},Φ u n s->(bh T tb p0 n s).aA.length<=1
 del:∀ {u n s},Φ u n s->(bh T tb p0 n s).aA=[]->(bh T tb p0 n s).dJ= -1
section
variable {T:ak} {k x:Int} {d:Nat} {st:Nat->Int} {p0:dq}
end
end
end PW
namespace eE
section
open Go.RowKit Go.Shelf cG
structure Rest (a b:Nat) (w w':World):Prop where
 os:w'.os=w.os
 tape:w'.tape=w.tape
 output:w'.output=w.output
 size:w.heap.size<=w'.heap.size
 block:∀k,k<w.heap.size->(k<a\/b<=k)->w'.heap[k]? =w.heap[k]?
 cells:∀(k:Nat) (o:Obj),w.heap[k]? =some o->o.isCells=true->w'.heap[k]? =some o
theorem Rest.trans{a b:Nat}{w w' c}(h:Rest a b w w')(k:Rest a b w' c):Rest a b w c:=
 ⟨k.os.trans h.os,k.tape.trans h.tape,k.output.trans h.output,Rr h.size k.size,λj h1 h2=>(k.block j (RH h1 h.size) h2).trans (h.block j h1 h2),λj o h1 h2=>k.cells j o (h.cells j o h1 h2) h2⟩
theorem Rest.wide{a b c b':Nat}{w w'}(h:Rest a b w w')(h1:c<=a)(h2:b<=b'):Rest c b' w w':=
 ⟨h.os,h.tape,h.output,h.size,λk d e=>h.block k d (by omega),h.cells⟩
theorem Rest.put{a b l:Nat}{w:World}{o f:Obj}(h0:w.heap[l]? =some f)(hc:f.isCells=false)(h1:a<=l)(h2:l<b):Rest a b w (w.putObj l o):=
 ⟨rfl,rfl,rfl,by simp,λk _ d=>World.putObj_heap_other (by omega),λk g c d=>(World.putObj_heap_other (λe=>by subst e;rw[h0]at c;cases c;rw[hc]at d;cases d)).trans c⟩
end
end eE
namespace PW
section
open Go.RowKit cG Mem
section
variable {P:Program} {ops:Array Oper} {n:Nat}
theorem Lz{o:Oper}{a w}{K i:Act->World->Prop}{Q Q':Exit->Act->World->Prop}(g:∀a w,K a w->i a w)(hp:∀c a w,Q (.panic c) a w->Q' (.panic c) a w)(j:¬LetsOut Q)(h:o.wp P a w K Q):o.wpIn Fence.wide n P a w i Q':=by
 refine⟨λ_ _=>trivial,?_⟩;rw[show Fence.wide.round=none from rfl,Oper.semAt_none];unfold Oper.wp at h;generalize (execOp a.eval o).run P w=x at*;cases x with
 |ok x w'=>
  cases x<;>simp only[Oper.uponIn,Oper.upon]at h ⊢
  case value v=>exact g _ _ h
  case skip=>exact g _ _ h
  case defer d=>exact g _ _ h
  case enter f b=>exact⟨λh=>by simp[Fence.wide]at h,callsIn_wide.2 (h.mono λe k he=>by cases e<;>first|exact g _ _ he|exact hp _ _ _ he|exact(j he).elim)⟩
  case row r b=>exact⟨λh=>by simp[Fence.wide]at h,λc cs _=>by
   obtain⟨v,w',r,s⟩:=h c cs;exact⟨v,w',g _ _ r,stepsIn_wide.2 s⟩⟩
  all_goals exact h.elim
 |halt x w'=>cases x<;>simp only[Oper.uponIn,Oper.upon]at h ⊢ <;>first|exact hp _ _ _ h|exact h
section
variable {f m:Nat} (hB:zM ops f m=true)
include hB
theorem qT{Q:Exit->Act->World->Prop}:∀(r k:Nat) (a:Act) (w:World),k+r=ops.size->m<=k->wpOpsIn Fence.wide n P ops Q (List.range' k r) a w->wpAnyIn Fence.wide n P .any ops Q r (upto ops.size k) a w
 |0,k,a,w,hk,_,h=>by
  obtain rfl:k=ops.size:=by omega
  exact⟨xk,h⟩
 |r+1,k,a,w,hk,hm,h=>by
  have hr:=uR hB k (by omega) hm;refine⟨λh0=>absurd (hr.symm.trans h0) (by simp),λi hi=>?_⟩;rw[hr]at hi;simp at hi;subst hi;rw[TE,wpOpsIn_cons]at h;rw[Bu];exact wpOpIn_mono (λa w h=>qT r (i+1) a w (by omega) (by omega) h) h
end
def sW(n:Nat)(P:Program)(ops:Array Oper)(Q:Exit->Act->World->Prop)(m r:Nat):Exit->Act->World->Prop
 | .normal,a,w=>wpOpsIn Fence.wide n P ops Q (List.range' m r) a w
 |_,_,_=>False
theorem xg{Q:Exit->Act->World->Prop}{m r:Nat}:¬LetsOut (sW n P ops Q m r):=λ⟨_,_,h⟩=>h
theorem v7{f m:Nat}(t:zM ops f m=true)(hm:m<=ops.size){Q:Exit->Act->World->Prop}:∀(fuel:Nat) (l ls:Array Bool) (a:Act) (w:World),l.size=m->ls.size=ops.size->(∀i,i<m->ls.getD i true=l.getD i true)->(∀i,m<=i->i<ops.size->ls.getD i true=false)->Down ops ls->bS ls m=fuel->
  wpAny P .any (ops.extract 0 m) (sW n P ops Q m (ops.size - m)) fuel l a w->wpAnyIn Fence.wide n P .any ops Q (fuel+(ops.size - m)) ls a w:=by
 have R:(ops.extract 0 m).size=m:=by simp;omega
 have r:∀i,i<m->(ops.extract 0 m)[i]? =ops[i]? :=λi hi=>by rw[Uc];simp;omega
 have y:∀i,i<m->nq (ops.extract 0 m) i=nq ops i:=λi hi=>by unfold nq;rw[r i hi]
 intro fuel;induction fuel with
 |zero=>
  intro l ls a w C s p q hd hu h;have:ls=upto ops.size m:=by
   apply U1
   ·simp[upto,s]
   ·intro i h1 h2;have hi:i<ops.size:=by omega
    have e:ls.getD i true=(upto ops.size m).getD i true:=by
     rw[iS _ _ _ hi];by_cases o:i<m
     ·rw[dK hu i o];simp[o]
     ·rw[q i (by omega) hi];simp[o]
    simpa[h1,h2]using e
  rw[this];simpa using qT t (ops.size - m) m a w (by omega) (Rc _) h.2
 |succ fuel S=>
  intro l ls a w C s p q hd hu h;have F:∀b c (i:Nat),i<ops.size->ls.getD i b=ls.getD i c:=λb c i hi=>by simp[show i<ls.size by omega]
  obtain⟨i0,O,A,G⟩:=gA (ls:=ls) (m:=m) (by omega);have B:∀i,i∈Region.ready .any ops ls->i<m:=λi hi=>by
   obtain⟨h1,h2,x⟩:=cT.1 hi;rcases Sf i m with E|E
   ·exact E
   ·have:=eX s hd (iC t) f i i0 h1 (rh t i h1 E i0 (by omega)) x;rw[F false true i0 (by omega),A]at this;cases this
  have H:∀i,i∈Region.ready .any ops ls->i∈Region.ready .any (ops.extract 0 m) l:=λi hi=>by
   have o:=B i hi;obtain⟨h1,h2,x⟩:=cT.1 hi;refine cT.2 ⟨by omega,by rw[<-p i o];exact h2,λk hk=>?_⟩;rw[y i o]at hk;have K:=iC t i h1 k hk;have:=x k hk;rw[F false true k (by omega),p k (by omega)]at this;simpa[show k<l.size by omega]using this
  have z:i0∈Region.ready .any ops ls:=cT.2 ⟨by omega,A,λk hk=>by
   have:=iC t i0 (by omega) k hk;rw[F false true k (by omega)];exact G k this⟩
  rw[show fuel+1+(ops.size - m)=(fuel+(ops.size - m))+1 by omega];refine⟨λh0=>absurd z (by rw[h0];simp),λi hi=>?_⟩;have o:=B i hi;obtain⟨h1,h2,x⟩:=cT.1 hi;have d:=h.2 i (H i hi);have next:∀a w,wpAny P .any (ops.extract 0 m) (sW n P ops Q m (ops.size - m)) fuel (l.setIfInBounds i true) a w->wpAnyIn Fence.wide n P .any ops Q (fuel+(ops.size - m)) (ls.setIfInBounds i true) a w:=λa w D=>by
   refine S _ _ a w (by simpa using C) (by simpa using s) (λj v=>?_) (λj v u=>?_) (λj v u k hk=>?_) (by have:=gC h2 o (by omega);omega) D
   ·by_cases e:i=j
    ·subst e;simp[show i<ls.size by omega,show i<l.size by omega]
    ·have:=p j v;simp only[Rm,Rx e]at this ⊢;exact this
   ·have:=q j v u;simp only[Rm,Rx (show i≠j by omega)]at this ⊢;exact this
   ·by_cases e:i=j
    ·subst e;have K:=iC t i h1 k hk;have:=x k hk;simp only[Rm,Rx (show i≠k by omega)]at this ⊢;exact this
    ·have J:ls.getD j true=true:=by
      simp only[Rm,Rx e]at v ⊢;exact v
     have:=hd j J u k hk;by_cases L:i=k
     ·subst L;simp[show i<ls.size by omega]
     ·simp only[Rm,Rx L]at this ⊢;exact this
  unfold wpOp at d;unfold wpOpIn;rw[r i o]at d;have M:ops[i]? =some ops[i]:=by simp[h1]
  rw[M]at d ⊢;simp only at d ⊢;have hy:Region.wanted ops[i] (yielded (ops.extract 0 m) a.tmps)=Region.wanted ops[i] (yielded ops a.tmps):=by
   unfold Region.wanted;cases N:(ops[i]).guard with
   |none=>rfl
   |some g=>
    obtain⟨j,wt⟩:=g;have:=wj t i ops[i] j wt M N;simp only[yielded];rw[r j (by omega)]
  rw[hy]at d;split
  ·rename_i hw;rw[QY hw]at d;rcases d with D|⟨D,hl⟩
   ·exact Lz next (λ_ _ _ h=>h.elim) xg D
   ·exact absurd hl xg
  ·rename_i hw;rw[QZ hw]at d;exact⟨λ_ _=>trivial,next _ _ d⟩
theorem v8{N:Nat}{id:Nat}{l:List Oper}{t t' σ}{F:Nat->Prop}{base:Nat}{E a w}{Q:Exit->Act->World->Prop}(m f:Nat)(D:List Nat)(hm:P.follows .mixedOrders=true)(x:Region.lexB .any (l.take m).toArray=true)
    (hn:((l.take m).all λo=>o.dst.all λe=>decide (e<N)&&D.contains e)=true) (d:zM l.toArray f m=true) (r:Nat.ble m l.length=true) (hs:dR F base N ⟨t,σ⟩ E a w)
    (h:eH P N (l.take m).toArray σ (l.take m) t t') (hw:∀u w',Ext w w'->dR F base N ⟨t',σ⟩ E u w'->wpOpsIn Fence.wide n P l.toArray Q (List.range' m (l.toArray.size - m)) u w'):(Code.region id l.toArray true).wpIn Fence.wide n P Q a w:=by
  obtain⟨j,v⟩:=a;have z:v=[]:=hs.lE;have c:m<=l.length:=Nat.ble_eq.mp r;have q:(l.take m).length=m:=by simp;omega
  refine wpIn_region_any hm ?_;have g:=wq (Q:=sW n P l.toArray Q m (l.toArray.size - m)) hs D x hn h (λb w' y s=>hw _ _ y s);have he:l.toArray.extract 0 m=(l.take m).toArray:=by simp
  have := v7 (P := P) (n := n) d (by simpa using c) (Q := Q) m (Array.replicate m false) (Array.replicate l.toArray.size false) ⟨j, v⟩ { w with drawn := w.drawn + 1 } (by simp) (by simp) (λi hi => by rw [eC _ _ hi, eC _ _ (by simp; omega)]) (λi _ hi => eC _ _ hi _) (λi hi p => by
      have:(Array.replicate l.toArray.size false).getD i true=false:=eC _ _ p _;rw[this]at hi;cases hi) (by
      have:∀k,k<=l.length->bS (Array.replicate l.toArray.size false) k=k:=by
        intro k;induction k with
        |zero=>intro _;rfl
        |succ k A=>
          intro hk;simp only[bS];rw[A (by omega)];have:(Array.replicate l.toArray.size false).getD k true=false:=eC _ _ (by simp;omega) _;rw[this];simp
      exact this m c) (by rw[he];rw[q]at g;exact g)
  rw[show m+(l.toArray.size - m)=l.toArray.size by simp;omega]at this;exact this
end
theorem sH{w w':World}{l:Nat}{r}(hl:w.heap[l]? =some (.loop r))(c:∀k,k≠l->w'.heap[k]? =w.heap[k]?){a x}(h:w.cell? a=some x):w'.cell? a=some x:=by
 have b:a.block≠l:=λe=>by
  unfold World.cell? at h;rw[e,hl]at h;simp at h
 rw[oq (c _ b)];exact h
theorem cZ.other{E}{w w':World}{l:Nat}{r}(hl:w.heap[l]? =some (.loop r))(j:w'.heap.size=w.heap.size)(g:∀k,k≠l->w'.heap[k]? =w.heap[k]?){v p}(h:cZ E w v p):cZ E w' v p:=by
 induction h with
 |any v=>exact .any v
 |raw v=>exact .raw v
 |bH=>exact .bH
 |empty a c h=>exact .empty a c h
 |slice b off n c cs xs h0 h1 h2 hb hM hc d _ e=>exact .slice b off n c cs xs h0 h1 h2 (by omega) hM (λi x hx=>sH hl g (hc i x hx)) d e
 |bq b o' off cs xs hb hM hc d _ e=>exact .bq b o' off cs xs (by omega) hM (λi x hx=>sH hl g (hc i x hx)) d e
 |agg cs xs d _ e=>exact .agg cs xs d e
 |tuple cs xs d _ e=>exact .tuple cs xs d e
 |func f cs xs d _ e=>exact .func f cs xs d e
 |ptr i off b hi h=>exact .ptr i off b hi h
 |own i hi v h hs=>exact .own i hi v h hs
 |bound f cs xs d _ e=>exact .bound f cs xs d e
theorem jq.other{F:Nat->Prop}{w w':World}{l:Nat}{r}(hl:w.heap[l]? =some (.loop r))(d:∀k,k≠l->w'.heap[k]? =w.heap[k]?)(h:jq F w):jq F w':=λg cs c=>by
 obtain⟨h1,t,b,h2⟩:=h g cs c;have a:g≠l:=λe=>by rw[e,hl]at h2;cases h2
 exact⟨h1,t,b,by rw[d g a];exact h2⟩
section
variable {P:Program} {ops:Array Oper} {n:Nat}
theorem IP{k:Nat}{o:Oper}{a w}{K j:Act->World->Prop}{Q Q':Exit->Act->World->Prop}(i:∀c,o.op≠ .defer c)(g:∀a w,K a w->j a w)(hp:∀c a w,Q (.panic c) a w->Q' (.panic c) a w)(l:¬LetsOut Q)(h:o.wp P a w K Q):o.wpIn (Fence.wide.inRound k) n P a w j Q':=by
 refine⟨λ_ _=>trivial,?_⟩;rw[Fence.inRound_round,Oper.semAt_eq _ _ _ i];unfold Oper.wp at h;generalize (execOp a.eval o).run P w=x at*;cases x with
 |ok x w'=>
  cases x<;>simp only[Oper.uponIn,Oper.upon]at h ⊢
  case value v=>exact g _ _ h
  case skip=>exact g _ _ h
  case defer d=>exact g _ _ h
  case enter f b=>exact⟨λh=>by simp[Fence.wide]at h,CallsIn.inRound k (callsIn_wide.2 (h.mono λe m he=>by cases e<;>first|exact g _ _ he|exact hp _ _ _ he|exact(l he).elim))⟩
  case row r b=>exact⟨λh=>by simp[Fence.wide]at h,λc cs _=>by
   obtain⟨v,w',r,s⟩:=h c cs;exact⟨v,w',g _ _ r,stepsIn_wide.2 s⟩⟩
  all_goals exact h.elim
 |halt x w'=>cases x<;>simp only[Oper.uponIn,Oper.upon]at h ⊢ <;>first|exact hp _ _ _ h|exact h
def He(b n:Nat)(P:Program)(ops:Array Oper)(Q:Exit->Act->World->Prop)(js:List Nat):Exit->Act->World->Prop
 | .normal,a,w=>wpOpsIn (Fence.wide.inRound b) n P ops Q js a w
 |_,_,_=>False
theorem xf{a:Nat}{Q:Exit->Act->World->Prop}{js:List Nat}:¬LetsOut (He a n P ops Q js):=λ⟨_,_,h⟩=>h
theorem DZ{g m:Nat}{Q:Exit->Act->World->Prop}{js:List Nat}(hm:m<=ops.size)(e:∀(i:Nat) o,i<m->ops[i]? =some o->o.guard=none/\∀c,o.op≠ .defer c):∀(is:List Nat) (a:Act) (w:World),(∀i∈is,i<m)->wpOps P (ops.extract 0 m) (He g n P ops Q js) is a w->wpOpsIn (Fence.wide.inRound g) n P ops Q (is++js) a w
 | [],a,w,_,h=>h
 |i::is,a,w,hi,h=>by
  have d:=hi i (by simp);have b:(ops.extract 0 m)[i]? =ops[i]? :=by rw[Uc];simp;omega
  rw[wpOps_cons]at h;rw[RF,wpOpsIn_cons];unfold wpOp at h;unfold wpOpIn;rw[b]at h;have f:ops[i]? =some ops[i]:=Array.getElem?_eq_getElem (by omega);rw[f]at h ⊢;simp only at h ⊢;obtain⟨h1,h2⟩:=e i _ d f;have hw:∀x,Region.wanted ops[i] x=true:=λx=>by unfold Region.wanted;rw[h1]
  rw[QY (hw _)]at h ⊢;rcases h with h|⟨_,h⟩
  ·exact IP h2 (λk w' h=>DZ hm e is k w' (λj l=>hi j (by simp[l])) h) (λ_ _ _ h=>h.elim) xf h
  ·exact absurd h xf
theorem oQ{k m id N L:Nat}{l:List Oper}{st}{F:Nat->Prop}{base:Nat}{E:Env}{a w}{Q:Exit->Act->World->Prop}(hm:Nat.ble m l.length=true)(t:((l.take m).all λo=>o.guard.isNone&& !yF o.op)=true){K:St->Prop}(hs:dR F base N st E a w)(r:E.L=L)
  (h:WR P N L (l.take m).toArray (l.take m) st K) (hk:∀s E' f w',K s->dR F base N s E' f w'->de E w E' w'->Below base w w'->wpOpsIn (Fence.wide.inRound k) n P l.toArray Q (List.range' m (l.length - m)) f w'):(Code.region id l.toArray false).wpIn (Fence.wide.inRound k) n P Q a w:=by
 have d:m<=l.length:=Nat.ble_eq.mp hm;have g:(l.take m).length=m:=by simp;omega
 refine wpIn_region ?_;have hr:List.range l.toArray.size=List.range' 0 m++List.range' m (l.length - m):=by
  have h:= @List.range'_append_1 0 m (l.length - m);rw[Si,show m+(l.length - m)=l.length by omega]at h;rw[Uq,Tf];exact h.symm
 rw[hr];refine DZ (m:=m) (by simpa using d) (λi o hi u=>?_) _ a w (λi hi=>by simp at hi;omega) ?_
 ·have b:o∈l.take m:=by
   have:(l.take m)[i]? =some o:=by rw[RV,QY hi];simpa using u
   exact Ro this
  have:=Rq.1 t o b;simp only[Q7,Option.isNone_iff_eq_none,R4]at this;exact⟨this.1,λc e=>by rw[e]at this;exact absurd this.2 (by simp[yF])⟩
 ·have he:l.toArray.extract 0 m=(l.take m).toArray:=by simp
  rw[he];have:=h F base E w E a w ⟨r,UD _ _,Below.refl _ _⟩ hs (He k n P l.toArray Q (List.range' m (l.length - m))) 0 (λf w' ⟨s,E',h1,h2,p,q⟩=>hk s E' f w' h1 h2 p q) (λj=>by simp);rw[g]at this;exact this
theorem oK{F}(f:F=Fence.wide\/∃e,F=Fence.wide.inRound e){i:Nat}{is:List Nat}{o:Oper}{a:Act}{w v}{Q:Exit->Act->World->Prop}(j:ops[i]? =some o)(g:o.guard=none)(d:∀c,o.op≠ .defer c)(hr:(execOp a.eval o).run P w= .ok (.value v) w)(h:wpOpsIn F n P ops Q is (a.put o.dst v) w):wpOpsIn F n P ops Q (i::is) a w:=by
 rw[wpOpsIn_cons];unfold wpOpIn;rw[j];simp only;rw[QY (by unfold Region.wanted;rw[g])];have b:o.semAt F.round a.eval=execOp a.eval o:=by
  rcases f with rfl|⟨e,rfl⟩
  ·exact Oper.semAt_none _ _
  ·rw[Fence.inRound_round,Oper.semAt_eq _ _ _ d]
 refine⟨λ_ _=>?_,?_⟩
 ·rcases f with rfl|⟨e,rfl⟩<;>trivial
 ·rw[b,hr];exact h
theorem FI{f:Nat}{i l:Nat}{is:List Nat}{o:Oper}{a:Act}{w:World}{Q:Exit->Act->World->Prop}{x y:Operand}{d:Array TypeId}{R:Ending->World->Prop}(k:ops[i]? =some o)(j:o.guard=none)(b:o.op= .call {callee:=.value x,args:= #[y],argTypes:=d})
  (hx:a.eval x= .func (.yield l) #[] #[]) (hy:YieldAt Fence.wide (n - 1) P l #[a.eval y] w R) (g:∀e w',R e w'->∃v,e= .returned v/\wpOpsIn (Fence.wide.inRound f) n P ops Q is (a.put o.dst v) w'):wpOpsIn (Fence.wide.inRound f) n P ops Q (i::is) a w:=by
 obtain⟨fn,tmps,assign,body,h1,h2⟩:=hy;rw[wpOpsIn_cons];unfold wpOpIn;rw[k];simp only;rw[QY (by unfold Region.wanted;rw[j])];refine⟨λ_ _=>trivial,?_⟩;rw[Fence.inRound_round,Oper.semAt_eq _ _ _ (λc e=>by rw[b]at e;cases e)];have hr:(execOp a.eval o).run P w= .ok (.round l fn tmps assign body) w:=by
  simp[execOp,b,resolve,hx,Deferred.ofValue,invoke,h1]
 rw[hr];refine⟨λh=>by simp[Fence.wide]at h,RoundIn.mono h2 λe w' he=>?_⟩;obtain⟨v,rfl,m⟩:=g e w' he;exact m
theorem HU{o:Oper}{a:Act}{w x ty q}(b:o.op= .unOp .not ty x)(hx:a.eval x= .bool q):(execOp a.eval o).run P w= .ok (.value (.bool (!q))) w:=by
 simp only[execOp,b,hx,Op.unary,Sem.run_bind,Sem.run_pure,Result.andThen_ok]
theorem EY{o:Oper}{a:Act}{w:World}{x ty}{b:Nat}{c}(d:o.op= .load ty x)(hk:vL P ty=some none)(hx:a.eval x= .pointer (some ⟨b,0,none⟩))(hc:w.cell? ⟨b,0,none⟩=some c):(execOp a.eval o).run P w= .ok (.value c) w:=by
 have h:=lr (P:=P) hk hc;simp only[execOp,d,hx,Sem.run_bind,h,Result.andThen_ok,Sem.run_pure]
theorem Ab{o:Oper}{a:Act}{w x}(b:o.op= .assign x):(execOp a.eval o).run P w= .ok (.value (a.eval x)) w:=by
 simp only[execOp,b,Sem.run_pure]
theorem Sat.other{F:Nat->Prop}{base:Nat}{σ E}{w w':World}{l:Nat}{r}(hl:w.heap[l]? =some (.loop r))(j:w'.heap.size=w.heap.size)(c:∀k,k≠l->w'.heap[k]? =w.heap[k]?)(h:Sat F base σ E w):Sat F base σ E w':=by
 have a:∀ {k:Nat} {o:Obj},w.heap[k]? =some o->(∀r,o≠ .loop r)->k≠l:=λ{k o} hk hr e=>by subst e;rw[hl]at hk;cases hk;exact hr _ rfl
 have g:∀ {cs:List Value} {xs:List PV},bp E w cs xs->bp E w' cs xs:=λhr=>⟨hr.1,λi x u m d=>(hr.2 i x u m d).other hl j c⟩;refine⟨by rw[j];exact h.bl,λb hb=>⟨by rw[j];exact(h.fb b hb).1,(h.fb b hb).2⟩,h.len,h.mm,λi blk hi=>?_,h.inj,h.gl.other hl c⟩;have hb:=h.blk i blk hi;generalize E.at_ i=v at hb;cases blk with
 |cells t xs=>
  obtain⟨b',cs,rfl,h1,h2,f⟩:=hb;exact⟨b',cs,rfl,h1,(c b' (a h2 (λr e=>by cases e))).trans h2,g f⟩
 |row e size n xs=>
  obtain⟨cs,h1,h2⟩:=hb;refine⟨cs,⟨h1.1,?_⟩,g h2⟩;rcases h1.2 with h|⟨p,cap,cur,rfl,m,d,y⟩
  ·exact .inl h
  ·exact .inr ⟨p,cap,cur,rfl,m,(c p (a d (λr e=>by cases e))).trans d,y⟩
 |mp kv=>
  obtain⟨r',q,ck,rfl,h1,h2,f,s⟩:=hb;exact⟨r',q,ck,rfl,h1,(c r' (a h2 (λr e=>by cases e))).trans h2,f,g s⟩
theorem dt.other{E}{w w':World}{l:Nat}{r}(hl:w.heap[l]? =some (.loop r))(b:w'.heap.size=w.heap.size)(a:∀k,k≠l->w'.heap[k]? =w.heap[k]?){ρ:Operand->Value}{t}(h:dt E w ρ t):dt E w' ρ t:=λk p hk=>(h k p hk).other hl b a
theorem EZ{o:Oper}{a:Act}{w x}(b:o.op= .move x):(execOp a.eval o).run P w= .ok (.value (a.eval x)) w:=by
 simp only[execOp,b,Sem.run_pure]
theorem Ac{o:Oper}{a:Act}{w op x y ty f}{c b:Int}{v}(e:o.op= .binOp op ty x y f)(hx:a.eval x= .int .i64 c)(hy:a.eval y= .int .i64 b)(hv:(binOp op ty (.int .i64 c) (.int .i64 b)).run P w= .ok v w):(execOp a.eval o).run P w= .ok (.value v) w:=by
 have d:(eqGuard op ty x y (.int .i64 c) (.int .i64 b)).run P w= .ok () w:=by unfold eqGuard;split<;>rfl
 simp only[execOp,e,hx,hy,Sem.run_bind,Sem.run_pure,Result.andThen_ok,d,hv]
end
open Go.Shelf Net eE
theorem Aq(l:List Int)(hl:l.length<=1000000000):Can prog 61 [aq l] (· =aq l):=by
 refine aF func61 I ntmps61 I<|ab (.a 1 I<|.k [0] I)<|ai<|aK (WR.mono (K:=λs=>∃b:Bool,s=⟨[(0,aq l),(4,.raw (.bool b))],[]⟩/\(b=true->l=[])) ?_ ?_)
 ·cases l with
  |nil=>exact au 1 rfl<|sX rfl NU rfl rfl rfl rfl rfl λb=>aE [0,4] rfl ⟨b,rfl,λ_=>rfl⟩
  |cons a l=>exact au 1 rfl<|bP (oh rfl NU rfl rfl (UW _)) rfl rfl rfl<|aE [0,4] rfl ⟨_,rfl,λh=>by cases h⟩
 rintro _ ⟨b,rfl,hb⟩;refine ae I (λhc=>?_) (λhc=>?_)
 ·have:l=[]:=hb hc;subst this;exact ab (.a 1 I<|.k [2] I)<|ao<|QR I ax.bH rfl
 ·refine aj<|aK<|cb (dM I (S3 I)) I<|au 1 I<|cb (bF I (Ru I) I I I (show(aU l).length=l.length*1 by simp[aU]) (by unfold maxLen;omega)) I<|au 1 I<|aE [2] I ?_;refine ao<|⟨_,_,RY I,Tj (xs:=aU l) (ys:=aU l) I Sj,?_⟩;rw[Si];rfl
theorem As(l:List Int)(hl:l.length<=1000000000):bM prog 61 [aq l] [] (λr σ'=>r= .own 0/\σ'=[some (.row 3 1 l.length (aU l))]):=by
 refine cF func61 I ntmps61 I<|ab (.a 1 I<|.k [0] I)<|ai<|aK (WR.mono (K:=λs=>∃b:Bool,s=⟨[(0,aq l),(4,.raw (.bool b))],[]⟩/\(b=true->l=[])) ?_ ?_)
 ·cases l with
  |nil=>exact au 1 rfl<|sX rfl NU rfl rfl rfl rfl rfl λb=>aE [0,4] rfl ⟨b,rfl,λ_=>rfl⟩
  |cons a l=>exact au 1 rfl<|bP (oh rfl NU rfl rfl (UW _)) rfl rfl rfl<|aE [0,4] rfl ⟨_,rfl,λh=>by cases h⟩
 rintro _ ⟨b,rfl,hb⟩;refine ae I (λhc=>?_) (λhc=>?_)
 ·have:l=[]:=hb hc;subst this;refine ab (.a 1 I<|.k [2] I)<|eU 2 3 1 I ?_;exact ao<|⟨_,RY I,rfl,rfl⟩
 ·refine aj<|aK<|cb (dM I (S3 I)) I<|au 1 I<|cb (bF I (Ru I) I I I (show(aU l).length=l.length*1 by simp[aU]) (by unfold maxLen;omega)) I<|au 1 I<|aE [2] I ?_;refine dS [1] (.cons 2 I (Ren.own (i:=0) I) .nil) (.kept rfl (.row RZ) .nil) I I<|ao<|⟨_,RY I,rfl,by rw[Si];rfl⟩
theorem Ar(l:List Int)(hl:l.length<=1000000000)(σ:ca):bM prog 61 [aq l] σ (λr σ'=>r= .own σ.length/\σ'=σ++[some (.row 3 1 l.length (aU l))]):=by
 refine bM.frame (RT (As l hl) ?_);rintro r σ' ⟨rfl,rfl⟩;exact⟨[.row 3 1 l.length (aU l)],rfl,_,_,Up.own rfl,U5 (.row ml.pure) ni.nil,by simp,rfl⟩
theorem yi(ys:List PV)(L:List Int):bM prog 30 [.bq ys 0,.own 1] [none,some (.row 3 1 L.length (aU L))] (λr σ'=>r= .func 60 [.ptr 2 0,.ptr 3 0]/\σ'=[none,some (.row 3 1 L.length (aU L)),some (.cells 67 [.bq ys 0]),some (.cells 28 [.own 1])]):=by
 refine cF func30 I ntmps30 I<|aK<|cb (fV (xs:=[_]) I I I) I<|cb (fV (xs:=[_]) I I I) I<|au 1 I<|aE [2,3] I ?_;exact ab (.a 2 I<|.k [4] I)<|ao<|⟨_,RY I,rfl,rfl⟩
noncomputable def CT(k:Nat):Code->Option Code
 | .region i ops d=>if i=k then some (.region i ops d) else none
 | .seq x y=>(CT k x).orElse λ_=>CT k y
 | .cond _ x y=>(CT k x).orElse λ_=>CT k y
 | .block _ x=>CT k x
 | .loop x=>CT k x
 |_=>none
noncomputable def Oo(f:Func):Code:=f.body.getD .skip
noncomputable def PZ:Code:=(CT 6 (Oo Tryz.f60)).getD .skip
attribute [local go_sem] Oper.semAt_some
def gw(e:Nat)(dJ:Int)(path:List Int):List PV:=[num e,num dJ,aq path]
theorem xn(e:Nat)(dJ:Int)(path:List Int):IsPure (.agg (gw e dJ path)):=by unfold gw;infer_instance
theorem FJ{P:Program}{ops:Array Oper}{n i l:Nat}{o:Oper}{a:Act}{w:World}{Q:Exit->Act->World->Prop}{x y:Operand}{b:Array TypeId}{R:Ending->World->Prop}(g:ops[i]? =some o)(f:o.guard=none)(c:o.op= .call {callee:=.value x,args:= #[y],argTypes:=b})
  (hx:a.eval x= .func (.yield l) #[] #[]) (hy:YieldAt Fence.wide (n - 1) P l #[a.eval y] w R) (d:∀e w',R e w'->∃v,e= .returned v/\Q .normal (a.put o.dst v) w'):wpOpsIn Fence.wide n P ops Q [i] a w:=by
 obtain⟨fn,tmps,assign,body,h1,h2⟩:=hy;rw[wpOpsIn_cons];unfold wpOpIn;rw[g];simp only;rw[QY (by unfold Region.wanted;rw[f])];refine⟨λ_ _=>trivial,?_⟩;rw[show Fence.wide.round=none from rfl,Oper.semAt_none];have hr:(execOp a.eval o).run P w= .ok (.round l fn tmps assign body) w:=by
  simp[execOp,c,resolve,hx,Deferred.ofValue,invoke,h1]
 rw[hr];refine⟨λh=>by simp[Fence.wide]at h,h2.mono λe w' he=>?_⟩;obtain⟨v,rfl,j⟩:=d e w' he;exact j
section
variable {T:ak} {tb:Nat->cQ} {p0:dq} {Φ:Nat->Nat->List bG->Prop}
end
attribute [local go_sem] Oper.semAt_some
theorem dt.one{E w}{ρ:Operand->Value}{k:Nat}{p t}(h:cZ E w (ρ (.tmp k)) p)(a:dt E w ρ t):dt E w ρ ((k,p)::t):=a.LJ h
abbrev Uw:=@dt.one
theorem dt.IG{E w}{ρ:Operand->Value}:dt E w ρ []:=λk p h=>by cases h
theorem mL{a:Act}{k:Nat}{v}(h:k<a.tmps.size):(a.put (some k) v).eval (.tmp k)=v:=by
 show(a.tmps.setIfInBounds k v).getD k undef=v;simp[h]
theorem uO{a:Act}{k j:Nat}{v}(h:j≠k):(a.put (some k) v).eval (.tmp j)=a.eval (.tmp j):=by
 show(a.tmps.setIfInBounds k v).getD j undef=a.tmps.getD j undef;simp[Rm,Rx (Ne.symm h)]
end
end PW
namespace eE
section
open Go.RowKit Go.Shelf cG
structure tw (O:Nat->Prop) (A B:World):Prop where
 os:B.os=A.os
 tape:B.tape=A.tape
 output:B.output=A.output
 size:A.heap.size<=B.heap.size
 block:∀b,b<A.heap.size->¬O b->B.heap[b]? =A.heap[b]?
 cells:∀(b:Nat) (o:Obj),A.heap[b]? =some o->o.isCells=true->B.heap[b]? =some o
theorem tw.ext{O:Nat->Prop}{A B}(h:Ext A B):tw O A B:=⟨h.os,h.tape,h.output,h.size,λb hb _=>h.block b hb,λb o hb _=>(h.block b (Rw.1 hb).1).trans hb⟩
def G9(O:Nat->Prop)(A B:World)(a:Nat->Prop):Prop:=∀b,a b↔O b\/(A.heap.size<=b/\b<B.heap.size)
theorem tw.trans{O a:Nat->Prop}{A B C}(h:tw O A B)(k:tw a B C)(c:G9 O A B a):tw O A C:=
 ⟨k.os.trans h.os,k.tape.trans h.tape,k.output.trans h.output,Rr h.size k.size,λb hb hn=>(k.block b (RH hb h.size) (λe=>((c b).1 e).elim hn (λe=>by omega))).trans (h.block b hb hn),λb o hb hc=>k.cells b o (h.cells b o hb hc) hc⟩
def Kept(F0:Nat->Prop)(s:Nat)(O:Nat->Prop)(b:Nat):Prop:=O b\/(b<s/\¬F0 b)
structure G6 (F0:Nat->Prop) (s:Nat) (O:Nat->Prop) (A B:World):Prop where
 size:A.heap.size<=B.heap.size
 block:∀b,b<A.heap.size->Kept F0 s O b->B.heap[b]? =A.heap[b]?
def xU(P:Program)(g:Nat)(lb:Array Value)(K:Nat)(G:Nat->(Nat->Prop)->Nat->Value->World->Prop)(F0:Nat->Prop)(W:World):Prop:=
 ∀(n l:Nat) (J:Nat->(Nat->Prop)->World->Prop),(∀k O A c a,J k O A->(∀b,O b->W.heap.size<=b/\b<A.heap.size)->W.heap.size<=A.heap.size->tw O A a->G9 O A a c->J k c a)->
  (∀m k v O A,k<K->J k O A->(∀b,O b->W.heap.size<=b/\b<A.heap.size)->W.heap.size<=A.heap.size->G k O W.heap.size v A->
   YieldAt Fence.wide m P l #[v] A λe B=>e= .returned (.bool true)/\J (k+1) O B/\G6 F0 W.heap.size O A B)->
  J 0 (λ_=>False) W->
  CallsIn Fence.wide n P g (#[.func (.yield l) #[] #[]]++lb) W λe W'=>(∃v,e= .returned v)/\∃O,J K O W'/\(∀b,O b->W.heap.size<=b/\b<W'.heap.size)/\W.heap.size<=W'.heap.size
theorem og{P:Program}{n:Nat}{g:Operand}{ps:Array Tmp}{assign body:Code}{Q:Exit->Act->World->Prop}{a:Act}{w:World}
  {gf:Nat} {lb:Array Value} (hg:a.eval g= .func (.func gf) #[] lb) (eg:∀args w,(callFunc gf args).run P w= .ok (.enter gf args) w)
  {K:Nat} {G:Nat->(Nat->Prop)->Nat->Value->World->Prop} {F0:Nat->Prop} (V:∀b,F0 b->b<w.heap.size) (Ao:∀W,Ext w W->xU P gf lb K G F0 W) (ai:ps.size=1)
  (I:Nat->(Nat->Prop)->World->Prop)
  (hI:∀k O A S E,I k O A->(∀b,O b->w.heap.size+2<=b/\b<A.heap.size)->w.heap.size+2<=A.heap.size->tw O A E->G9 O A E S->I k S E)
  (H:∀k O A l r o,l=w.heap.size+1->I k O A->A.heap[l]? =some (.loop r)->I k O (A.putObj l (.loop o)))
  (X:∀i,Ext w i->i.heap.size=w.heap.size+2->I 0 (λ_=>False) i)
  (y:∀m l k v O (A:World),l=w.heap.size+1->(∃r,A.heap[l]? =some (.loop r))->k<K->I k O A->(∀b,O b->w.heap.size+2<=b/\b<A.heap.size)->w.heap.size+2<=A.heap.size->G k O (w.heap.size+2) v A->
   assign.wpIn (Fence.wide.inRound l) m P (Exit.then (λa₁ z=>G6 F0 (w.heap.size+2) O A z/\∀j o,j=z.putObj l (.loop o)->
    body.wpIn (Fence.wide.inRound l) m P (Exit.then (λ_ D=>I (k+1) O D/\G6 F0 (w.heap.size+2) O j D) (λ_ _ _=>False)) a₁ j) (λ_ _ _=>False))
    {tmps:=(ps.zip #[v]).foldl (λt (p,v)=>t.setIfInBounds p v) a.tmps,defers:=[]} A)
  (C:∀O (W':World),I K O W'->(∀b,O b->w.heap.size+2<=b/\b<W'.heap.size)->w.heap.size+2<=W'.heap.size->W'.heap[w.heap.size]? =some (.deferred (some []))->Q .normal {a with defers:= {target:=.collected w.heap.size,args:= #[]}::a.defers} W'):
  (Code.rangeFunc g ps assign body).wpIn Fence.wide n P Q a w:=by
 refine wpIn_rangeFunc ?_;intro fn ae;obtain⟨rec,c⟩:∃rec:LoopState->Option Code->Loop,rec=λst pe=> {state:=st,pending:=pe,fn,tmps:=a.tmps,params:=ps,assign,body,defers:=w.heap.size}:=⟨_,rfl⟩;have⟨i,q⟩:=QQ ((w.alloc (.deferred (some []))).alloc (.loop (rec .ready none)));have Z:i.heap[w.heap.size+1]? =some (.loop (rec .ready none)):=by
  rw[<-q];have:=World.alloc_heap_new (w.alloc (.deferred (some []))) (.loop (rec .ready none));rwa [World.size_alloc]at this
 have Y:i.heap[w.heap.size]? =some (.deferred (some [])):=by
  rw[<-q];exact(Below.heap_alloc _ _ _ (by simp)).trans (World.alloc_heap_new w _)
 have R:i.heap.size=w.heap.size+2:=by rw[<-q];simp
 have F:Ext w i:=by rw[<-q];exact((Tc w).alloc _).alloc _
 refine⟨w.heap.size+1,[{target:=.collected w.heap.size,args:= #[]}],i,{target:=.fn (.func gf) lb,args:= #[.func (.yield (w.heap.size+1)) #[] #[]]},i,gf,#[.func (.yield (w.heap.size+1)) #[] #[]]++lb,i,?_,?_,?_,?_,λh=>by simp[Fence.wide]at h,?_⟩
 ·rw[<-q,c];exact run_enterLoop_outer _ _ _ _ _
 ·simp only[resolve,hg];simp[go_sem]
 ·intro f' _;trivial
 ·simp[invoke,go_sem,eg]
 ·have hm:=Ao i F;unfold xU at hm;rw[R]at hm;refine(hm (n - 1) (w.heap.size+1) (λk O A=>I k O A/\A.heap[w.heap.size+1]? =some (.loop (rec .ready none))/\A.heap[w.heap.size]? =some (.deferred (some []))) ?_ ?_ ⟨X i F R,Z,Y⟩).mono ?_
  ·rintro k O A S E ⟨h1,h2,h3⟩ B hs U hM;exact⟨hI k O A S E h1 B hs U hM,(U.block _ (by omega) (λe=>by have:=(B _ e).1;omega)).trans h2,(U.block _ (by omega) (λe=>by have:=(B _ e).1;omega)).trans h3⟩
  ·
   rintro m k v O W2 hk ⟨hi,hl,hd⟩ B hs hv;have ah:w.heap.size+1<W2.heap.size:=(Rw.1 hl).1;have hy:=run_yield (P:=P) (args:= #[v]) hl (by rw[c];exact ai.symm);rw[c]at hy;refine⟨fn,_,assign,body,hy,roundIn_of_wpIn ae (wpIn_mono (y m _ k v O W2 rfl ⟨_,hl⟩ hk hi B hs hv) ?_)⟩;rintro e a1 z he;cases e with
   |normal=>
    obtain⟨u,hb⟩:=he;have T:∀b,w.heap.size<=b->¬F0 b:=λb h1 h2=>by have:=V b h2;omega
    have M:z.heap[w.heap.size+1]? =some (.loop (rec .ready none)):=(u.block _ ah (.inr ⟨by omega,T _ (by omega)⟩)).trans hl;have N:w.heap.size+1<z.heap.size:=(Rw.1 M).1;have ak:=u.size;refine⟨_,run_beginRound M (by rw[c]),?_⟩;obtain⟨j,s⟩:∃j,j=z.putObj (w.heap.size+1) (.loop {rec .ready none with state:=.busy}):=⟨_,rfl⟩;have ag:j.heap[w.heap.size+1]? =some (.loop {rec .ready none with state:=.busy}):=by rw[s];exact World.putObj_heap_same N
    have al:j.heap.size=z.heap.size:=by rw[s];simp
    have f:∀k,k≠w.heap.size+1->j.heap[k]? =z.heap[k]? :=λk hk=>by rw[s];exact World.putObj_heap_other hk
    have aa:j.heap[w.heap.size]? =some (.deferred (some [])):=(f _ (by omega)).trans ((u.block _ (by omega) (.inr ⟨by omega,T _ (Rc _)⟩)).trans hd);rw[<-s];refine wpIn_mono (hb j _ s) ?_;rintro e2 a3 D hp;cases e2 with
    |normal=>
     obtain⟨af,x⟩:=hp;have J:D.heap[w.heap.size+1]? =some (.loop {rec .ready none with state:=.busy}):=(x.block _ (by omega) (.inr ⟨by omega,T _ (by omega)⟩)).trans ag;have ab:D.heap[w.heap.size]? =some (.deferred (some [])):=(x.block _ (by omega) (.inr ⟨by omega,T _ (Rc _)⟩)).trans aa;have he:=run_endRound (P:=P) none J;rw[c]at he;have aj:=x.size;have d:=World.putObj_heap_same (w:=D) (r:=w.heap.size+1) (o:=.loop (rec .ready none)) (by omega);refine⟨_,_,he,rfl,⟨H _ _ _ _ _ _ rfl af J,?_,?_⟩,?_,?_⟩
     ·rw[c]at d ⊢;exact d
     ·rw[World.putObj_heap_other (by omega)];exact ab
     ·simp only[World.putObj_size];omega
     ·intro b h1 h2;by_cases e:b=w.heap.size+1
      ·subst e;rw[hl];rw[c]at d ⊢;exact d
      ·rw[World.putObj_heap_other e,x.block b (by omega) h2,f b e,u.block b h1 h2]
    |_=>exact hp.elim
   |_=>exact he.elim
  ·
   rintro e W' ⟨⟨v,rfl⟩,O,⟨hi,L,ad⟩,B,hs⟩;have he:=run_endLoop (P:=P) L (by rw[c];simp);rw[c]at he;have hz:∀o,(W'.putObj (w.heap.size+1) o).heap.size=W'.heap.size:=λo=>by simp
   refine⟨none,_,he,C O _ (H _ _ _ _ _ _ rfl hi L) (λb hb=>by rw[hz];exact B b hb) (by rw[hz];exact hs) ?_⟩;rw[World.putObj_heap_other (by omega)];exact ad
end
end eE
namespace PW
section
open Go.RowKit Go.Shelf cG Mem eE
section
variable {P:Program} {ops:Array Oper} {n:Nat}
def N4(K:Act->World->Prop):Exit->Act->World->Prop
 | .normal,a,w=>K a w
 |_,_,_=>False
theorem yY{K:Act->World->Prop}:¬LetsOut (N4 K):=λ⟨_,_,h⟩=>h
theorem yX(a:Array Value)(d ds:List Deferred)(k:Option Tmp)(v:Value):(⟨a,d++ds⟩:Act).put k v=⟨((⟨a,d⟩:Act).put k v).tmps,d++ds⟩:=by cases k<;>rfl
theorem tg(a:Array Value)(d:List Deferred)(k:Option Tmp)(v:Value):(⟨a,d⟩:Act).put k v=⟨((⟨a,d⟩:Act).put k v).tmps,d⟩:=by cases k<;>rfl
theorem DY{o:Oper}{a d ds w}{K g:Act->World->Prop}{R:Act->World->Prop}{Q':Exit->Act->World->Prop}(i:∀t d w,K ⟨t,d⟩ w->g ⟨t,d++ds⟩ w)(h:o.wp P ⟨a,d⟩ w K (N4 R)):o.wp P ⟨a,d++ds⟩ w g Q':=by
 unfold Oper.wp at h ⊢;rw[show(⟨a,d++ds⟩:Act).eval=(⟨a,d⟩:Act).eval from rfl];generalize (execOp (⟨a,d⟩:Act).eval o).run P w=x at*;have hp:∀v w,K ((⟨a,d⟩:Act).put o.dst v) w->g ((⟨a,d++ds⟩:Act).put o.dst v) w:=λv w h=>by
  rw[yX];rw[tg]at h;exact i _ _ _ h
 cases x with
 |ok x w'=>
  cases x<;>simp only[Oper.upon]at h ⊢
  case value v=>exact hp _ _ h
  case skip=>exact hp _ _ h
  case defer c=>
   rw[tg]at h;have:=i _ _ _ h;rw[show c::(d++ds)=(c::d)++ds from rfl,yX];exact this
  case enter f b=>exact h.mono λe j he=>by cases e<;>first|exact hp _ _ he|exact he.elim|exact absurd he yY
  case row r b=>exact Rows.mono h λv w' h=>hp _ _ h
  all_goals exact h.elim
 |halt x w'=>cases x<;>simp only[Oper.upon]at h ⊢ <;>exact h.elim
theorem yT{ds}{K:Act->World->Prop}{Q':Exit->Act->World->Prop}(b:∀t d w,K ⟨t,d⟩ w->Q' .normal ⟨t,d++ds⟩ w):∀(is:List Nat) (a:Array Value) (d:List Deferred) (w:World),wpOps P ops (N4 K) is ⟨a,d⟩ w->wpOps P ops Q' is ⟨a,d++ds⟩ w
 | [],a,d,w,h=>b _ _ _ h
 |i::is,a,d,w,h=>by
  unfold wpOps at h ⊢;cases c:ops[i]? with
  |none=>
   rw[c]at h;exact yT b is _ _ _ h
  |some o=>
   rw[c]at h;simp only at h ⊢;split at h
   ·rename_i hw;rw[QY hw];rcases h with h|⟨_,h⟩
    ·exact .inl (DY (λt d w h=>yT b is t d w h) h)
    ·exact absurd h yY
   ·rename_i hw;rw[QZ hw,yX];rw[tg]at h;exact yT b is _ _ _ h
theorem yd{ds}{K:Act->World->Prop}{Q':Exit->Act->World->Prop}{md}(b:∀t d w,K ⟨t,d⟩ w->Q' .normal ⟨t,d++ds⟩ w):∀(fuel:Nat) (ls:Array Bool) (a:Array Value) (d:List Deferred) (w:World),wpAny P md ops (N4 K) fuel ls ⟨a,d⟩ w->wpAny P md ops Q' fuel ls ⟨a,d++ds⟩ w
 |0,ls,a,d,w,h=>⟨h.1,b _ _ _ h.2⟩
 |fuel+1,ls,a,d,w,h=>by
  refine⟨λh0=>b _ _ _ (h.1 h0),λi hi=>?_⟩;have:=h.2 i hi;unfold wpOp at this ⊢;cases c:ops[i]? with
  |none=>
   rw[c]at this;exact yd b fuel _ _ _ _ this
  |some o=>
   rw[c]at this;simp only at this ⊢;split at this
   ·rename_i hw;rw[QY hw];rcases this with h|⟨_,h⟩
    ·exact .inl (DY (λt d w h=>yd b fuel _ t d w h) h)
    ·exact absurd h yY
   ·rename_i hw;rw[QZ hw,yX];rw[tg]at this;exact yd b fuel _ _ _ _ this
variable {N L:Nat}
theorem F4{id:Nat}{l:List Oper}{st}{K:St->Prop}{F:Nat->Prop}{base:Nat}{E:Env}{b ds w}{Q:Exit->Act->World->Prop}(hs:dR F base N st E ⟨b,[]⟩ w)(e:E.L=L)(h:WR P N L l.toArray l st K)
  (f:∀s E' a w',K s->dR F base N s E' ⟨a,[]⟩ w'->de E w E' w'->Below base w w'->Q .normal ⟨a,ds⟩ w'):(Code.region id l.toArray false).wpIn Fence.wide n P Q ⟨b,ds⟩ w:=by
 refine wpIn_wide.2 (wp_region ?_);have h1:=h F base E w E ⟨b,[]⟩ w ⟨e,UD _ _,Below.refl _ _⟩ hs (N4 (mY F base N E w K)) 0 (λm w' h=>h) (λj=>by simp);have h2:=yT (ds:=ds) (Q':=Q) (λt d w' ⟨s,E',g,c,i,k⟩=>by
  have hd:d=[]:=c.lE;subst hd;exact f s E' t w' g c i k) _ _ _ _ h1
 simpa[Uq]using h2
def WO(P:Program)(N L:Nat)(c:Code)(st:St)(Q:Exit->St->Prop):Prop:=∃id l,c= .region id (List.toArray l) true/\WA P N L l.toArray l.length (Array.replicate l.length false) st (λs=>Q .normal s)
theorem FL(hm:P.follows .mixedOrders=true){c:Code}{st}{K:St->Prop}{F:Nat->Prop}{base:Nat}{E:Env}{b ds w}{Q:Exit->Act->World->Prop}(hs:dR F base N st E ⟨b,[]⟩ w)(g:E.L=L)(h:WO P N L c st (IN K))
  (i:∀s E' a w',K s->dR F base N s E' ⟨a,[]⟩ w'->de E w E' w'->Below base w w'->Q .normal ⟨a,ds⟩ w'):c.wpIn Fence.wide n P Q ⟨b,ds⟩ w:=by
 obtain⟨id,l,rfl,h⟩:=h;refine wpIn_wide.2 (wp_region_any hm ?_);have e:Ext w {w with drawn:=w.drawn+1}:=⟨rfl,rfl,rfl,Rc _,λ_ _=>rfl⟩;have h1:=h.any F base E w E ⟨b,[]⟩ {w with drawn:=w.drawn+1} ⟨g,.ext e,Ti e hs.sat.bl⟩ ⟨hs.sat.ext e,hs.tmp.goes (.ext e),rfl,hs.size⟩ (N4 (mY F base N E w K)) (λo w' h=>h);have h2:=yd (ds:=ds) (Q':=Q) (λt d w' ⟨s,E',j,f,k,m⟩=>by
  have hd:d=[]:=f.lE;subst hd;exact i s E' t w' j f k m) _ _ _ _ _ h1
 simpa using h2
end
def Mo(F0:Nat->Prop)(s:Nat)(O:Nat->Prop)(A:World)(b:Nat):Prop:=b<A.heap.size/\¬Kept F0 s O b
theorem jn{M M':Nat->Prop}{A B:World}(a:A.heap.size<=B.heap.size)(hM:∀b,b<A.heap.size->¬M b->¬M' b)(hb:∀b,b<A.heap.size->¬M b->B.heap[b]? =A.heap[b]?):de (EF M) A (EF M') B:=
 ⟨Rc _,λi hi=>absurd hi (SK i),hM,a,hb⟩
def nN(a:List Nat):List Deferred:=a.map λD=> {target:=.collected D,args:= #[]}
theorem qn{F}{n:Nat}{P fn tmps}{R:Ending->World->Prop}{u}(hu:u≠ .run):∀(a:List Nat) (W:World),a.Nodup->(∀D∈a,W.heap[D]? =some (.deferred (some [])))->
  (∀W':World,W'.os=W.os->W'.tape=W.tape->W'.output=W.output->W'.heap.size=W.heap.size->(∀b,b∉a->W'.heap[b]? =W.heap[b]?)->LeavesInM F n P fn tmps R [] u W')->LeavesInM F n P fn tmps R (nN a) u W
 | [],W,_,_,h=>h W rfl rfl rfl rfl (λ_ _=>rfl)
 |D::a,W,hn,hd,h=>by
  refine⟨hu,.inl ⟨D,_,rfl,run_takeDeferred (hd D (by simp)),?_⟩⟩;have f:=SD.1 hn;refine qn hu a _ f.2 (λi c=>?_) (λW' h1 h2 j k l=>?_)
  ·have g:i≠D:=λe=>f.1 (e▸c);rw[World.putObj_heap_other g];exact hd i (by simp[c])
  ·refine h W' (h1.trans rfl) (h2.trans rfl) (j.trans rfl) (k.trans (by simp)) (λb hb=>?_);have d:b≠D/\b∉a:=by simpa using hb
   rw[l b d.2,World.putObj_heap_other d.1]
end
end PW
namespace PW
open Go.RowKit Go.Shelf cG Mem Net eE
namespace P9
theorem pV{P:Program}{N L:Nat}{id:Nat}{l:List Oper}{st}{Q:Exit->St->Prop}(_:P.follows .mixedOrders=true)(h:WA P N L l.toArray l.length (Array.replicate l.length false) st (λs=>Q .normal s)):WO P N L (.region id l.toArray true) st Q:=⟨id,l,rfl,h⟩
def P0(b ys:List PV)(pre la:List Int)(a:Int)(i l:Nat)(s:St):Prop:=
 s.σ=[none,some (.row 3 1 (pre++[a]).length (aU (pre++[a]))),some (.cells 67 [.bq ys 0]),some (.cells 28 [.own 1])]/\Sub s.t [(1,.bq [.bq b 0] 0),(2,.bq [aq pre] 0),(3,.bq [.raw (.func (.yield l) #[] #[])] 0),(29,aq la),(30,num la.length),(31,num i),(48,.func 60 [.ptr 2 0,.ptr 3 0])]
theorem nd{a:Int}{σ t}{o:Oper}{ps:Array (Nat×Operand)}(b:o.op= .buildSlice 28 1 ps)(hp:ib t ps.toList=some [(0,[num a])]):bE prog σ t o (.slice 1 [num a]):=
 iT (xs:=[num a]) b (S3 I) ⟨Re rfl,Re rfl⟩ hp rfl
theorem sM(pre:List Int)(a:Int)(h:pre.length+1<=1000000000){t:cq}{o:Oper}{x y:Operand}(b:o.op= .call {callee:=.builtin .append,args:= #[x,y],argTypes:= #[28,28]})(hx:aH t x=some (.own 0))(hy:aH t y=some (.slice 1 [num a])):cK prog [some (.row 3 1 pre.length (aU pre))] t o (.own 1) [none,some (.row 3 1 (pre++[a]).length (aU (pre++[a])))]:=
 Tb (bF (e:=3) (s:=1) (by':=8) (i:=0) (m:=1) (n:=pre.length) (xs:=aU pre) (ys:=[num a]) b (Ru I) hx rfl hy rfl ⟨by unfold maxLen;omega,by omega⟩) I (by rw[Q0,<-yE];rfl)
set_option maxHeartbeats 8000000 in
theorem Jq(vs ys:List PV)[aP vs][aP ys](pre la:List Int)(a:Int)(i l n:Nat)(o:Out)(c:Int)(e:pre.length+1<=1000000000)(f:vs[i]? =some (.bq ys 0))(bV:i<vs.length):
  WO prog 55 0 PZ ⟨[(1,.bq [.bq (fL n o vs c) 0] 0),(2,.bq [aq pre] 0),(3,.bq [.raw (.func (.yield l) #[] #[])] 0),(4,num i),(5,num a),(29,aq la),(30,num la.length),(31,num i)],[]⟩ (IN (P0 (fL n o vs c) ys pre la a i l)):=by
 have d:=Ar pre (by omega) [];have bT:=yi ys (pre++[a]);refine pV mixed ?_
 ·refine tH [[(1,.bq [.bq (fL n o vs c) 0] 0),(2,.bq [aq pre] 0),(3,.bq [.raw (.func (.yield l) #[] #[])] 0),(4,num i),(5,num a),(29,aq la),(30,num la.length),(31,num i),(36,.bq (fL n o vs c) 0),(37,.bq (fL n o vs c) 0),(38,.bq (fL n o vs c) 3),(39,.slice vs.length vs),(40,num i),(41,.bq vs i),(42,.bq ys 0),(43,aq pre),(44,.own 0),(45,num a),(46,.slice 1 [num a]),(47,.own 1),(48,.func 60 [.ptr 2 0,.ptr 3 0])]] [[],[some (.row 3 1 pre.length (aU pre))],[none,some (.row 3 1 (pre++[a]).length (aU (pre++[a])))],[none,some (.row 3 1 (pre++[a]).length (aU (pre++[a]))),some (.cells 67 [.bq ys 0]),some (.cells 28 [.own 1])]] [1,2,3,4,5,29,30,31] I (by kernel_rfl) (λM hi b=>?_);have bU:M 0 8191 0 [1,2,3,29,30,31,48] 3:=hi<|rb I (by kernel_rfl) (⟨rfl,aR (ks:=[1,2,3,29,30,31,48]) I⟩);have bJ:M 1 4095 0 [1,2,3,29,30,31,42,47] 2:=hi<|aa [(12,8191)] I<|fK I I I I bT (b bU) I I ag;have bE:M 2 2047 0 [1,2,3,29,30,31,42,44,46] 1:=hi<|aa [(11,4095)] I<|cc I I (sM pre a e rfl rfl rfl) I (b bJ) I I ag;have bF:M 3 1023 0 [1,2,3,29,30,31,42,44,45] 1:=hi<|aa [(10,2047)] I<|br I I (nd rfl rfl) I (b bE) I I ag;have bM:M 4 511 0 [1,2,3,5,29,30,31,42,44] 1:=hi<|aa [(9,1023)] I<|an (b bF) I I ag;have bG:M 3 1791 0 [1,2,3,29,30,31,42,43,46] 0:=hi<|aa [(8,2047)] I<|fK I I I I d (b bE) I I ag;have bH:M 4 767 0 [1,2,3,29,30,31,42,43,45] 0:=hi<|aa [(8,1023),(10,1791)] I<|fK I I I I d (b bF) I I<|br I I (nd rfl rfl) I (b bG) I I ag;have bP:M 5 255 0 [1,2,3,5,29,30,31,42,43] 0:=hi<|aa [(8,511),(9,767)] I<|fK I I I I d (b bM) I I<|an (b bH) I I ag;have bQ:M 4 1663 0 [1,2,3,29,30,31,42,46] 0:=hi<|aa [(7,1791)] I<|an (b bG) I I ag;have bS:M 5 639 0 [1,2,3,29,30,31,42,45] 0:=hi<|aa [(7,767),(10,1663)] I<|an (b bH) I I<|br I I (nd rfl rfl) I (b bQ) I I ag;have bK:M 6 127 0 [1,2,3,5,29,30,31,42] 0:=hi<|aa [(7,255),(9,639)] I<|an (b bP) I I<|an (b bS) I I ag;have aQ:M 2 4031 0 [1,2,3,29,30,31,41,47] 2:=hi<|aa [(6,4095)] I<|br I I (aJ I (f)) I (b bJ) I I ag;have P:M 3 1983 0 [1,2,3,29,30,31,41,44,46] 1:=hi<|aa [(6,2047),(11,4031)] I<|br I I (aJ I (f)) I (b bE) I I<|cc I I (sM pre a e rfl rfl rfl) I (b aQ) I I ag;have Q:M 4 959 0 [1,2,3,29,30,31,41,44,45] 1:=hi<|aa [(6,1023),(10,1983)] I<|br I I (aJ I (f)) I (b bF) I I<|br I I (nd rfl rfl) I (b P) I I ag;have aS:M 5 447 0 [1,2,3,5,29,30,31,41,44] 1:=hi<|aa [(6,511),(9,959)] I<|br I I (aJ I (f)) I (b bM) I I<|an (b Q) I I ag;have R:M 4 1727 0 [1,2,3,29,30,31,41,43,46] 0:=hi<|aa [(6,1791),(8,1983)] I<|br I I (aJ I (f)) I (b bG) I I<|fK I I I I d (b P) I I ag;have S:M 5 703 0 [1,2,3,29,30,31,41,43,45] 0:=hi<|aa [(6,767),(8,959),(10,1727)] I<|br I I (aJ I (f)) I (b bH) I I<|fK I I I I d (b Q) I I<|br I I (nd rfl rfl) I (b R) I I ag;have aT:M 6 191 0 [1,2,3,5,29,30,31,41,43] 0:=hi<|aa [(6,255),(8,447),(9,703)] I<|br I I (aJ I (f)) I (b bP) I I<|fK I I I I d (b aS) I I<|an (b S) I I ag;have aV:M 5 1599 0 [1,2,3,29,30,31,41,46] 0:=hi<|aa [(6,1663),(7,1727)] I<|br I I (aJ I (f)) I (b bQ) I I<|an (b R) I I ag;have aW:M 6 575 0 [1,2,3,29,30,31,41,45] 0:=hi<|aa [(6,639),(7,703),(10,1599)] I<|br I I (aJ I (f)) I (b bS) I I<|an (b S) I I<|br I I (nd rfl rfl) I (b aV) I I ag;have bL:M 7 63 0 [1,2,3,5,29,30,31,41] 0:=hi<|aa [(6,127),(7,191),(9,575)] I<|br I I (aJ I (f)) I (b bK) I I<|an (b aT) I I<|an (b aW) I I ag;have T:M 3 3999 0 [1,2,3,29,30,31,39,40,47] 2:=hi<|aa [(5,4031)] I<|br I I (aM (i) I (by omega) (by omega)) I (b aQ) I I ag;have m:M 4 1951 0 [1,2,3,29,30,31,39,40,44,46] 1:=hi<|aa [(5,1983),(11,3999)] I<|br I I (aM (i) I (by omega) (by omega)) I (b P) I I<|cc I I (sM pre a e rfl rfl rfl) I (b T) I I ag;have p:M 5 927 0 [1,2,3,29,30,31,39,40,44,45] 1:=hi<|aa [(5,959),(10,1951)] I<|br I I (aM (i) I (by omega) (by omega)) I (b Q) I I<|br I I (nd rfl rfl) I (b m) I I ag;have U:M 6 415 0 [1,2,3,5,29,30,31,39,40,44] 1:=hi<|aa [(5,447),(9,927)] I<|br I I (aM (i) I (by omega) (by omega)) I (b aS) I I<|an (b p) I I ag;have q:M 5 1695 0 [1,2,3,29,30,31,39,40,43,46] 0:=hi<|aa [(5,1727),(8,1951)] I<|br I I (aM (i) I (by omega) (by omega)) I (b R) I I<|fK I I I I d (b m) I I ag;have r:M 6 671 0 [1,2,3,29,30,31,39,40,43,45] 0:=hi<|aa [(5,703),(8,927),(10,1695)] I<|br I I (aM (i) I (by omega) (by omega)) I (b S) I I<|fK I I I I d (b p) I I<|br I I (nd rfl rfl) I (b q) I I ag;have V:M 7 159 0 [1,2,3,5,29,30,31,39,40,43] 0:=hi<|aa [(5,191),(8,415),(9,671)] I<|br I I (aM (i) I (by omega) (by omega)) I (b aT) I I<|fK I I I I d (b U) I I<|an (b r) I I ag;have W:M 6 1567 0 [1,2,3,29,30,31,39,40,46] 0:=hi<|aa [(5,1599),(7,1695)] I<|br I I (aM (i) I (by omega) (by omega)) I (b aV) I I<|an (b q) I I ag;have X:M 7 543 0 [1,2,3,29,30,31,39,40,45] 0:=hi<|aa [(5,575),(7,671),(10,1567)] I<|br I I (aM (i) I (by omega) (by omega)) I (b aW) I I<|an (b r) I I<|br I I (nd rfl rfl) I (b W) I I ag;have aX:M 8 31 0 [1,2,3,5,29,30,31,39,40] 0:=hi<|aa [(5,63),(7,159),(9,543)] I<|br I I (aM (i) I (by omega) (by omega)) I (b bL) I I<|an (b V) I I<|an (b X) I I ag;have aY:M 4 3983 0 [1,2,3,4,29,30,31,39,47] 2:=hi<|aa [(4,3999)] I<|an (b T) I I ag;have Y:M 5 1935 0 [1,2,3,4,29,30,31,39,44,46] 1:=hi<|aa [(4,1951),(11,3983)] I<|an (b m) I I<|cc I I (sM pre a e rfl rfl rfl) I (b aY) I I ag;have Z:M 6 911 0 [1,2,3,4,29,30,31,39,44,45] 1:=hi<|aa [(4,927),(10,1935)] I<|an (b p) I I<|br I I (nd rfl rfl) I (b Y) I I ag;have aZ:M 7 399 0 [1,2,3,4,5,29,30,31,39,44] 1:=hi<|aa [(4,415),(9,911)] I<|an (b U) I I<|an (b Z) I I ag;have ab:M 6 1679 0 [1,2,3,4,29,30,31,39,43,46] 0:=hi<|aa [(4,1695),(8,1935)] I<|an (b q) I I<|fK I I I I d (b Y) I I ag;have ad:M 7 655 0 [1,2,3,4,29,30,31,39,43,45] 0:=hi<|aa [(4,671),(8,911),(10,1679)] I<|an (b r) I I<|fK I I I I d (b Z) I I<|br I I (nd rfl rfl) I (b ab) I I ag;have a1:M 8 143 0 [1,2,3,4,5,29,30,31,39,43] 0:=hi<|aa [(4,159),(8,399),(9,655)] I<|an (b V) I I<|fK I I I I d (b aZ) I I<|an (b ad) I I ag;have a6:M 7 1551 0 [1,2,3,4,29,30,31,39,46] 0:=hi<|aa [(4,1567),(7,1679)] I<|an (b W) I I<|an (b ab) I I ag;have a7:M 8 527 0 [1,2,3,4,29,30,31,39,45] 0:=hi<|aa [(4,543),(7,655),(10,1551)] I<|an (b X) I I<|an (b ad) I I<|br I I (nd rfl rfl) I (b a6) I I ag;have bN:M 9 15 0 [1,2,3,4,5,29,30,31,39] 0:=hi<|aa [(4,31),(7,143),(9,527)] I<|an (b aX) I I<|an (b a1) I I<|an (b a7) I I ag;have ae:M 4 3991 0 [1,2,3,29,30,31,38,40,47] 2:=hi<|aa [(3,3999)] I<|an (b T) I I ag;have s:M 5 1943 0 [1,2,3,29,30,31,38,40,44,46] 1:=hi<|aa [(3,1951),(11,3991)] I<|an (b m) I I<|cc I I (sM pre a e rfl rfl rfl) I (b ae) I I ag;have t:M 6 919 0 [1,2,3,29,30,31,38,40,44,45] 1:=hi<|aa [(3,927),(10,1943)] I<|an (b p) I I<|br I I (nd rfl rfl) I (b s) I I ag;have af:M 7 407 0 [1,2,3,5,29,30,31,38,40,44] 1:=hi<|aa [(3,415),(9,919)] I<|an (b U) I I<|an (b t) I I ag;have u:M 6 1687 0 [1,2,3,29,30,31,38,40,43,46] 0:=hi<|aa [(3,1695),(8,1943)] I<|an (b q) I I<|fK I I I I d (b s) I I ag;have v:M 7 663 0 [1,2,3,29,30,31,38,40,43,45] 0:=hi<|aa [(3,671),(8,919),(10,1687)] I<|an (b r) I I<|fK I I I I d (b t) I I<|br I I (nd rfl rfl) I (b u) I I ag;have ah:M 8 151 0 [1,2,3,5,29,30,31,38,40,43] 0:=hi<|aa [(3,159),(8,407),(9,663)] I<|an (b V) I I<|fK I I I I d (b af) I I<|an (b v) I I ag;have ai:M 7 1559 0 [1,2,3,29,30,31,38,40,46] 0:=hi<|aa [(3,1567),(7,1687)] I<|an (b W) I I<|an (b u) I I ag;have aj:M 8 535 0 [1,2,3,29,30,31,38,40,45] 0:=hi<|aa [(3,543),(7,663),(10,1559)] I<|an (b X) I I<|an (b v) I I<|br I I (nd rfl rfl) I (b ai) I I ag;have a8:M 9 23 0 [1,2,3,5,29,30,31,38,40] 0:=hi<|aa [(3,31),(7,151),(9,535)] I<|an (b aX) I I<|an (b ah) I I<|an (b aj) I I ag;have ba:M 5 3975 0 [1,2,3,4,29,30,31,38,47] 2:=hi<|aa [(3,3983),(4,3991)] I<|an (b aY) I I<|an (b ae) I I ag;have ak:M 6 1927 0 [1,2,3,4,29,30,31,38,44,46] 1:=hi<|aa [(3,1935),(4,1943),(11,3975)] I<|an (b Y) I I<|an (b s) I I<|cc I I (sM pre a e rfl rfl rfl) I (b ba) I I ag;have al:M 7 903 0 [1,2,3,4,29,30,31,38,44,45] 1:=hi<|aa [(3,911),(4,919),(10,1927)] I<|an (b Z) I I<|an (b t) I I<|br I I (nd rfl rfl) I (b ak) I I ag;have bb:M 8 391 0 [1,2,3,4,5,29,30,31,38,44] 1:=hi<|aa [(3,399),(4,407),(9,903)] I<|an (b aZ) I I<|an (b af) I I<|an (b al) I I ag;have ao:M 7 1671 0 [1,2,3,4,29,30,31,38,43,46] 0:=hi<|aa [(3,1679),(4,1687),(8,1927)] I<|an (b ab) I I<|an (b u) I I<|fK I I I I d (b ak) I I ag;have ar:M 8 647 0 [1,2,3,4,29,30,31,38,43,45] 0:=hi<|aa [(3,655),(4,663),(8,903),(10,1671)] I<|an (b ad) I I<|an (b v) I I<|fK I I I I d (b al) I I<|br I I (nd rfl rfl) I (b ao) I I ag;have bc:M 9 135 0 [1,2,3,4,5,29,30,31,38,43] 0:=hi<|aa [(3,143),(4,151),(8,391),(9,647)] I<|an (b a1) I I<|an (b ah) I I<|fK I I I I d (b bb) I I<|an (b ar) I I ag;have bd:M 8 1543 0 [1,2,3,4,29,30,31,38,46] 0:=hi<|aa [(3,1551),(4,1559),(7,1671)] I<|an (b a6) I I<|an (b ai) I I<|an (b ao) I I ag;have bf:M 9 519 0 [1,2,3,4,29,30,31,38,45] 0:=hi<|aa [(3,527),(4,535),(7,647),(10,1543)] I<|an (b a7) I I<|an (b aj) I I<|an (b ar) I I<|br I I (nd rfl rfl) I (b bd) I I ag;have bO:M 10 7 0 [1,2,3,4,5,29,30,31,38] 0:=hi<|aa [(3,15),(4,23),(7,135),(9,519)] I<|an (b bN) I I<|an (b a8) I I<|an (b bc) I I<|an (b bf) I I ag;have au:M 5 3987 0 [1,2,3,29,30,31,37,40,47] 2:=hi<|aa [(2,3991)] I<|an (b ae) I I ag;have w:M 6 1939 0 [1,2,3,29,30,31,37,40,44,46] 1:=hi<|aa [(2,1943),(11,3987)] I<|an (b s) I I<|cc I I (sM pre a e rfl rfl rfl) I (b au) I I ag;have x:M 7 915 0 [1,2,3,29,30,31,37,40,44,45] 1:=hi<|aa [(2,919),(10,1939)] I<|an (b t) I I<|br I I (nd rfl rfl) I (b w) I I ag;have av:M 8 403 0 [1,2,3,5,29,30,31,37,40,44] 1:=hi<|aa [(2,407),(9,915)] I<|an (b af) I I<|an (b x) I I ag;have y:M 7 1683 0 [1,2,3,29,30,31,37,40,43,46] 0:=hi<|aa [(2,1687),(8,1939)] I<|an (b u) I I<|fK I I I I d (b w) I I ag;have z:M 8 659 0 [1,2,3,29,30,31,37,40,43,45] 0:=hi<|aa [(2,663),(8,915),(10,1683)] I<|an (b v) I I<|fK I I I I d (b x) I I<|br I I (nd rfl rfl) I (b y) I I ag;have aw:M 9 147 0 [1,2,3,5,29,30,31,37,40,43] 0:=hi<|aa [(2,151),(8,403),(9,659)] I<|an (b ah) I I<|fK I I I I d (b av) I I<|an (b z) I I ag;have ax:M 8 1555 0 [1,2,3,29,30,31,37,40,46] 0:=hi<|aa [(2,1559),(7,1683)] I<|an (b ai) I I<|an (b y) I I ag;have ay:M 9 531 0 [1,2,3,29,30,31,37,40,45] 0:=hi<|aa [(2,535),(7,659),(10,1555)] I<|an (b aj) I I<|an (b z) I I<|br I I (nd rfl rfl) I (b ax) I I ag;have bg:M 10 19 0 [1,2,3,5,29,30,31,37,40] 0:=hi<|aa [(2,23),(7,147),(9,531)] I<|an (b a8) I I<|an (b aw) I I<|an (b ay) I I ag;have bh:M 6 3971 0 [1,2,3,4,29,30,31,37,47] 2:=hi<|aa [(2,3975),(4,3987)] I<|an (b ba) I I<|an (b au) I I ag;have az:M 7 1923 0 [1,2,3,4,29,30,31,37,44,46] 1:=hi<|aa [(2,1927),(4,1939),(11,3971)] I<|an (b ak) I I<|an (b w) I I<|cc I I (sM pre a e rfl rfl rfl) I (b bh) I I ag;have aA:M 8 899 0 [1,2,3,4,29,30,31,37,44,45] 1:=hi<|aa [(2,903),(4,915),(10,1923)] I<|an (b al) I I<|an (b x) I I<|br I I (nd rfl rfl) I (b az) I I ag;have bj:M 9 387 0 [1,2,3,4,5,29,30,31,37,44] 1:=hi<|aa [(2,391),(4,403),(9,899)] I<|an (b bb) I I<|an (b av) I I<|an (b aA) I I ag;have aB:M 8 1667 0 [1,2,3,4,29,30,31,37,43,46] 0:=hi<|aa [(2,1671),(4,1683),(8,1923)] I<|an (b ao) I I<|an (b y) I I<|fK I I I I d (b az) I I ag;have aC:M 9 643 0 [1,2,3,4,29,30,31,37,43,45] 0:=hi<|aa [(2,647),(4,659),(8,899),(10,1667)] I<|an (b ar) I I<|an (b z) I I<|fK I I I I d (b aA) I I<|br I I (nd rfl rfl) I (b aB) I I ag;have bk:M 10 131 0 [1,2,3,4,5,29,30,31,37,43] 0:=hi<|aa [(2,135),(4,147),(8,387),(9,643)] I<|an (b bc) I I<|an (b aw) I I<|fK I I I I d (b bj) I I<|an (b aC) I I ag;have bl:M 9 1539 0 [1,2,3,4,29,30,31,37,46] 0:=hi<|aa [(2,1543),(4,1555),(7,1667)] I<|an (b bd) I I<|an (b ax) I I<|an (b aB) I I ag;have bm:M 10 515 0 [1,2,3,4,29,30,31,37,45] 0:=hi<|aa [(2,519),(4,531),(7,643),(10,1539)] I<|an (b bf) I I<|an (b ay) I I<|an (b aC) I I<|br I I (nd rfl rfl) I (b bl) I I ag;have bR:M 11 3 0 [1,2,3,4,5,29,30,31,37] 0:=hi<|aa [(2,7),(4,19),(7,131),(9,515)] I<|an (b bO) I I<|an (b bg) I I<|an (b bk) I I<|an (b bm) I I ag;have aD:M 6 3985 0 [1,2,3,29,30,31,36,40,47] 2:=hi<|aa [(1,3987)] I<|an (b au) I I ag;have A:M 7 1937 0 [1,2,3,29,30,31,36,40,44,46] 1:=hi<|aa [(1,1939),(11,3985)] I<|an (b w) I I<|cc I I (sM pre a e rfl rfl rfl) I (b aD) I I ag;have B:M 8 913 0 [1,2,3,29,30,31,36,40,44,45] 1:=hi<|aa [(1,915),(10,1937)] I<|an (b x) I I<|br I I (nd rfl rfl) I (b A) I I ag;have aE:M 9 401 0 [1,2,3,5,29,30,31,36,40,44] 1:=hi<|aa [(1,403),(9,913)] I<|an (b av) I I<|an (b B) I I ag;have C:M 8 1681 0 [1,2,3,29,30,31,36,40,43,46] 0:=hi<|aa [(1,1683),(8,1937)] I<|an (b y) I I<|fK I I I I d (b A) I I ag;have D:M 9 657 0 [1,2,3,29,30,31,36,40,43,45] 0:=hi<|aa [(1,659),(8,913),(10,1681)] I<|an (b z) I I<|fK I I I I d (b B) I I<|br I I (nd rfl rfl) I (b C) I I ag;have aF:M 10 145 0 [1,2,3,5,29,30,31,36,40,43] 0:=hi<|aa [(1,147),(8,401),(9,657)] I<|an (b aw) I I<|fK I I I I d (b aE) I I<|an (b D) I I ag;have aG:M 9 1553 0 [1,2,3,29,30,31,36,40,46] 0:=hi<|aa [(1,1555),(7,1681)] I<|an (b ax) I I<|an (b C) I I ag;have aH:M 10 529 0 [1,2,3,29,30,31,36,40,45] 0:=hi<|aa [(1,531),(7,657),(10,1553)] I<|an (b ay) I I<|an (b D) I I<|br I I (nd rfl rfl) I (b aG) I I ag;have bn:M 11 17 0 [1,2,3,5,29,30,31,36,40] 0:=hi<|aa [(1,19),(7,145),(9,529)] I<|an (b bg) I I<|an (b aF) I I<|an (b aH) I I ag;have bo:M 7 3969 0 [1,2,3,4,29,30,31,36,47] 2:=hi<|aa [(1,3971),(4,3985)] I<|an (b bh) I I<|an (b aD) I I ag;have aK:M 8 1921 0 [1,2,3,4,29,30,31,36,44,46] 1:=hi<|aa [(1,1923),(4,1937),(11,3969)] I<|an (b az) I I<|an (b A) I I<|cc I I (sM pre a e rfl rfl rfl) I (b bo) I I ag;have aL:M 9 897 0 [1,2,3,4,29,30,31,36,44,45] 1:=hi<|aa [(1,899),(4,913),(10,1921)] I<|an (b aA) I I<|an (b B) I I<|br I I (nd rfl rfl) I (b aK) I I ag;have bp:M 10 385 0 [1,2,3,4,5,29,30,31,36,44] 1:=hi<|aa [(1,387),(4,401),(9,897)] I<|an (b bj) I I<|an (b aE) I I<|an (b aL) I I ag;have aN:M 9 1665 0 [1,2,3,4,29,30,31,36,43,46] 0:=hi<|aa [(1,1667),(4,1681),(8,1921)] I<|an (b aB) I I<|an (b C) I I<|fK I I I I d (b aK) I I ag;have aO:M 10 641 0 [1,2,3,4,29,30,31,36,43,45] 0:=hi<|aa [(1,643),(4,657),(8,897),(10,1665)] I<|an (b aC) I I<|an (b D) I I<|fK I I I I d (b aL) I I<|br I I (nd rfl rfl) I (b aN) I I ag;have bq:M 11 129 0 [1,2,3,4,5,29,30,31,36,43] 0:=hi<|aa [(1,131),(4,145),(8,385),(9,641)] I<|an (b bk) I I<|an (b aF) I I<|fK I I I I d (b bp) I I<|an (b aO) I I ag;have bs:M 10 1537 0 [1,2,3,4,29,30,31,36,46] 0:=hi<|aa [(1,1539),(4,1553),(7,1665)] I<|an (b bl) I I<|an (b aG) I I<|an (b aN) I I ag;have bt:M 11 513 0 [1,2,3,4,29,30,31,36,45] 0:=hi<|aa [(1,515),(4,529),(7,641),(10,1537)] I<|an (b bm) I I<|an (b aH) I I<|an (b aO) I I<|br I I (nd rfl rfl) I (b bs) I I ag;have bu:M 12 1 0 [1,2,3,4,5,29,30,31,36] 0:=hi<|aa [(1,3),(4,17),(7,129),(9,513)] I<|an (b bR) I I<|an (b bn) I I<|an (b bq) I I<|an (b bt) I I ag;have E:M 7 3984 0 [1,2,3,29,30,31,40,47] 2:=hi<|aa [(0,3985)] I<|an (b aD) I I ag;have g:M 8 1936 0 [1,2,3,29,30,31,40,44,46] 1:=hi<|aa [(0,1937),(11,3984)] I<|an (b A) I I<|cc I I (sM pre a e rfl rfl rfl) I (b E) I I ag;have h:M 9 912 0 [1,2,3,29,30,31,40,44,45] 1:=hi<|aa [(0,913),(10,1936)] I<|an (b B) I I<|br I I (nd rfl rfl) I (b g) I I ag;have F:M 10 400 0 [1,2,3,5,29,30,31,40,44] 1:=hi<|aa [(0,401),(9,912)] I<|an (b aE) I I<|an (b h) I I ag;have j:M 9 1680 0 [1,2,3,29,30,31,40,43,46] 0:=hi<|aa [(0,1681),(8,1936)] I<|an (b C) I I<|fK I I I I d (b g) I I ag;have k:M 10 656 0 [1,2,3,29,30,31,40,43,45] 0:=hi<|aa [(0,657),(8,912),(10,1680)] I<|an (b D) I I<|fK I I I I d (b h) I I<|br I I (nd rfl rfl) I (b j) I I ag;have G:M 11 144 0 [1,2,3,5,29,30,31,40,43] 0:=hi<|aa [(0,145),(8,400),(9,656)] I<|an (b aF) I I<|fK I I I I d (b F) I I<|an (b k) I I ag;have H:M 10 1552 0 [1,2,3,29,30,31,40,46] 0:=hi<|aa [(0,1553),(7,1680)] I<|an (b aG) I I<|an (b j) I I ag;have J:M 11 528 0 [1,2,3,29,30,31,40,45] 0:=hi<|aa [(0,529),(7,656),(10,1552)] I<|an (b aH) I I<|an (b k) I I<|br I I (nd rfl rfl) I (b H) I I ag;have bw:M 12 16 0 [1,2,3,5,29,30,31,40] 0:=hi<|aa [(0,17),(7,144),(9,528)] I<|an (b bn) I I<|an (b G) I I<|an (b J) I I ag;have bx:M 8 3968 0 [1,2,3,4,29,30,31,47] 2:=hi<|aa [(0,3969),(4,3984)] I<|an (b bo) I I<|an (b E) I I ag;have K:M 9 1920 0 [1,2,3,4,29,30,31,44,46] 1:=hi<|aa [(0,1921),(4,1936),(11,3968)] I<|an (b aK) I I<|an (b g) I I<|cc I I (sM pre a e rfl rfl rfl) I (b bx) I I ag;have L:M 10 896 0 [1,2,3,4,29,30,31,44,45] 1:=hi<|aa [(0,897),(4,912),(10,1920)] I<|an (b aL) I I<|an (b h) I I<|br I I (nd rfl rfl) I (b K) I I ag;have bz:M 11 384 0 [1,2,3,4,5,29,30,31,44] 1:=hi<|aa [(0,385),(4,400),(9,896)] I<|an (b bp) I I<|an (b F) I I<|an (b L) I I ag;have N:M 10 1664 0 [1,2,3,4,29,30,31,43,46] 0:=hi<|aa [(0,1665),(4,1680),(8,1920)] I<|an (b aN) I I<|an (b j) I I<|fK I I I I d (b K) I I ag;have O:M 11 640 0 [1,2,3,4,29,30,31,43,45] 0:=hi<|aa [(0,641),(4,656),(8,896),(10,1664)] I<|an (b aO) I I<|an (b k) I I<|fK I I I I d (b L) I I<|br I I (nd rfl rfl) I (b N) I I ag;have bA:M 12 128 0 [1,2,3,4,5,29,30,31,43] 0:=hi<|aa [(0,129),(4,144),(8,384),(9,640)] I<|an (b bq) I I<|an (b G) I I<|fK I I I I d (b bz) I I<|an (b O) I I ag;have bB:M 11 1536 0 [1,2,3,4,29,30,31,46] 0:=hi<|aa [(0,1537),(4,1552),(7,1664)] I<|an (b bs) I I<|an (b H) I I<|an (b N) I I ag;have bC:M 12 512 0 [1,2,3,4,29,30,31,45] 0:=hi<|aa [(0,513),(4,528),(7,640),(10,1536)] I<|an (b bt) I I<|an (b J) I I<|an (b O) I I<|br I I (nd rfl rfl) I (b bB) I I ag;have bD:M 13 0 0 [1,2,3,4,5,29,30,31] 0:=hi<|aa [(0,1),(4,16),(7,128),(9,512)] I<|an (b bu) I I<|an (b bw) I I<|an (b bA) I I<|an (b bC) I I ag;exact bD
end P9
end PW
namespace PW
section
open Go.RowKit Go.Shelf cG Mem Net eE
attribute [local go_sem] Oper.semAt_some
abbrev Rs:=Nat×Int×List Int
def MR(F0:Nat->Prop)(L:List Rs)(k:Nat)(O:Nat->Prop)(s:Nat)(v:Value)(A:World):Prop:=∃r,L[k]? =some r/\cZ (EF (Mo F0 s O A)) A v (.agg (gw r.1 r.2.1 r.2.2))
theorem dR.plain{F:Nat->Prop}{base N:Nat}{t E}{a:Act}{w}(hs:dR F base N ⟨t,[]⟩ E a w):dt (EF F) w a.eval t:=
 hs.tmp.goes ⟨by rw[hs.sat.len];exact Rc _,λi hi=>by rw[hs.sat.len]at hi;exact absurd hi (SK i),λb _ hn c=>hn ((hs.sat.mm b).2 (.inl c)),Rc _,λ_ _ _=>rfl⟩
theorem uv{F0:Nat->Prop}{W w:World}{b:Nat}(hn:¬F0 b)(hb:b<w.heap.size):Kept F0 W.heap.size (λb=>W.heap.size<=b/\b<w.heap.size) b:=by
 rcases Sf b W.heap.size with h|h
 ·exact .inr ⟨h,hn⟩
 ·exact .inl ⟨h,hb⟩
section
variable {T:ak} {tb:Nat->cQ} {p0:dq} {Φ:Nat->Nat->List bG->Prop}
theorem HC{n:Nat}{o:Out}{vs}{c:Int}{pre:List Int}(H:o.aA=[])(r:pre.length<=1000000000)[M:aP vs]{z w}{W:World}{F0:Nat->Prop}(C:∀b,F0 b->b<W.heap.size)(gl:jq F0 W)(F:cZ (EF F0) W z (.bq [.bq (fL n o vs c) 0] 0))(E:cZ (EF F0) W w (.bq [aq pre] 0)):
  xU prog 60 #[z,w] [(n,o.dJ,pre)].length (MR F0 [(n,o.dJ,pre)]) F0 W:=by
 intro n' l J D G m;have g:bp (EF F0) W (#[Value.func (.yield l) #[] #[]]++ #[z,w]).toList [.raw (.func (.yield l) #[] #[]),.bq [.bq (fL n o vs c) 0] 0,.bq [aq pre] 0]:=
  SL (.raw _) (SL F (SL E (TQ _ _)))
 refine callsIn_of_wp_marks func60 I trivial ?_ rfl;have t:=ko (N:=55) (T1 F0 W C gl) g (by simp);have q:qY W.heap.size 0 (EF F0) W (EF F0) W:=⟨rfl,UD _ _,Below.refl _ _⟩;refine wpIn_seq (piece (K:=λs=>s=⟨[(1,.bq [.bq (fL n o vs c) 0] 0),(2,.bq [aq pre] 0),(3,.bq [.raw (.func (.yield l) #[] #[])] 0)],[]⟩) q t ?_ ?_)
 ·skip
  refine aC (.a 1 I<|.k [1,2,3] I)<|rfl
 rintro _ O Q R rfl u g1 A;refine wpIn_seq (wpIn_seq (piece (K:=λs=>s=⟨[(1,.bq [.bq (fL n o vs c) 0] 0),(2,.bq [aq pre] 0),(3,.bq [.raw (.func (.yield l) #[] #[])] 0),(12,flag true)],[]⟩) ⟨rfl,g1,A⟩ u ?_ ?_))
 ·skip
  refine aC (.a 5 I<|.v (JP I I I (Rb (by rw[H];rfl))) I<|.k [1,2,3,12] I)<|rfl
 rintro _ P a2 S rfl i g2 B;refine wpIn_cond_true (fW (i.tmp 12 _ rfl))<|wpIn_seq ?_
 skip
 refine v8 12 20 [13,14,15,16,17,18,19,20,21,22,23,24] mixed (by kernel_rfl) (by kernel_rfl) (by kernel_rfl) I (i) (.a 4 I<|.v [16] (aJ I (rfl)) I I<|.a 3 I<|.v [20] (aJ I (rfl)) I I<|.a 1 I<|.v [22] (dX I (Aq pre r)) I I<|.a 1 I<|.k [13,24] I) ?_;intro a3 d k a;have f:Ext W d:=Ext.trans B k;have j:=a.tmp 24 (.agg (gw n o.dJ pre)) I;have hv:cZ (EF F0) d (a3.eval (.tmp 24)) (.agg (gw n o.dJ pre)):=(xn n o.dJ pre).out _ F0 _ _ (λb hb=>(a.sat.mm b).2 (.inl hb)) j;have p:J 0 (λb=>W.heap.size<=b/\b<d.heap.size) d:=D 0 _ W _ d m (λb h=>h.elim) (Rc _) (.ext f) (λb=>⟨λh=>.inr h,λh=>h.elim False.elim id⟩);have v:=hv.goes (jn (M':=Mo F0 W.heap.size (λb=>W.heap.size<=b/\b<d.heap.size) d) (Rc _) (λb hb hn hm=>hm.2 (uv hn hb)) (λ_ _ _=>rfl));refine FJ (x:=.tmp 13) (y:=.tmp 24) I I I (fW (a.tmp 13 _ rfl)) (G _ 0 _ _ d (by simp) p (λb h=>h) f.size ⟨_,rfl,v⟩) ?_;rintro e U ⟨rfl,L,hk⟩;refine⟨_,rfl,wpIn_ret ?_⟩;show LeavesInM _ _ _ _ _ _ (a3.put (some 25) (.bool true)).defers _ _;rw[show(a3.put (some 25) (.bool true)).defers=[] from a.lE];exact⟨_,results_none rfl _ _ _,⟨_,rfl⟩,_,L,λb h=>⟨h.1,RH h.2 hk.size⟩,Rr f.size hk.size⟩
end
def ft(a:Nat->List Rs):Nat->List Rs
 |0=>[]
 |k+1=>ft a k++a k
theorem td(a:Nat->List Rs){i:Nat}:∀ {N:Nat},i<N->(ft a i).length+(a i).length<=(ft a N).length
 |0,h=>by omega
 |N+1,h=>by
  rw[ft,Q0];rcases Nat.lt_succ_iff_lt_or_eq.1 h with h|rfl
  ·have:=td a h;omega
  ·exact Rc _
theorem AL(a:Nat->List Rs){i k:Nat}(hk:k<(a i).length):∀ {N:Nat},i<N->(ft a N)[(ft a i).length+k]? =(a i)[k]?
 |0,h=>by omega
 |N+1,h=>by
  rw[ft];rcases Nat.lt_succ_iff_lt_or_eq.1 h with h|rfl
  ·have:=td a h;rw[Q9 (by omega)];exact AL a hk h
  ·rw[RD (by omega)];congr 1;omega
def Mv(F0:Nat->Prop)(s:Nat)(J:Nat->(Nat->Prop)->World->Prop)(d:List PV)(pre la:List Int)(l:Nat)(off:Nat->Nat)(i:Nat)(a:Act)(A:World):Prop:=
 ∃O c,J (off i) O A/\(∀b,O b->s<=b/\b<A.heap.size)/\s<=A.heap.size/\a.defers=nN c/\a.tmps.size=55/\
  dt (EF (Mo F0 s O A)) A a.eval [(1,.bq [.bq d 0] 0),(2,.bq [aq pre] 0),(3,.bq [.raw (.func (.yield l) #[] #[])] 0),(29,aq la),(30,num la.length),(31,num (i:Nat))]/\
  c.Nodup/\(∀D∈c,O D/\A.heap[D]? =some (.deferred (some [])))/\jq (Mo F0 s O A) A
def HV(la:List Int)(a:Act):Nat:=match a.eval (.tmp 31)with
 | .int _ x=>la.length - x.toNat
 |_=>0
theorem DL{la:List Int}{a:Act}{x:Nat}(h:a.eval (.tmp 31)= .int .i64 (x:Int)):HV la a=la.length - x:=by unfold HV;rw[h];simp
theorem yM{F0:Nat->Prop}{s:Nat}{O a:Nat->Prop}{A B:World}{b:Nat}(h1:∀b,O b->a b)(h2:∀b,A.heap.size<=b->b<B.heap.size->a b)(h:Mo F0 s a B b):Mo F0 s O A b:=
 ⟨Nat.lt_of_not_le λhle=>h.2 (.inl (h2 b hle h.1)),λhk=>h.2 (hk.imp (h1 b) id)⟩
theorem oB{F0:Nat->Prop}{s:Nat}{O:Nat->Prop}{A:World}{b:Nat}(hb:b<A.heap.size)(hn:¬Mo F0 s O A b):Kept F0 s O b:=Q4 λh=>hn ⟨hb,h⟩
def Ob(F0:Nat->Prop)(s:Nat)(J:Nat->(Nat->Prop)->World->Prop)(off:Nat)(d:Nat->Prop)(c:World)(k:Nat)(e:Nat->Prop)(B:World):Prop:=
 ∃a,J (off+k) a B/\(∀b,e b->a b)/\(∀b,d b->a b)/\a c.heap.size/\a (c.heap.size+1)/\(∀b,a b->s<=b/\b<B.heap.size)/\c.heap.size+2<=B.heap.size/\(∀b,b<c.heap.size->Kept F0 s d b->B.heap[b]? =c.heap[b]?)
def G3(s:Nat)(J:Nat->(Nat->Prop)->World->Prop):Prop:=∀k O A c a,J k O A->(∀b,O b->s<=b/\b<A.heap.size)->s<=A.heap.size->tw O A a->G9 O A a c->J k c a
section
variable {F0:Nat->Prop} {s:Nat} {J:Nat->(Nat->Prop)->World->Prop} {off:Nat} {O6:Nat->Prop} {w6:World} {k:Nat} {O' O'':Nat->Prop} {B B':World}
theorem Ii(f:G3 s J)(hs:s<=w6.heap.size)(h:Ob F0 s J off O6 w6 k O' B)(g:∀b,O' b->w6.heap.size+2<=b/\b<B.heap.size)(a:tw O' B B')(hM:G9 O' B B' O''):Ob F0 s J off O6 w6 k O'' B':=by
 obtain⟨c,j1,d,i,j,l,e,o,m⟩:=h;have n:=a.size;refine⟨λb=>c b\/(B.heap.size<=b/\b<B'.heap.size),f _ c B _ B' j1 e (by omega) ⟨a.os,a.tape,a.output,a.size,λb hb hn=>a.block b hb (λh=>hn (d b h)),a.cells⟩ (λb=>Iff.rfl),λb hb=>((hM b).1 hb).imp (d b) id,λb hb=>.inl (i b hb),.inl j,.inl l,λb hb=>?_,by omega,λb hb hk=>?_⟩
 ·rcases hb with hb|hb
  ·have:=e b hb;omega
  ·omega
 ·exact(a.block b (by omega) (λh=>by have:=(g b h).1;omega)).trans (m b hb hk)
theorem KY(g:G3 s J)(hs:s<=w6.heap.size){l:Nat}{r o}(hl:l=w6.heap.size+1)(h:Ob F0 s J off O6 w6 k O' B)(hr:B.heap[l]? =some (.loop r)):Ob F0 s J off O6 w6 k O' (B.putObj l (.loop o)):=by
 subst hl;obtain⟨a,j1,i,j,m,d,f,n,p⟩:=h;have c:(B.putObj (w6.heap.size+1) (.loop o)).heap.size=B.heap.size:=by simp
 refine⟨a,g _ a B a _ j1 f (by omega) ⟨rfl,rfl,rfl,by rw[c];exact Rc _,λb hb hn=>World.putObj_heap_other (λe=>hn (e▸d)),λb q hb hc=>(World.putObj_heap_other (λe=>by subst e;rw[hr]at hb;cases hb;cases hc)).trans hb⟩ (λb=>⟨.inl,λh=>h.elim id (λh=>by omega)⟩),i,j,m,d,λb hb=>by rw[c];exact f b hb,by rw[c];exact n,λb hb hk=>(World.putObj_heap_other (by omega)).trans (p b hb hk)⟩
end
theorem dt.NC{E w}{ρ:Operand->Value}{t}{k:Nat}{x:Int}(h:dt E w ρ t)(hk:look k t=some (num x)):ρ (.tmp k)= .int .i64 x:=fW (h k _ hk)
attribute [local go_sem] Oper.semAt_some
set_option maxHeartbeats 8000000 in
theorem HD{n:Nat}{o:Out}{vs:List PV}{c:Int}{pre:List Int}(F:Nat->List Rs)(bN:o.aA≠[])(bP:pre.length+1<=1000000000)[bt:aP vs](ca:vs.length=o.aA.length)(b8:o.aA.length<=1000){xb pb}{W:World}{F0:Nat->Prop}(hF:∀b,F0 b->b<W.heap.size)(gl:jq F0 W)(hX:cZ (EF F0) W xb (.bq [.bq (fL n o vs c) 0] 0))(hP:cZ (EF F0) W pb (.bq [aq pre] 0))
  (bJ:∀i,i<o.aA.length->∃ys,vs[i]? =some (.bq ys 0)/\aP ys/\∀(F1:Nat->Prop) (ai ah:Value) (W':World),(∀b,F1 b->b<W'.heap.size)->jq F1 W'->cZ (EF F1) W' ai (.bq [.bq ys 0] 0)->cZ (EF F1) W' ah (.bq [aq (pre++[o.aA.getD i 0])] 0)->xU prog 60 #[ai,ah] (F i).length (MR F1 (F i)) F1 W'):
  xU prog 60 #[xb,pb] (ft F o.aA.length).length (MR F0 (ft F o.aA.length)) F0 W:=by
 intro n' l J hJ hY bE;have aO:bp (EF F0) W (#[Value.func (.yield l) #[] #[]]++ #[xb,pb]).toList [.raw (.func (.yield l) #[] #[]),.bq [.bq (fL n o vs c) 0] 0,.bq [aq pre] 0]:=
  SL (.raw _) (SL hX (SL hP (TQ _ _)))
 refine callsIn_of_wp_marks func60 I trivial ?_ rfl;have bq:=ko (N:=55) (T1 F0 W hF gl) aO (by simp);have bl:qY W.heap.size 0 (EF F0) W (EF F0) W:=⟨rfl,UD _ _,Below.refl _ _⟩;have⟨pc,aT⟩:=QQ (fL n o vs c);have b0:aP pc:=by rw[<-aT];unfold fL;infer_instance
 refine wpIn_seq (piece (K:=λs=>s=⟨[(1,.bq [.bq (fL n o vs c) 0] 0),(2,.bq [aq pre] 0),(3,.bq [.raw (.func (.yield l) #[] #[])] 0)],[]⟩) bl bq ?_ ?_)
 ·skip
  refine aC (.a 1 I<|.k [1,2,3] I)<|rfl
 rintro _ E1 a1 w1 rfl br g1 b1;refine wpIn_seq (wpIn_seq (piece (K:=λs=>s=⟨[(1,.bq [.bq (fL n o vs c) 0] 0),(2,.bq [aq pre] 0),(3,.bq [.raw (.func (.yield l) #[] #[])] 0),(12,flag false)],[]⟩) ⟨rfl,g1,b1⟩ br ?_ ?_))
 ·skip
  refine aC (.a 5 I<|.v (JP I I I (Rg (λe=>bN (Rd (by omega))))) I<|.k [1,2,3,12] I)<|rfl
 rintro _ E2 a2 w2 rfl aV g2 b2;refine wpIn_cond_false (fW (aV.tmp 12 _ rfl)) (wpIn_skip ?_);refine wpIn_seq (piece (K:=λs=>s=⟨[(1,.bq [.bq (fL n o vs c) 0] 0),(2,.bq [aq pre] 0),(3,.bq [.raw (.func (.yield l) #[] #[])] 0),(29,aq o.aA),(30,num o.aA.length),(31,num (0:Nat))],[]⟩) ⟨rfl,g2,b2⟩ aV ?_ ?_)
 ·skip
  refine aC (.a 6 I<|.k [1,2,3,29,30,31] I)<|rfl
 rintro _ E3 a3 w3 rfl ay g3 b3;refine wpIn_block ?_;have aL:Ext W w3:=b3;have bC:Mv F0 W.heap.size J pc pre o.aA l (λi=>(ft F i).length) 0 a3 w3:=by
  refine⟨λb=>W.heap.size<=b/\b<w3.heap.size,[],hJ 0 _ W _ w3 bE (λb h=>h.elim) (Rc _) (.ext aL) (λb=>⟨λh=>.inr h,λh=>h.elim False.elim id⟩),λb h=>h,aL.size,ay.lE,ay.size,?_,UE,λD hD=>(by cases hD),?_⟩
  ·have:=ay.plain;rw[aT]at this;exact this.goes (jn (Rc _) (λb hb hn hm=>hm.2 (uv hn hb)) (λ_ _ _=>rfl))
  ·exact(gl.goes (E:=EF F0) (E':=EF F0) (.ext aL)).goes (E:=EF F0) (E':=EF _) (jn (Rc _) (λb hb hn hm=>hm.2 (uv hn hb)) (λ_ _ _=>rfl))
 clear bq br aV ay g1 g2 g3 b1 b2 bl;refine wpIn_loop (λa A=>∃i,i<=o.aA.length/\Mv F0 W.heap.size J pc pre o.aA l (λi=>(ft F i).length) i a A) (λa _=>HV o.aA a) ⟨0,RQ _,bC⟩ ?_;rintro⟨S,ds⟩ A ⟨i,bY,O,Ds,hj,hO,aX,rfl,hz,hT,bn,hD,bd⟩;have bZ:(o.aA.length:Int)<2 ^ 62\/True:=.inr trivial;have bf:Act.eval ⟨S,nN Ds⟩ (.tmp 31)= .int .i64 (i:Nat):=hT.NC rfl;have bx:Act.eval ⟨S,nN Ds⟩ (.tmp 30)= .int .i64 o.aA.length:=hT.NC rfl;refine wpIn_seq (wpIn_region ?_);refine oK (.inl rfl) I I (λc e=>by cases e) (Ac rfl bf bx (v:=.bool (decide ((i:Int)<o.aA.length))) (by simp[binOp,Op.intCmp])) ?_;have bV:S.size=55:=hz;have ak:((⟨S,nN Ds⟩:Act).put (some 32) (.bool (decide ((i:Int)<o.aA.length)))).eval (.tmp 32)= .bool (decide ((i:Int)<o.aA.length)):=mL (by show 32<S.size;omega);rcases Sf i o.aA.length with Y|Y
 ·
  rw[Rb (show(i:Int)<o.aA.length by omega)]at ak ⊢;refine wpIn_seq (wpIn_cond_true ak (wpIn_skip ?_));refine wpIn_seq (wpIn_block ?_);obtain⟨ys,bS,cb,aS⟩:=bJ i Y;have aG:dR (Mo F0 W.heap.size O A) A.heap.size 55 ⟨[(1,.bq [.bq pc 0] 0),(2,.bq [aq pre] 0),(3,.bq [.raw (.func (.yield l) #[] #[])] 0),(29,aq o.aA),(30,num o.aA.length),(31,num (i:Nat))],[]⟩ (EF (Mo F0 W.heap.size O A)) ⟨S.setIfInBounds 32 (.bool true),[]⟩ A:=
   ⟨T1 _ A (λb h=>h.1) bd,(dt.put hT (.any (.bool true)) (by show 32<S.size;omega)).sub (λk p hk=>by
    refine⟨p,?_,Tv p⟩;unfold look;rw[RI,QZ]
    ·exact hk
    ·intro e;have:=Rp e;subst this;cases hk),rfl,by simp[bV]⟩
  refine wpIn_seq (F4 (K:=λs=>s=⟨[(1,.bq [.bq pc 0] 0),(2,.bq [aq pre] 0),(3,.bq [.raw (.func (.yield l) #[] #[])] 0),(4,num (i:Nat)),(5,num (o.aA.getD i 0)),(29,aq o.aA),(30,num o.aA.length),(31,num (i:Nat))],[]⟩) aG rfl ?_ ?_)
  ·refine fJ.wr (.a 1 I<|.v (aM (i) I (by omega) (by omega)) I<|.v (aJ I (show(aU o.aA)[i]? =some (num (o.aA.getD i 0)) by simp[aU,QU,QX Y])) I<|.a 2 I<|.k [1,2,3,4,5,29,30,31] I)<|rfl
  rintro _ E5 bX w5 rfl aW g5 b5;have bm:i<vs.length:=by omega
  have ag:=P9.Jq vs ys pre o.aA (o.aA.getD i 0) i l n o c bP bS bm;rw[aT]at ag;refine wpIn_seq (FL mixed aW (by rw[aW.sat.len];rfl) ag ?_);rintro⟨t6,ck⟩ E6 d g ⟨aH,T⟩ Z g6 b6;simp only at aH T;subst aH;have U:Ext A g:=(Below.trans b5 b6:Below A.heap.size A g);have aZ:d.size=55:=Z.size;have Q:=Z.tmp.sub T;have M:∀b,Mo F0 W.heap.size O A b->E6.M b:=λb hb=>(Z.sat.mm b).2 (.inl hb);have b4:aP (aU (pre++[o.aA.getD i 0])):=inferInstance;obtain⟨R,X⟩:∃R:Nat->Prop,R=λb=>O b\/(A.heap.size<=b/\b<g.heap.size):=⟨_,rfl⟩;have aj:de (EF (Mo F0 W.heap.size O A)) g (EF (Mo F0 W.heap.size R g)) g:=jn (Rc _) (λb _ hn hm=>hn (yM (λb h=>by rw[X];exact .inl h) (λb h1 h2=>by rw[X];exact .inr ⟨h1,h2⟩) hm)) (λ_ _ _=>rfl);have bg:=((ax.uk (f:=60) (QV (U4 (i:=2) (k:=0) (blk:=.cells 67 [.bq ys 0]) (ys:=[.bq ys 0]) I (show af _ [.bq ys 0] [.bq ys 0] from Sj))<|QV (U4 (i:=3) (k:=0) (blk:=.cells 28 [.own 1]) (ys:=[aq (pre++[o.aA.getD i 0])]) I (QV (Tj (i:=1) I Sj) Rl)) Rl)).rep Z.sat (G:=Mo F0 W.heap.size O A) M (λb hb=>(Z.sat.fb b hb).2) _ (Q 48 _ rfl)).goes aj;have aN:dt (EF (Mo F0 W.heap.size R g)) g (Act.eval ⟨d,[]⟩) [(1,.bq [.bq pc 0] 0),(2,.bq [aq pre] 0),(3,.bq [.raw (.func (.yield l) #[] #[])] 0),(29,aq o.aA),(30,num o.aA.length),(31,num (i:Nat))]:=
   (Uw ((inferInstance:IsPure (.bq [.bq pc 0] 0)).out _ _ _ _ M (Q 1 _ rfl))<|Uw ((inferInstance:IsPure (.bq [aq pre] 0)).out _ _ _ _ M (Q 2 _ rfl))<|Uw ((inferInstance:IsPure (.bq [.raw (.func (.yield l) #[] #[])] 0)).out _ _ _ _ M (Q 3 _ rfl))<|Uw ((inferInstance:IsPure (aq o.aA)).out _ _ _ _ M (Q 29 _ rfl))<|Uw ((inferInstance:IsPure (num o.aA.length)).out _ _ _ _ M (Q 30 _ rfl))<|Uw ((inferInstance:IsPure (num (i:Nat))).out _ _ _ _ M (Q 31 _ rfl)) dt.IG).goes aj
  have aK:jq (Mo F0 W.heap.size R g) g:=(bd.goes (E:=EF _) (E':=EF _) (.ext U)).goes (E:=EF _) (E':=EF _) aj;have b7:=U.size;have j6:J (ft F i).length R g:=hJ _ O A _ g hj hO aX (.ext U) (λb=>by rw[X]);have aD:∀b,R b->W.heap.size<=b/\b<g.heap.size:=λb hb=>by
   rw[X]at hb;rcases hb with hb|hb
   ·have:=hO b hb;omega
   ·omega
  have bh:∀D∈Ds,R D/\D<g.heap.size/\g.heap[D]? =some (.deferred (some [])):=λD h=>by
   obtain⟨h1,h2⟩:=hD D h;have:=(hO D h1).2;exact⟨by rw[X];exact .inl h1,by omega,(U.block D this).trans h2⟩
  have aY:W.heap.size<=g.heap.size:=by omega
  have bk:G3 W.heap.size J:=hJ;clear Q Z g6 b6 T aW g5 b5 ag M hT aG aj X;generalize bu:Act.eval ⟨d,[]⟩ (.tmp 48)=cj at bg;cases bg with
  |func _ cs _ bG ar=>
  obtain⟨cs⟩:=cs
  match cs,bG,ar with
  | [ai,ah],_,ar=>
  have bU:=ar 0 ai _ rfl rfl;have bO:=ar 1 ah _ rfl rfl;refine wpIn_block<|og (show Act.eval ⟨d,nN Ds⟩ (.tmp 48)=_ from bu) (enters_of func60 (by kernel_rfl) I) (K:=(F i).length) (G:=MR (Mo F0 W.heap.size R g) (F i)) (F0:=Mo F0 W.heap.size R g) (λb h=>h.1)
   (λW' al=>aS _ ai ah W' (λb h=>RH h.1 al.size) (aK.goes (E:=EF _) (E':=EF _) (.ext al)) (bU.ext al) (bO.ext al)) I (Ob F0 W.heap.size J (ft F i).length R g)
   (λk O A O' A' h1 h2 _ h4 h5=>Ii bk aY h1 h2 h4 h5) (λk O A l r o hl h1 h2=>KY bk aY hl h1 h2) ?_ ?_ ?_
  ·intro W1 bj cc;refine⟨λb=>R b\/(g.heap.size<=b/\b<W1.heap.size),hJ _ R g _ W1 j6 aD aY (.ext bj) (λb=>Iff.rfl),λb h=>h.elim,λb h=>.inl h,.inr (by omega),.inr (by omega),λb hb=>?_,by omega,λb hb _=>bj.block b hb⟩;rcases hb with hb|hb
   ·have:=aD b hb;omega
   ·omega
  ·rintro m l2 k v O' C bL ⟨rl,bo⟩ hk ⟨H,j1,j2,j3,j4,j5,j7,j8,j9⟩ bF bR ⟨⟨re,rw_,rp⟩,hr,bT⟩;have aF:∀b,Kept (Mo F0 W.heap.size R g) (g.heap.size+2) O' b->Kept F0 W.heap.size H b:=λb hb=>by
    rcases hb with h|⟨h1,h2⟩
    ·exact .inl (j2 b h)
    ·rcases Sf b g.heap.size with h|h
     ·exact(oB h h2).imp (j3 b) id
     ·rcases(show b=g.heap.size\/b=g.heap.size+1 by omega)with rfl|rfl
      ·exact .inl j4
      ·exact .inl j5
   have bt:cZ (EF (Mo F0 W.heap.size H C)) C v (.agg (gw re rw_ rp)):=bT.goes (jn (Rc _) (λb _ hn hm=>hn ⟨hm.1,λhk=>hm.2 (aF b hk)⟩) (λ_ _ _=>rfl));have ba:de (EF (Mo F0 W.heap.size R g)) g (EF (Mo F0 W.heap.size H C)) C:=jn (by omega) (λb hb hn hm=>hm.2 ((oB hb hn).imp (j3 b) id)) (λb hb hn=>j9 b hb (oB hb hn));have h3:=(aN 3 _ rfl).goes ba;have bc:jq (Mo F0 W.heap.size H C) C:=aK.goes (E:=EF _) (E':=EF _) ba;have bs:dR (Mo F0 W.heap.size H C) C.heap.size 55 ⟨[(49,.agg (gw re rw_ rp)),(3,.bq [.raw (.func (.yield l) #[] #[])] 0)],[]⟩ (EF (Mo F0 W.heap.size H C)) ((⟨d,[]⟩:Act).put (some 49) v) C:=
    ⟨T1 _ C (λb h=>h.1) bc,dt.put (Uw h3 dt.IG) bt (by show 49<d.size;omega),rfl,by simp[Act.put,aZ]⟩
   rw[show({tmps:=(#[49].zip #[v]).foldl (λt (p,v)=>t.setIfInBounds p v) d,defers:=[]}:Act)=(⟨d,[]⟩:Act).put (some 49) v from by simp[Act.put]];refine oQ (m:=2) (K:=λs=>s=⟨[(3,.bq [.raw (.func (.yield l) #[] #[])] 0),(6,.ptr 0 0)],[some (.cells 54 (gw re rw_ rp))]⟩) I I bs rfl (by refine au 2 I ?_;refine aE [3,6] I ?_;rfl) ?_;rintro _ Ea a7 Wa rfl P gB bB;refine⟨⟨bB.size,λb hb _=>(show Ext C Wa from bB).block b hb⟩,λB ob ae=>?_⟩;have aa:Ext C Wa:=bB;have aw:Wa.heap[l2]? =some (.loop rl):=(aa.block _ (Rw.1 bo).1).trans bo;have a6:B.heap.size=Wa.heap.size:=by rw[ae];simp
   have z:∀k,k≠l2->B.heap[k]? =Wa.heap[k]? :=λk hk=>by rw[ae];exact World.putObj_heap_other hk
   have cf:=aa.size;obtain⟨L,an⟩:∃L:Nat->Prop,L=λb=>H b\/(C.heap.size<=b/\b<Wa.heap.size):=⟨_,rfl⟩;have u:∀b,H b->L b:=λb h=>by rw[an];exact .inl h
   have ab:∀b,L b->W.heap.size<=b/\b<Wa.heap.size:=λb hb=>by
    rw[an]at hb;rcases hb with hb|hb
    ·have:=j7 b hb;omega
    ·omega
   have jA:J ((ft F i).length+k) L Wa:=hJ _ H C _ Wa j1 j7 (by omega) (.ext aa) (λb=>by rw[an]);have jB:J ((ft F i).length+k) L B:=hJ _ L Wa L B jA ab (by omega) ⟨by rw[ae];rfl,by rw[ae];rfl,by rw[ae];rfl,by omega,λb hb hn=>z b (λe=>hn (u _ (by rw[e,bL];exact j5))),λb ch hb hc=>(z b (λe=>by subst e;rw[aw]at hb;cases hb;cases hc)).trans hb⟩ (λb=>⟨.inl,λh=>h.elim id (λh=>by omega)⟩);have b9:aP (gw re rw_ rp):=by unfold gw;infer_instance
   have g12:de (EF (Mo F0 W.heap.size H C)) B (EF (Mo F0 W.heap.size L B)) B:=jn (Rc _) (λb _ hn hm=>hn (yM u (λb h1 h2=>by rw[an];exact .inr ⟨h1,by omega⟩) hm)) (λ_ _ _=>rfl);have r6:=(((U4 (i:=0) (k:=0) (blk:=.cells 54 (gw re rw_ rp)) (ys:=gw re rw_ rp) I (show af _ (gw re rw_ rp) (gw re rw_ rp) from Sj)).rep P.sat (G:=Mo F0 W.heap.size H C) (λb hb=>(P.sat.mm b).2 (.inl hb)) (λb hb=>(P.sat.fb b hb).2) _ (P.tmp 6 _ rfl)).other aw a6 z).goes g12;have r3:=(((inferInstance:IsPure (.bq [.raw (.func (.yield l) #[] #[])] 0)).out _ (Mo F0 W.heap.size H C) _ _ (λb hb=>(P.sat.mm b).2 (.inl hb)) (P.tmp 3 _ rfl)).other aw a6 z).goes g12;have bw:jq (Mo F0 W.heap.size L B) B:=((bc.goes (E:=EF _) (E':=EF _) (.ext aa)).other aw z).goes (E:=EF _) (E':=EF _) g12;have bQ:dR (Mo F0 W.heap.size L B) B.heap.size 55 ⟨[(3,.bq [.raw (.func (.yield l) #[] #[])] 0),(6,.bq (gw re rw_ rp) 0)],[]⟩ (EF (Mo F0 W.heap.size L B)) a7 B:=
    ⟨T1 _ B (λb h=>h.1) bw,Uw r3 (Uw r6 dt.IG),P.lE,P.size⟩
   refine wpIn_block (wpIn_seq ?_);refine oQ (m:=2) (K:=λs=>s=⟨[(50,.raw (.func (.yield l) #[] #[])),(51,.agg (gw re rw_ rp))],[]⟩) I I bQ rfl (by refine au 2 I ?_;refine aE [50,51] I ?_;rfl) ?_;rintro _ Ed a8 Wc rfl az gD bD;have V:Ext B Wc:=bD;have cg:=V.size;obtain⟨O3,ao⟩:∃O3:Nat->Prop,O3=λb=>L b\/(B.heap.size<=b/\b<Wc.heap.size):=⟨_,rfl⟩;have w:∀b,L b->O3 b:=λb h=>by rw[ao];exact .inl h
   have aB:∀b,O3 b->W.heap.size<=b/\b<Wc.heap.size:=λb hb=>by
    rw[ao]at hb;rcases hb with hb|hb
    ·have:=ab b hb;omega
    ·omega
   have jC:J ((ft F i).length+k) O3 Wc:=hJ _ L B _ Wc jB (λb hb=>by rw[a6];exact ab b hb) (by omega) (.ext V) (λb=>by rw[ao]);have g23:de (EF (Mo F0 W.heap.size L B)) Wc (EF (Mo F0 W.heap.size O3 Wc)) Wc:=jn (Rc _) (λb _ hn hm=>hn (yM w (λb h1 h2=>by rw[ao];exact .inr ⟨h1,h2⟩) hm)) (λ_ _ _=>rfl);have bz:=((xn re rw_ rp).out _ (Mo F0 W.heap.size L B) _ _ (λb hb=>(az.sat.mm b).2 (.inl hb)) (az.tmp 51 _ rfl)).goes g23;have bW:a8.tmps.size=55:=az.size;have bM:(ft F i).length+k<(ft F o.aA.length).length:=by have:=td F Y;omega
   show wpOpsIn _ _ _ _ _ [2,3] a8 Wc;refine FI (x:=.tmp 50) (y:=.tmp 51) I I I (fW (az.tmp 50 _ rfl)) (hY _ _ _ O3 Wc bM jC aB (by omega) ⟨(re,rw_,rp),(AL F hk Y).trans hr,bz⟩) ?_;rintro e4 W4 ⟨rfl,bK,aR⟩;refine⟨_,rfl,?_⟩;refine oK (.inr ⟨_,rfl⟩) I I (λc e=>by cases e) (HU rfl (mL (by omega)))<|wpIn_cond_false (mL (by simp[Act.put,bW])) (wpIn_skip ?_);have cd:=aR.size;refine⟨⟨O3,bK,λb h=>w b (u b (j2 b h)),λb h=>w b (u b (j3 b h)),w _ (u _ j4),w _ (u _ j5),λb hb=>by have:=aB b hb;omega,by omega,λb hb av=>?_⟩,by omega,λb hb av=>?_⟩
   ·rw[aR.block b (by omega) (av.imp (λh=>w b (u b (j3 b h))) id),V.block b (by omega),z b (by omega),aa.block b (by omega)];exact j9 b hb av
   ·rw[aR.block b (by omega) ((aF b av).imp (λh=>w b (u b h)) id),V.block b hb]
  ·rintro O' W' ⟨H,j1,j2,j3,j4,j5,j7,j8,j9⟩ bF bR bA;have bb:de (EF (Mo F0 W.heap.size R g)) g (EF (Mo F0 W.heap.size H W')) W':=jn (by omega) (λb hb hn hm=>hm.2 ((oB hb hn).imp (j3 b) id)) (λb hb hn=>j9 b hb (oB hb hn));have ad:=aN.goes bb;refine wpIn_region<|oK (.inl rfl) I I (λc e=>by cases e) (Ac rfl (show Act.eval {tmps:=d,defers:=_} (.tmp 31)=_ from aN.NC rfl) I (v:=.int .i64 ((i+1:Nat):Int)) (by simp[binOp,Op.intArith,lA (show In64 ((i:Int)+1) by unfold In64;omega)])) ?_;refine oK (.inl rfl) I I (λc e=>by cases e) (EZ rfl) ?_;have aA:Act.eval ((Act.put {tmps:=d,defers:=({target:=.collected g.heap.size,args:= #[]}:Deferred)::nN Ds} (some 54) (.int .i64 ((i+1:Nat):Int))).put (some 31) (Act.eval (Act.put {tmps:=d,defers:=({target:=.collected g.heap.size,args:= #[]}:Deferred)::nN Ds} (some 54) (.int .i64 ((i+1:Nat):Int))) (.tmp 54))) (.tmp 31)= .int .i64 ((i+1:Nat):Int):=
    (mL (k:=31) (by show 31<(d.setIfInBounds 54 _).size;simp[aZ])).trans (mL (k:=54) (by show 54<d.size;omega))
   have q:∀j,j≠31->j≠54->Act.eval ((Act.put {tmps:=d,defers:=({target:=.collected g.heap.size,args:= #[]}:Deferred)::nN Ds} (some 54) (.int .i64 ((i+1:Nat):Int))).put (some 31) (Act.eval (Act.put {tmps:=d,defers:=({target:=.collected g.heap.size,args:= #[]}:Deferred)::nN Ds} (some 54) (.int .i64 ((i+1:Nat):Int))) (.tmp 54))) (.tmp j)=Act.eval ⟨d,[]⟩ (.tmp j):=λj h1 h2=>
    (uO (k:=31) h1).trans (uO (k:=54) h2)
   refine⟨⟨i+1,Y,H,g.heap.size::Ds,?_,j7,by omega,rfl,by show((d.setIfInBounds 54 _).setIfInBounds 31 _).size=55;simp[aZ],?_,?_,?_,?_⟩,?_⟩
   ·show J (ft F (i+1)).length H W';rw[ft,Q0];exact j1
   ·refine Uw ((q 1 (by decide) (by decide)).symm▸ad 1 _ rfl)<|Uw ((q 2 (by decide) (by decide)).symm▸ad 2 _ rfl)<|Uw ((q 3 (by decide) (by decide)).symm▸ad 3 _ rfl)<|Uw ((q 29 (by decide) (by decide)).symm▸ad 29 _ rfl)<|Uw ((q 30 (by decide) (by decide)).symm▸ad 30 _ rfl)<|Uw ?_ dt.IG;exact(Sc (λv=>cZ (EF (Mo F0 W.heap.size H W')) W' v (num ((i+1:Nat):Int))) aA).mpr (.raw _)
   ·exact SD.2 ⟨λh=>by have:=(bh _ h).2.1;omega,bn⟩
   ·intro D h;rcases RA.1 h with rfl|h
    ·exact⟨j4,bA⟩
    ·obtain⟨h1,h2,h3⟩:=bh D h;exact⟨j3 D h1,(j9 D h2 (.inl h1)).trans h3⟩
   ·exact aK.goes (E:=EF _) (E':=EF _) bb
   ·show HV _ _<HV _ _;have e1:=DL (la:=o.aA) bf;have e2:=DL (la:=o.aA) aA;exact Nat.lt_of_le_of_lt (Nat.le_of_eq e2) (RH (show o.aA.length - (i+1)<o.aA.length - i by omega) (Nat.le_of_eq e1.symm))
 ·
  have bH:i=o.aA.length:=by omega
  subst bH;rw[Rg (show ¬((o.aA.length:Int)<o.aA.length) by omega)]at ak ⊢;refine wpIn_seq (wpIn_cond_false ak (wpIn_exit ?_));show LeavesInM _ _ _ _ _ _ (nN Ds) _ _;refine qn (by simp) Ds A bn (λD h=>(hD D h).2) (λW' h1 h2 h3 h4 h5=>?_);refine⟨_,results_none rfl _ _ _,⟨_,rfl⟩,O,?_,λb hb=>by rw[h4];exact hO b hb,by rw[h4];exact aX⟩;refine hJ _ _ A _ W' hj hO aX ⟨h1,h2,h3,by rw[h4];exact Rc _,λb hb hn=>h5 b (λaQ=>hn (hD b aQ).1),λb ob hb hc=>(h5 b (λaQ=>?_)).trans hb⟩ (λb=>⟨.inl,λh=>h.elim id (λh=>by omega)⟩);rw[(hD b aQ).2]at hb;cases hb;cases hc
attribute [local go_sem] Oper.semAt_some
theorem BY{w:World}{a:Addr}{x}(h:w.cell? a=some x):∃o,w.heap[a.block]? =some o/\o.isCells=true:=by
 unfold World.cell? at h;cases b:w.heap[a.block]? with
 |none=>rw[b]at h;simp at h
 |some o=>exact⟨o,rfl,by rw[b]at h;cases o<;>simp_all[Obj.isCells]⟩
theorem cZ.cells{E}{w w':World}(j:w.heap.size<=w'.heap.size)(hc:∀(k:Nat) (o:Obj),w.heap[k]? =some o->o.isCells=true->w'.heap[k]? =some o){v p}(h:cZ E w v p):cZ E w' v p:=by
 have key:∀ {a:Addr} {x:Value},w.cell? a=some x->w'.cell? a=some x:=λ{a x} h=>by
  obtain⟨o,h1,h2⟩:=BY h;rw[oq ((hc _ _ h1 h2).trans h1.symm)];exact h
 induction h with
 |any v=>exact .any v
 |raw v=>exact .raw v
 |bH=>exact .bH
 |empty a c h=>exact .empty a c h
 |slice b off n c cs xs h0 h1 h2 hb hM g d _ e=>exact .slice b off n c cs xs h0 h1 h2 (by omega) hM (λi x hx=>key (g i x hx)) d e
 |bq b o' off cs xs hb hM g d _ e=>exact .bq b o' off cs xs (by omega) hM (λi x hx=>key (g i x hx)) d e
 |agg cs xs d _ e=>exact .agg cs xs d e
 |tuple cs xs d _ e=>exact .tuple cs xs d e
 |func f cs xs d _ e=>exact .func f cs xs d e
 |ptr i off b hi h=>exact .ptr i off b hi h
 |own i hi v h hs=>exact .own i hi v h hs
 |bound f cs xs d _ e=>exact .bound f cs xs d e
theorem vR(ys:List PV)[aP ys]:Can prog 30 [.bq ys 0,.raw (.slice none 0 0)] (· = .func 60 [.bq [.bq ys 0] 0,.bq [aq []] 0]):=by
 refine aF func30 I ntmps30 I<|aK<|cb (fV (xs:=[_]) I I I) I<|cb (fV (xs:=[_]) I I I) I<|au 1 I<|aE [2,3] I ?_;exact ab (.a 2 I<|.k [4] I)<|ao<|QR I (ax.uk (QV (U4 (i:=0) (ys:=[.bq ys 0]) I (show af _ [.bq ys 0] [.bq ys 0] from Sj))<|QV (U4 (i:=1) I (QV ax.bH Rl)) Rl)) rfl
section
variable {T:ak} {tb:Nat->cQ} {p0:dq} {Φ:Nat->Nat->List bG->Prop}
theorem Good.MS{v}{n:Nat}{s}{c:Int}(h:Good T tb p0 Φ v n s c):∃ys,v= .bq ys 0/\aP ys:=by
 obtain⟨vs,cs,b,d,f,g,e⟩:=h.parts;haveI:aP vs:=⟨λi x hx=>by
  have a:=(QT.1 hx).1;have:=(e i (by rw[<-d];exact a)).pure;rw[QU,hx]at this;exact this⟩
 exact⟨_,b,by unfold fL;infer_instance⟩
end
attribute [local go_sem] Oper.semAt_some
theorem Sat.PD{F:Nat->Prop}{base:Nat}{σ}{E:Env}{O:Nat->Prop}{A c}(h:Sat F base σ E A)(hM:∀b,E.M b->¬O b)(a:tw O A c):Sat F base σ E c:=by
 have f:∀ {cs:List Value} {xs:List PV},bp E A cs xs->bp E c cs xs:=λhr=>⟨hr.1,λi x u j k=>(hr.2 i x u j k).cells a.size a.cells⟩;have l:=a.size;refine⟨Rr h.bl l,λb hb=>⟨RH (h.fb b hb).1 l,(h.fb b hb).2⟩,h.len,h.mm,λi blk hi=>?_,h.inj,λg cs r=>?_⟩
 ·have hb:=h.blk i blk hi;cases blk with
  |cells t xs=>
   obtain⟨b',cs,he,h1,h2,d⟩:=hb;exact⟨b',cs,he,h1,a.cells _ _ h2 rfl,f d⟩
  |row e size n xs=>
   obtain⟨cs,h1,h2⟩:=hb;refine⟨cs,⟨h1.1,?_⟩,f h2⟩;rcases h1.2 with h|⟨p,cap,cur,he,j,k,s⟩
   ·exact .inl h
   ·exact .inr ⟨p,cap,cur,he,j,a.cells _ _ k rfl,s⟩
  |mp kv=>
   obtain⟨r',m,ck,he,h1,h2,d,q⟩:=hb;exact⟨r',m,ck,he,h1,(a.block r' (Rw.1 h2).1 (hM r' ((h.mm r').2 (.inr ⟨i,_,hi,by rw[he];rfl⟩)))).trans h2,d,f q⟩
 ·obtain⟨h1,t,o,h2⟩:=h.gl g cs r;exact⟨h1,t,o,a.cells _ _ h2 rfl⟩
def sv(L:List Rs):List PV:=L.flatMap λr=>gw r.1 r.2.1 r.2.2
instance (L:List Rs):aP (sv L):=UF _ _ λ_=>by unfold gw;infer_instance
theorem Jg{L:List Rs}{k:Nat}{r}(h:L[k]? =some r):sv (L.take k)++gw r.1 r.2.1 r.2.2=sv (L.take (k+1)):=by
 rw[SN,h];simp[sv]
def Qq(F0:Nat->Prop)(w:World)(M2:Nat->Prop)(s B:Nat)(L:List Rs)(k:Nat)(O:Nat->Prop)(A:World):Prop:=
 ∃E,Sat F0 w.heap.size [some (.cells 50 [.own 1]),some (.row 54 3 k (sv (L.take k)))] E A/\E.at_ 0= .pointer (some ⟨B,0,none⟩)/\(∀b,E.M b->¬Kept M2 s O b)/\Below w.heap.size w A
set_option maxHeartbeats 8000000 in
theorem BO{xv pv:PV}[IsPure xv][IsPure pv]{L:List Rs}(hLl:L.length<=1000)
  (hin:∀(F0:Nat->Prop) (xb pb:Value) (W':World),(∀b,F0 b->b<W'.heap.size)->jq F0 W'->cZ (EF F0) W' xb xv->cZ (EF F0) W' pb pv->xU prog 60 #[xb,pb] L.length (MR F0 L) F0 W'):
  Can prog 59 [.raw (.slice none 0 0),.func 60 [xv,pv]] (· = .slice L.length (sv L)):=by
 intro F0 w vs hF gl hR
 refine(callsIn_wide (n:=4)).1 ?_
 refine callsIn_of_wp_marks func59 I trivial ?_ rfl
 have hs0:=ko (N:=13) (T1 F0 w hF gl) hR (by have:=hR.1;simp at this;omega)
 have hc0:qY w.heap.size 0 (EF F0) w (EF F0) w:=⟨rfl,UD _ _,Below.refl _ _⟩
 refine wpIn_seq (piece (L:=0) (K:=λs=>s=⟨[(1,.func 60 [xv,pv]),(2,.ptr 0 0)],[some (.cells 50 [.raw (.slice none 0 0)])]⟩) hc0 hs0 ?_ ?_)
 ·skip
  refine bx<|cb (fV (xs:=[_]) I I I) I<|au 1 I<|aE [1,2] I ?_
  exact rfl
 rintro _ E1 a1 w1 rfl hs1 g1 b1
 refine wpIn_seq (wpIn_seq (piece (L:=0) (K:=λs=>s=⟨[(2,.ptr 0 0),(6,.func 60 [xv,pv])],[some (.cells 50 [.own 1]),some (.row 54 3 0 [])]⟩) ⟨rfl,g1,b1⟩ hs1 ?_ ?_))
 ·refine cm 0 0 54 3 I I ?_
  refine aC (.a 1 I<|.k [2,6] I) ?_
  exact rfl
 rintro _ E2 a2 w2 rfl hs2 g2 b2
 have hE2:Ext w w2:=b2
 have hF2:∀b,F0 b->b<w2.heap.size:=λb hb=>RH (hF b hb) hE2.size
 have hM2:∀b,E2.M b->b<w2.heap.size:=λb hb=>hs2.sat.lt hb
 obtain⟨B,cs0,hB,hBb,hBh,hBr⟩:=hs2.sat.blk 0 _ rfl
 have h6:=(inferInstance:IsPure (.func 60 [xv,pv])).out _ E2.M _ _ (λb hb=>hb) (hs2.tmp 6 _ rfl)
 have h2:a2.eval (.tmp 2)= .pointer (some ⟨B,0,none⟩):=by
  have:=hs2.tmp 2 _ rfl
  generalize a2.eval (.tmp 2)=z at this
  cases this with
  |ptr _ _ b' _ h=>
   rcases h with h|⟨n',c',h⟩<;>rw[hB]at h<;>cases h
   rfl
 have hd2:=hs2.lE
 have hz2:=hs2.size
 generalize hz48:a2.eval (.tmp 6)=z48 at h6
 cases h6 with
 |func _ cs _ hcl hcr=>
 obtain⟨cs⟩:=cs
 match cs,hcl,hcr with
 | [xb',pb'],_,hcr=>
 have hxb:=hcr 0 xb' _ rfl rfl
 have hpb:=hcr 1 pb' _ rfl rfl
 have hs2w:=hE2.size
 refine wpIn_block ?_
 refine og hz48 (enters_of func60 (by kernel_rfl) I) (K:=L.length) (G:=MR E2.M L) (F0:=E2.M) hM2
  (λW' hE'=>hin _ xb' pb' W' (λb h=>RH (hM2 b h) hE'.size) (hs2.sat.gl.goes (E:=EF _) (E':=EF _) (.ext hE')) (hxb.ext hE') (hpb.ext hE')) I (Qq F0 w E2.M (w2.heap.size+2) B L) ?_ ?_ ?_ ?_ ?_
 ·rintro k O A O' A' ⟨E,hS,hB0,hK,hb⟩ hO hs hA hM
  refine⟨E,hS.PD (λb hb h=>hK b hb (.inl h)) hA,hB0,λb hb h=>?_,hb.trans ⟨hA.os,hA.tape,hA.output,hA.size,λb hb'=>hA.block b (by omega) (λh=>by have:=(hO b h).1;omega)⟩⟩
  rcases h with h|h
  ·rcases(hM b).1 h with h|h
   ·exact hK b hb (.inl h)
   ·have:=hS.lt hb;omega
  ·exact hK b hb (.inr h)
 ·rintro k O A l r o rfl ⟨E,hS,hB0,hK,hb⟩ hr
  exact⟨E,hS.other hr (by simp) (λk hk=>World.putObj_heap_other hk),hB0,hK,hb.trans ⟨rfl,rfl,rfl,by simp,λb hb'=>World.putObj_heap_other (by omega)⟩⟩
 ·intro W1 hE1 hz1
  exact⟨E2,hs2.sat.ext hE1,hB,λb hb h=>h.elim id (λh=>h.2 hb),Below.trans b2 (Ti hE1 hs2w)⟩
 ·rintro m l2 k v O A1 hl2 ⟨rl,hrl⟩ hk ⟨E,hS,hB0,hK,hbw⟩ hO hsz ⟨⟨re,rw_,rp⟩,hr,hvr⟩
  have hpr:aP (gw re rw_ rp):=by unfold gw;infer_instance
  have hor:dY (gw re rw_ rp):=by unfold gw;infer_instance
  obtain⟨arr2,ds2⟩:=a2
  simp only at hd2 hz2
  subst hd2
  have hvE:cZ E A1 v (.agg (gw re rw_ rp)):=cZ.back (hvr.goes (jn (M':=E.M) (Rc _) (λb hb hn hm=>hK b hm (oB hb hn)) (λ_ _ _=>rfl)))
  have hEL:E.L=2:=hS.len
  have h2E:cZ E A1 (Act.eval ⟨arr2,[]⟩ (.tmp 2)) (.ptr 0 0):=by
   rw[h2]
   exact .ptr 0 0 B (by omega) (.inl hB0)
  have hsA:dR F0 w.heap.size 13 ⟨[(7,.agg (gw re rw_ rp)),(2,.ptr 0 0)],[some (.cells 50 [.own 1]),some (.row 54 3 k (sv (L.take k)))]⟩ E ((⟨arr2,[]⟩:Act).put (some 7) v) A1:=
   ⟨hS,dt.put (Uw h2E dt.IG) hvE (by show 7<arr2.size;omega),rfl,by simp[Act.put,hz2]⟩
  rw[show({tmps:=(#[7].zip #[v]).foldl (λt (p,v)=>t.setIfInBounds p v) arr2,defers:=[]}:Act)=(⟨arr2,[]⟩:Act).put (some 7) v from by simp[Act.put]]
  refine oQ (m:=2) (L:=E.L) (K:=λs=>s=⟨[(2,.ptr 0 0),(5,.bq (gw re rw_ rp) 0)],[some (.cells 50 [.own 1]),some (.row 54 3 k (sv (L.take k))),none]⟩) I I hsA rfl (by
   rw[hEL]
   refine au 2 I ?_
   refine M9 2 (σ':=[some (.cells 50 [.own 1]),some (.row 54 3 k (sv (L.take k))),none]) (t':=[(2,.ptr 0 0),(5,.bq (gw re rw_ rp) 0)]) (blk:=.cells 54 (gw re rw_ rp)) I ⟨rfl,rfl,λj hj=>.inl (by match j,hj with|0,_=>rfl|1,_=>rfl|2,h=>exact absurd rfl h|_+3,_=>rfl)⟩ (.cons 2 I (.same _)<|.cons 5 I (.ptr 0) .nil) ?_
   exact bg I) ?_
  rintro _ Ea a7 Wa rfl hsB gB bB
  have hza:=gB.size
  refine⟨⟨gB.size,λb hb hkb=>gB.heap b hb (λhm=>hK b hm hkb)⟩,λWb ob hWb=>?_⟩
  have hla:Wa.heap[l2]? =some (.loop rl):=(gB.heap _ (Rw.1 hrl).1 (λhm=>hK _ hm (.inr ⟨by omega,λh=>by have:=hM2 _ h;omega⟩))).trans hrl
  have hzb:Wb.heap.size=Wa.heap.size:=by rw[hWb];simp
  have hoth:∀k,k≠l2->Wb.heap[k]? =Wa.heap[k]? :=λk hk=>by rw[hWb];exact World.putObj_heap_other hk
  have hsC:dR F0 w.heap.size 13 ⟨[(2,.ptr 0 0),(5,.bq (gw re rw_ rp) 0)],[some (.cells 50 [.own 1]),some (.row 54 3 k (sv (L.take k))),none]⟩ Ea a7 Wb:=
   ⟨hsB.sat.other hla hzb hoth,hsB.tmp.other hla hzb hoth,hsB.lE,hsB.size⟩
  refine wpIn_block ?_
  refine oQ (m:=5) (L:=Ea.L) (K:=λs=>s.σ=[some (.cells 50 [.own 3]),none,none,some (.row 54 3 (k+1) (sv (L.take k)++gw re rw_ rp))]) I I hsC rfl (by
   refine au 2 I ?_
   refine bm (iT (xs:=gw re rw_ rp) I (S3 I) ⟨Re rfl,Re rfl⟩ rfl rfl) I ?_
   refine cb (bF (e:=54) (s:=3) (by':=40) (i:=1) (m:=1) (n:=k) (xs:=sv (L.take k)) (ys:=gw re rw_ rp) I (Ru I) I I I I ⟨by unfold maxLen;omega,by omega⟩) I ?_
   refine bc (b9 I (Q6 I) I I I (Re rfl)) I I ?_
   exact bg I) ?_
  rintro⟨t8,σ8⟩ E8 a8 W3 hσ8 hs8 g8 b8
  simp only at hσ8
  subst hσ8
  have hx:sv (L.take k)++gw re rw_ rp=sv (L.take (k+1)):=Jg hr
  obtain⟨M,hM,hS'⟩:=hs8.sat.CU (fs:=[0,3]) (σ':=[some (.cells 50 [.own 1]),some (.row 54 3 (k+1) (sv (L.take k)++gw re rw_ rp))]) (.kept rfl (.cells (S2 (Ren.own (i:=1) I) Sy))<|.kept rfl (.row RZ) .nil) I
  rw[hx]at hS'
  have hMo:∀b,E8.M b->¬Kept E2.M (w2.heap.size+2) O b:=λb hb hkb=>by
   rcases Sf b A1.heap.size with h|h
   ·exact g8.M b (by omega) (gB.M b h (λhm=>hK b hm hkb)) hb
   ·rcases hkb with h'|h'
    ·have:=(hO b h').2;omega
    ·omega
  have hMa:∀b,Ea.M b->¬Kept E2.M (w2.heap.size+2) O b:=λb hb hkb=>by
   rcases Sf b A1.heap.size with h|h
   ·exact gB.M b h (λhm=>hK b hm hkb) hb
   ·rcases hkb with h'|h'
    ·have:=(hO b h').2;omega
    ·omega
  refine⟨⟨_,hS',?_,λb hb=>hMo b (hM b hb),(hbw.trans bB).trans (Below.trans ⟨by rw[hWb];rfl,by rw[hWb];rfl,by rw[hWb];rfl,by omega,λb hb'=>hoth b (by omega)⟩ b8)⟩,⟨b8.size,λb h1 h2=>g8.heap b h1 (λhm=>hMa b hm h2)⟩⟩
  show E8.at_ 0=_
  rw[g8.at_ 0 (by rw[hsC.sat.len];simp),gB.at_ 0 (by omega),hB0]
 ·rintro O W' ⟨E,hS,hB0,hK,hbw⟩ hO hsz hD
  rw[RC]at hS
  obtain⟨B',cs,hB',hBb',hBh',hBr'⟩:=hS.blk 0 _ rfl
  rw[hB0]at hB'
  cases hB'
  obtain⟨cl⟩:=cs
  match cl,hBr' with
  | [],hBr'=>exact absurd hBr'.1 (by simp)
  |_::_::_,hBr'=>exact absurd hBr'.1 (by simp)
  | [cv],hBr'=>
  have hown:=hBr'.2 0 cv _ rfl rfl
  have hrep:cZ (EF F0) W' cv (.slice L.length (sv L)):=(Tj (i:=1) I (show af _ (sv L) (sv L) from Sj)).rep hS (G:=F0) (λb hb=>(hS.mm b).2 (.inl hb)) (λb hb=>(hS.fb b hb).2) _ hown
  have hcell:W'.cell? ⟨B,0,none⟩=some cv:=by simp[World.cell?,hBh']
  have hz2':a2.tmps.size=13:=hz2
  refine wpIn_seq (wpIn_region ?_)
  refine oK (.inl rfl) I I (λc e=>by cases e) (EY rfl (Q6 I) (show Act.eval {a2 with defers:=_} (.tmp 2)=_ from h2) hcell) ?_
  refine oK (.inl rfl) I I (λc e=>by cases e) (Ab rfl) ?_
  refine wpIn_ret ?_
  show LeavesInM _ _ _ _ _ _ (_::a2.defers) _ _
  rw[hd2]
  refine⟨by simp,.inl ⟨_,_,rfl,run_takeDeferred hD,?_⟩⟩
  refine⟨cv,?_,cv,rfl,?_,_,rfl,?_⟩
  ·refine(results_tmp rfl _ _ _).trans ?_
   congr 1
   refine(mL (k:=4) (a:=Act.put {a2 with defers:=_} (some 12) cv) (v:=_) (by show 4<(a2.tmps.setIfInBounds 12 cv).size;simp[hz2'])).trans ?_
   exact mL (k:=12) (a:= {a2 with defers:=_}) (by show 12<a2.tmps.size;omega)
  ·refine⟨hbw.os,hbw.tape,hbw.output,?_,λk hk=>?_⟩
   ·have:=hbw.size;simp only[World.putObj_size];omega
   ·rw[World.putObj_heap_other (by omega)];exact hbw.block k hk
  ·have hrp:eE.Rest 0 (w2.heap.size+1) W' (W'.putObj w2.heap.size (.deferred none)):=Rest.put hD rfl (RQ _) (UM _)
   exact cZ.cells hrp.size hrp.cells hrep
theorem ym{e d}[IsPure e][IsPure d]{L:List Rs}(a:L.length<=1000)
  (c:∀(F0:Nat->Prop) (g f:Value) (W':World),(∀b,F0 b->b<W'.heap.size)->jq F0 W'->cZ (EF F0) W' g e->cZ (EF F0) W' f d->xU prog 60 #[g,f] L.length (MR F0 L) F0 W'):
  Can prog 29 [.func 60 [e,d]] (· = .slice L.length (sv L)):=by
 exact aF func29 I ntmps29 I<|ab (.a 1 I<|.k [0] I)<|ab (.a 1 I<|.c rfl (BO a c) I<|.a 1 I<|.k [2] I)<|ao<|QR I ax.pure rfl
section
variable {T:ak} {tb:Nat->cQ} {p0:dq} {Φ:Nat->Nat->List bG->Prop}
def yc(pre:List Int)(r:Rs):Rs:=(r.1,r.2.1,pre++r.2.2)
theorem AM(a:Nat->List Rs)(f:Rs->Rs):∀k,(ft a k).map f=ft (λi=>(a i).map f) k
 |0=>rfl
 |k+1=>by rw[ft,Sm,AM a f k];rfl
theorem AN(a:Nat->List Rs){r}:∀ {k:Nat},r∈ft a k->∃i,i<k/\r∈a i
 |0,h=>by cases h
 |k+1,h=>by
  rcases RR.1 h with h|h
  ·obtain⟨i,h1,h2⟩:=AN a h;exact⟨i,by omega,h2⟩
  ·exact⟨k,by omega,h⟩
theorem wX{b a:Nat->List Rs}:∀ {k:Nat},(∀i,i<k->b i=a i)->ft b k=ft a k
 |0,_=>rfl
 |k+1,h=>by rw[ft,ft,wX (λi hi=>h i (by omega)),h k (by omega)]
theorem AK(a:Nat->List Rs){cs:List Int}:∀ {k:Nat},k<=cs.length->(∀i,i<k->cs.getD i 0=min ((a i).length:Int) 1001)->sN (cs.take k)=min ((ft a k).length:Int) 1001
 |0,_,_=>by simp only[Uh,sN,ft,List.foldl_nil,S7];decide
 |k+1,hk,h=>by
  have e:cs.take (k+1)=cs.take k++[cs.getD k 0]:=by
   rw[SN,QX (by omega),QU,QX (by omega)]
   rfl
  rw[e,nu,AK a (by omega) (λi hi=>h i (by omega)),h k (by omega),ft,Q0];omega
theorem Ki(R:xX T tb p0 Φ):∀(u n:Nat) (s:List bG) (v:PV) (c:Int),Φ u n s->Good T tb p0 Φ v n s c->∃L:List Rs,L≠[]/\(∀r∈L,Br T tb p0 n s r.2.2 r.1 r.2.1/\r.2.2.length<=u)/\c=min (L.length:Int) 1001/\
  ∀pre:List Int,pre.length+u<=1000000000->∀(F0:Nat->Prop) (l j:Value) (W:World),(∀b,F0 b->b<W.heap.size)->jq F0 W->cZ (EF F0) W l (.bq [v] 0)->cZ (EF F0) W j (.bq [aq pre] 0)->xU prog 60 #[l,j] (L.map (yc pre)).length (MR F0 (L.map (yc pre))) F0 W:=by
 intro u;induction u using Nat.strongRecOn with
 |_ u X=>
 intro n s v c V hg;obtain⟨vs,cs,rfl,e2,e3,e4,e5⟩:=hg.parts;haveI:aP vs:=⟨λi x hx=>by
  have O:=(QT.1 hx).1;have:=(e5 i (by rw[<-e2];exact O)).pure;rw[QU,hx]at this;exact this⟩
 by_cases p:(bh T tb p0 n s).aA=[]
 ·have hc:c=1:=by rw[e4,p];rfl
  refine⟨[(n,(bh T tb p0 n s).dJ,[])],by simp,λr hr=>?_,by rw[hc];rfl,λpre D F0 l j W w gl z y=>?_⟩
  ·rw[Rj]at hr;subst hr;exact⟨.stop p,RQ _⟩
  ·have:=HC p (by omega) w gl z y;simpa[yc]using this
 ·obtain⟨J,aa,E⟩:(bh T tb p0 n s).aA.length<=1000/\bh T tb p0 n s=dO (cu p0 s) (bh T tb p0 n s).eJ.stack (bh T tb p0 n s).aA/\
    ∀a∈(bh T tb p0 n s).aA,∃b m:Nat,a=(b:Int)/\b<2*T.ah.length/\aN T b=(m:Int)/\∃u',u'<u/\Φ u' m (bh T tb p0 n s).eJ.stack:=by
   rcases R.step V with h|h
   ·exact absurd h p
   ·exact h
  have M:∀i,∃L:List Rs,i<(bh T tb p0 n s).aA.length->L≠[]/\(∀r∈L,∃m:Nat,aN T ((bh T tb p0 n s).aA.getD i 0).toNat=(m:Int)/\Br T tb p0 m (bh T tb p0 n s).eJ.stack r.2.2 r.1 r.2.1/\r.2.2.length<u)/\cs.getD i 0=min (L.length:Int) 1001/\(∃ys,vs[i]? =some (.bq ys 0)/\aP ys/\
    ∀pre:List Int,pre.length+1+(u - 1)<=1000000000->∀(F0:Nat->Prop) (l j:Value) (W:World),(∀b,F0 b->b<W.heap.size)->jq F0 W->cZ (EF F0) W l (.bq [.bq ys 0] 0)->cZ (EF F0) W j (.bq [aq (pre++[(bh T tb p0 n s).aA.getD i 0])] 0)->xU prog 60 #[l,j] (L.map (yc (pre++[(bh T tb p0 n s).aA.getD i 0]))).length (MR F0 (L.map (yc (pre++[(bh T tb p0 n s).aA.getD i 0])))) F0 W):=by
   intro i;by_cases hi:i<(bh T tb p0 n s).aA.length
   ·have C:(bh T tb p0 n s).aA.getD i 0∈(bh T tb p0 n s).aA:=by
     rw[QU,QX hi];exact TF hi
    obtain⟨b,m,H,hb,hm,u',hu,F⟩:=E _ C;have h0:=e5 i hi;have B:aN T ((bh T tb p0 n s).aA.getD i 0).toNat=(m:Int):=by rw[H,QS];exact hm
    rw[B,QS]at h0;obtain⟨ys,t,hyp⟩:=h0.MS;obtain⟨L,i1,i2,i3,i5⟩:=X u' hu m _ _ _ F h0;have U:vs[i]? =some (.bq ys 0):=by
     have A:i<vs.length:=by omega
     rw[QU,QX A]at t;rw[QX A];exact Sc some t
    refine⟨L,λ_=>⟨i1,λr hr=>⟨m,B,(i2 r hr).1,by have:=(i2 r hr).2;omega⟩,i3,ys,U,hyp,λpre D F0 l j W w gl z y=>?_⟩⟩;rw[t]at i5;exact i5 (pre++[_]) (by simp only[Q0,Rk];omega) F0 l j W w gl z y
   ·exact⟨[],λh=>absurd h hi⟩
  obtain⟨o,g⟩:=Classical.skolem.1 M;have d:0<(bh T tb p0 n s).aA.length:=S5.2 p;have K:c=min ((ft o (bh T tb p0 n s).aA.length).length:Int) 1001:=by
   rw[e4];unfold fD;rw[QZ p];have:=AK o (cs:=cs) (k:=(bh T tb p0 n s).aA.length) (by omega) (λi hi=>(g i hi).2.2.1);rw[SJ (by omega)]at this;exact this
  have N:∀(f:Nat->Rs->Rs) k,(ft (λi=>(o i).map (f i)) k).length=(ft o k).length:=λf k=>by
   induction k with
   |zero=>rfl
   |succ k X=>rw[ft,ft,Q0,Q0,X,RN]
  obtain⟨Q,G⟩:∃Q:Nat->List Rs,Q=λi=>(o i).map λr=>(r.1,r.2.1,(bh T tb p0 n s).aA.getD i 0::r.2.2):=⟨_,rfl⟩;have q:(ft Q (bh T tb p0 n s).aA.length).length=(ft o (bh T tb p0 n s).aA.length).length:=by rw[G];exact N (λi r=>(r.1,r.2.1,(bh T tb p0 n s).aA.getD i 0::r.2.2)) _
  refine⟨ft Q (bh T tb p0 n s).aA.length,λe=>?_,λr hr=>?_,by rw[q];exact K,λpre D F0 l j W w gl z y=>?_⟩
  ·have h1:=td o d;have h2:=S5.2 (g 0 d).1;rw[e]at q;simp at q;omega
  ·obtain⟨i,hi,hr⟩:=AN Q hr;rw[G]at hr;obtain⟨r',S,rfl⟩:=RB.1 hr;obtain⟨m,k1,k2,k3⟩:=(g i hi).2.1 r' S;refine⟨.go ?_ k1 k2,by simp only[Q8];omega⟩;rw[QU,QX hi];exact TF hi
  ·have hu:0<u:=by
    obtain⟨_,_,_,_,_,u',h,_⟩:=E _ (TF d);omega
   have P:(ft Q (bh T tb p0 n s).aA.length).map (yc pre)=ft (λi=>(o i).map (yc (pre++[(bh T tb p0 n s).aA.getD i 0]))) (bh T tb p0 n s).aA.length:=by
    rw[AM];refine wX λi _=>?_;rw[G];simp[yc,UH]
   rw[P];refine HD _ p (by omega) e2 J w gl z y λi hi=>?_;obtain⟨_,_,_,ys,y1,y2,y3⟩:=g i hi;exact⟨ys,y1,y2,λF1 Z Y W' h1 h2 h3 h4=>y3 pre (by omega) F1 Z Y W' h1 h2 h3 h4⟩
end
section
variable {T:ak} {tb:Nat->cQ} {p0:dq} {Ψ:Nat->List bG->Prop}
theorem om.trans{n m l:Nat}{s t r}(h:om T tb p0 n s m t)(k:om T tb p0 m t l r):om T tb p0 n s l r:=by
 induction k with
 |one a hm=>exact .more h a hm
 |more _ a hm b=>exact .more (b h) a hm
noncomputable def OT(T:ak)(tb:Nat->cQ)(p0:dq)(U:List (Nat×List bG))(n:Nat)(s:List bG):Nat:=by
 classical
 exact(U.filter λx=>decide (om T tb p0 n s x.1 x.2)).length
theorem LZ(R:vQ T tb p0 Ψ)(hc:¬qZ T tb p0 Ψ){U:List (Nat×List bG)}(hU:∀ {n s},Ψ n s->(n,s)∈U):xX T tb p0 λu n s=>Ψ n s/\u=OT T tb p0 U n s where
 node:=λh=>R.node h.1
 small:=λh=>R.small h.1
 step:=λ{u n s} h=>by
  classical
  rcases R.step h.1 with h1|⟨h1,h2,h3⟩
  ·exact .inl h1
  ·refine .inr ⟨h1,h2,λa ha=>?_⟩;obtain⟨b,m,e1,e2,e3,e4⟩:=h3 a ha;have hb:om T tb p0 n s m (bh T tb p0 n s).eJ.stack:=.one ha (by rw[e1,QS];exact e3);refine⟨b,m,e1,e2,e3,_,?_,e4,rfl⟩;rw[h.2];unfold OT;exact filter_lt (a:=(m,(bh T tb p0 n s).eJ.stack)) (λx _ hx=>Rb (hb.trans (Q5 hx))) (hU e4) (Rg λh=>hc ⟨_,_,e4,h⟩) (Rb hb)
theorem fU.conv{U:List (Nat×List bG)}{v}{n:Nat}{s}{c:Int}(h:fU T tb p0 Ψ v n s c):Good T tb p0 (λu n s=>Ψ n s/\u=OT T tb p0 U n s) v n s c:=by
 induction h with
 |mk h1 h2 a _ b=>exact .mk ⟨h1,rfl⟩ h2 a b
theorem GO(R:vQ T tb p0 Ψ)(hv:av T=true)(cS:T.nodes<=12){U:List (Nat×List bG)}(C:∀ {n s},Ψ n s->(n,s)∈U)(m:U.length<=100000000)(tbs:List cQ)(z:(tbs.length:Int)=T.nodes)(x:∀n:Nat,(n:Int)<T.nodes->tbs[n]? =some (tb n))
    (w:∀n:Nat,(n:Int)<T.nodes->(tb n).node=(n:Int)/\df T (tb n)=true) {n:Nat} {p:dq} (k:Ψ n p.stack) (hp:cu p p.stack=cu p0 p.stack) (hc:¬qZ T tb p0 Ψ):
    Can prog 17 [aL T,dP tbs,dI p,num n] (λr=>∃v c,fU T tb p0 Ψ v n p.stack c/\((1000<c/\r= .tuple [.slice 0 [],num 6])\/∃L:List Rs,(L.length:Int)=c/\L.length<=1000/\L≠[]/\(∀q∈L,Br T tb p0 n p.stack q.2.2 q.1 q.2.1)/\r= .tuple [.slice L.length (sv L),num 0])):=by
  refine aF func17 I ntmps17 I<|ab (.a 4 I<|.k [1,3,4,6] I)<|aK<|au 4 I<|cD I I (RT (U3 (sB R hv cS C m tbs z x w k hp)) (λy σ' h=>?_));obtain⟨h,rfl⟩:=h;obtain⟨v,N,e,rfl,K,E,u,M⟩:=Hf.G2 h;refine au 7 I<|aE [10,12] I ?_;have he:e=0:=Q4 λh=>hc (u h).2;subst he;obtain⟨c,f,F,D,t⟩:=M rfl;obtain⟨L,i,o,G,d⟩:=Ki (LZ R hc C) _ n p.stack v c ⟨k,rfl⟩ f.conv;obtain⟨ys,B,hyp⟩:=f.MS;obtain⟨vs,cs,A,_,_,_,_⟩:=f.parts;have J:OT T tb p0 U n p.stack<=U.length:=by unfold OT;exact RG _ _
  have j:=d [] (by simp;omega);rw[show L.map (yc [])=L from(Se (g:=id) λr _=>rfl).trans (List.map_id L)]at j;have a:L.length<=1000->Can prog 29 [.func 60 [.bq [v] 0,.bq [aq []] 0]] (· = .slice L.length (sv L)):=λb=>by
   haveI:=f.pure;exact ym b j
  subst A;cases B;refine ai<|ab (.a 2 I<|.k [10,12,23] I)<|ae I (λhc=>?_) (λhc=>?_)
  · cases hc
  · refine aj<|ai<|ab (.a 3 I<|.v (aJ I (rfl)) I<|.a 1 I<|.k [10,29] I)<|ae I (λhc=>?_) (λhc=>?_)
    · have l:=tt hc;exact ab (.a 2 I<|.k [8,9] I)<|ao<|⟨_,_,RY I,RW (QV ax.bH<|QV ax.pure Rl),_,c,f,.inl ⟨by omega,rfl⟩⟩
    · have l:=ff hc;have b:L.length<=1000:=by omega
      have a:=a b;exact aj<|ab (.a 1 I<|.c rfl (vR _) I<|.c rfl (a) I<|.a 2 I<|.k [8,9] I)<|ao<|⟨_,_,RY I,ax.pure (p:=.tuple [.slice L.length (sv L),num 0]),_,c,f,.inr ⟨L,by omega,b,i,λq H=>(o q H).1,rfl⟩⟩
end
end
section
open Go.RowKit cG Mem Net eE
def rK(T:ak)(k x:Int)(l:List Int)(s d:Int):Int:=if sP T k x l=0 then(if(aX T s&&aX T d)=true then 0 else 2) else sP T k x l
noncomputable def CM(T:ak)(k x:Int)(l:List Int):List cQ:=if sP T k x l=0 then jP T k x l l.length else []
theorem rG(T:ak)(k x:Int)(l:List Int)(s d:Int)(hl:l.length<=1000)(cS:T.nodes<=12):Can prog 13 [aL T,bV k x,aq l,num s,num d] (· = .tuple [dP (CM T k x l),dI ⟨0,s,d,0,[],0⟩,num (rK T k x l s d)]):=by
 have⟨e,he⟩:=QQ (sP T k x l);have⟨a,f⟩:=QQ (decide (e=0));have⟨b,g⟩:=QQ (aX T s);have⟨c,i⟩:=QQ (aX T d);have⟨L,j⟩:=QQ (CM T k x l);have o:Can prog 22 [aL T,bV k x,aq l] (· = .tuple [dP L,num e]):=by
  have h:=FD T k x l hl cS;unfold Ei at h;rw[he]at h;unfold CM at j;rw[he]at j;rw[j]at h;exact h
 have n:rK T k x l s d=if a=true then(if(b&&c)=true then 0 else 2) else e:=by
  unfold rK;rw[he,g,i,<-f];simp
 rw[n,j];refine aF func13 I ntmps13 I<|aK<|au 5 I<|aE [2,3,4,5,6,11] I ?_;refine ab (.a 3 I<|.c rfl (o) I<|.a 5 I<|.k [3,4,5,11,13,14] I)<|ai<|bz 35 (.raw (.bool (a&&(!b || !c)))) [3,4,11,13,14] I ?_ ?_
 ·refine .a 1 I<|.v (bW I (f)) I<|.a 1 I<|?_;cases a
  ·exact .a 11 I<|.k [35,3,4,11,13,14] I
  ·refine .a 2 I<|.c rfl (g▸ej T s) I<|.a 2 I<|?_;cases b
   ·exact .a 6 I<|.k [35,3,4,11,13,14] I
   ·exact .a 2 I<|.c rfl (i▸ej T d) I<|.a 3 I<|.k [35,3,4,11,13,14] I
 refine ae I (λhc=>?_) (λhc=>?_)
 ·have m:(if a=true then(if(b&&c)=true then(0:Int) else 2) else e)=2:=by
   cases a<;>cases b<;>cases c<;>simp_all
  refine aC (.a 1 I<|.k [3,4,11,13,14] I)<|aK<|au 8 I<|aE [10,11,12] I ?_;exact ao<|QR I (RW (QV ax.pure<|QV (TI (QV ax.pure<|QV ax.pure<|QV ax.pure<|QV ax.pure<|QV ax.bH<|QV ax.pure Rl))<|QV ax.pure Rl)) (by rw[m];rfl)
 ·have m:(if a=true then(if(b&&c)=true then(0:Int) else 2) else e)=e:=by
   cases a<;>cases b<;>cases c<;>simp_all
  refine aj<|aK<|au 8 I<|aE [10,11,12] I ?_;exact ao<|QR I (RW (QV ax.pure<|QV (TI (QV ax.pure<|QV ax.pure<|QV ax.pure<|QV ax.pure<|QV ax.bH<|QV ax.pure Rl))<|QV ax.pure Rl)) (by rw[m];rfl)
section
variable {T:ak} {k x:Int} {l:List Int} {s d:Nat}
theorem D5(hl:l.length<=1000)(cS:T.nodes<=12)(a:sP T k x l=0)(hs:(s:Int)<T.nodes)(hd:(d:Int)<T.nodes):Can prog 13 [aL T,bV k x,aq l,num s,num d] (· = .tuple [dP (jP T k x l l.length),dI ⟨0,s,d,0,[],0⟩,num 0]):=by
 have h:=rG T k x l s d hl cS;have h1:rK T k x l s d=0:=by
  unfold rK;rw[QY a,QY (by rw[aQ.2 ⟨by omega,hs⟩,aQ.2 ⟨by omega,hd⟩];rfl)]
 have h2:CM T k x l=jP T k x l l.length:=by unfold CM;rw[QY a]
 rw[h1,h2]at h;exact h
theorem Can.mono{P f ps}{R a:PV->Prop}(h:Can P f ps R)(hr:∀r,R r->a r):Can P f ps a:=λF w vs h1 h2 b=>(h F w vs h1 h2 b).mono λ_ _ ⟨v,he,hx,r,c,hv⟩=>⟨v,he,hx,r,hr r c,hv⟩
abbrev UB:=@Can.mono
theorem GQ{T:ak}{tb:Nat->cQ}{p0:dq}{Ψ:Nat->List bG->Prop}{n:Nat}{s:List bG}{r:PV}(h:∃v c,fU T tb p0 Ψ v n s c/\((1000<c/\r= .tuple [.slice 0 [],num 6])\/∃L:List Rs,(L.length:Int)=c/\L.length<=1000/\L≠[]/\(∀q∈L,Br T tb p0 n s q.2.2 q.1 q.2.1)/\r= .tuple [.slice L.length (sv L),num 0])):
  ∃(rs:List Rs) (e:Int),r= .tuple [.slice rs.length (sv rs),num e]/\aP (sv rs)/\∃c,Cn T tb p0 n s c/\((1000<c/\e=6)\/(e=0/\(rs.length:Int)=c/\∀q∈rs,Br T tb p0 n s q.2.2 q.1 q.2.1)):=by
 obtain⟨v,c,a,⟨h1,rfl⟩|⟨L,h1,_,_,h2,rfl⟩⟩:=h
 ·exact⟨[],6,rfl,inferInstance,c,a.cn,.inl ⟨h1,rfl⟩⟩
 ·exact⟨L,0,rfl,inferInstance,c,a.cn,.inr ⟨rfl,h1,h2⟩⟩
structure Mz (T:ak) (k x:Int) (l:List Int) (s d:Nat):Prop where
 MN:T.nodes<=10
 QM:T.ah.length<=16
 err:sP T k x l=0
 hs:(s:Int)<T.nodes
 hd:(d:Int)<T.nodes
section
variable (hM:Mz T k x l s d)
include hM
theorem Mz.valid:av T=true/\(l.length:Int)=T.nodes:=by
 obtain⟨h1,h2,_⟩:=AG hM.err;exact⟨(Q3.1 h1).1,h2⟩
theorem Mz.vW:vP (dw T (gi T k x l) ⟨0,s,d,0,[],0⟩) (iU T (gi T k x l) ⟨0,s,d,0,[],0⟩) (s,[]):=IE hM.MN hM.err hM.hs hM.hd
theorem Mz.OW:vQ T (gi T k x l) ⟨0,s,d,0,[],0⟩ (sa T (gi T k x l) ⟨0,s,d,0,[],0⟩ s):=by
 have cS:T.nodes<=12:=by have:=hM.MN;omega
 exact LL hM.valid.1 (pJ hM.valid.1 cS) (GC cS hM.QM) hM.hs
theorem Mz.all:∃U:List (Nat×List bG),U.length<=100000000/\∀ {n s'},sa T (gi T k x l) ⟨0,s,d,0,[],0⟩ s n s'->(n,s')∈U:=by
 obtain⟨_,_,_,_,_,_,U,h1,h2⟩:=hM.vW;exact⟨U,by omega,λ⟨j,h⟩=>h2 j _ h⟩
theorem yK:Can prog 6 [aL T,bV k x,aq l,num s,num d] (λr=>∃b,r= .tuple [flag b,num 0]/\(b=true↔(¬qZ T (gi T k x l) ⟨0,s,d,0,[],0⟩ (sa T (gi T k x l) ⟨0,s,d,0,[],0⟩ s)/\¬nk T (gi T k x l) ⟨0,s,d,0,[],0⟩ s []))):=by
 have cS:T.nodes<=12:=by have:=hM.MN;omega
 obtain⟨hv,o⟩:=hM.valid;have hl:l.length<=1000:=by omega
 have g:=D5 (k:=k) (x:=x) hl cS hM.err hM.hs hM.hd;have t:((jP T k x l l.length).length:Int)=T.nodes:=by rw[lh];exact o
 have q:∀n:Nat,(n:Int)<T.nodes->(jP T k x l l.length)[n]? =some (gi T k x l n):=λn hn=>ta (by omega);obtain⟨U,j,z⟩:=hM.all;have R:=hM.OW;have a:=pd R hv cS z j (jP T k x l l.length) t q (pJ hv cS) (p:=⟨0,s,d,0,[],0⟩) ⟨0,.nil _⟩ rfl (λm s' h=>nV R h);by_cases f:¬qZ T (gi T k x l) ⟨0,s,d,0,[],0⟩ (sa T (gi T k x l) ⟨0,s,d,0,[],0⟩ s)/\¬nk T (gi T k x l) ⟨0,s,d,0,[],0⟩ s []
 ·have a:Can prog 14 [aL T,dP (jP T k x l l.length),dI ⟨0,s,d,0,[],0⟩,num s] (· = .tuple [flag true,num 0]):=a.mono λr h=>by
   rcases h with⟨_,h1⟩|⟨_,⟨_,h2⟩|⟨h2,_⟩⟩
   ·exact absurd h1 f.1
   ·exact absurd h2 f.2
   ·exact h2
  have⟨L,i⟩:=QQ (jP T k x l l.length);rw[i]at g a;refine aF func6 I ntmps6 I<|ab (.a 4 I<|.k [2,3,4,5,6] I)<|aK<|au 5 I<|ez I (g) I<|au 8 I<|aE [3,5,12,13,14] I ?_;refine ai<|ab (.a 2 I<|.k [3,5,12,13,14,27] I)<|ae I (λhc=>?_) (λhc=>?_)
  ·cases hc
  ·exact aj<|ab (.a 2 I<|.v (gj I (rfl) I) I<|.a 1 I<|.c rfl (a) I<|.a 5 I<|.k [14,15] I)<|ab (.a 7 I<|.k [10,11] I)<|ao<|⟨_,_,RY I,ax.pure (p:=.tuple [flag true,num 0]),true,rfl,λ_=>f,λ_=>rfl⟩
 ·have a:Can prog 14 [aL T,dP (jP T k x l l.length),dI ⟨0,s,d,0,[],0⟩,num s] (λr=>∃e:Int,r= .tuple [flag false,num e]):=a.mono λr h=>by
   rcases h with⟨h1,_⟩|⟨⟨v,c,h1⟩,⟨h2,_⟩|⟨_,h2⟩⟩
   ·exact⟨_,h1⟩
   ·exact⟨_,h2⟩
   ·exact absurd ⟨λ⟨m,s',u,w⟩=>h1.gv (nV R u) w,h2⟩ f
  have⟨L,i⟩:=QQ (jP T k x l l.length);rw[i]at g a;refine aF func6 I ntmps6 I<|ab (.a 4 I<|.k [2,3,4,5,6] I)<|aK<|au 5 I<|ez I (g) I<|au 8 I<|aE [3,5,12,13,14] I ?_;refine ai<|ab (.a 2 I<|.k [3,5,12,13,14,27] I)<|ae I (λhc=>?_) (λhc=>?_)
  ·cases hc
  ·refine aj<|aK<|au 2 I<|bm (gj I (rfl) I) I<|au 1 I<|cD I I (RT (U3 a) (λy σ' h=>?_));obtain⟨⟨e,rfl⟩,rfl⟩:=h;refine au 5 I<|aE [14,15] I ?_;exact ab (.a 7 I<|.k [10,11] I)<|ao<|⟨_,_,RY I,ax.pure (p:=.tuple [flag false,num 0]),false,rfl,λh=>(by cases h),λh=>absurd h f⟩
theorem wU:Can prog 8 [aL T,bV k x,aq l,num s,num d] (λr=>∃q e,r= .tuple [aq q,num e]/\Eu T (gi T k x l) ⟨0,s,d,0,[],0⟩ s q e):=by
 have cS:T.nodes<=12:=by have:=hM.MN;omega
 obtain⟨hv,P⟩:=hM.valid;have hl:l.length<=1000:=by omega
 have o:=D5 (k:=k) (x:=x) hl cS hM.err hM.hs hM.hd;have H:((jP T k x l l.length).length:Int)=T.nodes:=by rw[lh];exact P
 have G:∀n:Nat,(n:Int)<T.nodes->(jP T k x l l.length)[n]? =some (gi T k x l n):=λn hn=>ta (by omega);obtain⟨U,D,X⟩:=hM.all;have R:=hM.OW;have j:=pd R hv cS X D (jP T k x l l.length) H G (pJ hv cS) (p:=⟨0,s,d,0,[],0⟩) ⟨0,.nil _⟩ rfl (λm s' h=>nV R h);have i:=GO R hv cS X D (jP T k x l l.length) H G (pJ hv cS) (p:=⟨0,s,d,0,[],0⟩) ⟨0,.nil _⟩ rfl;have j:Can prog 14 [aL T,dP (jP T k x l l.length),dI ⟨0,s,d,0,[],0⟩,num s] (λr=>∃(b:Bool) (e:Int),r= .tuple [flag b,num e]/\(e≠0->e=16/\qZ T (gi T k x l) ⟨0,s,d,0,[],0⟩ (sa T (gi T k x l) ⟨0,s,d,0,[],0⟩ s))/\(e=0->¬qZ T (gi T k x l) ⟨0,s,d,0,[],0⟩ (sa T (gi T k x l) ⟨0,s,d,0,[],0⟩ s)/\(b=false->nk T (gi T k x l) ⟨0,s,d,0,[],0⟩ s [])/\(b=true->¬nk T (gi T k x l) ⟨0,s,d,0,[],0⟩ s []))):=j.mono λr h=>by
  rcases h with⟨rfl,h1⟩|⟨⟨v,c,h1⟩,⟨rfl,h2⟩|⟨rfl,h2⟩⟩
  ·exact⟨false,16,rfl,λ_=>⟨rfl,h1⟩,λh=>by cases h⟩
  ·exact⟨false,0,rfl,λh=>absurd rfl h,λ_=>⟨λ⟨m,s',B,C⟩=>h1.gv (nV R B) C,λ_=>h2,λh=>(by cases h)⟩⟩
  ·exact⟨true,0,rfl,λh=>absurd rfl h,λ_=>⟨λ⟨m,s',B,C⟩=>h1.gv (nV R B) C,λh=>(by cases h),λ_=>h2⟩⟩
 have⟨L,K⟩:=QQ (jP T k x l l.length);rw[K]at o j i;refine aF func8 I ntmps8 I<|ab (.a 4 I<|.k [2,3,4,5,6] I)<|aK<|au 5 I<|ez I (o) I<|au 8 I<|aE [3,5,12,13,14] I ?_;refine ai<|ab (.a 2 I<|.k [3,5,12,13,14,28] I)<|ae I (λhc=>?_) (λhc=>?_)
 ·cases hc
 ·refine aj<|aK<|au 2 I<|bm (gj I (rfl) I) I<|au 1 I<|cD I I (RT (U3 j) (λy σ' h=>?_));obtain⟨⟨b,e,rfl,Q,S⟩,rfl⟩:=h;refine au 5 I<|aE [3,5,12,13,14,15] I ?_;refine ai<|ab (.a 2 I<|.k [3,5,12,13,14,15,39] I)<|ae I (λhc=>?_) (λhc=>?_)
  ·obtain⟨rfl,O⟩:=Q (tt hc);exact ab (.a 3 I<|.k [10,11] I)<|ao<|⟨_,_,RY I,RW (QV ax.bH<|QV ax.pure Rl),[],16,rfl,.inl ⟨O,rfl,rfl⟩⟩
  ·have he:e=0:=by have:=ff hc;simpa using this
   subst he;obtain⟨a,M,N⟩:=S rfl;have i:=i a;refine aj<|ai<|ab (.a 2 I<|.k [3,5,12,13,42] I)<|ae I (λhc=>?_) (λhc=>?_)
   ·have hb:b=false:=by
     cases b with
     |false=>rfl
     |true=>cases hc
    exact ab (.a 2 I<|.k [10,11] I)<|ao<|⟨_,_,RY I,RW (QV ax.bH<|QV ax.pure Rl),[],8,rfl,.inr (.inl ⟨a,M hb,rfl,rfl⟩)⟩
   ·have hb:b=true:=by
     cases b with
     |true=>rfl
     |false=>cases hc
    have E:=N hb;refine aj<|aK<|au 4 I<|cD I I (RT (U3 i) (λy σ' h=>?_));obtain⟨h,rfl⟩:=h;obtain⟨rs,Y,rfl,o,f⟩:=GQ h;refine au 5 I<|aE [14,16] I ?_;haveI:=o;have⟨J,u⟩:=QQ (decide (Y≠0));have⟨W,w⟩:=QQ (decide (1<(rs.length:Int)));refine ai<|bz 57 (.raw (.bool (J||W))) [16] I ?_ ?_
    ·refine .a 1 I<|.v (bW I (u)) I<|.a 1 I<|?_;cases J
     ·exact .a 2 I<|.v (bW I (w)) I<|.a 1 I<|.k [57,16] I
     ·exact .a 4 I<|.k [57,16] I
    refine ae I (λhc=>?_) (λhc=>?_)
    ·have F:(J||W)=true:=hc;refine ab (.a 2 I<|.k [10,11] I)<|ao<|⟨_,_,RY I,RW (QV ax.bH<|QV ax.pure Rl),[],6,rfl,.inr (.inr ⟨a,E,?_⟩)⟩;obtain⟨c,g,⟨h1,h2⟩|⟨h1,h2,B⟩⟩:=f
     ·exact⟨c,g,.inl ⟨by omega,rfl,rfl⟩⟩
     ·refine⟨c,g,.inl ⟨λe=>?_,rfl,rfl⟩⟩;rw[<-u,<-w,h1,Rg (by simp),Td]at F;have:=tt F;omega
    ·have A:(J||W)=false:=hc;obtain⟨c,g,⟨h1,h2⟩|⟨h1,h2,B⟩⟩:=f
     ·rw[<-u,h2]at A;cases A
     have t:rs.length=1:=by
      obtain⟨_,C⟩:=Rt.1 A;rw[<-w]at C;have:=ff C;have Z:=(HM g).1;omega
     obtain⟨z,S⟩:∃z,rs=[z]:=S4.1 t;subst S;have V:=B z (by simp);exact aj<|ab (.a 1 I<|.v (aM _ rfl (hj:=rfl)) I<|.a 1 I<|.v (aJ I ((rfl:(sv [z])[2]? =some (aq z.2.2)))) I<|.a 2 I<|.k [10,11] I)<|ao<|⟨_,_,RY I,ax.pure (p:=.tuple [aq z.2.2,num 0]),z.2.2,0,rfl,.inr (.inr ⟨a,E,c,g,.inr ⟨by rw[t]at h2;omega,rfl,_,_,V⟩⟩)⟩
end
end
theorem rO(k x n:Int):Can prog 49 [bV k x,num n] (· =flag (uq k x n)):=by
 have⟨c,a⟩:=QQ (decide (k=2));have⟨d,b⟩:=QQ (decide (x=n));unfold uq;rw[a,b];refine aF func49 I ntmps49 I<|ab (.a 2 I<|.k [1,2] I)<|bz 4 (.raw (.bool (c&&d))) [] I ?_ ?_
 ·refine .a 2 I<|.v (bW I (a)) I<|.a 1 I<|?_;cases c
  ·exact .a 6 I<|.k [4] I
  ·exact .a 3 I<|.v (bW I (b)) I<|.a 2 I<|.k [4] I
 exact ao<|QR I ax.pure rfl
theorem Kv(T:ak)(k x:Int)(n:Nat):decide (((cI (az T k x) (bK T n)).length:Int)>0)=sO T k x n:=by
 unfold sO;cases h:(List.range (2*T.ah.length)).any λa=>aI (az T k x) a&&decide (aZ T a=(n:Int))with
 |true=>
  obtain⟨a,h1,h2⟩:=S0.1 h;obtain⟨b,c⟩:=Q3.1 h2;have h1:=Ri.1 h1;have hm:(a:Int)∈cI (az T k x) (bK T n):=by
   refine RK.2 ⟨jD.2 ⟨by rw[cH];omega,by rw[QS];exact Q5 c⟩,by rw[QS];exact b⟩
  have:=Ud hm;exact Rb (by omega)
 |false=>
  refine Rg λhp=>?_;obtain⟨a,d⟩:=Uo (show 0<(cI (az T k x) (bK T n)).length by omega);obtain⟨h1,h2⟩:=RK.1 d;obtain⟨b,c⟩:=jD.1 h1;obtain⟨e,f⟩:=cH.1 b;have:=UI.1 h a.toNat (Ri.2 (by omega));rw[h2,Rb c]at this;exact this rfl
theorem FX(T:ak)(k x:Int)(n:Nat)(d:(av T&&cd T k x)=true):Can prog 50 [aL T,bV k x,num n] (· =flag (!uq k x n&&sO T k x n)):=by
 have⟨g,e⟩:=QQ (uq k x n);have⟨c,a⟩:=QQ (sO T k x n);have b:=(Kv T k x n).trans a;rw[e,a];refine aF func50 I ntmps50 I<|ab (.a 3 I<|.k [2,3,4] I)<|ab (.a 3 I<|.c rfl (rN T k x n d) I<|.a 5 I<|.k [2,4,7] I)<|bz 6 (.raw (.bool (!g &&c))) [] I ?_ ?_
 ·refine .a 2 I<|.c rfl (e▸rO k x n) I<|.a 2 I<|?_;cases g
  ·exact .a 2 I<|.v (bW I (b)) I<|.a 2 I<|.k [6] I
  ·exact .a 5 I<|.k [6] I
 exact ao<|QR I ax.pure rfl
theorem Gi(T:ak)(k x:Int)(l:List Int)(hl:l.length<=1000):Can prog 26 [aL T,bV k x,aq l] (· =flag (ik T k x l)):=by
  have⟨U,d⟩:=QQ (av T&&cd T k x);have⟨X,m⟩:=QQ (decide ((l.length:Int)≠T.nodes));refine aF func26 I ntmps26 I<|ab (.a 3 I<|.k [2,3,4] I)<|ai<|bz 21 (.raw (.bool (!U ||X))) [2,3,4] I ?_ ?_
  · refine .a 2 I<|.c rfl (d▸iQ T k x) I<|.a 2 I<|?_;cases U
    · exact .a 6 I<|.k [21,2,3,4] I
    · exact .a 3 I<|.v (aJ I (rfl)) I<|.v (bW I (m)) I<|.a 1 I<|.k [21,2,3,4] I
  refine ae I (λhc=>?_) (λhc=>?_)
  · have P:ik T k x l=false:=by
      unfold ik;rw[d,QZ];intro h;obtain⟨h1,h2⟩:=Q3.1 h;rw[h1,<-m]at hc;have h2:=Q5 h2;simp[h2]at hc
    exact ab (.a 1 I<|.k [6] I)<|ao<|QR I ax.pure (by rw[P];rfl)
  · obtain ⟨h1, rfl⟩ := Rt.1 hc;have h1:U=true:=by simpa using h1
    subst h1;have O:(l.length:Int)=T.nodes:=by have:=ff m;simpa using this
    have W:ik T k x l=(eR k x (λn=>tf (iy l n)) l.length&&(eR k x (λn=>vT (sO T k x n) (iy l n)) l.length||eR k x (λn=>vK (iy l n)) l.length)):=by
      unfold ik;rw[QY (by rw[d,Rb O];rfl)]
    refine aj<|ab (.a 2 I<|.k [2,3,4,7,8] I)<|ai<|ab (.a 1 I<|.k [2,3,4,7,8,9] I)<|aw<|eF [2,3,4,7,8,9] I<|bd (λr st=>∃i,i<=l.length/\eR k x (λn=>tf (iy l n)) i=true/\r=l.length - i/\st=⟨[(2,aq l),(3,.bq (bn T) 0),(4,.bq (cN k x) 0),(7,flag (eR k x (λn=>vT (sO T k x n) (iy l n)) i)),(8,flag (eR k x (λn=>vK (iy l n)) i)),(9,num i)],[]⟩) l.length ⟨0,by omega,rfl,by omega,rfl⟩ ?_;rintro r st ⟨i,hi,o,rfl,rfl⟩;have e:=kg k x (λn=>vT (sO T k x n) (iy l n)) i;have f:=kg k x (λn=>vK (iy l n)) i;have a:=kg k x (λn=>tf (iy l n)) i;have⟨F,v⟩:=QQ (eR k x (λn=>vT (sO T k x n) (iy l n)) i);have⟨R,y⟩:=QQ (eR k x (λn=>vK (iy l n)) i);rw[v]at e ⊢;rw[y]at f ⊢;rw[o]at a;refine ai<|ab (.a 4 I<|.k [2,3,4,7,8,9,25] I)<|ae I (λhc=>?_) (λhc=>?_)
    · have z:i<l.length:=by have:=tt hc;omega
      have⟨g,L⟩:=QQ (uq k x i);have⟨c,q⟩:=QQ (sO T k x i);have⟨s,hs⟩:=QQ (iy l i);have Q:l.getD i 0=s:=hs;simp only[L,q,hs]at e f a;refine aj<|ai<|aw<|ab (.a 2 I<|.v (aM (i) I) I<|.v (aJ I ((aB l i z).trans (by rw[Q]))) I<|.a 1 I<|.k [2,3,4,7,8,9,10] I)<|ai<|ab (.a 2 I<|.c rfl (L▸rO k x i) I<|.k [2,3,4,7,8,9,10,34] I)<|ae I (λhc=>?_) (λhc=>?_)
      · rw[hc,Bool.true_or,Ut]at e f a;refine iB (aR (ks:=[2,3,4,7,8,9]) I)<|ba<|aC (.a 1 I<|.v (aW I) I<|.a 1 I<|.k [2,3,4,7,8,9] I) ?_;exact⟨l.length - (i+1),by omega,i+1,by omega,a,rfl,by rw[e,f];rfl⟩
      · have w:uq k x i=false:=L.trans hc;rw[hc,Td]at e f a;have b:=FX T k x i d;rw[w,q,TU,RM]at b;have⟨p0,D⟩:=QQ (decide (s<0));have⟨G,E⟩:=QQ (decide (s>3));have⟨n0,A⟩:=QQ (decide (s≠0));have⟨n1,j⟩:=QQ (decide (s≠1));have⟨S,B⟩:=QQ (decide (s≠3));have⟨H,t⟩:=QQ (decide (s=2));have⟨V,u⟩:=QQ (decide (s=3));have C:tf s=(!p0 && !G):=by
          unfold tf;rw[<-D,<-E];by_cases h1:0<=s<;>by_cases h2:s<=3<;>simp[h1,h2]<;>omega
        have K:vT c s=(S&&(n0|| !c)&&(n1||c)):=by
          unfold vT;rw[<-B,<-A,<-j];simp
        have N:vK s=(H||V):=by unfold vK;rw[t,u]
        rw[K]at e;rw[N]at f;rw[C]at a;refine aj<|ai<|bz 40 (.raw (.bool (p0||G))) [2,3,4,7,8,9,10] I ?_ ?_
        · refine .a 1 I<|.v (bW I (D)) I<|.a 1 I<|?_;cases p0
          · exact .a 1 I<|.v (bW I (E)) I<|.a 1 I<|.k [40,2,3,4,7,8,9,10] I
          · exact .a 3 I<|.k [40,2,3,4,7,8,9,10] I
        refine ae I (λhc=>?_) (λhc=>?_)
        · have p:eR k x (λn=>tf (iy l n)) l.length=false:=by
            refine zC z w ?_;show tf (iy l i)=false;rw[hs,C];cases p0<;>cases G<;>simp_all
          exact ab (.a 1 I<|.k [6] I)<|ao<|QR I ax.pure (by rw[W,p];rfl)
        · have J:eR k x (λn=>tf (iy l n)) (i+1)=true:=by
            rw[a];cases p0<;>cases G<;>simp_all
          clear a;have a:=J;refine aj<|bz 7 (.raw (.bool (F&&(S&&(n0|| !c)&&(n1||c))))) [2,3,4,8,9,10] I ?_ ?_
          · refine .a 2 I<|?_;cases F
            · exact .a 25 I<|.k [7,2,3,4,8,9,10] I
            · refine .a 1 I<|.v (bW I (B)) I<|.a 2 I<|?_;cases S
              · exact .a 21 I<|.k [7,2,3,4,8,9,10] I
              · refine .a 1 I<|.v (bW I (A)) I<|.a 1 I<|?_;cases n0
                · refine .a 3 I<|.c rfl (b) I<|.a 4 I<|?_;cases c
                  · refine .a 1 I<|.v (bW I (j)) I<|.a 1 I<|?_;cases n1
                    · exact .a 3 I<|.c rfl (b) I<|.a 3 I<|.k [7,2,3,4,8,9,10] I
                    · exact .a 7 I<|.k [7,2,3,4,8,9,10] I
                  · exact .a 10 I<|.k [7,2,3,4,8,9,10] I
                · refine .a 9 I<|.v (bW I (j)) I<|.a 1 I<|?_;cases n1
                  · exact .a 3 I<|.c rfl (b) I<|.a 3 I<|.k [7,2,3,4,8,9,10] I
                  · exact .a 7 I<|.k [7,2,3,4,8,9,10] I
          refine tF 8 (.raw (.bool (R&&(H||V)))) [2,3,4,7,9] I ?_ ?_
          · refine .a 2 I<|?_;cases R
            · exact .a 8 I<|.k [8,2,3,4,7,9] I
            · refine .a 1 I<|.v (bW I (t)) I<|.a 1 I<|?_;cases H
              · exact .a 1 I<|.v (bW I (u)) I<|.a 3 I<|.k [8,2,3,4,7,9] I
              · exact .a 5 I<|.k [8,2,3,4,7,9] I
          refine aC (.a 1 I<|.v (aW I) I<|.a 1 I<|.k [2,3,4,7,8,9] I)<|⟨l.length - (i+1),by omega,i+1,by omega,a,rfl,by rw[e,f];rfl⟩
    · have M:i=l.length:=by have:=ff hc;omega
      subst M;refine ba<|bz 6 (.raw (.bool (F||R))) [] I ?_ ?_
      · refine .a 2 I<|?_;cases F
        · exact .a 3 I<|.k [6] I
        · exact .a 3 I<|.k [6] I
      exact ao<|QR I ax.pure (by rw[W,o,v,y];rfl)
theorem zB{P:Program}{N L:Nat}{id:Nat}{l:List Oper}{y st}{Q a:Exit->St->Prop}(t':cq)(σ':ca)(hm:P.follows .mixedOrders=true)(b:∀s,W P N L y s a->Q .normal s)(h:WA P N L l.toArray l.length (Array.replicate l.length false) st (λs=>s.σ=σ'/\Sub s.t t'))(c:W P N L y ⟨t',σ'⟩ a):W P N L (.region id l.toArray true) st Q:=
 pV hm (h.mono λs hs=>by
  obtain⟨t,σ⟩:=s;obtain⟨h1,h2⟩:=hs;subst h1;exact b _ (iB h2 c))
theorem KT{T:ak}{n N:Nat}(hN:T.nodes=(N:Int)):gZ (.agg [num n,.slice N (dQ [.raw (.slice none 0 0),.raw (.bool false),.raw (.slice none 0 0)] N),aq (bK T n)]) (dW (sh T n)):=by
 have d:=xN N;have c:T.nodes.toNat=N:=by omega
 refine gZ.eQ ⟨rfl,λj a b h1 h2=>?_⟩
 match j,h1,h2 with
 |0,h1,h2=>cases h1;cases h2;exact Tv _
 |1,h1,h2=>
  cases h1;cases h2;show gZ (.slice N _) (.slice (List.replicate T.nodes.toNat (⟨[],false,[]⟩:jI)).length (dH (List.replicate T.nodes.toNat ⟨[],false,[]⟩)));rw[R6,c];exact gZ.Jr d.1.symm d.2
 |2,h1,h2=>cases h1;cases h2;exact Tv _
 |j+3,h1,h2=>exact absurd h1 (by simp)
theorem C2(T:ak)(k x:Int)(n:Nat)(s:Int)(V:(av T&&cd T k x)=true)(hn:(n:Int)<T.nodes)(cS:T.nodes<=12):Can prog 27 [aL T,bV k x,num n,num s] (· =dW (AI T k x n s)):=by
 have hv:=(Q3.1 V).1;have O:dy T k x=0:=by unfold dy;rw[QY V]
 have r:aX T n=true:=by rw[aQ];omega
 have aA:iV T k x n=0:=by unfold iV;rw[QY O,QY r]
 have ay:ct T [] [(n:Int)]=0:=by
  unfold ct;rw[hv];simp[bN,r]
 have h1:=Gq T n;rw[ay,iu,QS]at h1;have h2:=Gj T k x n cS;rw[QY O,QY r,iu,QS]at h2;have h4:=Ji T k x n cS;rw[QY O,QY r,iu,QS]at h4;have h5:=Gp T k x n;rw[aA,iu,QS]at h5;obtain⟨N,hN⟩:∃N:Nat,T.nodes=(N:Int):=⟨T.nodes.toNat,by omega⟩;have⟨g,hg⟩:=QQ (uq k x n);have b:AI T k x n s=if g=true then sh T n else mg T (az T k x) s n:=by unfold AI;rw[hg]
 have⟨X,hX⟩:=QQ (AI T k x n s);rw[hX]at b ⊢;refine aF func27 I ntmps27 I<|aK<|au 3 I<|aE [2,3,4,5,8] I ?_;refine aK<|au 1 I<|aE [2,3,4,5,8,9] I ?_;refine ai<|aw<|ab (.a 2 I<|.c rfl (hg▸rO k x n) I<|.a 1 I<|.k [2,3,4,5,8,9,17] I)<|ae I (λhc=>?_) (λhc=>?_)
 ·subst hc;rw[QY rfl]at b;have hle:=KT (n:=n) hN;rw[<-b]at hle;refine iB (aR (ks:=[2,4,8,9]) I)<|zB ([(8,.ptr 0 0),(9,.ptr 1 0)]) ([some (.cells 76 [num 0,.raw (.slice none 0 0),.raw (.slice none 0 0)]),some (.cells 76 [num n,.own 2,aq (bK T n)]),some (.row 120 3 N (dQ [.raw (.slice none 0 0),.raw (.bool false),.raw (.slice none 0 0)] N))]) mixed (λ_ h=>h) ?_ ?_
  ·refine tH [[(2,num n),(4,.bq (bn T) 0),(8,.ptr 0 0),(9,.ptr 1 0),(21,num n),(22,.bq (bn T) 0),(23,num (N:Int)),(24,.own 2),(25,aL T),(26,num n),(27,aq (bK T n)),(28,.agg [num n,.own 2,aq (bK T n)])]] [[some (.cells 76 [num 0,.raw (.slice none 0 0),.raw (.slice none 0 0)]),some (.cells 76 [num 0,.raw (.slice none 0 0),.raw (.slice none 0 0)])],[some (.cells 76 [num 0,.raw (.slice none 0 0),.raw (.slice none 0 0)]),some (.cells 76 [num 0,.raw (.slice none 0 0),.raw (.slice none 0 0)]),some (.row 120 3 N (dQ [.raw (.slice none 0 0),.raw (.bool false),.raw (.slice none 0 0)] N))],[some (.cells 76 [num 0,.raw (.slice none 0 0),.raw (.slice none 0 0)]),some (.cells 76 [num n,.own 2,aq (bK T n)]),some (.row 120 3 N (dQ [.raw (.slice none 0 0),.raw (.bool false),.raw (.slice none 0 0)] N))]] [2,4,8,9] I (by kernel_rfl) (λM hi a=>?_);have aB:M 0 511 0 [8,9] 2:=hi<|rb I (by kernel_rfl) (⟨rfl,aR (ks:=[8,9]) I⟩);have aC:M 1 255 0 [8,9,28] 1:=hi<|aa [(8,511)] I<|pU I I (eM I) I I (a aB) I I ag;have P:M 2 127 0 [8,9,21,24,27] 1:=hi<|aa [(7,255)] I<|an (a aC) I I ag;have t:M 3 63 0 [8,9,21,24,25,26] 1:=hi<|aa [(6,127)] I<|br I I (dX I (iP T hv n)) I (a P) I I ag;have Q:M 4 31 0 [2,8,9,21,24,25] 1:=hi<|aa [(5,63)] I<|an (a t) I I ag;have R:M 4 47 0 [4,8,9,21,24,26] 1:=hi<|aa [(4,63)] I<|an (a t) I I ag;have ar:M 5 15 0 [2,4,8,9,21,24] 1:=hi<|aa [(4,31),(5,47)] I<|an (a Q) I I<|an (a R) I I ag;have S:M 3 119 0 [8,9,21,23,27] 0:=hi<|aa [(3,127)] I<|cc I I (dc I (Ru I) I I (rfl:(N:Int)=(N:Int)) (rfl:(N:Int)=(N:Int)) ⟨by unfold maxLen;omega,by omega⟩) I (a P) I I ag;have u:M 4 55 0 [8,9,21,23,25,26] 0:=hi<|aa [(3,63),(6,119)] I<|cc I I (dc I (Ru I) I I (rfl:(N:Int)=(N:Int)) (rfl:(N:Int)=(N:Int)) ⟨by unfold maxLen;omega,by omega⟩) I (a t) I I<|br I I (dX I (iP T hv n)) I (a S) I I ag;have U:M 5 23 0 [2,8,9,21,23,25] 0:=hi<|aa [(3,31),(5,55)] I<|cc I I (dc I (Ru I) I I (rfl:(N:Int)=(N:Int)) (rfl:(N:Int)=(N:Int)) ⟨by unfold maxLen;omega,by omega⟩) I (a Q) I I<|an (a u) I I ag;have d:M 5 39 0 [4,8,9,21,23,26] 0:=hi<|aa [(3,47),(4,55)] I<|cc I I (dc I (Ru I) I I (rfl:(N:Int)=(N:Int)) (rfl:(N:Int)=(N:Int)) ⟨by unfold maxLen;omega,by omega⟩) I (a R) I I<|an (a u) I I ag;have v:M 6 7 0 [2,4,8,9,21,23] 0:=hi<|aa [(3,15),(4,23),(5,39)] I<|cc I I (dc I (Ru I) I I (rfl:(N:Int)=(N:Int)) (rfl:(N:Int)=(N:Int)) ⟨by unfold maxLen;omega,by omega⟩) I (a ar) I I<|an (a U) I I<|an (a d) I I ag;have e:M 4 115 0 [8,9,21,22,27] 0:=hi<|aa [(2,119)] I<|br I I (aJ I ((show some (num T.nodes)=some (num (N:Int)) by rw[hN]))) I (a S) I I ag;have c:M 5 51 0 [8,9,21,22,25,26] 0:=hi<|aa [(2,55),(6,115)] I<|br I I (aJ I ((show some (num T.nodes)=some (num (N:Int)) by rw[hN]))) I (a u) I I<|br I I (dX I (iP T hv n)) I (a e) I I ag;have f:M 6 19 0 [2,8,9,21,22,25] 0:=hi<|aa [(2,23),(5,51)] I<|br I I (aJ I ((show some (num T.nodes)=some (num (N:Int)) by rw[hN]))) I (a U) I I<|an (a c) I I ag;have i:M 6 35 0 [4,8,9,21,22,26] 0:=hi<|aa [(2,39),(4,51)] I<|br I I (aJ I ((show some (num T.nodes)=some (num (N:Int)) by rw[hN]))) I (a d) I I<|an (a c) I I ag;have w:M 7 3 0 [2,4,8,9,21,22] 0:=hi<|aa [(2,7),(4,19),(5,35)] I<|br I I (aJ I ((show some (num T.nodes)=some (num (N:Int)) by rw[hN]))) I (a v) I I<|an (a f) I I<|an (a i) I I ag;have y:M 5 113 0 [4,8,9,21,27] 0:=hi<|aa [(1,115)] I<|an (a e) I I ag;have l:M 6 49 0 [4,8,9,21,25,26] 0:=hi<|aa [(1,51),(6,113)] I<|an (a c) I I<|br I I (dX I (iP T hv n)) I (a y) I I ag;have z:M 7 17 0 [2,4,8,9,21,25] 0:=hi<|aa [(1,19),(5,49)] I<|an (a f) I I<|an (a l) I I ag;have A:M 7 33 0 [4,8,9,21,26] 0:=hi<|aa [(1,35),(4,49)] I<|an (a i) I I<|an (a l) I I ag;have W:M 8 1 0 [2,4,8,9,21] 0:=hi<|aa [(1,3),(4,17),(5,33)] I<|an (a w) I I<|an (a z) I I<|an (a A) I I ag;have B:M 3 126 0 [2,8,9,24,27] 1:=hi<|aa [(0,127)] I<|an (a P) I I ag;have m:M 4 62 0 [2,8,9,24,25,26] 1:=hi<|aa [(0,63),(6,126)] I<|an (a t) I I<|br I I (dX I (iP T hv n)) I (a B) I I ag;have C:M 5 30 0 [2,8,9,24,25] 1:=hi<|aa [(0,31),(5,62)] I<|an (a Q) I I<|an (a m) I I ag;have D:M 5 46 0 [2,4,8,9,24,26] 1:=hi<|aa [(0,47),(4,62)] I<|an (a R) I I<|an (a m) I I ag;have Y:M 6 14 0 [2,4,8,9,24] 1:=hi<|aa [(0,15),(4,30),(5,46)] I<|an (a ar) I I<|an (a C) I I<|an (a D) I I ag;have E:M 4 118 0 [2,8,9,23,27] 0:=hi<|aa [(0,119),(3,126)] I<|an (a S) I I<|cc I I (dc I (Ru I) I I (rfl:(N:Int)=(N:Int)) (rfl:(N:Int)=(N:Int)) ⟨by unfold maxLen;omega,by omega⟩) I (a B) I I ag;have o:M 5 54 0 [2,8,9,23,25,26] 0:=hi<|aa [(0,55),(3,62),(6,118)] I<|an (a u) I I<|cc I I (dc I (Ru I) I I (rfl:(N:Int)=(N:Int)) (rfl:(N:Int)=(N:Int)) ⟨by unfold maxLen;omega,by omega⟩) I (a m) I I<|br I I (dX I (iP T hv n)) I (a E) I I ag;have F:M 6 22 0 [2,8,9,23,25] 0:=hi<|aa [(0,23),(3,30),(5,54)] I<|an (a U) I I<|cc I I (dc I (Ru I) I I (rfl:(N:Int)=(N:Int)) (rfl:(N:Int)=(N:Int)) ⟨by unfold maxLen;omega,by omega⟩) I (a C) I I<|an (a o) I I ag;have G:M 6 38 0 [2,4,8,9,23,26] 0:=hi<|aa [(0,39),(3,46),(4,54)] I<|an (a d) I I<|cc I I (dc I (Ru I) I I (rfl:(N:Int)=(N:Int)) (rfl:(N:Int)=(N:Int)) ⟨by unfold maxLen;omega,by omega⟩) I (a D) I I<|an (a o) I I ag;have Z:M 7 6 0 [2,4,8,9,23] 0:=hi<|aa [(0,7),(3,14),(4,22),(5,38)] I<|an (a v) I I<|cc I I (dc I (Ru I) I I (rfl:(N:Int)=(N:Int)) (rfl:(N:Int)=(N:Int)) ⟨by unfold maxLen;omega,by omega⟩) I (a Y) I I<|an (a F) I I<|an (a G) I I ag;have H:M 5 114 0 [2,8,9,22,27] 0:=hi<|aa [(0,115),(2,118)] I<|an (a e) I I<|br I I (aJ I ((show some (num T.nodes)=some (num (N:Int)) by rw[hN]))) I (a E) I I ag;have q:M 6 50 0 [2,8,9,22,25,26] 0:=hi<|aa [(0,51),(2,54),(6,114)] I<|an (a c) I I<|br I I (aJ I ((show some (num T.nodes)=some (num (N:Int)) by rw[hN]))) I (a o) I I<|br I I (dX I (iP T hv n)) I (a H) I I ag;have J:M 7 18 0 [2,8,9,22,25] 0:=hi<|aa [(0,19),(2,22),(5,50)] I<|an (a f) I I<|br I I (aJ I ((show some (num T.nodes)=some (num (N:Int)) by rw[hN]))) I (a F) I I<|an (a q) I I ag;have K:M 7 34 0 [2,4,8,9,22,26] 0:=hi<|aa [(0,35),(2,38),(4,50)] I<|an (a i) I I<|br I I (aJ I ((show some (num T.nodes)=some (num (N:Int)) by rw[hN]))) I (a G) I I<|an (a q) I I ag;have ad:M 8 2 0 [2,4,8,9,22] 0:=hi<|aa [(0,3),(2,6),(4,18),(5,34)] I<|an (a w) I I<|br I I (aJ I ((show some (num T.nodes)=some (num (N:Int)) by rw[hN]))) I (a Z) I I<|an (a J) I I<|an (a K) I I ag;have af:M 6 112 0 [2,4,8,9,27] 0:=hi<|aa [(0,113),(1,114)] I<|an (a y) I I<|an (a H) I I ag;have L:M 7 48 0 [2,4,8,9,25,26] 0:=hi<|aa [(0,49),(1,50),(6,112)] I<|an (a l) I I<|an (a q) I I<|br I I (dX I (iP T hv n)) I (a af) I I ag;have ah:M 8 16 0 [2,4,8,9,25] 0:=hi<|aa [(0,17),(1,18),(5,48)] I<|an (a z) I I<|an (a J) I I<|an (a L) I I ag;have aj:M 8 32 0 [2,4,8,9,26] 0:=hi<|aa [(0,33),(1,34),(4,48)] I<|an (a A) I I<|an (a K) I I<|an (a L) I I ag;have al:M 9 0 0 [2,4,8,9] 0:=hi<|aa [(0,1),(1,2),(4,16),(5,32)] I<|an (a W) I I<|an (a ad) I I<|an (a ah) I I<|an (a aj) I I ag;exact al
  refine sc 2 (σ':=[some (.cells 76 [num 0,.raw (.slice none 0 0),.raw (.slice none 0 0)]),some (.cells 76 [num n,.slice N (dQ [.raw (.slice none 0 0),.raw (.bool false),.raw (.slice none 0 0)] N),aq (bK T n)]),none]) (t':=[(8,.ptr 0 0),(9,.ptr 1 0)]) (blk:=.row 120 3 N (dQ [.raw (.slice none 0 0),.raw (.bool false),.raw (.slice none 0 0)] N)) I ⟨rfl,rfl,λj hj=>by
   match j,hj with
   |0,_=>exact .inl rfl
   |1,_=>exact .inr ⟨_,_,rfl,rfl,.cells (.cons (.same _)<|.cons .own<|.cons (.same _) .nil)⟩
   |2,h=>exact absurd rfl h
   |_+3,_=>exact .inl rfl⟩ (.cons 8 rfl (.same _)<|.cons 9 rfl (.same _) .nil) ?_
  refine aK<|bm (sU (cC I (Q6 I) I I I) hle) I<|au 1 I<|aE [8] I ?_;exact ao<|QR I (ax.pure (p:=dW X)) rfl
 ·subst hc;rw[QZ (by decide)]at b;unfold mg at b;refine ab (.a 3 I<|.k [2,3,4,5,8,9,29] I)<|ae I (λhc=>?_) (λhc=>?_)
  ·rw[QY (tt hc)]at b;rw[<-b]at h1;have hle:gZ (dW X) (dW X):=Tv _;refine bx<|au 2 I<|ez I (h1) I<|au 4 I<|aE [8,9] I ?_;refine aK<|bm (sU (cC I (Q6 I) I I I) hle) I<|au 1 I<|aE [8] I ?_;exact ao<|QR I (ax.pure (p:=dW X)) rfl
  ·rw[QZ (ff hc)]at b;refine ab (.a 3 I<|.k [2,3,4,5,8,9,38] I)<|ae I (λhc=>?_) (λhc=>?_)
   ·rw[QY (tt hc)]at b;rw[<-b]at h2;have hle:gZ (dW X) (dW X):=Tv _;refine bx<|au 3 I<|ez I (h2) I<|au 4 I<|aE [8,9] I ?_;refine aK<|bm (sU (cC I (Q6 I) I I I) hle) I<|au 1 I<|aE [8] I ?_;exact ao<|QR I (ax.pure (p:=dW X)) rfl
   ·rw[QZ (ff hc)]at b;refine ab (.a 3 I<|.k [2,4,5,8,9,48] I)<|ae I (λhc=>?_) (λhc=>?_)
    ·rw[QY (tt hc)]at b;rw[<-b]at h4;have hle:gZ (dW X) (dW X):=Tv _;refine bx<|au 3 I<|ez I (h4) I<|au 4 I<|aE [8,9] I ?_;refine aK<|bm (sU (cC I (Q6 I) I I I) hle) I<|au 1 I<|aE [8] I ?_;exact ao<|QR I (ax.pure (p:=dW X)) rfl
    ·rw[QZ (ff hc)]at b;rw[<-b]at h5;have hle:gZ (dW X) (dW X):=Tv _;refine bx<|au 3 I<|ez I (h5) I<|au 4 I<|aE [8,9] I ?_;refine aK<|bm (sU (cC I (Q6 I) I I I) hle) I<|au 1 I<|aE [8] I ?_;exact ao<|QR I (ax.pure (p:=dW X)) rfl
theorem Gm(T:ak)(k x:Int)(l:List Int)(hl:l.length<=1000)(cS:T.nodes<=12):Can prog 15 [aL T,bV k x,aq l] (· =Ei (sP T k x l) (jP T k x l l.length)):=by
 have⟨c,a⟩:=QQ (av T&&cd T k x);have⟨g,b⟩:=QQ (decide ((l.length:Int)≠T.nodes));have⟨v,e⟩:=QQ (ik T k x l);have z:sP T k x l=if(c&& !g)=true then(if v=true then 0 else 7) else 1:=by
  unfold sP;rw[a,e,<-b];simp
 rw[z];refine aF func15 I ntmps15 I<|ab (.a 4 I<|.k [2,3,4] I)<|ai<|bz 20 (.raw (.bool (!c ||g))) [2,3,4] I ?_ ?_
 ·refine .a 2 I<|.c rfl (a▸iQ T k x) I<|.a 2 I<|?_;cases c
  ·exact .a 6 I<|.k [20,2,3,4] I
  ·exact .a 3 I<|.v (aJ I (rfl)) I<|.v (bW I (b)) I<|.a 1 I<|.k [20,2,3,4] I
 refine ae I (λhc=>?_) (λhc=>?_)
 ·have t:(c&& !g)=false:=by cases c<;>cases g<;>simp_all
  exact ab (.a 2 I<|.k [6,7] I)<|ao<|QR I (RW (QV ax.bH (QV ax.pure Rl))) (by rw[t];rfl)
 ·obtain⟨h1,rfl⟩:=Rt.1 hc;have h1:c=true:=by simpa using h1
  subst h1;have o:(l.length:Int)=T.nodes:=by have:=ff b;simpa using this
  refine aj<|ai<|ab (.a 3 I<|.c rfl (e▸Gi T k x l hl) I<|.a 1 I<|.k [2,3,4,25] I)<|ae I (λhc=>?_) (λhc=>?_)
  ·have h:v=false:=by simpa using hc
   subst h;exact ab (.a 2 I<|.k [6,7] I)<|ao<|QR I (RW (QV ax.bH (QV ax.pure Rl))) rfl
  ·have h:v=true:=by simpa using hc
   subst h;refine aj<|ab (.a 1 I<|.k [2,3,4,8] I)<|ai<|ab (.a 1 I<|.k [2,3,4,8,9] I)<|eU 8 76 3 I ?_;refine aw<|eF [2,3,4,8,9] I<|bd (λr s=>∃i,i<=l.length/\r=l.length - i/\s=⟨[(2,aq l),(3,.bq (bn T) 0),(4,.bq (cN k x) 0),(8,.own 0),(9,num i)],[some (.row 76 3 i (oa (jP T k x l i)))]⟩) l.length ⟨0,by omega,by omega,rfl⟩ ?_;rintro r s ⟨i,hi,rfl,rfl⟩;refine ai<|ab (.a 2 I<|.v (aJ I ((show some (num T.nodes)=some (num (l.length:Int)) by rw[o]))) I<|.a 1 I<|.k [2,3,4,8,9,29] I)<|ae I (λhc=>?_) (λhc=>?_)
   ·have p:i<l.length:=by have:=tt hc;omega
    have n:(i:Int)<T.nodes:=by omega
    have⟨s,hs⟩:=QQ (iy l i);have u:l.getD i 0=s:=hs;have y:jP T k x l (i+1)=jP T k x l i++[AI T k x i s]:=by rw[AH,hs]
    have f:=C2 T k x i s a n cS;have q:(jP T k x l i).length=i:=lh;have⟨L,w⟩:=QQ (jP T k x l i);have⟨X,d⟩:=QQ (AI T k x i s);rw[w,d]at y;rw[w]at q ⊢;rw[d]at f;refine aj<|ai<|aw<|dh 10 20 mixed (.val [8] I (bb I) I I<|.val [3] I (bb I) I I<|.val [4] I (bb I) I I<|.val [9] I (bb I) I I<|.val [2] I (bb I) I I<|.val [9] I (bb I) I I<|.val [36,37] I (aM (i) I) I I<|.val [38] I (aJ I ((aB l i p).trans (by rw[u]))) I I<|.val [33,34,35,39] I (dX I (f)) I I<|.val [40] I (bb I) I I<|.nil) (by kernel_rfl) I I (aR (ks:=[2,3,4,9,32,41]) I) ?_;refine cb (bF I (Ru I) I I I I (by unfold maxLen;omega)) I<|au 1 I<|aE [2,3,4,8,9] I ?_;refine dS [1] (.c 2<|.c 3<|.c 4<|.cons 8 I (.own (i:=0) (j:=1) I)<|.c 9<|.nil) (.kept rfl (.row RZ) .nil) I I<|aC (.a 1 I<|.v (aW I) I<|.a 1 I<|.k [2,3,4,8,9] I) ?_;exact⟨l.length - (i+1),by omega,i+1,by omega,rfl,by rw[y,<-pI];rfl⟩
   ·have m:i=l.length:=by have:=ff hc;omega
    subst m;exact ba<|ab (.a 3 I<|.k [6,7] I)<|ao<|QR I (RW (QV (Tj rfl Sj) (QV ax.pure Rl))) (by show PV.tuple [.slice l.length (oa (jP T k x l l.length)),num 0]= .tuple [dP (jP T k x l l.length),num 0];unfold dP;rw[lh])
end
end PW
end Go.Proofs.YtoopjinigmhpcaaGreatDoor
