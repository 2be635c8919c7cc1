/- MixtureFollows returns true for every input: in permitted states every packet to a safe destination that can be reached arrives over every branch, if the component is covered. Package-level tables start as the program's text lays them. -/
import Derived.Test.YtoopjinigmhpcaaGreatDoorCardXFB10
set_option maxRecDepth 100000
set_option maxHeartbeats 4000000
namespace Go.Proofs.YtoopjinigmhpcaaGreatDoor
open Go.Proofs.Tryz
namespace PW
section
open Go.RowKit cG Mem Net eE
theorem Can.Qm{P f ps d}{R:PV->Prop}(h:af [] ps d)(hc:Can P f d R):Can P f ps R:=λF w vs e g hr=>hc F w vs e g ⟨hr.1.trans h.1,λj c u i b=>by
 have a:j<ps.length:=by rw[h.1];exact(QT.1 b).1
 exact(h.2 j ps[j] u (by simp[a]) b).plain c (hr.2 j c _ i (by simp[a]))⟩
def OM(s d:Int):PV:=.agg [num 0,num s,num d,num 0,.raw (.slice none 0 0),num 0]
instance (s d:Int):IsPure (OM s d):=by unfold OM;infer_instance
theorem D4(s d:Int):ax [] (OM s d) (dI ⟨0,s,d,0,[],0⟩):=TI (QV ax.pure<|QV ax.pure<|QV ax.pure<|QV ax.pure<|QV ax.bH<|QV ax.pure Rl)
theorem LP{rs}{i:Nat}{z}(j:Nat)(h:rs[i]? =some z)(hj:j<3){v}(hv:(AZ z)[j]? =some v):(lZ rs)[i*3+j]? =some v:=(flat_get AZ 3 (λ_=>rfl) rs i j z h hj).trans hv
theorem mN(T:ak)(k x:Int)(l:List Int)(hl:l.length<=1000)(cS:T.nodes<=12):Can prog 15 [aL T,bV k x,aq l] (· = .tuple [dP (CM T k x l),num (sP T k x l)]):=by
 have h:=Gm T k x l hl cS;unfold Ei at h;unfold CM;exact h
theorem zL{T:ak}{k x:Int}{l:List Int}{s d:Int}(h:sP T k x l=0)(h2:rK T k x l s d≠0):rK T k x l s d=2/\(((decide (s<0)||decide (T.nodes<=s))||decide (d<0))||decide (T.nodes<=d))=true:=by
 unfold rK at h2 ⊢;rw[QY h]at h2 ⊢;by_cases a:(aX T s&&aX T d)=true
 ·rw[QY a]at h2;exact absurd rfl h2
 ·rw[QZ a];refine⟨rfl,?_⟩;unfold aX at a;simp only[Q7,Ra,RX]at a ⊢;omega
theorem Fb{T:ak}{k x:Int}{l:List Int}{s d:Int}(h:rK T k x l s d=0):sP T k x l=0/\0<=s/\s<T.nodes/\0<=d/\d<T.nodes:=by
 unfold rK at h;by_cases h1:sP T k x l=0
 ·rw[QY h1]at h;by_cases b:(aX T s&&aX T d)=true
  ·obtain⟨h2,a⟩:=Q3.1 b;rw[aQ]at h2 a;exact⟨h1,h2.1,h2.2,a⟩
  ·rw[QZ b]at h;cases h
 ·rw[QZ h1]at h;exact absurd h h1
theorem FV(T:ak)(k x:Int)(l:List Int)(s d:Int)(hl:l.length<=1000)(cS:T.nodes<=12)(q:rK T k x l s d≠0):Can prog 7 [aL T,bV k x,aq l,num s,num d] (· = .tuple [flag false,num (rK T k x l s d)]):=by
 have o:=mN T k x l hl cS;have a:=zL (T:=T) (k:=k) (x:=x) (l:=l) (s:=s) (d:=d);have⟨E,b⟩:=QQ (rK T k x l s d);have c:sP T k x l≠0->E=sP T k x l:=λh=>by rw[<-b];unfold rK;rw[QZ h]
 rw[b]at q a ⊢;have⟨e,he⟩:=QQ (sP T k x l);have⟨L,v⟩:=QQ (CM T k x l);have⟨r,f⟩:=QQ (decide (s<0));have⟨t,g⟩:=QQ (decide (T.nodes<=s));have⟨u,i⟩:=QQ (decide (d<0));have⟨w,j⟩:=QQ (decide (T.nodes<=d));rw[he]at o a c;rw[v]at o;rw[f,g,i,j]at a;refine aF func7 I ntmps7 I<|ab (.a 4 I<|.k [2,3,4,5,6] I)<|ab (.a 3 I<|.c rfl (o) I<|.a 5 I<|.k [3,4,5,12,13] I)<|ai<|ab (.a 2 I<|.k [3,4,5,12,13,24] I)<|ae I (λhc=>?_) (λhc=>?_)
 ·have hx:=c (tt hc);subst hx;exact ab (.a 3 I<|.k [10,11] I)<|ao<|QR I (ax.pure (p:=.tuple [flag false,num E])) rfl
 ·have m:e=0:=by have:=ff hc;simpa using this
  obtain⟨rfl,n⟩:=a m q;refine aj<|ai<|bz 43 (.raw (.bool (((r||t)||u)||w))) [3,4,5,12] I ?_ ?_
  ·refine .a 1 I<|.v (bW I (f)) I<|.a 1 I<|?_;cases r
   ·refine .a 2 I<|.v (aJ I (rfl)) I<|.v (bW I (g)) I<|.a 2 I<|?_;cases t
    ·refine .a 1 I<|.v (bW I (i)) I<|.a 2 I<|?_;cases u
     ·exact .a 2 I<|.v (aJ I (rfl)) I<|.v (bW I (j)) I<|.a 1 I<|.k [43,3,4,5,12] I
     ·exact .a 5 I<|.k [43,3,4,5,12] I
    ·exact .a 9 I<|.k [43,3,4,5,12] I
   ·exact .a 15 I<|.k [43,3,4,5,12] I
  refine ae I (λhc=>?_) (λhc=>?_)
  ·exact ab (.a 2 I<|.k [10,11] I)<|ao<|QR I (ax.pure (p:=.tuple [flag false,num 2])) rfl
  ·rw[n]at hc;cases hc
theorem CZ(T:ak)(k x:Int)(l:List Int)(s d:Int)(hl:l.length<=1000)(cS:T.nodes<=12)(p:rK T k x l s d≠0):Can prog 9 [aL T,bV k x,aq l,num s,num d] (· = .tuple [aq [],num (rK T k x l s d)]):=by
 have o:=mN T k x l hl cS;have a:=zL (T:=T) (k:=k) (x:=x) (l:=l) (s:=s) (d:=d);have⟨E,b⟩:=QQ (rK T k x l s d);have c:sP T k x l≠0->E=sP T k x l:=λh=>by rw[<-b];unfold rK;rw[QZ h]
 rw[b]at p a ⊢;have⟨e,he⟩:=QQ (sP T k x l);have⟨L,u⟩:=QQ (CM T k x l);have⟨q,f⟩:=QQ (decide (s<0));have⟨r,g⟩:=QQ (decide (T.nodes<=s));have⟨t,i⟩:=QQ (decide (d<0));have⟨v,j⟩:=QQ (decide (T.nodes<=d));rw[he]at o a c;rw[u]at o;rw[f,g,i,j]at a;refine aF func9 I ntmps9 I<|ab (.a 4 I<|.k [2,3,4,5,6] I)<|ab (.a 3 I<|.c rfl (o) I<|.a 5 I<|.k [3,4,5,12,13] I)<|ai<|ab (.a 2 I<|.k [3,4,5,12,13,26] I)<|ae I (λhc=>?_) (λhc=>?_)
 ·have hx:=c (tt hc);subst hx;exact ab (.a 3 I<|.k [10,11] I)<|ao<|QR I (RW (QV ax.bH (QV ax.pure Rl))) rfl
 ·have m:e=0:=by have:=ff hc;simpa using this
  obtain⟨rfl,n⟩:=a m p;refine aj<|ai<|bz 45 (.raw (.bool (((q||r)||t)||v))) [3,4,5,12] I ?_ ?_
  ·refine .a 1 I<|.v (bW I (f)) I<|.a 1 I<|?_;cases q
   ·refine .a 2 I<|.v (aJ I (rfl)) I<|.v (bW I (g)) I<|.a 2 I<|?_;cases r
    ·refine .a 1 I<|.v (bW I (i)) I<|.a 2 I<|?_;cases t
     ·exact .a 2 I<|.v (aJ I (rfl)) I<|.v (bW I (j)) I<|.a 1 I<|.k [45,3,4,5,12] I
     ·exact .a 5 I<|.k [45,3,4,5,12] I
    ·exact .a 9 I<|.k [45,3,4,5,12] I
   ·exact .a 15 I<|.k [45,3,4,5,12] I
  refine ae I (λhc=>?_) (λhc=>?_)
  ·exact ab (.a 2 I<|.k [10,11] I)<|ao<|QR I (RW (QV ax.bH (QV ax.pure Rl))) rfl
  ·rw[n]at hc;cases hc
theorem Fx(T:ak)(k x:Int)(l:List Int)(s d:Int)(hl:l.length<=1000)(cS:T.nodes<=12)(b:rK T k x l s d≠0):Can prog 6 [aL T,bV k x,aq l,num s,num d] (· = .tuple [flag false,num (rK T k x l s d)]):=by
 have h:=rG T k x l s d hl cS;have⟨E,a⟩:=QQ (rK T k x l s d);have⟨L,c⟩:=QQ (CM T k x l);rw[a]at b h ⊢;rw[c]at h;refine aF func6 I ntmps6 I<|ab (.a 4 I<|.k [2,3,4,5,6] I)<|aK<|au 5 I<|ez I (h) I<|au 8 I<|aE [3,5,12,13,14] I ?_;refine ai<|ab (.a 2 I<|.k [3,5,12,13,14,27] I)<|ae I (λhc=>?_) (λhc=>?_)
 ·exact ab (.a 3 I<|.k [10,11] I)<|ao<|QR I (ax.pure (p:=.tuple [flag false,num E])) rfl
 ·rw[Rb b]at hc;cases hc
theorem Cx(T:ak)(k x:Int)(l:List Int)(s d:Int)(hl:l.length<=1000)(cS:T.nodes<=12)(b:rK T k x l s d≠0):Can prog 8 [aL T,bV k x,aq l,num s,num d] (· = .tuple [aq [],num (rK T k x l s d)]):=by
 have h:=rG T k x l s d hl cS;have⟨E,a⟩:=QQ (rK T k x l s d);have⟨L,c⟩:=QQ (CM T k x l);rw[a]at b h ⊢;rw[c]at h;refine aF func8 I ntmps8 I<|ab (.a 4 I<|.k [2,3,4,5,6] I)<|aK<|au 5 I<|ez I (h) I<|au 8 I<|aE [3,5,12,13,14] I ?_;refine ai<|ab (.a 2 I<|.k [3,5,12,13,14,28] I)<|ae I (λhc=>?_) (λhc=>?_)
 ·exact ab (.a 3 I<|.k [10,11] I)<|ao<|QR I (RW (QV ax.bH (QV ax.pure Rl))) rfl
 ·rw[Rb b]at hc;cases hc
section
variable {T:ak} {tb:Nat->cQ} {p0:dq}
theorem Kf{n e:Nat}{s}{q:List Int}{w:Int}(h:Br T tb p0 n s q e w):w≠ -1->nk T tb p0 n s:=by
 induction h with
 | @stop n s h0=>exact λhw=>⟨n,s,.inl rfl,h0,hw⟩
 | @go n m e s a p w f hm _ g=>
  intro hw;obtain⟨i,s',h1,h2,d⟩:=g hw;refine⟨i,s',.inr ?_,h2,d⟩;have hb:om T tb p0 n s m (fX T (tb n) (cu p0 s)).eJ.stack:=.one f hm;rcases h1 with h1|h1
  ·injection h1 with b c;subst b;subst c;exact hb
  ·exact hb.trans h1
end
section
variable {T:ak} {k x:Int} {l:List Int} {s d:Nat} (hM:Mz T k x l s d)
include hM
theorem xj:Can prog 16 [aL T,dP (jP T k x l l.length),OM s d,num s] (λr=>∃(b:Bool) (e:Int),r= .tuple [flag b,num e]/\(b=true↔(¬qZ T (gi T k x l) ⟨0,s,d,0,[],0⟩ (sa T (gi T k x l) ⟨0,s,d,0,[],0⟩ s)/\¬nk T (gi T k x l) ⟨0,s,d,0,[],0⟩ s []))):=by
 have cS:T.nodes<=12:=by have:=hM.MN;omega
 obtain⟨hv,f⟩:=hM.valid;have j:((jP T k x l l.length).length:Int)=T.nodes:=by rw[lh];exact f
 have i:∀n:Nat,(n:Int)<T.nodes->(jP T k x l l.length)[n]? =some (gi T k x l n):=λn hn=>ta (by omega);obtain⟨U,a,t⟩:=hM.all;have R:=hM.OW;refine UB (Can.Qm (QV ax.pure<|QV ax.pure<|QV (D4 _ _)<|QV ax.pure Rl) (yB R hv cS t a (jP T k x l l.length) j i (pJ hv cS) (p:=⟨0,s,d,0,[],0⟩) ⟨0,.nil _⟩ rfl)) λr ⟨b,e,hr,h⟩=>⟨b,e,hr,?_⟩;rcases h with⟨rfl,_,h1⟩|⟨_,L,iL,g,c,C,⟨rfl,h1⟩|⟨rfl,h1⟩⟩
 ·exact⟨λh=>(by cases h),λh=>absurd h1 h.1⟩
 ·exact⟨λh=>(by cases h),λh=>absurd ((C.lost R hM.vW).1 h1) h.2⟩
 ·refine⟨λ_=>⟨C.IH R hM.vW,λh=>?_⟩,λ_=>rfl⟩;obtain⟨u,q,h2,m,o⟩:=(C.lost R hM.vW).2 h;exact o (h1 u q h2 m)
theorem FU:Can prog 18 [aL T,dP (jP T k x l l.length),OM s d,num s] (λr=>∃(rs:List Rz) (e:Int),r= .tuple [qB rs,num e]/\rs.length<=1000/\((e=16/\qZ T (gi T k x l) ⟨0,s,d,0,[],0⟩ (sa T (gi T k x l) ⟨0,s,d,0,[],0⟩ s))\/
  ((e=0\/(e=6/\rs=[]))/\¬qZ T (gi T k x l) ⟨0,s,d,0,[],0⟩ (sa T (gi T k x l) ⟨0,s,d,0,[],0⟩ s)/\((nk T (gi T k x l) ⟨0,s,d,0,[],0⟩ s []/\(e=0->∃z∈rs,z.dJ≠ -1))\/(¬nk T (gi T k x l) ⟨0,s,d,0,[],0⟩ s []/\(∀z∈rs,z.dJ= -1)/\∃c,Cn T (gi T k x l) ⟨0,s,d,0,[],0⟩ s [] c/\((rs=[]/\1000<c)\/((rs.length:Int)=c/\∀z∈rs,∃(n:Nat),Br T (gi T k x l) ⟨0,s,d,0,[],0⟩ s [] z.path n z.dJ))))))):=by
 have cS:T.nodes<=12:=by have:=hM.MN;omega
 obtain⟨hv,t⟩:=hM.valid;have A:((jP T k x l l.length).length:Int)=T.nodes:=by rw[lh];exact t
 have y:∀n:Nat,(n:Int)<T.nodes->(jP T k x l l.length)[n]? =some (gi T k x l n):=λn hn=>ta (by omega);obtain⟨U,o,K⟩:=hM.all;have R:=hM.OW;refine UB (Can.Qm (QV ax.pure<|QV ax.pure<|QV (D4 _ _)<|QV ax.pure Rl) (H5 R hv cS K o (jP T k x l l.length) A y (pJ hv cS) (p:=⟨0,s,d,0,[],0⟩) ⟨0,.nil _⟩ rfl)) λr ⟨rs,e,hr,hl,h⟩=>⟨rs,e,hr,hl,?_⟩;rcases h with⟨_,h1,h2⟩|⟨L,iL,g,c,C,h⟩
 ·exact .inl ⟨h1,h2⟩
 refine .inr ⟨?_,C.IH R hM.vW,?_⟩
 ·rcases h with⟨h1,h2,_⟩|⟨h1,_⟩
  ·exact .inr ⟨h2,h1⟩
  ·exact .inl h1
 by_cases b:nk T (gi T k x l) ⟨0,s,d,0,[],0⟩ s []
 ·refine .inl ⟨b,λD=>?_⟩;rcases h with⟨_,h2,_⟩|⟨_,_,_,a⟩
  ·rw[D]at h2;cases h2
  ·obtain⟨B,q,j,F,G⟩:=(C.lost R hM.vW).2 b;obtain⟨z,H,J⟩:=a B q (C.MI B (QT.1 j).1) F j;exact⟨z,H,by rw[J];exact G⟩
 ·have hi:iL=L.length:=Q4 λhi=>b (C.cut R hM.vW hi);obtain⟨M,u,v,w⟩:=C.first;have f:=C.QK hi C.cn u;rw[v,w]at f;refine .inr ⟨b,λz i=>?_,c,f,?_⟩
  ·rcases h with⟨h1,_⟩|⟨_,_,m,_⟩
   ·rw[h1]at i;cases i
   ·obtain⟨_,_,_,a⟩:=m z i;exact Q4 λhw=>b (Kf (a hi) hw)
  ·rcases h with⟨h1,_,h2⟩|⟨_,h2,m,_⟩
   ·exact .inl ⟨h1,h2⟩
   ·refine .inr ⟨h2,λz i=>?_⟩;obtain⟨q,E,a,j⟩:=m z i;exact⟨E,a▸j hi⟩
theorem vX:Can prog 7 [aL T,bV k x,aq l,num s,num d] (λr=>∃b,r= .tuple [flag b,num 0]/\(b=true↔(¬qZ T (gi T k x l) ⟨0,s,d,0,[],0⟩ (sa T (gi T k x l) ⟨0,s,d,0,[],0⟩ s)/\¬nk T (gi T k x l) ⟨0,s,d,0,[],0⟩ s []))):=by
 have cS:T.nodes<=12:=by have:=hM.MN;omega
 have hs:=hM.hs;have hd:=hM.hd;have hl:l.length<=1000:=by have:=hM.valid.2;omega
 have c:=mN T k x l hl cS;have a:=xj hM;have h2:CM T k x l=jP T k x l l.length:=by unfold CM;rw[QY hM.err]
 rw[h2,hM.err]at c;have⟨L,f⟩:=QQ (jP T k x l l.length);rw[f]at c a;refine aF func7 I ntmps7 I<|ab (.a 4 I<|.k [2,3,4,5,6] I)<|ab (.a 3 I<|.c rfl (c) I<|.a 5 I<|.k [3,4,5,12,13] I)<|ai<|ab (.a 2 I<|.k [3,4,5,12,13,24] I)<|ae I (λhc=>?_) (λhc=>?_)
 ·cases hc
 ·refine aj<|ai<|ab (.a 1 I<|.v (bW I ((Rg (by omega)))) I<|.a 3 I<|.v (aJ I (rfl)) I<|.v (bW I ((Rg (by omega)))) I<|.a 3 I<|.v (bW I ((Rg (by omega)))) I<|.a 4 I<|.v (aJ I (rfl)) I<|.v (bW I ((Rg (by omega)))) I<|.a 1 I<|.k [3,4,5,12,43] I)<|ae I (λhc=>?_) (λhc=>?_)
  ·cases hc
  ·refine aj<|aK<|bm (gj I (rfl) I) I<|au 5 I<|cD I I (RT (U3 a) (λy σ' h=>?_));obtain⟨⟨b,e,rfl,hb⟩,rfl⟩:=h;refine au 5 I<|aE [14] I ?_;exact ab (.a 3 I<|.k [10,11] I)<|ao<|⟨_,_,RY I,ax.pure (p:=.tuple [flag b,num 0]),b,rfl,hb⟩
theorem C0:Can prog 9 [aL T,bV k x,aq l,num s,num d] (λr=>∃q e,r= .tuple [aq q,num e]/\Eu T (gi T k x l) ⟨0,s,d,0,[],0⟩ s q e):=by
  have cS:T.nodes<=12:=by have:=hM.MN;omega
  have hs:=hM.hs;have hd:=hM.hd;have hl:l.length<=1000:=by have:=hM.valid.2;omega
  have R:=mN T k x l hl cS;have G:=xj hM;have E:=FU hM;have h2:CM T k x l=jP T k x l l.length:=by unfold CM;rw[QY hM.err]
  rw[h2,hM.err]at R;have⟨L,S⟩:=QQ (jP T k x l l.length);rw[S]at R G E;refine aF func9 I ntmps9 I<|ab (.a 4 I<|.k [2,3,4,5,6] I)<|ab (.a 3 I<|.c rfl (R) I<|.a 5 I<|.k [3,4,5,12,13] I)<|ai<|ab (.a 2 I<|.k [3,4,5,12,13,26] I)<|ae I (λhc=>?_) (λhc=>?_)
  · cases hc
  · refine aj<|ai<|ab (.a 1 I<|.v (bW I ((Rg (by omega)))) I<|.a 3 I<|.v (aJ I (rfl)) I<|.v (bW I ((Rg (by omega)))) I<|.a 3 I<|.v (bW I ((Rg (by omega)))) I<|.a 4 I<|.v (aJ I (rfl)) I<|.v (bW I ((Rg (by omega)))) I<|.a 1 I<|.k [3,4,5,12,45] I)<|ae I (λhc=>?_) (λhc=>?_)
    · cases hc
    · refine aj<|aK<|bm (gj I (rfl) I) I<|au 5 I<|cD I I (RT (U3 E) (λy σ' h=>?_));obtain⟨⟨rs,e,rfl,W,a⟩,rfl⟩:=h;refine au 5 I<|aE [3,4,5,12,13,14] I ?_;refine ai<|ab (.a 2 I<|.k [3,4,5,12,13,14,57] I)<|ae I (λhc=>?_) (λhc=>?_)
      · have he:e=16:=tt hc;subst he;have N:=a.elim (·.2) (λh=>absurd h.1 (by simp));exact ab (.a 3 I<|.k [10,11] I)<|ao<|⟨_,_,RY I,RW (QV ax.bH<|QV ax.pure Rl),[],16,rfl,.inl ⟨N,rfl,rfl⟩⟩
      · obtain ⟨U, g, a⟩ := a.elim (λh => absurd h.1 (ff hc)) id;refine aj<|ai<|ab (.a 1 I<|.k [3,4,5,12,13,14,15] I)<|aw<|eF [3,4,5,12,13,14,15] I<|bd (λr st=>∃i:Nat,i<=rs.length/\r=rs.length - i/\(∀(k:Nat) (z:Rz),k<i->rs[k]? =some z->z.dJ= -1)/\st=⟨[(3,num s),(4,num d),(5,.bq (bn T) 0),(12,dP L),(13,num e),(14,qB rs),(15,num i)],[]⟩) rs.length ⟨0,by omega,by omega,λk q hk=>absurd hk (SK k),rfl⟩ ?_;rintro r st ⟨i,hi,rfl,H,rfl⟩;refine ai<|ab (.a 4 I<|.k [3,4,5,12,13,14,15,62] I)<|ae I (λA=>?_) (λA=>?_)
        · have Q:i<rs.length:=by have:=tt A;omega
          obtain⟨z,w⟩:∃z,rs[i]? =some z:=⟨_,QX Q⟩;have⟨Z,v⟩:=QQ (decide (z.dJ≠ -1));refine aj<|ai<|aw<|ab (.a 2 I<|.v (aM ((i*3)) I) I<|.a 1 I<|.v (aJ I ((LP 1 w (by omega) I))) I<|.v (bW I (v)) I<|.k [3,4,5,12,13,14,15,70] I)<|ae I (λB=>?_) (λB=>?_)
          · have hw:z.dJ≠ -1:=by rw[B]at v;exact tt v
            exact ab (.a 2 I<|.k [10,11] I)<|ao<|⟨_,_,RY I,RW (QV ax.bH<|QV ax.pure Rl),[],8,rfl,.inr (.inl ⟨g,a.elim (·.1) (λh=>absurd (h.2.1 z (Ro w)) hw),rfl,rfl⟩)⟩
          · have hw:z.dJ= -1:=Q4 (by rw[B]at v;exact ff v);refine aj<|aC (.a 1 I<|.v (aW I) I<|.a 1 I<|.k [3,4,5,12,13,14,15] I) ?_;exact⟨rs.length - (i+1),by omega,i+1,by omega,rfl,λJ y hk hy=>by
              by_cases P:J=i
              · subst P;rw[w]at hy;cases hy;exact hw
              · exact H J y (by omega) hy,rfl⟩
        · have V:i=rs.length:=by have:=ff A;omega
          have F:∀z∈rs,z.dJ= -1:=λz w=>by
            obtain⟨J,hk⟩:=Rv w;exact H J z (by have:=(QT.1 hk).1;omega) hk
          refine ba<|ai<|ab (.a 2 I<|.k [3,4,5,12,14,72] I)<|ae I (λhc=>?_) (λo=>?_)
          · refine aK<|bm (gj I (rfl) I) I<|au 5 I<|cD I I (RT (U3 G) (λy σ' h=>?_));obtain⟨⟨b,Y,rfl,hb⟩,rfl⟩:=h;refine au 5 I<|aE [14,16] I ?_;refine ab (.a 2 I<|.k [14,84] I)<|ae I (λo=>?_) (λo=>?_)
            · have K:b=false:=by
                cases b with
                |false=>rfl
                |true=>cases o
              have D:=a.elim (·.1) (λh=>absurd (hb.2 ⟨g,h.1⟩) (by rw[K];simp));exact ab (.a 2 I<|.k [10,11] I)<|ao<|⟨_,_,RY I,RW (QV ax.bH<|QV ax.pure Rl),[],8,rfl,.inr (.inl ⟨g,D,rfl,rfl⟩)⟩
            · have M:b=true:=by
                cases b with
                |true=>rfl
                |false=>cases o
              obtain⟨u,_,c,t,j⟩:=a.elim (λh=>absurd h.1 (hb.1 M).2) id;refine aj<|ai<|ab (.a 3 I<|.k [14,87] I)<|ae I (λn=>?_) (λn=>?_)
              · have f:=tt n;exact ab (.a 2 I<|.k [10,11] I)<|ao<|⟨_,_,RY I,RW (QV ax.bH<|QV ax.pure Rl),[],6,rfl,.inr (.inr ⟨g,u,c,t,.inl ⟨j.elim (λh=>by omega) (λh=>by omega),rfl,rfl⟩⟩)⟩
              · have f:rs.length=1:=by have:=ff n;omega
                obtain⟨z,w⟩:∃z,rs=[z]:=S4.1 f;subst w;obtain⟨C,m⟩:=j.elim (λh=>by cases h.1) id;obtain⟨X,m⟩:=m z (by simp);exact aj<|ab (.a 1 I<|.v (aM _ rfl (hj:=rfl)) I<|.a 1 I<|.v (aJ I ((rfl:(lZ [z])[2]? =some (aq z.path)))) I<|.a 2 I<|.k [10,11] I)<|ao<|⟨_,_,RY I,ax.pure (p:=.tuple [aq z.path,num 0]),z.path,0,rfl,.inr (.inr ⟨g,u,c,t,.inr ⟨by rw[<-C,f];rfl,rfl,_,_,m⟩⟩)⟩
          · have O:e=0:=by have:=ff o;simpa using this
            obtain⟨u,_,c,t,j⟩:=a.elim (λh=>by
              obtain⟨z,w,hw⟩:=h.2 O;exact absurd (F z w) hw) id
            refine aj<|ai<|ab (.a 3 I<|.k [14,87] I)<|ae I (λn=>?_) (λn=>?_)
            · have f:=tt n;exact ab (.a 2 I<|.k [10,11] I)<|ao<|⟨_,_,RY I,RW (QV ax.bH<|QV ax.pure Rl),[],6,rfl,.inr (.inr ⟨g,u,c,t,.inl ⟨j.elim (λh=>by omega) (λh=>by omega),rfl,rfl⟩⟩)⟩
            · have f:rs.length=1:=by have:=ff n;omega
              obtain⟨z,w⟩:∃z,rs=[z]:=S4.1 f;subst w;obtain⟨C,m⟩:=j.elim (λh=>by cases h.1) id;obtain⟨X,m⟩:=m z (by simp);exact aj<|ab (.a 1 I<|.v (aM _ rfl (hj:=rfl)) I<|.a 1 I<|.v (aJ I ((rfl:(lZ [z])[2]? =some (aq z.path)))) I<|.a 2 I<|.k [10,11] I)<|ao<|⟨_,_,RY I,ax.pure (p:=.tuple [aq z.path,num 0]),z.path,0,rfl,.inr (.inr ⟨g,u,c,t,.inr ⟨by rw[<-C,f];rfl,rfl,_,_,m⟩⟩)⟩
end
section
variable {T:ak} {tb:Nat->cQ} {p0:dq}
theorem BW{n m e:Nat}{s s'}{a:Int}{q:List Int}{w:Int}(d:fX T (tb n) (cu p0 s)=dO (cu p0 s) s' [a])(hm:aN T a.toNat=(m:Int))(h:Br T tb p0 n s q e w):∃q',q=a::q'/\Br T tb p0 m s' q' e w:=by
 cases h with
 |stop h0=>rw[d]at h0;cases h0
 | @go _ g _ _ f p _ b c hr=>
  rw[d]at b hr;have b:f∈[a]:=b;rw[Rj]at b;subst b;have:g=m:=by rw[c]at hm;omega
  subst this;exact⟨p,rfl,hr⟩
theorem Ke{n e:Nat}{s}{q:List Int}{w:Int}(b:(fX T (tb n) (cu p0 s)).aA=[])(h:Br T tb p0 n s q e w):q=[]:=by
 cases h with
 |stop _=>rfl
 |go a _ _=>rw[b]at a;cases a
end
def lq:List Int:=[1,1,0,0]
def nW:dq:=⟨0,0,1,0,[],0⟩
theorem Ga:sQ dr zb 1=Eo.D8 dr zb 1:=Eo.I5 mM oN (by kernel_rfl)
theorem LU:gi dr 1 0 lq 0=MV:=Ja
theorem LV:gi dr 1 0 lq 1=Eo.D8 dr zb 1:=Ga
theorem LW:gi dr 1 0 lq 2=Eo.zc dr [] 2:=Eo.Je mM oN 2
theorem LX:gi dr 1 0 lq 3=MU:=I9
theorem tj:bh dr (gi dr 1 0 lq) nW 0 []=dO (cu nW []) [⟨1,3⟩,⟨1,2⟩,⟨1,1⟩] [7]:=by
 unfold bh;rw[LU];kernel_rfl
theorem tp:bh dr (gi dr 1 0 lq) nW 3 [⟨1,3⟩,⟨1,2⟩,⟨1,1⟩]=dO (cu nW [⟨1,3⟩,⟨1,2⟩,⟨1,1⟩]) [⟨1,2⟩,⟨1,1⟩] [5]:=by
 unfold bh;rw[LX];kernel_rfl
theorem tn:bh dr (gi dr 1 0 lq) nW 2 [⟨1,2⟩,⟨1,1⟩]=dO (cu nW [⟨1,2⟩,⟨1,1⟩]) [⟨1,1⟩] [3]:=by
 unfold bh;rw[LW];kernel_rfl
theorem tm:(bh dr (gi dr 1 0 lq) nW 1 [⟨1,1⟩]).aA=[]/\(bh dr (gi dr 1 0 lq) nW 1 [⟨1,1⟩]).dJ= -1:=by
 unfold bh;rw[LV];exact⟨by kernel_rfl,by kernel_rfl⟩
def Jc(u n:Nat)(s:List bG):Prop:=(u=3/\n=0/\s=[])\/(u=2/\n=3/\s=[⟨1,3⟩,⟨1,2⟩,⟨1,1⟩])\/(u=1/\n=2/\s=[⟨1,2⟩,⟨1,1⟩])\/(u=0/\n=1/\s=[⟨1,1⟩])
theorem oO:Lone dr (gi dr 1 0 lq) nW Jc:=by
 refine⟨⟨?_,?_,?_⟩,?_,?_⟩
 ·rintro u n s (⟨_,rfl,_⟩|⟨_,rfl,_⟩|⟨_,rfl,_⟩|⟨_,rfl,_⟩)<;>decide
 ·rintro u n s (⟨_,_,rfl⟩|⟨_,_,rfl⟩|⟨_,_,rfl⟩|⟨_,_,rfl⟩)<;>exact⟨by unfold dG;decide,by decide⟩
 ·rintro u n s (⟨rfl,rfl,rfl⟩|⟨rfl,rfl,rfl⟩|⟨rfl,rfl,rfl⟩|⟨rfl,rfl,rfl⟩)
  ·rw[tj];exact .inr ⟨by simp[dO],rfl,λa b=>by
    have b:a∈[(7:Int)]:=b;rw[Rj]at b;subst b;exact⟨7,3,rfl,by decide,by kernel_rfl,2,by omega,.inr (.inl ⟨rfl,rfl,rfl⟩)⟩⟩
  ·rw[tp];exact .inr ⟨by simp[dO],rfl,λa b=>by
    have b:a∈[(5:Int)]:=b;rw[Rj]at b;subst b;exact⟨5,2,rfl,by decide,by kernel_rfl,1,by omega,.inr (.inr (.inl ⟨rfl,rfl,rfl⟩))⟩⟩
  ·rw[tn];exact .inr ⟨by simp[dO],rfl,λa b=>by
    have b:a∈[(3:Int)]:=b;rw[Rj]at b;subst b;exact⟨3,1,rfl,by decide,by kernel_rfl,0,by omega,.inr (.inr (.inr ⟨rfl,rfl,rfl⟩))⟩⟩
  ·exact .inl tm.1
 ·rintro u n s (⟨_,rfl,rfl⟩|⟨_,rfl,rfl⟩|⟨_,rfl,rfl⟩|⟨_,rfl,rfl⟩)
  ·rw[tj];simp[dO]
  ·rw[tp];simp[dO]
  ·rw[tn];simp[dO]
  ·rw[tm.1];simp
 ·rintro u n s (⟨_,rfl,rfl⟩|⟨_,rfl,rfl⟩|⟨_,rfl,rfl⟩|⟨_,rfl,rfl⟩) b
  ·rw[tj]at b;cases b
  ·rw[tp]at b;cases b
  ·rw[tn]at b;cases b
  ·exact tm.2
theorem Jb{q:List Int}{e:Nat}{w:Int}(h:Br dr (gi dr 1 0 lq) nW 0 [] q e w):q=[7,5,3]:=by
 obtain⟨b,rfl,h1⟩:=BW (m:=3) tj (by kernel_rfl) h;obtain⟨c,rfl,h2⟩:=BW (m:=2) tp (by kernel_rfl) h1;obtain⟨d,rfl,a⟩:=BW (m:=1) tn (by kernel_rfl) h2;rw[Ke tm.1 a]
theorem Lf{T}{tb:Nat->cQ}{p0}{Φ:Nat->Nat->List bG->Prop}(k:Lone T tb p0 Φ):∀(u n:Nat) (s:List bG) (c:Int),Φ u n s->Cn T tb p0 n s c->c=1:=by
 intro u;induction u using Nat.strongRecOn with
 |_ u p=>
 intro n s c e hc;cases hc with
 | @mk _ _ cs h1 h2=>
  have l:=k.one e;unfold fD;by_cases g:(bh T tb p0 n s).aA=[]
  ·rw[QY g]
  ·rw[QZ g];have o:=S5.2 g;obtain⟨a,d⟩:∃a,(bh T tb p0 n s).aA=[a]:=S4.1 (by omega);obtain⟨c1,j⟩:∃c1,cs=[c1]:=S4.1 (by omega);subst j;have i:=h2 0 (by omega);rw[d,Sa,Sa]at i;rcases k.runs.step e with h|⟨_,_,h⟩
   ·exact absurd h g
   ·obtain⟨b,m,rfl,_,hm,u',hu,f⟩:=h a (by rw[d];simp);rw[QS,hm,QS]at i;have:=p u' hu m _ _ f i;subst this
    rfl
theorem F9:Can prog 8 [aL dr,bV 1 0,aq lq,num 0,num 1] (· = .tuple [aq [7,5,3],num 0]):=by
 have hM:Mz dr 1 0 lq 0 1:=⟨by decide,by decide,by kernel_rfl,by decide,by decide⟩;have R:=hM.OW;have hr:∀m s',sa dr (gi dr 1 0 lq) nW 0 m s'->∃u,Jc u m s':=λm s' h=>by
  rcases nV R h with h|h
  ·injection h with d f;subst d;subst f;exact⟨3,.inl ⟨rfl,rfl,rfl⟩⟩
  ·obtain⟨u',_,h2⟩:=oO.runs.Qg h (u:=3) (.inl ⟨rfl,rfl,rfl⟩);exact⟨u',h2⟩
 refine UB (wU hM) λr ⟨q,e,b,g⟩=>?_;rcases g with⟨⟨m,s',h1,h2⟩,_⟩|⟨_,⟨m,s',h1,h2,a⟩,_⟩|⟨_,_,c,h1,h2⟩
 ·obtain⟨u,hu⟩:=hr m s' h1;exact(oO.runs.IK h2 hu).elim
 ·obtain⟨u,hu⟩:=hr m s' (IQ h1);exact absurd (oO.del hu h2) a
 ·have hc:=Lf oO 3 0 [] c (.inl ⟨rfl,rfl,rfl⟩) h1;rcases h2 with⟨h2,_⟩|⟨_,rfl,n,w,a⟩
  ·exact absurd hc h2
  ·rw[b,Jb a]
theorem kb:Can prog 11 [] (· =aL dr):=by
 refine aF func11 I ntmps11 I<|aK<|au 1 I<|aE [0] I ?_;refine aK<|au 3 I<|aE [0,1] I ?_;refine cm 1 2 61 7 I I<|ai<|ab (.a 1 I<|.k [0,1,4] I)<|aw<|eF [0,1,4] I<|bd (λr s=>∃k,k<=4/\r=4 - k/\s=⟨[(0,.ptr 0 0),(1,.ptr 1 0),(4,num k)],[some (.cells 25 [num 0,.raw (.slice none 0 0),.raw (.slice none 0 0)]),some (.cells 25 [num 4,.raw (.slice none 0 0),.own 2]),some (.row 61 7 k (jy (xp k)))]⟩) 4 ⟨0,by omega,by omega,rfl⟩ ?_;rintro r s ⟨k,hk,rfl,rfl⟩;refine ab (.a 1 I<|.k [0,1,4,5] I)<|ai<|ae I (λhc=>?_) (λhc=>?_)
 ·have b:k<4:=by have:=Q5 hc;omega
  refine aj<|ai<|aw<|ab (.a 2 I<|.k [0,1,2,4] I)<|bx<|au 4 I<|bm (aW I) I<|bm (xK I I I (by decide) ((show((k:Int)+1).tmod 4=(((k+1) % 4:Nat):Int) by rw[Int.tmod_eq_emod_of_nonneg (by omega)];omega))) I<|bm (JO I (show prog.built 59 [(0,.int .i64 1),(1,.int .i64 1)]=some #[.int .i64 1,.int .i64 1] by kernel_rfl)) I<|au 2 I<|cb (bF I (Ru I) I I I I (by unfold maxLen;omega)) I<|au 2 I ?_;refine dL [0,1,3] (.c 0<|.c 1<|.c 4<|.nil) (.kept rfl (.cells (Sr<|Sr<|Sr<|Sy))<|.kept rfl (.cells (Sr<|Sr<|Sr<|Sy))<|.kept rfl (.eY rfl (show _=jy (xp (k+1)) by rw[CW];exact Cq _ ⟨(k:Int),(((k+1) % 4:Nat):Int),1,1,0,1,0⟩))<|.nil) I I (bg ?_);refine aC (.v (aW I) I<|.a 1 I<|.k [0,1,4] I)<|⟨4 - (k+1),by omega,k+1,by omega,rfl,rfl⟩
 ·have a:k=4:=by have:=Rf hc;omega
  subst a;refine ba<|aK<|au 2 I<|aE [0] I ?_;exact ao<|QR I (TI (QV ax.pure<|QV ax.bH<|QV (Tj rfl Sj) Rl)) rfl
def sk(c:JY):Bool:=tooBig c.T||decide ((40:Int)<c.S.length)
theorem CC{c:JY}(h:sk c=false):c.T.nodes<=10/\c.T.ah.length<=16/\c.S.length<=40:=by
 unfold sk tooBig at h;obtain⟨h1,h2⟩:=Rt.1 h;obtain⟨a,b⟩:=Rt.1 h1;have:=Rf h2;have:=Rf a;have:=Rf b;omega
theorem sj(c:JY):Can prog 5 [CP c] (· =flag (sk c)):=by
 have⟨a,h1⟩:=QQ (decide ((10:Int)<c.T.nodes));have⟨b,h2⟩:=QQ (decide ((16:Int)<c.T.ah.length));have⟨e,d⟩:=QQ (decide ((40:Int)<c.S.length));have he:sk c=((a||b)||e):=by unfold sk tooBig;rw[h1,h2,d]
 rw[he];refine aF func5 I ntmps5 I<|ab (.a 2 I<|.k [1] I)<|bz 2 (.raw (.bool ((a||b)||e))) [] I ?_ ?_
 ·refine .a 3 I<|.v (bW I (h1)) I<|.a 1 I<|?_;cases a
  ·refine .a 4 I<|.v (bW I (h2)) I<|.a 2 I<|?_;cases b
   ·exact .a 3 I<|.v (bW I (d)) I<|.a 2 I<|.k [2] I
   ·exact .a 6 I<|.k [2] I
  ·exact .a 13 I<|.k [2] I
 exact ao<|QR I ax.pure rfl
theorem LQ:Can prog 12 [aL dr,bV 1 0,aq [2,2,3,2]] (· =flag true):=by
 have h:=oJ dr 1 0 [2,2,3,2] (by decide);rw[show ik dr 1 0 [2,2,3,2]=true by kernel_rfl]at h;exact h
theorem LR:Can prog 12 [aL dr,bV 1 0,aq [0,1,0,0]] (· =flag false):=by
 have h:=oJ dr 1 0 [0,1,0,0] (by decide);rw[show ik dr 1 0 [0,1,0,0]=false by kernel_rfl]at h;exact h
theorem LS:Can prog 12 [aL dr,bV 1 0,aq [1,1,3,2]] (· =flag false):=by
 have h:=oJ dr 1 0 [1,1,3,2] (by decide);rw[show ik dr 1 0 [1,1,3,2]=false by kernel_rfl]at h;exact h
theorem nt:Can prog 4 [] (· =flag true):=by
 refine aF func4 I ntmps4 I<|ab (.a 1 I<|.k [] I)<|aK<|au 3 I<|aE [1] I ?_;refine gr 1 0 0 I I<|dS [] (.cons 1 I (Ren.pure (p:=.bq (cN 1 0) 0)) .nil) .nil rfl rfl ?_;refine er mixed (by kernel_rfl) (.v [] (dX I (kb)) I I<|.a 2 I<|.v [6,7,8] (dX I (F9)) I I<|.a 5 I<|.k [1,2,3] I)<|iY mixed (by kernel_rfl) 0 (.raw (.bool (true))) [] I ?_ ?_
 ·exact .a 5 I<|.v [15,16] (dX I (xy [7,5,3])) I I<|.a 2 I<|.v [] (dX I (kb)) I I<|.a 2 I<|.v [20,21,22] (dX I (LQ)) I I<|.a 2 I<|.v [] (dX I (kb)) I I<|.a 2 I<|.v [26,27,28] (dX I (LR)) I I<|.a 3 I<|.v [] (dX I (kb)) I I<|.a 2 I<|.v [33,34,35] (dX I (LS)) I I<|.a 3 I<|.k [0] I
 exact ao<|QR I (ax.pure (p:=flag true)) rfl
theorem Cp(c:JY)(h:sk c=true):Can prog 3 [CP c] (· =flag true):=by
 have a:=sj c;rw[h]at a;refine aF func3 I ntmps3 I<|ab (.a 2 I<|.k [1] I)<|ai<|bz 16 (.raw (.bool (true))) [1] I ?_ ?_
 ·exact .c rfl (nt) I<|.a 3 I<|.c rfl (a) I<|.a 1 I<|.k [16,1] I
 refine ae I (λhc=>?_) (λhc=>?_)
 ·exact ab (.c rfl (nt) I<|.a 1 I<|.k [2] I)<|ao<|QR I ax.pure rfl
 ·cases hc
theorem wK(T:ak)(k x:Int)(S:List Int)(n d:Int)(h:sk ⟨T,k,x,S,n,d⟩=false)(A:Bool->Int->Prop)(o:∀b e b' a,A b e->A b' a->b=b'/\e=a)(B:List Int->Int->Prop)(p:∀q e q' a,B q e->B q' a->q=q'/\e=a)
  (h1:Can prog 6 [aL T,bV k x,aq S,num n,num d] (λr=>∃b e,r= .tuple [flag b,num e]/\A b e)) (h2:Can prog 7 [aL T,bV k x,aq S,num n,num d] (λr=>∃b e,r= .tuple [flag b,num e]/\A b e))
  (l:Can prog 8 [aL T,bV k x,aq S,num n,num d] (λr=>∃q e,r= .tuple [aq q,num e]/\B q e)) (m:Can prog 9 [aL T,bV k x,aq S,num n,num d] (λr=>∃q e,r= .tuple [aq q,num e]/\B q e)):
  Can prog 3 [CP ⟨T,k,x,S,n,d⟩] (· =flag true):=by
 have c:=sj ⟨T,k,x,S,n,d⟩;rw[h]at c;refine aF func3 I ntmps3 I<|ab (.a 2 I<|.k [1] I)<|ai<|bz 16 (.raw (.bool (false))) [1] I ?_ ?_
 ·exact .c rfl (nt) I<|.a 3 I<|.c rfl (c) I<|.a 1 I<|.k [16,1] I
 refine ae I (λhc=>?_) (λhc=>?_)
 ·cases hc
 ·refine aj<|aK<|au 1 I<|bm (gj I (rfl) I) I<|au 8 I<|cD I I (RT (U3 h1) (λy σ' h=>?_));obtain⟨⟨t,v,rfl,f⟩,rfl⟩:=h;refine au 5 I<|aE [1,3,4] I ?_;refine aK<|au 1 I<|bm (gj I (rfl) I) I<|au 8 I<|cD I I (RT (U3 h2) (λy σ' h=>?_));obtain⟨⟨u,w,rfl,g⟩,rfl⟩:=h;refine au 5 I<|aE [1,3,4,5,6] I ?_;refine aK<|au 1 I<|bm (gj I (rfl) I) I<|au 8 I<|cD I I (RT (U3 l) (λy σ' h=>?_));obtain⟨⟨s,g1,rfl,i⟩,rfl⟩:=h;refine au 5 I<|aE [1,3,4,5,6,7,8] I ?_;refine aK<|au 1 I<|bm (gj I (rfl) I) I<|au 8 I<|cD I I (RT (U3 m) (λy σ' h=>?_));obtain⟨⟨z,g2,rfl,j⟩,rfl⟩:=h;refine au 5 I<|aE [3,4,5,6,7,8,9,10] I ?_;obtain⟨rfl,rfl⟩:=o _ _ _ _ f g;obtain⟨rfl,rfl⟩:=p _ _ _ _ i j;exact ab (.a 2 I<|.v (bW I ((Rb rfl))) I<|.a 3 I<|.v (bW I ((Rb rfl))) I<|.a 4 I<|.v (bW I ((Rb rfl))) I<|.a 4 I<|.c rfl (xy s) I<|.a 2 I<|.k [2] I)<|ao<|QR I ax.pure rfl
theorem Fl(c:JY):Can prog 3 [CP c] (· =flag true):=by
 cases h:sk c with
 |true=>exact Cp c h
 |false=>
  obtain⟨T,k,x,S,n,d⟩:=c;obtain⟨f,i,j⟩:=CC h;have f:T.nodes<=10:=f;have i:T.ah.length<=16:=i;have j:S.length<=40:=j;by_cases l:rK T k x S n d=0
  ·obtain⟨he,u,o,t,m⟩:=Fb l;obtain⟨s,rfl⟩:∃s:Nat,n=(s:Int):=⟨n.toNat,by omega⟩;obtain⟨e,rfl⟩:∃e:Nat,d=(e:Int):=⟨d.toNat,by omega⟩;have hM:Mz T k x S s e:=⟨f,i,he,o,m⟩;refine wK T k x S s e h (λb z=>z=0/\(b=true↔(¬qZ T (gi T k x S) ⟨0,s,e,0,[],0⟩ (sa T (gi T k x S) ⟨0,s,e,0,[],0⟩ s)/\¬nk T (gi T k x S) ⟨0,s,e,0,[],0⟩ s []))) (λb z b' p g a=>⟨SR.2 (g.2.trans a.2.symm),g.1.trans a.1.symm⟩) (Eu T (gi T k x S) ⟨0,s,e,0,[],0⟩ s) (λq z v p g a=>g.uniq a) ?_ ?_ (wU hM) (C0 hM)
   ·exact UB (yK hM) λr ⟨b,g1,g2⟩=>⟨b,0,g1,rfl,g2⟩
   ·exact UB (vX hM) λr ⟨b,g1,g2⟩=>⟨b,0,g1,rfl,g2⟩
  ·have cS:T.nodes<=12:=by omega
   have j:S.length<=1000:=by omega
   refine wK T k x S n d h (λb z=>b=false/\z=rK T k x S n d) (λb z b' p g a=>⟨g.1.trans a.1.symm,g.2.trans a.2.symm⟩) (λq z=>q=[]/\z=rK T k x S n d) (λq z v p g a=>⟨g.1.trans a.1.symm,g.2.trans a.2.symm⟩) ?_ ?_ ?_ ?_
   ·exact UB (Fx T k x S n d j cS l) λr g=>⟨_,_,g,rfl,rfl⟩
   ·exact UB (FV T k x S n d j cS l) λr g=>⟨_,_,g,rfl,rfl⟩
   ·exact UB (Cx T k x S n d j cS l) λr g=>⟨_,_,g,rfl,rfl⟩
   ·exact UB (CZ T k x S n d j cS l) λr g=>⟨_,_,g,rfl,rfl⟩
end
end PW
end Go.Proofs.YtoopjinigmhpcaaGreatDoor
namespace Go.Proofs.YtoopjinigmhpcaaGreatDoor.mixtureFollows
open Go.Proofs.Tryz
open Go.ChangeShapes Go.WideShapes Go.ChangeAt Go.RowKit
open cG Mem PW
theorem lifted(os:Os)(started:os.Started)(H:Type)(enc:TypeId×Value->H):
  ReturnsInHanded {} Tryz.checked os 3 .any (λw args=>(Rows.mixtureFollowsSpec.pre enc prog Tryz.f3 [] false w args/\laidMetH prog Rows.mixtureFollowsRow.laid w)/\sizedMet enc prog Tryz.f3 (OpenSpec.ofChange Rows.mixtureFollowsSpec) false w args)
   (Rows.mixtureFollowsSpec.post enc prog Tryz.f3 false true false false):=by
 refine returnsInHanded_of_change_and (C:=Tryz.checked) (X:=λw _=>laidMetH prog Rows.mixtureFollowsRow.laid w) (λ_ _ _ A h=>h.of_heap A) own started (by kernel_rfl) func3
  (ChangeSpec.witness_shaped (enc:=enc) (C:=Tryz.checked) (os:=os) (X:=λw _=>laidMetH prog Rows.mixtureFollowsRow.laid w) false (World.doorLaid prog 400 os) #[.agg #[.int .i64 0,.slice none 0 0,.slice none 0 0,.int .i64 0,.int .i64 0,.slice none 0 0,.int .i64 0,.int .i64 0]] 8 rfl (World.shaped_of_RefB (by kernel_rfl) (by kernel_rfl)) (by kernel_rfl) (by kernel_rfl) (by kernel_rfl) (laidMetH_of_parts3 (fuel:=8) (laidMet_of_run' 8 (by kernel_rfl) (by kernel_rfl)) (by kernel_rfl) (by kernel_rfl))) ?_
 intro W base args o gs before a m _ _ u _;have b:∀(j:Nat) t v,Tryz.f3.params[j]? =some t->args[j]? =some v->Value.okWide prog W .any base t v:=a;have g:=m;obtain⟨p,q,f,y,rfl,z,B⟩:=m;have l:DataW.TrodAll enc prog W 0 (λ_=>true) true Tryz.f3.params.toList args.toList o p:=f;rw[Tryz.params3]at l b;obtain⟨v0,E,d0,s,p0,F,i,rfl,rfl,h0,D⟩:=trodAll_cons l;obtain⟨rfl,rfl,rfl⟩:=trodAll_nil D;obtain rfl:args= #[v0]:=by cases args;simp_all
 obtain⟨rfl,rfl⟩:=trodVars_none y;have k:=OH h0;obtain⟨c,n⟩:=NK (b 0 30 v0 rfl rfl) h0;clear f a;refine((Fl c) (λ_=>False) W #[v0] (λ_ h=>h.elim) (Fa u) (SL n (TQ _ _))).mono λe W' ⟨x,he,d,r,hr,hx⟩=>?_;subst hr;cases hx;subst he;exact⟨_,rfl,_,_,_,[],_,[],g,trodAll_mk1 (shut_bool Tryz.underlying4 _),(trodAll_cons_mk (Below.trod laidOut (by kernel_rfl) (Q5 (by kernel_rfl)) h0 d k) trodAll_mk0),rfl,d.frame _,λh=>by cases h⟩
theorem QG:(Rows.mixtureFollowsRow.inPlace==prog.inPlace 3)=true:=by kernel_rfl
theorem QH:(Rows.mixtureFollowsRow.unfollowed==prog.unfollowed 3)=true:=by kernel_rfl
theorem QI:(Rows.mixtureFollowsRow.recurses==prog.recurses 3)=true:=by kernel_rfl
theorem QJ:(Rows.mixtureFollowsRow.named==prog.varsNamed 3)=true:=by kernel_rfl
theorem closed:joinedFacts prog 3 Tryz.f3 Rows.mixtureFollowsSpec Rows.mixtureFollowsRow=true:=by
 unfold joinedFacts;rw[QG,QH,QI,QJ]
 kernel_rfl
theorem over:Rows.mixtureFollowsRow.holds Tryz.pinned (OpenSpec.ofChange Rows.mixtureFollowsSpec):=
 OpenClaim.holds_of_wide 3 Tryz.f3 rfl rfl rfl rfl rfl rfl rfl ⟨rfl,rfl,rfl,rfl,rfl⟩ rfl rfl rfl rfl rfl (by kernel_rfl) func3 closed
  (Q5 (by kernel_rfl)) (by unfold Func.isWrapper;first|(rw[QY (by decide+kernel)];kernel_rfl)|(rw[QZ (by decide+kernel)];exact⟨rfl,rfl⟩))
  (λos started H enc _=>lifted os started H enc)
theorem proved:Rows.MixtureFollowsCardSaid:=
 Claim7.holds_tied_plain_at .later [] [.data,.data,.data] true (true,"86087e39bbd711314a6bc76d172f9250dde73c5b7d363ce60454414575713f08") false
  over (λ_ h=>by cases h) (by kernel_rfl) (λ_ h=>by cases h) mixtureFollows_row_tie rfl ⟨rfl,rfl⟩ (by kernel_rfl) rfl
  (λf fn d b=>by
   obtain rfl:f=3:=UT ((show prog.funcNamed "waypoint/waypointlaw31.MixtureFollows" =some 3 by kernel_rfl).symm.trans d) |>.symm;obtain rfl:fn=Tryz.f3:=(UT (func3.symm.trans b)).symm;exact⟨by kernel_rfl,λj t c=>by
    rw[Tryz.params3]at c;have hm:t∈[30]:=by simpa using TJ c
    have a:([30].all λu=> !prog.wantsStandIn u)=true:=by kernel_rfl
    exact(show prog.wantsStandIn t=false by simpa using Rq.1 a t hm)⟩)
  (by kernel_rfl)
end Go.Proofs.YtoopjinigmhpcaaGreatDoor.mixtureFollows
