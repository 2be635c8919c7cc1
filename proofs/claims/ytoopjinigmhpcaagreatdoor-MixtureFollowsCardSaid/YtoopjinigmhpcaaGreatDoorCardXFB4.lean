/- Part 4. -/
import Derived.Laws.StructEq
import Derived.Test.YtoopjinigmhpcaaGreatDoorCardXFB3
set_option maxRecDepth 100000
set_option maxHeartbeats 4000000
namespace Go.Proofs.YtoopjinigmhpcaaGreatDoor
open Go.Proofs.Tryz
namespace PW
section
open Go.RowKit cG Mem Net
def ij(T:ak)(D:List Bool)(L:List Int)(dn:Int)(d a:Nat):Bool:=
 !(aI D a||decide (L.getD (aN T a).toNat 0<0)||(decide (aN T a≠(d:Int))&&bR T (aN T a).toNat))&&decide (L.getD (aN T a).toNat 0+cz T a=dn)
def ll(T:ak)(D:List Bool)(L:List Int)(dn:Int)(d:Nat)(l:List Int):List Int:=l.filter λa=>ij T D L dn d a.toNat
theorem wz(T:ak)(D:List Bool)(L lv:List Int)(n d:Nat)(hv:av T=true)(X:bN T D=true)(hL:(L.length:Int)=T.nodes)(J:∀x∈L, -1<=x/\x<=4194240)(hn:(n:Int)<T.nodes)(hd:(d:Int)<T.nodes)
    (p:∀a∈lv,0<=a/\a<2*(T.ah.length:Int)) (Z:lv.length<=100000):
    Can prog 127 [aL T,aV D,aq L,aq lv,num n,num d] (· =aq (if n=d\/L.getD n 0<0 then [] else ll T D L (L.getD n 0) d lv)):=by
  have E:=gQ hv;have N:=aS hv;have q:n<L.length:=by omega
  refine aF func127 I ntmps127 I<|ab (.a 2 I<|.k [1,2,3,4,5,6] I)<|ab (.a 1 I<|.k [1,2,3,4,5,6,13] I) ?_;have⟨M,f⟩:=QQ (decide ((n:Int)=(d:Int)));have⟨U,g⟩:=QQ (decide (L.getD n 0<0));refine ai<|bz 26 (.raw (.bool (M||U))) [1,2,3,4,5,6,13] I ?_ ?_
  · refine .a 2 I<|.v (bW I (f)) I<|.a 1 I<|?_;cases M
    · exact .a 2 I<|.v (aM (n) I) I<|.v (aJ I (aB L n q)) I<|.v (bW I (g)) I<|.a 1 I<|.k [26,1,2,3,4,5,6,13] I
    · exact .a 6 I<|.k [26,1,2,3,4,5,6,13] I
  refine ae (b:=M||U) I (λhc=>?_) (λhc=>?_)
  · have:n=d\/L.getD n 0<0:=by
      rcases Sh.1 hc with h|h
      · rw[h]at f;exact .inl (by have:=Q5 f;omega)
      · rw[h]at g;exact .inr (Q5 g)
    rw[QY this];refine ab (.a 2 I<|.k [12] I)<|ao ⟨_,_,.cons (.tmp rfl) .nil,ax.bH,rfl⟩
  · obtain ⟨c1, V⟩ := Rt.1 hc;rw[c1]at f;rw[V]at g;have G:¬(n=d\/L.getD n 0<0):=by
      have:=Rf f;have:=Rf g;omega
    rw[QZ G];refine aj<|ai<|ab (.a 3 I<|.k [1,2,4,5,6,13,28,29,30] I)<|eU 13 3 1 I ?_;refine aw<|iB (.cons (k:=1) I<|.cons (k:=2) I<|.cons (k:=4) I<|.cons (k:=5) I<|.cons (k:=6) I<|.cons (k:=13) I<|.cons (k:=28) I<|.cons (k:=29) I<|.cons (k:=30) I<|Sub.nil _) ?_;refine bd (λr s=>∃i,i<=lv.length/\r=lv.length - i/\s=⟨[(1,aV D),(2,aq L),(4,num n),(5,num d),(6,.bq (bn T) 0),(13,.own 0),(28,aq lv),(29,num lv.length),(30,num i)],[some (.row 3 1 (ll T D L (L.getD n 0) d (lv.take i)).length (aU (ll T D L (L.getD n 0) d (lv.take i))))]⟩) lv.length ⟨0,by omega,by omega,?_⟩ ?_
    · simp only[Uh,ll,Tg]
      rfl
    · rintro r s ⟨i,hi,rfl,rfl⟩;refine ab (.a 1 I<|.k [1,2,4,5,6,13,28,29,30,31] I)<|ai<|ae (b:=decide ((i:Int)<(lv.length:Int))) I (λhc=>?_) (λhc=>?_)
      · have l:i<lv.length:=by have:=Q5 hc;omega
        refine aj ?_;obtain⟨a,O⟩:∃a:Nat,lv.getD i 0=(a:Int):=QW (p _ (bX l)).1;have j:a<2*T.ah.length:=by
          have:=(p (lv.getD i 0) (bX l)).2;omega
        have e:ll T D L (L.getD n 0) d (lv.take (i+1))=ll T D L (L.getD n 0) d (lv.take i)++(if ij T D L (L.getD n 0) d a then [(a:Int)] else []):=by
          unfold ll;rw[SN,Sd,show lv[i]? =some (a:Int) by rw[<-O,QU];simp[l]];congr 1;simp only[Option.toList_some,S1,Tg,QS]
        have Q:(ll T D L (L.getD n 0) d (lv.take i)).length<=100000:=Rr (RG _ _) (by rw[Sg];omega);obtain⟨F,Y⟩:=N.head a j;obtain⟨h,P⟩:=QW F;have o:h<L.length:=by omega
        have R: -1<=L.getD h 0/\L.getD h 0<=4194240:=J _ (bX o);have W:=N.cost a j;have C:D.length=0\/a<D.length:=by simp only[bN,Ra]at X;omega
        have H:T.over.length=0\/h<T.over.length:=by have:=E.2.2.2;omega
        refine ai<|aw<|ab (.v (aM (i) I) I<|.v (aJ I ((aB lv i l).trans (by rw[O]))) I<|.a 1 I<|.k [1,2,4,5,6,13,15,28,29,30] I)<|ab (.a 2 I<|.c rfl (P▸iH T a j (by omega)) I<|.a 1 I<|.k [1,2,4,5,6,13,15,16,28,29,30] I) ?_;have⟨z,t⟩:=QQ (aI D a);have⟨A,u⟩:=QQ (decide (L.getD h 0<0));have⟨B,v⟩:=QQ (decide ((h:Int)≠(d:Int)));have⟨K,w⟩:=QQ (bR T h);have⟨S,y⟩:=QQ (decide (L.getD h 0+cz T a=L.getD n 0));have c:ij T D L (L.getD n 0) d a=(!((z||A)||(B&&K))&&S):=by
          unfold ij;rw[P,QS,t,u,v,w,y]
        refine ai<|bz 56 (.raw (.bool ((z||A)||(B&&K)))) [1,2,4,5,6,13,15,16,28,29,30] I ?_ ?_
        · refine .a 2 I<|.c rfl (t▸kI D a C) I<|.a 1 I<|?_;cases z
          · refine .a 2 I<|.v (aM (h) I) I<|.v (aJ I (aB L h o)) I<|.v (bW I (u)) I<|.a 2 I<|?_;cases A
            · refine .a 2 I<|.v (bW I (v)) I<|.a 1 I<|?_;cases B
              · exact .a 5 I<|.k [56,1,2,4,5,6,13,15,16,28,29,30] I
              · exact .a 2 I<|.c rfl (w▸qv T h H) I<|.a 2 I<|.k [56,1,2,4,5,6,13,15,16,28,29,30] I
            · exact .a 9 I<|.k [56,1,2,4,5,6,13,15,16,28,29,30] I
          · exact .a 16 I<|.k [56,1,2,4,5,6,13,15,16,28,29,30] I
        refine ae (b:=(z||A)||(B&&K)) I (λhc=>?_) (λhc=>?_)
        · rw[hc]at c;refine ba<|aC (.v (aW I) I<|.a 1 I<|.k [1,2,4,5,6,13,28,29,30] I) ?_;refine⟨lv.length - (i+1),by omega,i+1,by omega,rfl,?_⟩;rw[e,c];simp only[UK,Tm,SX,TW,R9]
          rfl
        · rw[hc]at c;refine aj<|er mixed (by kernel_rfl) (.a 2 I<|.v [57,58] (aM (h) I) I I<|.v [59] (aJ I (aB L h o)) I I<|.a 2 I<|.v [61,62] (dX I (nv T a j)) I I<|.v [60,63] (aW I) I I<|.a 2 I<|.v [65,66] (aM (n) I) I I<|.v [67] (aJ I (aB L n q)) I I<|.v [64,68] (bW I (y)) I I<|.k [1,2,4,5,6,13,15,28,29,30,69] I) ?_;refine ae (b:=S) I (λm=>?_) (λm=>?_)
          · rw[m]at c;refine bx<|au 3 I<|cb (bF I (Ru I) I I I I (by unfold maxLen;omega)) I<|au 1 I ?_;refine dL [1] (.c 1<|.c 2<|.c 4<|.c 5<|.c 6<|.c 13<|.c 28<|.c 29<|.c 30<|.nil) (.kept rfl (.eY rfl (cW _ _))<|.nil) I I (bg ?_);refine aC (.v (aW I) I<|.a 1 I<|.k [1,2,4,5,6,13,28,29,30] I)<|⟨lv.length - (i+1),by omega,i+1,by omega,rfl,?_⟩;rw[e,c];simp only[TU,RM,Sw,Q0,Rk]
            rfl
          · rw[m]at c;refine aj<|aC (.v (aW I) I<|.a 1 I<|.k [1,2,4,5,6,13,28,29,30] I) ?_;refine⟨lv.length - (i+1),by omega,i+1,by omega,rfl,?_⟩;rw[e,c];simp only[TU,RM,SX,TW,R9]
            rfl
      · have:i=lv.length:=by have:=Rf hc;omega
        subst this;rw[RC];exact ba<|ab (.a 2 I<|.k [12] I)<|ao ⟨_,_,.cons (.tmp rfl) .nil,Tj rfl Sj,rfl⟩
open Heap
def ct(T:ak)(D:List Bool)(a:List Int):Int:=if av T&&bN T D then(if a.all (aX T) then 0 else 2) else 1
theorem rj(T:ak)(D:List Bool)(a:List Int)(o:a.length<=1000):Can prog 154 [aL T,aV D,aq a] (· =num (ct T D a)):=by
 refine aF func154 I ntmps154 I<|ab (.a 2 I<|.k [1,2,3] I)<|ai ?_;have⟨l,c⟩:=QQ (av T);have⟨n,j⟩:=QQ (bN T D);refine bz 17 (.raw (.bool ((!l)||(!n)))) [2,3] I ?_ ?_
 ·refine .a 1 I<|.c rfl (c▸fv T) I<|.a 2 I<|?_;cases l
  ·exact .a 5 I<|.k [17,2,3] I
  ·exact .a 2 I<|.c rfl (j▸nH T D (by have:=bO c;omega)) I<|.a 2 I<|.k [17,2,3] I
 refine ae I (λhc=>?_) (λhc=>?_)
 ·have f:ct T D a=1:=by
   unfold ct;rw[c,j,QZ];revert hc;cases l<;>cases n<;>simp
  exact ab (.a 1 I<|.k [6] I)<|ao<|QR I ax.pure (by rw[f];rfl)
 ·have k:(av T&&bN T D)=true:=by
   rw[c,j];revert hc;cases l<;>cases n<;>simp
  refine aj<|ai<|ab (.a 3 I<|.k [3,18,19,20] I)<|aw<|eF [3,18,19,20] I<|bd (λr s=>∃i,i<=a.length/\(a.take i).all (aX T)=true/\r=a.length - i/\s=⟨[(3,.bq (bn T) 0),(18,aq a),(19,num a.length),(20,num i)],[]⟩) a.length ⟨0,by omega,by simp,by omega,rfl⟩ ?_;rintro r s ⟨i,hi,b,rfl,rfl⟩;refine ab (.a 1 I<|.k [3,18,19,20,21] I)<|ai<|ae I (λhc=>?_) (λhc=>?_)
  ·have g:i<a.length:=by have:=Q5 hc;omega
   refine aj<|ai<|aw<|ab (.v (aM (i) I) I<|.v (aJ I (aB a i g)) I<|.a 1 I<|.k [3,8,18,19,20] I)<|ab (.a 2 I<|.c rfl (ej T _) I<|.a 1 I<|.k [3,18,19,20,27] I)<|ae I (λhc=>?_) (λhc=>?_)
   ·have f:ct T D a=2:=by
     unfold ct;rw[QY k,QZ];intro h;have h1:=Rq.1 h _ (bX (d:=0) g);rw[h1]at hc;cases hc
    exact ab (.a 1 I<|.k [6] I)<|ao<|QR I ax.pure (by rw[f];rfl)
   ·have e:(a.take (i+1)).all (aX T)=true:=by
     rw[dE a i 0 g,T3,b];have:aX T (a.getD i 0)=true:=by revert hc;cases aX T (a.getD i 0)<;>simp
     simp only[UL,this,List.all_nil,Bool.and_self]
    refine aj<|aC (.v (aW I) I<|.a 1 I<|.k [3,18,19,20] I) ?_;exact⟨a.length - (i+1),by omega,i+1,by omega,e,rfl,rfl⟩
  ·have m:i=a.length:=by have:=Rf hc;omega
   refine ba<|ab (.a 1 I<|.k [6] I)<|ao<|⟨_,_,RY I,ax.pure,?_⟩;unfold ct;rw[QY k,QY (by rw[m,RC]at b;exact b)]
   rfl
theorem EO(rs:List (List Int))(i:Nat)(hi:i<rs.length):Can prog 175 ([num i]++[.bq [mc rs] 0]) (· =aq (rs.getD i [])):=by
 exact aF func175 I ntmps175 I<|ab (.a 1 I<|.k [0,1] I)<|ab (.a 2 I<|.v (aM (i) I) I<|.v (aJ I ((show(rs.map aq)[i]? =some (aq (rs.getD i [])) by simp[hi]))) I<|.a 1 I<|.k [3] I)<|ao<|QR I ax.pure rfl
theorem EP(T:ak)(a:Nat)(b:a<2*T.ah.length):Can prog 176 ([num a]++[.bq (bn T) 0]) (· =num (aZ T a)):=by
 exact aF func176 I ntmps176 I<|ab (.a 1 I<|.k [0,1] I)<|ab (.a 2 I<|.c rfl (kX T a b) I<|.a 1 I<|.k [3] I)<|ao<|QR I ax.pure rfl
def ec(e:Int)(l:List Int):PV:=.tuple [aq (if e=0 then l else []),num e]
theorem tT(T:ak)(D:List Bool)(d:Int):Can prog 151 [aL T,aV D,num d] (· =ec (ct T D [d]) (bJ T D d.toNat false)):=by
 refine aF func151 I ntmps151 I<|ab (.a 3 I<|.k [1,2,3] I)<|ai<|ab (.a 4 I<|.c rfl (rj T D [d] (by simp)) I<|.a 1 I<|.k [1,2,3,8] I)<|ab (.a 2 I<|.k [1,2,3,8,17] I)<|ae I (λhc=>?_) (λhc=>?_)
 ·have he:ct T D [d]≠0:=Q5 hc;exact ab (.a 3 I<|.k [6,7] I)<|ao<|QR I (RW (QV ax.bH (QV ax.pure Rl))) (by unfold ec;rw[QZ he];rfl)
 ·have he:ct T D [d]=0:=by have:=Rf hc;omega
  have c:(av T&&bN T D)=true/\aX T d=true:=by
   unfold ct at he;split at he
   ·rename_i h1;split at he
    ·rename_i h2;exact⟨h1,by simpa using h2⟩
    ·omega
   ·omega
  obtain⟨e,b⟩:=c;obtain⟨hv,g⟩:=Q3.1 e;have hd:0<=d/\d<T.nodes:=by simpa[aX]using b
  obtain⟨n,rfl⟩:=QW hd.1;have j:=aS hv;refine aj<|aK<|au 1 I<|ez I (yw T hv) I<|au 2 I<|aE [1,2,3,9] I ?_;refine aK<|au 3 I<|bm (gm I I) I<|au 4 I<|aE [10] I ?_;refine zA (.cons 10 I (U4 rfl (QV ax.pure<|QV ax.pure<|QV ax.pure<|QV ax.pure<|QV ax.pure<|QV (ax.uk (QV (U4 rfl (QV ax.pure Rl)) Rl))<|QV ax.pure Rl)) .nil)<|ab (.a 1 I<|.c rfl (Ee T D n false 175 176 [.bq [mc (ek (aN T) T.nodes.toNat (2*T.ah.length))] 0] [.bq (bn T) 0] hv g hd.2 (by kernel_rfl) (by kernel_rfl) (λi hi=>by have h:=EO (ek (aN T) T.nodes.toNat (2*T.ah.length)) i (by rw[fR];omega);rw[kA _ _ _ _ (by omega)]at h;exact h) (λa f=>EP T a f)) I<|.a 2 I<|.k [6,7] I)<|ao<|QR I ax.pure (by unfold ec;rw[QY he,he];rfl)
theorem qt(T:ak)(hl:T.ah.length<=256)(n:Int):Can prog 42 [aL T,num n] (· =aq (bK T n)):=by
 refine aF func42 I ntmps42 I<|ab (.a 2 I<|.k [1,2] I)<|ab (.a 1 I<|.k [1,2,5] I)<|eU 5 3 1 I ?_;refine ai<|ab (.a 1 I<|.c rfl (jw T (by omega)) I<|.a 1 I<|.k [1,2,5,8,9] I)<|aw<|eF [1,2,5,8,9] I<|bd (λr s=>∃k,k<=2*T.ah.length/\r=2*T.ah.length - k/\s=⟨[(1,num n),(2,.bq (bn T) 0),(5,.own 0),(8,num (2*(T.ah.length:Int))),(9,num k)],[some (.row 3 1 (iM T n k).length (aU (iM T n k)))]⟩) (2*T.ah.length) ⟨0,by omega,by omega,rfl⟩ ?_;rintro r s ⟨k,hk,rfl,rfl⟩;refine ab (.a 1 I<|.k [1,2,5,8,9,10] I)<|ai<|ae I (λhc=>?_) (λhc=>?_)
 ·have c:k<2*T.ah.length:=by have:=Q5 hc;omega
  have d:=eu T n k;refine aj<|ai<|aw<|ab (.a 2 I<|.k [1,2,5,6,8,9] I)<|ab (.a 2 I<|.c rfl (kX T k c) I<|.a 2 I<|.k [1,2,5,6,8,9,16] I)<|ae I (λhc=>?_) (λhc=>?_)
  ·have a:=w7 T n k (by simpa using Q5 hc);refine bx<|au 3 I<|cb (bF I (Ru I) I I I I (by unfold maxLen;omega)) I<|au 1 I ?_;refine dL [1] (.c 1<|.c 2<|.c 5<|.c 8<|.c 9<|.nil) (.kept rfl (.eY rfl (cW _ _))<|.nil) I I (bg ?_);refine aC (.v (aW I) I<|.a 1 I<|.k [1,2,5,8,9] I)<|⟨2*T.ah.length - (k+1),by omega,k+1,by omega,rfl,?_⟩;rw[a];first
    |rfl
    |(simp only[Q0,Rk];rfl)
  ·have a:=AP T n k (by simpa using Rf hc);refine aj<|aC (.v (aW I) I<|.a 1 I<|.k [1,2,5,8,9] I) ?_;refine⟨2*T.ah.length - (k+1),by omega,k+1,by omega,rfl,?_⟩;rw[a];first
    |rfl
    |(simp only[Q0,Rk];rfl)
 ·have b:k=2*T.ah.length:=by have:=Rf hc;omega
  subst b;exact ba<|ab (.a 2 I<|.k [4] I)<|ao<|QR I (Tj rfl Sj) rfl
def bY(T:ak)(D:List Bool)(n d:Int):Int:=if ct T D [d]=0 then(if aX T n then 0 else 2) else ct T D [d]
theorem wx(T:ak)(D:List Bool)(n d:Int):Can prog 126 [aL T,aV D,num n,num d] (· =ec (bY T D n d) (bJ T D d.toNat false)):=by
 refine aF func126 I ntmps126 I<|ab (.a 3 I<|.k [1,2,3,4] I)<|ab (.a 3 I<|.c rfl (tT T D d) I<|.a 5 I<|.k [2,4,10,11] I)<|ai<|ab (.a 2 I<|.k [2,4,10,11,20] I)<|ae I (λhc=>?_) (λhc=>?_)
 ·have he:ct T D [d]≠0:=Q5 hc;exact ab (.a 3 I<|.k [8,9] I)<|ao<|QR I (RW (QV ax.bH (QV ax.pure Rl))) (by unfold ec bY;rw[QZ he,QZ he];rfl)
 ·have he:ct T D [d]=0:=by have:=Rf hc;omega
  refine aj<|ai<|ab (.a 2 I<|.c rfl (ej T n) I<|.a 1 I<|.k [10,25] I)<|ae I (λhc=>?_) (λhc=>?_)
  ·have hn:aX T n=false:=by revert hc;cases aX T n<;>simp
   exact ab (.a 2 I<|.k [8,9] I)<|ao<|QR I (RW (QV ax.bH (QV ax.pure Rl))) (by unfold ec bY;rw[QY he,hn];rfl)
  ·have hn:aX T n=true:=by revert hc;cases aX T n<;>simp
   exact aj<|ab (.a 3 I<|.k [8,9] I)<|ao<|QR I ax.pure (by unfold ec bY;simp only[he,hn,Sw];rfl)
theorem rm{T D}{c:List Int}(he:ct T D c=0):av T=true/\bN T D=true/\∀n∈c,aX T n=true:=by
 unfold ct at he;split at he
 ·rename_i h1;split at he
  ·rename_i h2;obtain⟨a,b⟩:=Q3.1 h1;exact⟨a,b,Rq.1 h2⟩
  ·omega
 ·omega
theorem fH{T D}{n d:Int}(he:bY T D n d=0):av T=true/\bN T D=true/\aX T n=true/\aX T d=true:=by
 unfold bY at he;split at he
 ·rename_i h1;obtain⟨a,b,c⟩:=rm h1;split at he
  ·rename_i h2;exact⟨a,b,h2,c d (by simp)⟩
  ·omega
 ·omega
theorem dD{T:ak}{D}(hv:av T=true){d:Nat}{dir}(hd:(d:Int)<T.nodes):((bJ T D d dir).length:Int)=T.nodes/\∀x∈bJ T D d dir, -1<=x/\x<=4194240:=by
 have c:=aS hv;have a:=ER c D dir hd;refine⟨a.len,λx hx=>?_⟩;obtain⟨i,hi,rfl⟩:=Uv hx;have b:(i:Int)<T.nodes:=by have:=a.len;omega
 have h1:=a.ge i b;have h2:=a.On i b;have e:=rq (bJ T D d dir);have f:=c.nodes;have g:=a.len;rw[Ht _ i hi]at h1 h2;omega
noncomputable def bu(T:ak)(D:List Bool)(n d:Nat):List Int:=
 if n=d\/(bJ T D d false).getD n 0<0 then [] else ll T D (bJ T D d false) ((bJ T D d false).getD n 0) d (bK T n)
theorem kS{T:ak}{n:Int}{a:Int}(h:a∈bK T n):0<=a/\a<2*(T.ah.length:Int):=by
 unfold bK iM at h;obtain⟨b,hb,rfl⟩:=RB.1 h;have:=(RK.1 hb).1;have:=Ri.1 this;simp;omega
theorem uI(T:ak)(D:List Bool)(n d:Int):Can prog 98 [aL T,aV D,num n,num d] (· =ec (bY T D n d) (bu T D n.toNat d.toNat)):=by
 refine aF func98 I ntmps98 I<|ab (.a 3 I<|.k [1,2,3,4] I)<|ab (.a 4 I<|.c rfl (wx T D n d) I<|.a 5 I<|.k [1,2,3,4,10,11] I)<|ai<|ab (.a 2 I<|.k [1,2,3,4,10,11,21] I)<|ae I (λhc=>?_) (λhc=>?_)
 ·have he:bY T D n d≠0:=Q5 hc;exact ab (.a 3 I<|.k [8,9] I)<|ao<|QR I (RW (QV ax.bH (QV ax.pure Rl))) (by unfold ec;rw[QZ he];rfl)
 ·have he:bY T D n d=0:=by have:=Rf hc;omega
  rw[he];obtain⟨hv,g,hn,hd⟩:=fH he;rw[aQ]at hn hd;obtain⟨n,rfl⟩:=QW hn.1;obtain⟨d,rfl⟩:=QW hd.1;have e:=bO hv;obtain⟨b,c⟩:=dD (D:=D) hv (dir:=false) hd.2;refine aj<|er mixed (by kernel_rfl) (.a 5 I<|.v [26,27] (dX I (qt T e _)) I I<|.a 2 I<|.v [23,24,25,28,29,30] (dX I (wz T D (bJ T D d false) (bK T n) n d hv g b c hn.2 hd.2 (λa f=>kS f) (Rr (eu T n _) (by omega)))) I I<|.a 2 I<|.k [8,9] I) ?_;exact ao<|QR I ax.pure rfl
end
section
open Go.RowKit cG Mem Net
structure bG where
 kind:Int
 num:Int
deriving DecidableEq
structure jI where
 aA:List Int
 rep:Bool
 push:List bG
structure cQ where
 node:Int
 ed:List jI
 down:List Int
def pE(s:bG):List PV:=[num s.kind,num s.num]
def vZ(s:bG):PV:=.agg (pE s)
def eP(l:List bG):List PV:=l.flatMap pE
def cr(l:List bG):PV:=.slice l.length (eP l)
def jL(e:jI):List PV:=[aq e.aA,flag e.rep,cr e.push]
def tW(e:jI):PV:=.agg (jL e)
def dH(l:List jI):List PV:=l.flatMap jL
def iW(l:List jI):PV:=.slice l.length (dH l)
def fi(t:cQ):List PV:=[num t.node,iW t.ed,aq t.down]
def dW(t:cQ):PV:=.agg (fi t)
def oa(l:List cQ):List PV:=l.flatMap fi
def dP(l:List cQ):PV:=.slice l.length (oa l)
instance (s:bG):aP (pE s):=by unfold pE;infer_instance
instance (s:bG):dY (pE s):=by unfold pE;infer_instance
instance (s:bG):IsPure (vZ s):=by unfold vZ;infer_instance
instance (l:List bG):aP (eP l):=UF _ _ λ_=>inferInstance
instance (l:List bG):dY (eP l):=dY.flatMap _ _ λ_=>inferInstance
instance (l:List bG):IsPure (cr l):=by unfold cr;infer_instance
instance (l:List bG):gH (cr l):=by unfold cr;infer_instance
instance (e:jI):aP (jL e):=by unfold jL;infer_instance
instance (e:jI):dY (jL e):=by unfold jL;infer_instance
instance (e:jI):IsPure (tW e):=by unfold tW;infer_instance
instance (l:List jI):aP (dH l):=UF _ _ λ_=>inferInstance
instance (l:List jI):IsPure (iW l):=by unfold iW;infer_instance
instance (l:List jI):gH (iW l):=by unfold iW;infer_instance
instance (t:cQ):aP (fi t):=by unfold fi;infer_instance
instance (t:cQ):IsPure (dW t):=by unfold dW;infer_instance
instance (l:List cQ):aP (oa l):=UF _ _ λ_=>inferInstance
instance (l:List cQ):IsPure (dP l):=by unfold dP;infer_instance
theorem jc(l:List jI)(e:jI):dH l++jL e=dH (l++[e]):=by simp[dH]
theorem pI(l:List cQ)(e:cQ):oa l++fi e=oa (l++[e]):=by simp[oa]
theorem flat_get{α:Type}(f:α->List PV)(s:Nat)(c:∀a,(f a).length=s):∀(l:List α) (i j:Nat) (a:α),l[i]? =some a->j<s->(l.flatMap f)[i*s+j]? =(f a)[j]?
 | [],i,j,a,h,_=>by simp at h
 |b::l,0,j,a,h,hj=>by
  simp at h;subst h;rw[RL,Uj,Si,Q9 (by rw[c];exact hj)]
 |b::l,i+1,j,a,h,hj=>by
  have:=flat_get f s c l i j a (by simpa using h) hj;have g:(i+1)*s=i*s+s:=SB i s;have d:(i+1)*s+j - s=i*s+j:=by omega
  have e:(f b).length<=(i+1)*s+j:=by rw[c];omega
  rw[RL,RD e,c,d,this]
theorem lQ{α:Type}(f:α->List PV)(s:Nat)(c:∀a,(f a).length=s):∀(l:List α) (i:Nat) (a:α),l[i]? =some a->((l.flatMap f).drop (i*s)).take s=f a
 | [],i,a,h=>by simp at h
 |b::l,0,a,h=>by
  simp at h;subst h;rw[RL,Uj,UC];exact List.take_left' (c b)
 |b::l,i+1,a,h=>by
  have:=lQ f s c l i a (by simpa using h);have d:(i+1)*s=s+i*s:=by rw[SB];omega
  rw[RL,d,<-List.drop_drop,List.drop_left' (c b),this]
theorem uc{α:Type}(f:α->List PV)(s:Nat)(b:∀a,(f a).length=s)(l:List α):(l.flatMap f).length=l.length*s:=by
 induction l with
 |nil=>simp
 |cons a l c=>rw[RL,Q0,c,b,Q8,SB];omega
theorem tZ(l:List jI)(i j:Nat)(e:jI)(h:l[i]? =some e)(hj:j<3):(dH l)[i*3+j]? =(jL e)[j]? :=flat_get jL 3 (λ_=>rfl) l i j e h hj
theorem lM(l:List jI)(i:Nat)(e:jI)(h:l[i]? =some e):((dH l).drop (i*3)).take 3=jL e:=lQ jL 3 (λ_=>rfl) l i e h
theorem Bh(l:List bG)(i j:Nat)(e:bG)(h:l[i]? =some e)(hj:j<2):(eP l)[i*2+j]? =(pE e)[j]? :=flat_get pE 2 (λ_=>rfl) l i j e h hj
theorem il(l:List bG)(i:Nat)(e:bG)(h:l[i]? =some e):((eP l).drop (i*2)).take 2=pE e:=lQ pE 2 (λ_=>rfl) l i e h
theorem mh(l:List cQ)(i:Nat)(e:cQ)(h:l[i]? =some e):((oa l).drop (i*3)).take 3=fi e:=lQ fi 3 (λ_=>rfl) l i e h
theorem sU{P σ t o p q}(h:bE P σ t o p)(hl:gZ p q):bE P σ t o q:=λF base E ρ w a d g=>by
 have:=h F base E ρ w a d g;generalize (execOp ρ o).run P w=x at*;cases x with
 |ok n w'=>
  cases n with
  |value v=>exact⟨this.1,hl _ _ _ this.2⟩
  |skip=>exact⟨this.1,hl _ _ _ this.2⟩
  |enter f b=>exact⟨this.1,Calls.mono this.2 (λe i ⟨x,h1,h2,c⟩=>⟨x,h1,h2,hl _ _ _ c⟩)⟩
  |_=>exact this
 |halt x w'=>exact this
def Et(xs ys:List PV):Prop:=xs.length=ys.length/\∀(i:Nat) x y,xs[i]? =some x->ys[i]? =some y->gZ x y
theorem Et.nil:Et [] []:=⟨rfl,λi x y h=>by simp at h⟩
theorem Et.cons{x y xs ys}(h:gZ x y)(hs:Et xs ys):Et (x::xs) (y::ys):=⟨by simp[hs.1],λj a b h1 h2=>by
 cases j with
 |zero=>simp at h1 h2;subst h1;subst h2;exact h
 |succ j=>exact hs.2 j a b (by simpa using h1) (by simpa using h2)⟩
theorem gZ.eQ{xs ys}(h:Et xs ys):gZ (.agg xs) (.agg ys):=λE w v hv=>by
 cases hv with
 |agg cs _ hl hr=>exact .agg cs ys (hl.trans h.1) (λi c u h1 h2=>by
   have hi:i<xs.length:=by rw[h.1];exact(QT.1 h2).1
   exact h.2 i xs[i] u (by simp[hi]) h2 E w c (hr i c _ h1 (by simp[hi])))
noncomputable def toL(T:ak)(D:List Bool)(n k:Nat):List jI:=(List.range k).map λd=>⟨bu T D n d,false,[]⟩
def cI(D:List Bool)(l:List Int):List Int:=l.filter λa=>aI D a.toNat
noncomputable def dU(T:ak)(D:List Bool)(n:Nat):cQ:=⟨n,toL T D n T.nodes.toNat,cI D (bK T n)⟩
noncomputable def gS(T:ak)(D:List Bool)(n:Int):cQ:=if ct T D [n]=0 then dU T D n.toNat else⟨0,[],[]⟩
theorem vo(T:ak)(D:List Bool)(n k:Nat):toL T D n (k+1)=toL T D n k++[⟨bu T D n k,false,[]⟩]:=by simp[toL,R2]
theorem tu(T:ak)(D:List Bool)(n k:Nat):(toL T D n k).length=k:=by simp[toL]
end
section
open Go.RowKit cG Mem
theorem Hh{P}{N L:Nat}{x y st}{Q:Exit->St->Prop}(t0:cq)(M:ca->Prop)(h:W P N L x st (Ej (λs=>Sub s.t t0/\M s.σ) Q))(k:∀σ,M σ->W P N L y ⟨t0,σ⟩ Q):W P N L (.seq x y) st Q:=
 ai (h.mono λe s a=>by
  cases e<;>first
   |exact iB (t:=s.t) (σ:=s.σ) a.1 (k _ a.2)
   |exact a)
theorem Dk{P}{N L:Nat}{x y st}{Q:Exit->St->Prop}(M:St->Prop)(h:W P N L x st (Ej (λs=>∃s0,M s0/\∀ {Y} {Q':Exit->St->Prop},W P N L Y s0 Q'->W P N L Y s Q') Q))(k:∀s,M s->W P N L y s Q):W P N L (.seq x y) st Q:=
 ai (h.mono λe s a=>by
  cases e<;>first
   |(obtain⟨s0,h1,h2⟩:=a;exact h2 (k _ h1))
   |exact a)
open Net
theorem A9(T:ak)(D:List Bool)(n:Int)(dir:Bool):Can prog 168 [aL T,aV D,num n,flag dir] (· =ec (ct T D [n]) (bJ T D n.toNat dir)):=by
  refine aF func168 I ntmps168 I<|ab (.a 3 I<|.k [1,2,3,4] I)<|ai<|ab (.a 2 I<|.c rfl (l7 T D) I<|.a 1 I<|.k [1,2,3,4,20] I)<|ae I (λhc=>?_) (λhc=>?_)
  · have o:ct T D [n]=1:=by
      unfold ct;rw[QZ];revert hc;cases(av T&&bN T D)<;>simp
    exact ab (.a 2 I<|.k [8,9] I)<|ao<|QR I (RW (QV ax.bH (QV ax.pure Rl))) (by unfold ec;rw[o];rfl)
  · have O : (av T && bN T D) = true := by revert hc; cases (av T && bN T D) <;> simp
    refine aj<|ai ?_;have⟨q1,P⟩:=QQ (decide (n<0));have⟨q2,Q⟩:=QQ (decide (T.nodes<=n));have M:aX T n= !(q1||q2):=by rw[<-P,<-Q];unfold aX;by_cases h1:n<0<;>by_cases h2:T.nodes<=n<;>simp[h1,h2]<;>omega
    refine bz 28 (.raw (.bool (q1||q2))) [1,2,3,4] I ?_ ?_
    · refine .a 1 I<|.v (bW I (P)) I<|.a 1 I<|?_;cases q1
      · exact .a 3 I<|.v (bW I (Q)) I<|.a 1 I<|.k [28,1,2,3,4] I
      · exact .a 5 I<|.k [28,1,2,3,4] I
    refine ae I (λhc=>?_) (λhc=>?_)
    · have o:ct T D [n]=2:=by
        unfold ct;rw[QY O,QZ];simp[M,hc]
      exact ab (.a 2 I<|.k [8,9] I)<|ao<|QR I (RW (QV ax.bH (QV ax.pure Rl))) (by unfold ec;rw[o];rfl)
    · have G:aX T n=true:=by rw[M,hc];rfl
      have o:ct T D [n]=0:=by
        unfold ct;rw[QY O,QY];simp[G]
      obtain⟨hv,hf⟩:=Q3.1 O;have hn:=aQ.1 G;obtain⟨n,rfl⟩:=QW hn.1;have E:=aS hv;have ay:=gQ hv;obtain⟨N,hN⟩:∃N:Nat,T.nodes=(N:Int):=⟨T.nodes.toNat,by omega⟩;have an:N<=64:=by have:=E.nodes;omega
      have al:n<N:=by omega
      clear hc P Q M;refine aj<|aK<|au 2 I<|cb (dc I (Ru I) I I hN hN ⟨by unfold maxLen;omega,by omega⟩) I<|au 1 I<|aE [1,2,3,4,10] I ?_;refine ai<|ab (.a 1 I<|.k [1,2,3,4,10,11] I)<|aw<|eF [1,2,3,4,10,11] I<|bd (λr s=>∃k,k<=N/\r=N - k/\s=⟨[(1,aV D),(2,num n),(3,flag dir),(4,.bq (bn T) 0),(10,.own 0),(11,num k)],[some (.row 3 1 N (aU (jN N k)))]⟩) N ⟨0,by omega,by omega,by have:=dj N;unfold jN;simp only[List.replicate_zero,Sx,Uz];rw[<-this];rfl⟩ ?_;rintro r s ⟨k,hk,rfl,rfl⟩;refine ai<|ab (.a 4 I<|.k [1,2,3,4,10,11,35] I)<|ae I (λhc=>?_) (λhc=>?_)
      · have ah:k<N:=by have:=Q5 hc;omega
        have af:(jN N k).length=N:=by simp[jN];omega
        refine aj<|ai<|aw<|bx<|au 2 I<|bm (aM (k) I) I<|bc (cp I (Q6 I) I I I (by first|omega|(simp;omega))) I I<|aE [1,2,3,4,10,11] I ?_;refine eO (σ':=[some (.row 3 1 N (aU (jN N (k+1))))]) (by rw[<-Av N k ah];rfl)<|aC (.a 1 I<|.v (aW I) I<|.a 1 I<|.k [1,2,3,4,10,11] I) ?_;exact⟨N - (k+1),by omega,k+1,by omega,rfl,rfl⟩
      · have ag:k=N:=by have:=Rf hc;omega
        subst ag;have af:(jN k k).length=k:=by simp[jN]
        refine ba<|aK<|au 2 I<|bm (aM (n) I) I<|bc (cp I (Q6 I) I I I (by first|omega|(simp;omega))) I I<|aE [1,2,3,4,10] I ?_;refine eO (σ':=[some (.row 3 1 k (aU (Net.start k n)))]) (by rw[<-Cm k n];rfl) ?_;have J:=rT (T:=T) (D:=D) (N:=k) (n:=n) (dir:=dir) hN.symm al;generalize Net.start k n=v at J;refine ai<|ab (.a 1 I<|.k [1,2,3,4,10,12] I)<|aw<|eF [1,2,3,4,10,12] I<|bd (λr s=>∃(out:List Int) (b:Bool),Inv T D n dir out/\(b=false->∀a,a<2*T.ah.length->¬pQ T D n dir out a)/\r=2*mu out+b.toNat/\s=⟨[(1,aV D),(2,num n),(3,flag dir),(4,.bq (bn T) 0),(10,.own 0),(12,flag b)],[some (.row 3 1 k (aU out))]⟩) (2*mu v+1) ⟨v,true,J,(λh=>by cases h),rfl,rfl⟩ ?_;clear J v;rintro r s ⟨out,b,hI,hb,rfl,rfl⟩;refine ai<|ab (.a 1 I<|.k [1,2,3,4,10,44] I)<|ae I (λhc=>?_) (λhc=>?_)
        · subst hc;refine aj<|aw<|ab (.a 1 I<|.k [1,2,3,4,10,12] I)<|ab (.a 1 I<|.k [1,2,3,4,10,12,13] I)<|aw<|eF [1,2,3,4,10,12,13] I<|bd (λr s=>∃(k':Nat) (d:List Int) (b':Bool),k'<=2*T.ah.length/\Inv T D n dir d/\(b'=false->d=out/\∀a,a<k'->¬pQ T D n dir out a)/\(b'=true->mu d<mu out)/\r=2*T.ah.length - k'/\s=⟨[(1,aV D),(2,num n),(3,flag dir),(4,.bq (bn T) 0),(10,.own 0),(12,flag b'),(13,num k')],[some (.row 3 1 k (aU d))]⟩) (2*T.ah.length) ⟨0,out,false,by omega,hI,(λ_=>⟨rfl,λa ha=>by omega⟩),(λh=>by cases h),by omega,rfl⟩ ?_;rintro r s ⟨a,d,b',ha,i,f,m,rfl,rfl⟩;refine ai<|ab (.a 4 I<|.v (aW I (hc:=rfl)) I<|.a 1 I<|.k [1,2,3,4,10,12,13,50] I)<|ae I (λhc=>?_) (λhc=>?_)
          · have g:a<2*T.ah.length:=by have:=Q5 hc;omega
            obtain⟨p,hp⟩:=QW (E.tail a g).1;obtain⟨q,hq⟩:=QW (E.head a g).1;have aD:p<k:=by have:=(E.tail a g).2;omega
            have aG:q<k:=by have:=(E.head a g).2;omega
            have az:=E.cost a g;have aa:D.length=0\/a<D.length:=by simp only[bN,Ra]at hf;omega
            have aA:d.length=k:=by have:=i.len;omega
            refine aj<|ai<|aw<|er mixed (by kernel_rfl) (.a 2 I<|.v [53,54] (dX I (hp▸fI T hv a g)) I I<|.a 2 I<|.v [56,57] (dX I (hq▸gY T hv a g)) I I<|.a 2 I<|.k [1,2,3,4,10,12,13,14,15] I) ?_;refine Dk (λs0=>∃x y:Nat,fY T dir a=(x:Int)/\du T dir a=(y:Int)/\x<k/\y<k/\s0=⟨[(1,aV D),(2,num n),(3,flag dir),(4,.bq (bn T) 0),(10,.own 0),(12,flag b'),(13,num a),(14,num x),(15,num y)],[some (.row 3 1 k (aU d))]⟩) ?_ ?_
            · refine ab (.a 1 I<|.k [1,2,3,4,10,12,13,14,15,59] I)<|ae I (λj=>?_) (λj=>?_)
              · obtain⟨x,y,hx,hy,ex,Y⟩:∃x y:Nat,fY T dir a=(x:Int)/\du T dir a=(y:Int)/\x=q/\y=p:=⟨q,p,by rw[j];exact hq,by rw[j];exact hp,rfl,rfl⟩;subst ex;subst Y;refine aC (.a 4 I<|.k [1,2,3,4,10,12,13,14,15] I)<|⟨_,⟨x,y,hx,hy,by omega,by omega,rfl⟩,λhY=>?_⟩;exact iB (aR (ks:=[1,2,3,4,10,12,13,14,15]) I) hY
              · obtain⟨x,y,hx,hy,ex,Y⟩:∃x y:Nat,fY T dir a=(x:Int)/\du T dir a=(y:Int)/\x=p/\y=q:=⟨p,q,by rw[j];exact hp,by rw[j];exact hq,rfl,rfl⟩;subst ex;subst Y;refine aj<|⟨_,⟨x,y,hx,hy,by omega,by omega,rfl⟩,λhY=>?_⟩;exact iB (aR (ks:=[1,2,3,4,10,12,13,14,15]) I) hY
            · rintro s0 ⟨x,y,hx,hy,aH,aN,rfl⟩;refine ai ?_;have gx:d.getD x 0=at' d (x:Int):=by simp[at',QU,show x<d.length by omega]
              have Z:d.getD y 0=at' d (y:Int):=by simp[at',QU,show y<d.length by omega]
              have uy:=i.ub y (by omega) (by omega);have ly:=i.ge y (by omega);have⟨S,A⟩:=QQ (!aI D a);have⟨p2,B⟩:=QQ (decide (d.getD y 0<0));have⟨U,C⟩:=QQ (decide (y=n)|| !bR T y);refine bz 79 (.raw (.bool (((!S)||p2)||(!U)))) [1,2,3,4,10,12,13,14,15] I ?_ ?_
              · refine .a 2 I<|.c rfl (A▸tr D a aa) I<|.a 2 I<|?_;cases S
                · exact .a 13 I<|.k [79,1,2,3,4,10,12,13,14,15] I
                · refine .a 2 I<|.v (aM (y) I) I<|.v (aJ I (aB d y (by omega))) I<|.v (bW I (B)) I<|.a 2 I<|?_;cases p2
                  · exact .a 3 I<|.c rfl (C▸qE T hv y n) I<|.a 2 I<|.k [79,1,2,3,4,10,12,13,14,15] I
                  · exact .a 6 I<|.k [79,1,2,3,4,10,12,13,14,15] I
              refine ae I (λhc=>?_) (λhc=>?_)
              · have z:¬pQ T D n dir d a:=λF=>by
                  obtain⟨⟨w1,w2,R⟩,_⟩:=F;rw[hy]at w2 R;have W:S=true:=by rw[<-A,w1];rfl
                  have e2:p2=false:=by rw[<-B,Z];simp;omega
                  have X:U=true:=by
                    rw[<-C];rcases R with R|R
                    · have:y=n:=by omega
                      simp[this]
                    · rw[QS]at R;simp[R]
                  rw[W,e2,X]at hc;cases hc
                refine ba<|aC (.a 1 I<|.v (aW I) I<|.a 1 I<|.k [1,2,3,4,10,12,13] I) ?_;first
                  |exact⟨2*T.ah.length - (a+1),by omega,a+1,_,true,by omega,w,λh=>(by cases h),λ_=>(by by_cases e:b'=true;(have:=m e;omega);(have:=(f (by cases b';rfl;exact absurd rfl e)).1;rw[this]at l;rw[this];exact l)),rfl,rfl⟩
                  |exact⟨2*T.ah.length - (a+1),by omega,a+1,d,b',by omega,i,λh=>⟨(f h).1,λc K=>by by_cases e:c=a;(rw[e,<-(f h).1];exact z);exact(f h).2 c (by omega)⟩,m,rfl,rfl⟩
              · have H:Net.Way T D n dir d a:=by
                  obtain⟨c1,c3⟩:=Rt.1 hc;obtain⟨c1,V⟩:=Rt.1 c1;have W:S=true:=by cases S;cases c1;rfl
                  have X:U=true:=by cases U;cases c3;rfl
                  rw[W]at A;rw[V]at B;rw[X]at C;refine⟨by revert A;cases aI D a<;>simp,?_,?_⟩
                  · rw[hy,<-Z];have:=Rf B;omega
                  · rw[hy,QS];rcases Sh.1 C with h|h
                    · exact .inl (by have:=Q5 h;omega)
                    · exact .inr (by revert h;cases bR T y<;>simp)
                have wy:=H.2.1;rw[hy]at wy;refine aj<|er mixed (by kernel_rfl) (.a 2 I<|.v [80,81] (aM (y) I) I I<|.v [82] (aJ I ((aB d y (by omega)).trans (by rw[Z]))) I I<|.a 2 I<|.v [84,85] (dX I (py T hv a g)) I I<|.v [83,86] (aW I) I I<|.a 1 I<|.k [1,2,3,4,10,12,13,14,16] I) ?_;have⟨p4,t⟩:=QQ (decide (at' d (x:Int)<0));have⟨p5,u⟩:=QQ (decide (at' d (y:Int)+cz T a<at' d (x:Int)));refine bz 100 (.raw (.bool (p4||p5))) [1,2,3,4,10,12,13,14,16] I ?_ ?_
                · refine .a 2 I<|.v (aM (x) I) I<|.v (aJ I ((aB d x (by omega)).trans (by rw[gx]))) I<|.v (bW I (t)) I<|.a 1 I<|?_;cases p4
                  · exact .a 3 I<|.v (aM (x) I) I<|.v (aJ I ((aB d x (by omega)).trans (by rw[gx]))) I<|.v (bW I (u)) I<|.a 1 I<|.k [100,1,2,3,4,10,12,13,14,16] I
                  · exact .a 7 I<|.k [100,1,2,3,4,10,12,13,14,16] I
                refine ae I (λhc=>?_) (λhc=>?_)
                · have F:pQ T D n dir d a:=⟨H,by
                    rw[hx,hy];rcases Sh.1 hc with h|h
                    · rw[h]at t;exact .inl (Q5 t)
                    · rw[h]at u;exact .inr (Q5 u)⟩
                  obtain⟨w,l⟩:=Ai E i a g F;have ad:H4 T dir d a=d.set x (at' d (y:Int)+cz T a):=by unfold H4;rw[hx,hy,QS]
                  rw[ad]at w l;refine aK<|au 3 I<|bm (aM (x) I) I<|bc (cp I (Q6 I) I I I (by first|omega|(simp;omega))) I I<|aE [1,2,3,4,10,13] I ?_;refine aC (.a 1 I<|.k [1,2,3,4,10,12,13] I)<|aC (.a 1 I<|.v (aW I) I<|.a 1 I<|.k [1,2,3,4,10,12,13] I) ?_;first
                    |exact⟨2*T.ah.length - (a+1),by omega,a+1,_,true,by omega,w,λh=>(by cases h),λ_=>(by by_cases e:b'=true;(have:=m e;omega);(have:=(f (by cases b';rfl;exact absurd rfl e)).1;rw[this]at l;rw[this];exact l)),rfl,rfl⟩
                    |exact⟨2*T.ah.length - (a+1),by omega,a+1,d,b',by omega,i,λh=>⟨(f h).1,λc K=>by by_cases e:c=a;(rw[e,<-(f h).1];exact z);exact(f h).2 c (by omega)⟩,m,rfl,rfl⟩
                · have z:¬pQ T D n dir d a:=λF=>by
                    obtain⟨_,F⟩:=F;rw[hx,hy]at F;obtain⟨c1,V⟩:=Rt.1 hc;rw[c1]at t;rw[V]at u;rcases F with h|h
                    · exact Rf t h
                    · exact Rf u h
                  refine aj<|aC (.a 1 I<|.v (aW I) I<|.a 1 I<|.k [1,2,3,4,10,12,13] I) ?_;first
                    |exact⟨2*T.ah.length - (a+1),by omega,a+1,_,true,by omega,w,λh=>(by cases h),λ_=>(by by_cases e:b'=true;(have:=m e;omega);(have:=(f (by cases b';rfl;exact absurd rfl e)).1;rw[this]at l;rw[this];exact l)),rfl,rfl⟩
                    |exact⟨2*T.ah.length - (a+1),by omega,a+1,d,b',by omega,i,λh=>⟨(f h).1,λc K=>by by_cases e:c=a;(rw[e,<-(f h).1];exact z);exact(f h).2 c (by omega)⟩,m,rfl,rfl⟩
          · have ar:a=2*T.ah.length:=by have:=Rf hc;omega
            refine iB (.cons (k:=1) I<|.cons (k:=2) I<|.cons (k:=3) I<|.cons (k:=4) I<|.cons (k:=10) I<|.cons (k:=12) I<|Sub.nil _)<|ba<|⟨_,?_,d,b',i,λh=>?_,rfl,rfl⟩
            · cases b'
              · rw[(f rfl).1];simp
              · have:=m rfl;simp;omega
            · rw[(f h).1];intro c K;exact(f h).2 c (by omega)
        · have L:bJ T D n dir=out:=lK E (Aw hI (hb hc));refine ba<|ab (.a 3 I<|.k [8,9] I)<|ao<|⟨_,_,RY I,RW (QV (Tj rfl Sj) (QV ax.pure Rl)),?_⟩;unfold ec;rw[o,QY rfl,QS,L];unfold aq;rw[show out.length=k by have:=hI.len;omega]
theorem lY(T:ak)(D:List Bool)(d:Int):Can prog 142 [aL T,aV D,num d] (· =ec (ct T D [d]) (bJ T D d.toNat false)):=by
 exact aF func142 I ntmps142 I<|ab (.a 3 I<|.k [1,2,3] I)<|ab (.a 3 I<|.c rfl (A9 T D d false) I<|.a 4 I<|.k [6,7] I)<|ao<|QR I ax.pure rfl
def DW(T:ak)(D:List Bool)(L:List Int)(a d:Nat):Bool:=
 ((((!aI D a)&&decide (aZ T a≠(d:Int)))&&decide (0<=L.getD (aN T a).toNat 0))&&(decide ((aN T a).toNat=d)|| !bR T (aN T a).toNat))&&decide (L.getD (aZ T a).toNat 0=L.getD (aN T a).toNat 0+cz T a)
theorem CD(T:ak)(D:List Bool)(L:List Int)(a d:Nat)(hv:av T=true)(u:bN T D=true)(v:(L.length:Int)=T.nodes)(m:∀x∈L, -1<=x/\x<=4194240)(b:a<2*T.ah.length):
  Can prog 144 [aL T,aV D,aq L,num a,num d] (· =flag (DW T D L a d)):=by
 have e:=aS hv;obtain⟨x,hx⟩:=QW (e.tail a b).1;obtain⟨y,hy⟩:=QW (e.head a b).1;have n:x<L.length:=by have:=(e.tail a b).2;omega
 have c:y<L.length:=by have:=(e.head a b).2;omega
 have t:=e.cost a b;have k:D.length=0\/a<D.length:=by simp only[bN,Ra]at u;omega
 have w:=m _ (bX (d:=0) c);have⟨o,f⟩:=QQ (!aI D a);have⟨p,g⟩:=QQ (decide ((x:Int)≠(d:Int)));have⟨q,h⟩:=QQ (decide (0<=L.getD y 0));have⟨r,i⟩:=QQ (decide (y=d)|| !bR T y);have⟨s,j⟩:=QQ (decide (L.getD x 0=L.getD y 0+cz T a));have l:DW T D L a d=((((o&&p)&&q)&&r)&&s):=by
  unfold DW;rw[hx,hy,QS,QS,f,g,h,i,j]
 rw[l];refine aF func144 I ntmps144 I<|ab (.a 2 I<|.k [1,2,3,4,5] I)<|er mixed (by kernel_rfl) (.a 2 I<|.v [13,14] (dX I (hx▸fI T hv a b)) I I<|.a 2 I<|.v [16,17] (dX I (hy▸gY T hv a b)) I I<|.a 2 I<|.k [1,2,3,4,5,11,12] I) ?_;refine iY mixed (by kernel_rfl) 10 (.raw (.bool ((((o&&p)&&q)&&r)&&s))) [] I ?_ ?_
 ·refine .a 2 I<|.v [19,20] (dX I (f▸tr D a k)) I I<|.a 1 I<|?_;cases o
  ·exact .a 33 I<|.k [10] I
  ·refine .a 2 I<|.v [23,24] (bW I (g)) I I<|.a 2 I<|?_;cases p
   ·exact .a 28 I<|.k [10] I
   ·refine .a 2 I<|.v [28,29] (aM (y) I) I I<|.v [30] (aJ I (aB L y c)) I I<|.v [31] (bW I (h)) I I<|.a 2 I<|?_;cases q
    ·exact .a 21 I<|.k [10] I
    ·refine .a 3 I<|.v [35,36,37] (dX I (i▸qE T hv y d)) I I<|.a 2 I<|?_;cases r
     ·exact .a 15 I<|.k [10] I
     ·exact .a 2 I<|.v [41,42] (aM (x) I) I I<|.v [43] (aJ I (aB L x n)) I I<|.a 2 I<|.v [45,46] (aM (y) I) I I<|.v [47] (aJ I (aB L y c)) I I<|.a 2 I<|.v [49,50] (dX I (py T hv a b)) I I<|.v [48,51] (aW I) I I<|.v [44,52] (bW I (j)) I I<|.a 2 I<|.k [10] I
 exact ao<|QR I ax.pure rfl
def gR(T:ak)(D:List Bool)(L:List Int)(n d k:Nat):List Int:=((List.range k).filter λa=>decide (aZ T a=(n:Int))&&DW T D L a d).map Int.ofNat
theorem qC(T:ak)(D:List Bool)(L:List Int)(n d k:Nat):gR T D L n d (k+1)=gR T D L n d k++(if decide (aZ T k=(n:Int))&&DW T D L k d then [(k:Int)] else []):=by
 unfold gR;rw[R2,Sd,Sm];congr 1;simp only[S1,Tg];split<;>simp
theorem sq(T:ak)(D:List Bool)(L:List Int)(n d k:Nat):(gR T D L n d k).length<=k:=by
 unfold gR;rw[RN];exact Rr (RG _ _) (by simp)
theorem uV(T:ak)(D:List Bool)(L:List Int)(n d:Nat)(hv:av T=true)(l:bN T D=true)(j:(L.length:Int)=T.nodes)(g:∀x∈L, -1<=x/\x<=4194240):
  Can prog 143 [aL T,aV D,aq L,num n,num d] (· =aq (gR T D L n d (2*T.ah.length))):=by
 have m:=bO hv;refine aF func143 I ntmps143 I<|ab (.a 2 I<|.k [1,2,3,4,5] I)<|ab (.a 1 I<|.k [1,2,3,4,5,11] I)<|eU 11 3 1 I ?_;refine ai<|ab (.a 1 I<|.k [1,2,3,4,5,11,12] I)<|aw<|eF [1,2,3,4,5,11,12] I<|bd (λr s=>∃k,k<=2*T.ah.length/\r=2*T.ah.length - k/\s=⟨[(1,aV D),(2,aq L),(3,num n),(4,num d),(5,.bq (bn T) 0),(11,.own 0),(12,num k)],[some (.row 3 1 (gR T D L n d k).length (aU (gR T D L n d k)))]⟩) (2*T.ah.length) ⟨0,by omega,by omega,rfl⟩ ?_;rintro r s ⟨k,hk,rfl,rfl⟩;refine ai<|ab (.a 4 I<|.v (aW I (hc:=rfl)) I<|.a 1 I<|.k [1,2,3,4,5,11,12,18] I)<|ae I (λhc=>?_) (λhc=>?_)
 ·have e:k<2*T.ah.length:=by have:=Q5 hc;omega
  have h:=sq T D L n d k;have a:=qC T D L n d k;refine aj<|ai<|aw ?_;have⟨i,b⟩:=QQ (decide (aZ T k=(n:Int)));have⟨o,c⟩:=QQ (DW T D L k d);refine bz 33 (.raw (.bool (i&&o))) [1,2,3,4,5,11,12] I ?_ ?_
  ·refine .a 2 I<|.c rfl (fI T hv k e) I<|.a 1 I<|.v (bW I (b)) I<|.a 1 I<|?_;cases i
   ·exact .a 7 I<|.k [33,1,2,3,4,5,11,12] I
   ·exact .a 5 I<|.c rfl (c▸CD T D L k d hv l j g e) I<|.a 1 I<|.k [33,1,2,3,4,5,11,12] I
  refine ae I (λhc=>?_) (λhc=>?_)
  ·rw[b,c,hc,QY rfl]at a;refine bx<|au 3 I<|cb (bF I (Ru I) I I I I (by unfold maxLen;omega)) I<|au 1 I ?_;refine dL [1] (.c 1<|.c 2<|.c 3<|.c 4<|.c 5<|.c 11<|.c 12<|.nil) (.kept rfl (.eY rfl (cW _ _))<|.nil) I I (bg ?_);refine aC (.a 1 I<|.v (aW I) I<|.a 1 I<|.k [1,2,3,4,5,11,12] I)<|⟨2*T.ah.length - (k+1),by omega,k+1,by omega,rfl,?_⟩;rw[a];first
    |rfl
    |(simp only[Q0,Rk];rfl)
  ·rw[b,c,hc,QZ (by simp),R9]at a;refine aj<|aC (.a 1 I<|.v (aW I) I<|.a 1 I<|.k [1,2,3,4,5,11,12] I) ?_;refine⟨2*T.ah.length - (k+1),by omega,k+1,by omega,rfl,?_⟩;rw[a];first
    |rfl
    |(simp only[Q0,Rk];rfl)
 ·have f:k=2*T.ah.length:=by have:=Rf hc;omega
  subst f;exact ba<|ab (.a 2 I<|.k [10] I)<|ao<|QR I (Tj rfl Sj) rfl
theorem rI(T:ak)(D:List Bool)(n d:Nat)(hv:av T=true)(hn:(n:Int)<T.nodes):gR T D (bJ T D d false) n d (2*T.ah.length)=bu T D n d:=by
 have e:=aS hv;unfold bu;generalize bJ T D d false=L;have b:∀k,k<2*T.ah.length->(decide (aZ T k=(n:Int))&&DW T D L k d)=if n=d\/L.getD n 0<0 then false else(aZ T k==(n:Int))&&ij T D L (L.getD n 0) d k:=λk hk=>by
  obtain⟨y,hy⟩:=QW (e.head k hk).1;have hc:=e.cost k hk;by_cases c:aZ T k=(n:Int)
  ·simp only[c,decide_true,RM,beq_self_eq_true];unfold DW ij;rw[c,hy,QS,QS];generalize L.getD n 0=u;generalize L.getD y 0=v;by_cases h1:n=d
   ·simp[h1]
   ·by_cases h2:u<0
    ·rw[QY (.inr h2)];by_cases p:0<=v
     ·have:¬u=v+cz T k:=by omega
      simp[this]
     ·simp[p]
    ·rw[QZ (by omega)];have j:decide ((n:Int)≠(d:Int))=true:=by simp;omega
     have l:decide (v<0)= !decide (0<=v):=by
      by_cases h:0<=v
      ·simp only[h,decide_true,UK,Sb];omega
      ·simp only[h,decide_false,TU,Ra];omega
     have m:decide ((y:Int)≠(d:Int))= !decide (y=d):=by
      by_cases h:y=d
      ·simp[h]
      ·simp only[h,decide_false,TU,Ra];omega
     have o:decide (v+cz T k=u)=decide (u=v+cz T k):=by
      by_cases h:u=v+cz T k
      ·simp[h]
      ·simp only[h,decide_false,Sb];omega
     rw[j,l,m,o];generalize decide (0<=v)=f;generalize decide (y=d)=g;generalize decide (u=v+cz T k)=i;cases aI D k<;>cases f<;>cases g<;>cases i<;>cases bR T y<;>rfl
  ·simp[c]
 unfold gR;rw[show(List.range (2*T.ah.length)).filter (λa=>decide (aZ T a=(n:Int))&&DW T D L a d)=(List.range (2*T.ah.length)).filter (λk=>if n=d\/L.getD n 0<0 then false else(aZ T k==(n:Int))&&ij T D L (L.getD n 0) d k) from Ug λk hk=>b k (Ri.1 hk)];by_cases h:n=d\/L.getD n 0<0
 ·simp only[QY h];simp
 ·simp only[QZ h];unfold ll bK iM;rw[List.filter_map];congr 1;rw[T7];apply Ug;intro k _;simp[Function.comp,Bool.and_comm]
theorem Gb(T:ak)(D:List Bool)(n d:Int):Can prog 114 [aL T,aV D,num n,num d] (· =ec (bY T D n d) (bu T D n.toNat d.toNat)):=by
 refine aF func114 I ntmps114 I<|ab (.a 3 I<|.k [1,2,3,4] I)<|ab (.a 3 I<|.c rfl (lY T D d) I<|.a 5 I<|.k [1,2,3,4,10,11] I)<|ai<|ab (.a 2 I<|.k [1,2,3,4,10,11,20] I)<|ae I (λhc=>?_) (λhc=>?_)
 ·have he:ct T D [d]≠0:=Q5 hc;exact ab (.a 3 I<|.k [8,9] I)<|ao<|QR I (RW (QV ax.bH (QV ax.pure Rl))) (by unfold ec bY;rw[QZ he,QZ he];rfl)
 ·have he:ct T D [d]=0:=by have:=Rf hc;omega
  rw[he];obtain⟨hv,j,hd⟩:=rm he;have hd:=aQ.1 (hd d (by simp));obtain⟨d,rfl⟩:=QW hd.1;obtain⟨f,g⟩:=dD (D:=D) hv (dir:=false) hd.2;refine aj<|ai ?_;have⟨h,c⟩:=QQ (decide (n<0));have⟨i,e⟩:=QQ (decide (T.nodes<=n));have a:aX T n= !(h||i):=by rw[<-c,<-e];unfold aX;by_cases h1:n<0<;>by_cases h2:T.nodes<=n<;>simp[h1,h2]<;>omega
  refine bz 29 (.raw (.bool (h||i))) [1,2,3,4,10] I ?_ ?_
  ·refine .a 1 I<|.v (bW I (c)) I<|.a 1 I<|?_;cases h
   ·exact .a 3 I<|.v (bW I (e)) I<|.a 1 I<|.k [29,1,2,3,4,10] I
   ·exact .a 5 I<|.k [29,1,2,3,4,10] I
  refine ae I (λhc=>?_) (λhc=>?_)
  ·rw[hc]at a;exact ab (.a 2 I<|.k [8,9] I)<|ao<|QR I (RW (QV ax.bH (QV ax.pure Rl))) (by unfold ec bY;rw[QY he,a];rfl)
  ·rw[hc]at a;have hn:=aQ.1 a;obtain⟨n,rfl⟩:=QW hn.1;have b:=uV T D (bJ T D d false) n d hv j f g;rw[rI T D n d hv hn.2]at b;exact aj<|ab (.a 5 I<|.c rfl (b) I<|.a 2 I<|.k [8,9] I)<|ao<|QR I ax.pure (by unfold ec bY;rw[QY he,a];rfl)
theorem iP(T:ak)(hv:av T=true)(n:Int):Can prog 51 [aL T,num n] (· =aq (bK T n)):=by
 have e:=bO hv;refine aF func51 I ntmps51 I<|ab (.a 2 I<|.k [1,2] I)<|ab (.a 1 I<|.k [1,2,5] I)<|eU 5 3 1 I ?_;refine ai<|ab (.a 1 I<|.k [1,2,5,6] I)<|aw<|eF [1,2,5,6] I<|bd (λr s=>∃k,k<=2*T.ah.length/\r=2*T.ah.length - k/\s=⟨[(1,num n),(2,.bq (bn T) 0),(5,.own 0),(6,num k)],[some (.row 3 1 (iM T n k).length (aU (iM T n k)))]⟩) (2*T.ah.length) ⟨0,by omega,by omega,rfl⟩ ?_;rintro r s ⟨k,hk,rfl,rfl⟩;refine ai<|ab (.a 2 I<|.c rfl (ky T hv) I<|.a 1 I<|.k [1,2,5,6,10] I)<|ae I (λhc=>?_) (λhc=>?_)
 ·have c:k<2*T.ah.length:=by have:=Q5 hc;omega
  have d:=eu T n k;refine aj<|ai<|aw<|ab (.a 2 I<|.c rfl (fI T hv k c) I<|.a 2 I<|.k [1,2,5,6,17] I)<|ae I (λhc=>?_) (λhc=>?_)
  ·have a:=w7 T n k (by simpa using Q5 hc);refine bx<|au 3 I<|cb (bF I (Ru I) I I I I (by unfold maxLen;omega)) I<|au 1 I ?_;refine dL [1] (.c 1<|.c 2<|.c 5<|.c 6<|.nil) (.kept rfl (.eY rfl (cW _ _))<|.nil) I I (bg ?_);refine aC (.a 1 I<|.v (aW I) I<|.a 1 I<|.k [1,2,5,6] I)<|⟨2*T.ah.length - (k+1),by omega,k+1,by omega,rfl,?_⟩;rw[a];first
    |rfl
    |(simp only[Q0,Rk];rfl)
  ·have a:=AP T n k (by simpa using Rf hc);refine aj<|aC (.a 1 I<|.v (aW I) I<|.a 1 I<|.k [1,2,5,6] I) ?_;refine⟨2*T.ah.length - (k+1),by omega,k+1,by omega,rfl,?_⟩;rw[a];first
    |rfl
    |(simp only[Q0,Rk];rfl)
 ·have b:k=2*T.ah.length:=by have:=Rf hc;omega
  subst b;exact ba<|ab (.a 2 I<|.k [4] I)<|ao<|QR I (Tj rfl Sj) rfl
theorem su(T:ak)(D:List Bool)(n:Int):Can prog 87 [aL T,aV D,num n] (· = .tuple [dW (gS T D n),num (ct T D [n])]):=by
 refine aF func87 I ntmps87 I<|aK<|au 3 I<|aE [1,2,3,6] I ?_;refine ai<|ab (.a 2 I<|.c rfl (l7 T D) I<|.a 1 I<|.k [1,2,3,6,17] I)<|ae I (λhc=>?_) (λhc=>?_)
 ·have e:ct T D [n]=1:=by
   unfold ct;rw[QZ];revert hc;cases(av T&&bN T D)<;>simp
  refine aK<|au 3 I<|aE [6,7] I ?_;exact ao<|QR I (RW (QV (TI (QV ax.pure<|QV ax.bH<|QV ax.bH Rl)) (QV ax.pure Rl))) (by unfold gS;rw[e];rfl)
 ·have k:(av T&&bN T D)=true:=by revert hc;cases(av T&&bN T D)<;>simp
  refine aj<|ai ?_;have⟨z,o⟩:=QQ (decide (n<0));have⟨B,p⟩:=QQ (decide (T.nodes<=n));have g:aX T n= !(z||B):=by rw[<-o,<-p];unfold aX;by_cases h1:n<0<;>by_cases h2:T.nodes<=n<;>simp[h1,h2]<;>omega
  refine bz 26 (.raw (.bool (z||B))) [1,2,3,6] I ?_ ?_
  ·refine .a 1 I<|.v (bW I (o)) I<|.a 1 I<|?_;cases z
   ·exact .a 3 I<|.v (bW I (p)) I<|.a 1 I<|.k [26,1,2,3,6] I
   ·exact .a 5 I<|.k [26,1,2,3,6] I
  refine ae I (λhc=>?_) (λhc=>?_)
  ·have hn:aX T n=false:=by rw[g,hc];rfl
   have e:ct T D [n]=2:=by
    unfold ct;rw[QY k,QZ];simp[hn]
   refine aK<|au 3 I<|aE [6,7] I ?_;exact ao<|QR I (RW (QV (TI (QV ax.pure<|QV ax.bH<|QV ax.bH Rl)) (QV ax.pure Rl))) (by unfold gS;rw[e];rfl)
  ·have hn:aX T n=true:=by rw[g,hc];rfl
   have e:ct T D [n]=0:=by
    unfold ct;rw[QY k,QY];simp[hn]
   obtain⟨hv,E⟩:=Q3.1 k;rw[aQ]at hn;obtain⟨m,rfl⟩:=QW hn.1;obtain⟨N,hN⟩:∃N:Nat,T.nodes=(N:Int):=⟨T.nodes.toNat,by omega⟩;have A:N<=64:=by have:=(aS hv).nodes;omega
   have F:=bO hv;clear hc o p g;refine aj<|aK<|au 4 I<|aE [1,2,3,6,8] I ?_;refine cm 1 1 120 3 I I<|cm 1 2 3 1 I I ?_;refine ai<|ab (.a 1 I<|.k [1,2,3,6,8,9] I)<|aw<|eF [1,2,3,6,8,9] I<|bd (λr s=>∃j,j<=N/\r=N - j/\s=⟨[(1,aV D),(2,num m),(3,.bq (bn T) 0),(6,.ptr 0 0),(8,.ptr 1 0),(9,num j)],[some (.cells 76 [num 0,.raw (.slice none 0 0),.raw (.slice none 0 0)]),some (.cells 76 [num m,.own 2,.own 3]),some (.row 120 3 j (dH (toL T D m j))),some (.row 3 1 0 [])]⟩) N ⟨0,by omega,by omega,rfl⟩ ?_;rintro r s ⟨j,H,rfl,rfl⟩;refine ai<|ab (.a 2 I<|.v (aJ I ((show some (num T.nodes)=some (num (N:Int)) by rw[hN]))) I<|.a 1 I<|.k [1,2,3,6,8,9,33] I)<|ae I (λhc=>?_) (λhc=>?_)
   ·have f:j<N:=by have:=Q5 hc;omega
    have x:bY T D (m:Int) (j:Int)=0:=by
     have g:aX T (j:Int)=true:=aQ.2 ⟨by omega,by omega⟩;have q:ct T D [(j:Int)]=0:=by
      unfold ct;rw[QY k,QY];simp[g]
     unfold bY;rw[QY q,QY (aQ.2 hn)]
    have y:Can prog 114 [aL T,aV D,num m,num j] (· = .tuple [aq (bu T D m j),num 0]):=by
     have h:=Gb T D (m:Int) (j:Int);rw[x]at h;exact h
    refine aj<|ai<|aw<|ab (.a 4 I<|.c rfl (y) I<|.a 5 I<|.k [1,2,3,6,8,9,10] I)<|bx<|au 3 I<|bm (sU (gT (xs:=[_,_,_]) I (TT I) I I) (gZ.eQ (.cons (Tv _)<|.cons (Tv _)<|.cons gZ.bH .nil))) I<|au 1 I<|cb (bF I (Ru I) I I I I (by unfold maxLen;omega)) I<|au 2 I ?_;refine dL [0,1,4,3] (.c 1<|.c 2<|.c 3<|.c 6<|.c 8<|.c 9<|.nil) (.kept rfl (.cells (Sr<|Sr<|Sr<|Sy))<|.kept rfl (.cells (Sr<|Sr<|Sr<|Sy))<|.kept rfl (.eY rfl (show _=dH (toL T D m (j+1)) by rw[vo];exact jc _ ⟨bu T D m j,false,[]⟩))<|.kept rfl (.row RZ)<|.nil) I I (bg ?_);refine aC (.a 1 I<|.v (aW I) I<|.a 1 I<|.k [1,2,3,6,8,9] I)<|⟨N - (j+1),by omega,j+1,by omega,rfl,rfl⟩
   ·have w:j=N:=by have:=Rf hc;omega
    subst w;refine ba ?_;have G:(bK T m).length<=512:=Rr (eu T m _) (by omega);refine ab (.a 2 I<|.c rfl (iP T hv _) I<|.a 1 I<|.k [1,6,8,12] I)<|ai<|ab (.a 1 I<|.k [1,6,8,12,13] I)<|aw<|eF [1,6,8,12,13] I<|bd (λr s=>∃i,i<=(bK T m).length/\r=(bK T m).length - i/\s=⟨[(1,aV D),(6,.ptr 0 0),(8,.ptr 1 0),(12,aq (bK T m)),(13,num i)],[some (.cells 76 [num 0,.raw (.slice none 0 0),.raw (.slice none 0 0)]),some (.cells 76 [num m,.own 2,.own 3]),some (.row 120 3 j (dH (toL T D m j))),some (.row 3 1 (cI D ((bK T m).take i)).length (aU (cI D ((bK T m).take i))))]⟩) (bK T m).length ⟨0,by omega,by omega,rfl⟩ ?_;rintro r s ⟨i,hi,rfl,rfl⟩;refine ai<|ab (.a 4 I<|.k [1,6,8,12,13,57] I)<|ae I (λhc=>?_) (λhc=>?_)
    ·have f:i<(bK T m).length:=by have:=Q5 hc;omega
     obtain⟨h0,h1⟩:=kS (bX (d:=0) f);obtain⟨a,u⟩:=QW h0;have t:D.length=0\/a<D.length:=by simp only[bN,Ra]at E;omega
     have b:cI D ((bK T m).take (i+1))=cI D ((bK T m).take i)++(if aI D a then [(a:Int)] else []):=by
      unfold cI;rw[dE _ i 0 f,Sd,u];simp only[S1,Tg,QS]
     have C:(cI D ((bK T m).take i)).length<=1000:=Rr (RG _ _) (by rw[Sg];omega);refine aj<|ai<|aw<|ab (.a 3 I<|.v (aM (i) I) I<|.v (aJ I ((aB _ i f).trans (by rw[u]))) I<|.c rfl (tr D a t) I<|.a 1 I<|.k [1,6,8,12,13,66] I)<|ae I (λl=>?_) (λl=>?_)
     ·have c:aI D a=true:=by revert l;cases aI D a<;>simp
      rw[c,QY rfl]at b;refine dh 7 20 mixed (.val [8] I (bb I) I I<|.val [67] I (bb I) I I<|.val [12] I (bb I) I I<|.val [13] I (bb I) I I<|.val [69,70] I (aM (i) I) I I<|.val [71] I (aJ I ((aB _ i f).trans (by rw[u]))) I I<|.val [72] I (bb I) I I<|.nil) (by kernel_rfl) I I (aR (ks:=[1,6,8,12,13,68,73]) I)<|cb (bF I (Ru I) I I I I (by unfold maxLen;omega)) I<|au 2 I ?_;refine dL [0,1,2,4] (.c 1<|.c 6<|.c 8<|.c 12<|.c 13<|.nil) (.kept rfl (.cells (Sr<|Sr<|Sr<|Sy))<|.kept rfl (.cells (Sr<|Sr<|Sr<|Sy))<|.kept rfl (.row RZ)<|.kept rfl (.eY rfl (cW _ _))<|.nil) I I (bg ?_);refine aC (.a 1 I<|.v (aW I) I<|.a 1 I<|.k [1,6,8,12,13] I)<|⟨(bK T m).length - (i+1),by omega,i+1,by omega,rfl,?_⟩;rw[b];first
       |rfl
       |(simp only[Q0,Rk];rfl)
     ·have c:aI D a=false:=by revert l;cases aI D a<;>simp
      rw[c,QZ (by simp),R9]at b;refine aj<|aC (.a 1 I<|.v (aW I) I<|.a 1 I<|.k [1,6,8,12,13] I) ?_;refine⟨(bK T m).length - (i+1),by omega,i+1,by omega,rfl,?_⟩;rw[b];first
       |rfl
       |(simp only[Q0,Rk];rfl)
    ·have v:i=(bK T m).length:=by have:=Rf hc;omega
     subst v;refine ba<|aK<|bm (ee (ys:=[num m,.own 2,.own 3]) I (Q6 I) I I I I) I<|au 2 I<|aE [6,7] I ?_;refine ao<|⟨_,_,RY I,RW (QV (TI (QV ax.pure<|QV (Tj rfl Sj)<|QV (Tj rfl Sj) Rl)) (QV ax.pure Rl)),?_⟩;unfold gS;rw[e,QY rfl,RC];unfold dU dW fi iW aq;rw[tu,show T.nodes.toNat=j by omega]
     rfl
theorem xB(a b c d:Int)(w:World):(Op.equalIn 10000 136 (.agg #[.int .i64 a,.int .i64 b]) (.agg #[.int .i64 c,.int .i64 d])).run prog w= .ok (a==c&&b==d) w:=by
 have f:=Tryz.underlying3;have a3:=Tryz.isAgg3;have z3:=Tryz.sizeOf3;have e:prog.underlying 136=some (.struct (prog.fieldsOf 136)):=by kernel_rfl
 rw[show(10000:Nat)=9999+1 from rfl,run_equalIn_agg w 9999 136 _ _ e (by kernel_rfl)];simp only[Program.fieldsOf,Tryz.underlying136]
 go_simp
 by_cases h1:a=c<;>by_cases h2:b=d<;>simp[h1,h2]
theorem ti{E w v}{s:bG}(h:cZ E w v (vZ s)):v= .agg #[.int .i64 s.kind,.int .i64 s.num]:=by
 unfold vZ pE at h;cases h with
 |agg cs _ hl hr=>
  obtain⟨l⟩:=cs
  match l,hl,hr with
  | [x,y],_,hr=>
   have h0:=fW (hr 0 x _ rfl rfl);have h1:=fW (hr 1 y _ rfl rfl);subst h0;subst h1;rfl
  | [],hl,_=>simp at hl
  | [_],hl,_=>simp at hl
  |_::_::_::_,hl,_=>simp at hl
theorem JW{σ t}{o:Oper}{x y l a b q}(j:o.op= .binOp .neq 136 x y l)(hx:aH t x=some (vZ a))(hy:aH t y=some (vZ b))(k:decide (a≠b)=q):bE prog σ t o (.raw (.bool q)):=by
 intro F base E ρ w c _ d;have h1:=ti (aD c d hx);have h2:=ti (aD c d hy);have hb:(!(a.kind==b.kind&&a.num==b.num))=q:=by
  rw[<-k];obtain⟨e,a2⟩:=a;obtain⟨f,g⟩:=b;by_cases h:e=f<;>by_cases i:a2=g<;>simp[h,i]
 simp only[execOp,j,h1,h2,Sem.run_bind,run_eqGuard_agg w _ _ _ _ _ _ (show prog.eqGuardType prog.depth 136=false by kernel_rfl),Result.andThen_ok,run_neq_struct,xB,Sem.run_pure,hb];exact bI (.raw _)
theorem BD{σ t}{o:Oper}{x y l a b q}(j:o.op= .binOp .eql 136 x y l)(hx:aH t x=some (vZ a))(hy:aH t y=some (vZ b))(k:decide (a=b)=q):bE prog σ t o (.raw (.bool q)):=by
 intro F base E ρ w c _ d;have h1:=ti (aD c d hx);have h2:=ti (aD c d hy);have hb:(a.kind==b.kind&&a.num==b.num)=q:=by
  rw[<-k];obtain⟨e,a2⟩:=a;obtain⟨f,g⟩:=b;by_cases h:e=f<;>by_cases i:a2=g<;>simp[h,i]
 simp only[execOp,j,h1,h2,Sem.run_bind,run_eqGuard_agg w _ _ _ _ _ _ (show prog.eqGuardType prog.depth 136=false by kernel_rfl),Result.andThen_ok,run_eql_struct,xB,Sem.run_pure,hb];exact bI (.raw _)
theorem Gk(L M:List bG):Can prog 124 [cr L,cr M] (· =flag (decide (L=M))):=by
 refine mA λ⟨E,w,vs,m⟩=>?_;obtain⟨v,_,hv⟩:=m.get (i:=0) I;have hm:=ln hv;unfold maxLen at hm;refine aF func124 I ntmps124 I<|ab (.a 1 I<|.k [0,1] I)<|ai<|ab (.a 5 I<|.k [0,1,10] I)<|ae I (λhc=>?_) (λhc=>?_)
 ·have d:L≠M:=λe=>by have:=Q5 hc;rw[e]at this;exact this rfl
  exact ab (.a 1 I<|.k [4] I)<|ao<|QR I ax.pure (by rw[Rg d];rfl)
 ·have l:L.length=M.length:=by have:=Rf hc;omega
  refine aj<|ai<|ab (.a 1 I<|.k [0,1,5] I)<|aw<|eF [0,1,5] I<|bd (λr s=>∃i,i<=L.length/\(∀j,j<i->L[j]? =M[j]?)/\r=L.length - i/\s=⟨[(0,cr L),(1,cr M),(5,num i)],[]⟩) L.length ⟨0,by omega,λj k=>by omega,by omega,rfl⟩ ?_;rintro r s ⟨i,hi,c,rfl,rfl⟩;refine ai<|ab (.a 4 I<|.k [0,1,5,14] I)<|ae I (λhc=>?_) (λhc=>?_)
  ·have h:i<L.length:=by have:=Q5 hc;omega
   obtain⟨a,f⟩:∃a,L[i]? =some a:=⟨L[i],by simp[h]⟩;obtain⟨b,hb⟩:∃b,M[i]? =some b:=⟨M[i]'(by omega),by simp[show i<M.length by omega]⟩;refine aj<|ai<|aw<|er mixed (by kernel_rfl) (.a 2 I<|.v [17,18] (aM (i*2) I) I I<|.v [19] (kf I (Q6 I) I (il L i a f) I) I I<|.a 2 I<|.v [21,22] (aM (i*2) I) I I<|.v [23] (kf I (Q6 I) I (il M i b hb) I) I I<|.v [20,24] (JW (a:=a) (b:=b) I I I I) I I<|.k [0,1,5,25] I) ?_;refine ae I (λhc=>?_) (λhc=>?_)
   ·have d:L≠M:=λe=>by rw[e,hb]at f;cases f;exact Q5 hc rfl
    exact ab (.a 1 I<|.k [4] I)<|ao<|QR I ax.pure (by rw[Rg d];rfl)
   ·have g:a=b:=Q4 (Rf hc);refine aj<|aC (.a 1 I<|.v (aW I) I<|.a 1 I<|.k [0,1,5] I) ?_;exact⟨L.length - (i+1),by omega,i+1,by omega,λj k=>by by_cases e:j=i;(rw[e,f,hb,g]);exact c j (by omega),rfl,rfl⟩
  ·have n:i=L.length:=by have:=Rf hc;omega
   have heq:L=M:=Sp λj=>by
    by_cases k:j<L.length
    ·exact c j (by omega)
    ·rw[RJ (by omega),RJ (by omega)]
   exact ba<|ab (.a 1 I<|.k [4] I)<|ao<|QR I ax.pure (by rw[Rb heq];rfl)
deriving instance DecidableEq for jI
deriving instance DecidableEq for cQ
theorem D9{E w v}{x:cQ}(h:cZ E w v (dW x)):x.ed.length<=maxLen/\x.down.length<=maxLen:=by
 unfold dW fi at h;cases h with
 |agg cs _ hl hr=>
  have hr:bp E w cs.toList _:=⟨by simpa using hl,λi x u h1 h2=>hr i x u (by simpa using h1) h2⟩;obtain⟨v1,_,h1⟩:=hr.get (i:=1) I;obtain⟨v2,_,h2⟩:=hr.get (i:=2) I;exact⟨ln h1,ln h2⟩
def kV(T:ak)(s:bG):Bool:=if s.kind=1 then aX T s.num else if s.kind=2 then ef T s.num else if s.kind=3 then bQ s.num 1 64 else if s.kind=4 then bQ s.num 0 65535 else false
def fe(T:ak)(n:Int)(L:List Int):Bool:=decide (∀i,i<L.length->ef T (L.getD i 0)=true/\aZ T (L.getD i 0).toNat=n/\(0<i->L.getD (i - 1) 0<L.getD i 0))
def gL(T:ak)(n d:Int)(e:jI):Bool:=fe T n e.aA&&(!(decide (d=n)&&decide (0<(e.aA.length:Int))))&&(if e.rep then decide ((e.aA.length:Int)=1)&&decide ((e.push.length:Int)<=32)&&e.push.all (kV T) else decide ((e.push.length:Int)=0))
def KM:jI:=⟨[],false,[]⟩
def nD(T:ak)(n:Int)(l:List jI):Bool:=decide (∀d,d<l.length->gL T n d (l.getD d KM)=true)
def df(T:ak)(x:cQ):Bool:=av T&&aX T x.node&&decide ((x.ed.length:Int)=T.nodes)&&fe T x.node x.down&&nD T x.node x.ed
theorem cH{T:ak}{a:Int}:ef T a=true↔0<=a/\a<2*(T.ah.length:Int):=by simp[ef]
theorem rU(T:ak)(a:Int)(h:ef T a=true):Can prog 20 [aL T,num a] (· =num (aZ T a.toNat)):=by
 obtain⟨h0,h1⟩:=cH.1 h;obtain⟨a,rfl⟩:=QW h0;exact kX T a (by omega)
theorem Jo(T:ak)(hl:T.ah.length<=4611686018427387903)(s:bG):Can prog 138 [aL T,vZ s] (· =flag (kV T s)):=by
 unfold kV;refine aF func138 I ntmps138 I<|ab (.a 3 I<|.k [2,3] I)<|ai<|ab (.a 2 I<|.k [2,3,6] I)<|aw<|ab (.a 2 I<|.k [2,3,6,7] I)<|ae I (λhc=>?_) (λhc=>?_)
 ·rw[QY (tt hc)];exact ab (.a 3 I<|.c rfl (ej T s.num) I<|.a 1 I<|.k [4] I)<|ao<|QR I ax.pure rfl
 ·rw[QZ (ff hc)];refine ab (.a 2 I<|.k [2,3,6,13] I)<|ae I (λhc=>?_) (λhc=>?_)
  ·rw[QY (tt hc)];exact ab (.a 3 I<|.c rfl (s4 T hl s.num) I<|.a 1 I<|.k [4] I)<|ao<|QR I ax.pure rfl
  ·rw[QZ (ff hc)];refine ab (.a 2 I<|.k [3,6,19] I)<|ae I (λhc=>?_) (λhc=>?_)
   ·rw[QY (tt hc)];have⟨c,a⟩:=QQ (decide (1<=s.num));have⟨d,b⟩:=QQ (decide (s.num<=64));have he:bQ s.num 1 64=(c&&d):=by rw[<-a,<-b];unfold bQ;exact S8 _ _
    rw[he];refine bz 4 (.raw (.bool (c&&d))) [] I ?_ ?_
    ·refine .a 2 I<|.v (bW I (a)) I<|.a 1 I<|?_;cases c
     ·exact .a 5 I<|.k [4] I
     ·exact .a 2 I<|.v (bW I (b)) I<|.a 2 I<|.k [4] I
    exact ao<|QR I ax.pure rfl
   ·rw[QZ (ff hc)];refine ab (.a 2 I<|.k [3,29] I)<|ae I (λhc=>?_) (λhc=>?_)
    ·rw[QY (tt hc)];have⟨c,a⟩:=QQ (decide (0<=s.num));have⟨d,b⟩:=QQ (decide (s.num<=65535));have he:bQ s.num 0 65535=(c&&d):=by rw[<-a,<-b];unfold bQ;exact S8 _ _
     rw[he];refine bz 4 (.raw (.bool (c&&d))) [] I ?_ ?_
     ·refine .a 2 I<|.v (bW I (a)) I<|.a 1 I<|?_;cases c
      ·exact .a 5 I<|.k [4] I
      ·exact .a 2 I<|.v (bW I (b)) I<|.a 2 I<|.k [4] I
     exact ao<|QR I ax.pure rfl
    ·rw[QZ (ff hc)];exact aj<|ab (.a 1 I<|.k [4] I)<|ao<|QR I ax.pure rfl
theorem Jn{T}{s:bG}(h:s.num<0):kV T s=false:=by
 unfold kV;have h1:aX T s.num=false:=by unfold aX;exact Rg (by omega)
 have h2:ef T s.num=false:=by unfold ef;exact Rg (by omega)
 have a:bQ s.num 1 64=false:=by unfold bQ;exact Rg (by omega)
 have b:bQ s.num 0 65535=false:=by unfold bQ;exact Rg (by omega)
 rw[h1,h2,a,b];simp
theorem Jh(T:ak)(hv:av T=true)(s:bG):Can prog 123 [aL T,vZ s] (· =flag (kV T s)):=by
 have h:=fh T;rw[hv]at h;have⟨p0,a⟩:=QQ (decide (s.num<0));refine aF func123 I ntmps123 I<|ab (.a 3 I<|.k [2,3] I)<|ai<|bz 12 (.raw (.bool (p0))) [2,3] I ?_ ?_
 ·exact .a 1 I<|.c rfl (h) I<|.a 4 I<|.v (bW I (a)) I<|.a 1 I<|.k [12,2,3] I
 refine ae I (λhc=>?_) (λhc=>?_)
 ·rw[hc]at a;rw[Jn (tt a)];exact ab (.a 1 I<|.k [4] I)<|ao<|QR I ax.pure rfl
 ·rw[hc]at a;have h0:0<=s.num:=by have:=ff a;omega
  unfold kV;refine aj<|ai<|ab (.a 2 I<|.k [2,3,14] I)<|aw<|ab (.a 2 I<|.k [2,3,14,15] I)<|ae I (λhc=>?_) (λhc=>?_)
  ·rw[QY (tt hc),show aX T s.num=decide (s.num<T.nodes) by unfold aX;exact decide_eq_decide.2 (by omega)];exact ab (.a 6 I<|.k [4] I)<|ao<|QR I ax.pure rfl
  ·rw[QZ (ff hc)];refine ab (.a 2 I<|.k [2,3,14,22] I)<|ae I (λhc=>?_) (λhc=>?_)
   ·rw[QY (tt hc),show ef T s.num=decide (s.num<2*(T.ah.length:Int)) by unfold ef;exact decide_eq_decide.2 (by omega)];refine er mixed (by kernel_rfl) (.a 3 I<|.v [26] (dX I (ky T hv)) I I<|.a 2 I<|.k [4] I)<|ao<|QR I ax.pure rfl
   ·rw[QZ (ff hc)];refine ab (.a 2 I<|.k [3,14,29] I)<|ae I (λhc=>?_) (λhc=>?_)
    ·rw[QY (tt hc)];have⟨d,b⟩:=QQ (decide (1<=s.num));have⟨e,c⟩:=QQ (decide (s.num<=64));have he:bQ s.num 1 64=(d&&e):=by rw[<-b,<-c];unfold bQ;exact S8 _ _
     rw[he];refine bz 4 (.raw (.bool (d&&e))) [] I ?_ ?_
     ·refine .a 2 I<|.v (bW I (b)) I<|.a 1 I<|?_;cases d
      ·exact .a 5 I<|.k [4] I
      ·exact .a 2 I<|.v (bW I (c)) I<|.a 2 I<|.k [4] I
     exact ao<|QR I ax.pure rfl
    ·rw[QZ (ff hc)];refine ab (.a 2 I<|.k [3,39] I)<|ae I (λhc=>?_) (λhc=>?_)
     ·rw[QY (tt hc),show bQ s.num 0 65535=decide (s.num<=65535) by unfold bQ;exact decide_eq_decide.2 (by omega)];exact ab (.a 4 I<|.k [4] I)<|ao<|QR I ax.pure rfl
     ·rw[QZ (ff hc)];exact aj<|ab (.a 1 I<|.k [4] I)<|ao<|QR I ax.pure rfl
def sD(T:ak)(n:Int)(L:List Int)(i:Nat):Bool:=decide (ef T (L.getD i 0)=true/\aZ T (L.getD i 0).toNat=n/\(0<i->L.getD (i - 1) 0<L.getD i 0))
theorem wL{T}{n:Int}{L:List Int}(h:∀i,i<L.length->sD T n L i=true):fe T n L=true:=Rb λi hi=>tt (h i hi)
theorem ux{T}{n:Int}{L:List Int}{i:Nat}(hi:i<L.length)(h:sD T n L i=false):fe T n L=false:=Rg λa=>ff h (a i hi)
theorem qQ(T:ak)(hv:av T=true)(n:Int)(L:List Int):Can prog 107 [aL T,num n,aq L] (· =flag (fe T n L)):=by
 have y:=bO hv;refine mA λ⟨E,w,vs,x⟩=>?_;obtain⟨v,_,hv⟩:=x.get (i:=2) I;have hm:=ln hv;unfold maxLen at hm;refine aF func107 I ntmps107 I<|ab (.a 2 I<|.k [1,2,3] I)<|ai<|ab (.a 3 I<|.k [1,2,3,9,10,11] I)<|aw<|eF [1,2,3,9,10,11] I<|bd (λr s=>∃k,k<=L.length/\r=L.length - k/\(∀i,i<k->sD T n L i=true)/\s=⟨[(1,num n),(2,aq L),(3,.bq (bn T) 0),(9,aq L),(10,num L.length),(11,num k)],[]⟩) L.length ⟨0,by omega,by omega,λi hi=>by omega,rfl⟩ ?_;rintro r s ⟨k,hk,rfl,e,rfl⟩;refine ab (.a 1 I<|.k [1,2,3,9,10,11,12] I)<|ai<|ae I (λhc=>?_) (λhc=>?_)
 ·have f:k<L.length:=by have:=tt hc;omega
  have⟨o,b⟩:=QQ (ef T (L.getD k 0));have⟨p,c⟩:=QQ (decide (aZ T (L.getD k 0).toNat≠n));have⟨q,a⟩:=QQ (decide (0<(k:Int)));have⟨z,d⟩:=QQ (decide (L.getD k 0<=L.getD (k - 1) 0));refine aj<|ai<|aw<|ab (.a 1 I<|.v (aM (k) I) I<|.v (aJ I (aB L k f)) I<|.a 2 I<|.k [1,2,3,7,8,9,10,11] I)<|bz 39 (.raw (.bool (((!o)||p)||(q&&z)))) [1,2,3,9,10,11] I ?_ ?_
  ·refine .a 2 I<|.c rfl (b▸s4 T (by omega) (L.getD k 0)) I<|.a 2 I<|?_;cases o
   ·exact .a 19 I<|.k [39,1,2,3,9,10,11] I
   ·refine .a 2 I<|.c rfl (rU T _ b) I<|.a 1 I<|.v (bW I (c)) I<|.a 2 I<|?_;cases p
    ·refine .a 1 I<|.v (bW I (a)) I<|.a 1 I<|?_;cases q
     ·exact .a 9 I<|.k [39,1,2,3,9,10,11] I
     ·exact .a 2 I<|.v (aW I) I<|.v (aM (k - 1) I (by have:=tt a;omega) (by omega)) I<|.v (aJ I (aB L (k - 1) (by omega))) I<|.a 1 I<|.v (bW I (d)) I<|.a 2 I<|.k [39,1,2,3,9,10,11] I
    ·exact .a 12 I<|.k [39,1,2,3,9,10,11] I
  refine ae I (λhx=>?_) (λhx=>?_)
  ·have l:sD T n L k=false:=by
    refine Rg λ⟨h1,h2,u⟩=>?_;rw[h1]at b;rw[Rg (by simpa using h2)]at c;subst b c;simp only[UK,Td,Q7]at hx;rw[hx.1]at a;rw[hx.2]at d;have:=u (by have:=tt a;omega);have:=tt d;omega
   rw[ux f l];exact ab (.a 1 I<|.k [6] I)<|ao<|QR I ax.pure rfl
  ·have g:sD T n L k=true:=by
    obtain⟨c1,m⟩:=Rt.1 hx;obtain⟨c1,t⟩:=Rt.1 c1;refine Rb ⟨?_,?_,λh0=>?_⟩
    ·rw[b];simpa using c1
    ·rw[t]at c;exact Q4 (ff c)
    ·rw[Rb (by omega)]at a;subst a;rw[RM]at m;rw[m]at d;have:=ff d;omega
   refine aj<|aC (.v (aW I) I<|.a 1 I<|.k [1,2,3,9,10,11] I) ?_;refine⟨L.length - (k+1),by omega,k+1,by omega,rfl,λi hi=>?_,rfl⟩;by_cases h:i=k
   ·rw[h];exact g
   ·exact e i (by omega)
 ·have j:k=L.length:=by have:=ff hc;omega
  subst j;rw[wL e];exact ba<|ab (.a 1 I<|.k [6] I)<|ao<|QR I ax.pure rfl
theorem u9{T}(a n:Int)(hn:0<=n):(o8 T a=n)↔(ef T a=true/\aZ T a.toNat=n):=by
 unfold o8;rw[cH];split
 ·rename_i h;exact⟨λe=>⟨h,e⟩,λe=>e.2⟩
 ·rename_i h;exact⟨λe=>by omega,λe=>absurd e.1 h⟩
theorem qu(T:ak)(hv:av T=true)(n:Int)(hn:0<=n)(L:List Int):Can prog 122 [aL T,num n,aq L] (· =flag (fe T n L)):=by
 have u:=bO hv;refine mA λ⟨E,w,vs,t⟩=>?_;obtain⟨v,_,l⟩:=t.get (i:=2) I;have hm:=ln l;unfold maxLen at hm;refine aF func122 I ntmps122 I<|ab (.a 2 I<|.k [1,2,3] I)<|ai<|ab (.a 1 I<|.k [1,2,3,7] I)<|aw<|eF [1,2,3,7] I<|bd (λr s=>∃k,k<=L.length/\r=L.length - k/\(∀i,i<k->sD T n L i=true)/\s=⟨[(1,num n),(2,aq L),(3,.bq (bn T) 0),(7,num k)],[]⟩) L.length ⟨0,by omega,by omega,λi hi=>by omega,rfl⟩ ?_;rintro r s ⟨k,hk,rfl,d,rfl⟩;refine ai<|ab (.a 4 I<|.k [1,2,3,7,11] I)<|ae I (λhc=>?_) (λhc=>?_)
 ·have e:k<L.length:=by have:=tt hc;omega
  have⟨o,b⟩:=QQ (decide (o8 T (L.getD k 0)≠n));have⟨p,a⟩:=QQ (decide (0<(k:Int)));have⟨x,c⟩:=QQ (decide (L.getD k 0<=L.getD (k - 1) 0));refine aj<|ai<|aw<|iY mixed (by kernel_rfl) 37 (.raw (.bool (o||(p&&x)))) [1,2,3,7] I ?_ ?_
  ·refine .a 3 I<|.v [15,16] (aM (k) I) I I<|.v [17] (aJ I (aB L k e)) I I<|.v [14,18] (dX I (oR T hv (L.getD k 0))) I I<|.a 1 I<|.v [19,20] (bW I (b)) I I<|.a 1 I<|?_;cases o
   ·refine .a 1 I<|.v [23] (bW I (a)) I I<|.a 1 I<|?_;cases p
    ·exact .a 12 I<|.k [37,1,2,3,7] I
    ·exact .a 2 I<|.v [26,27] (aM (k) I) I I<|.v [28] (aJ I (aB L k e)) I I<|.a 2 I<|.v [31] (aW I) I I<|.v [30,32] (aM (k - 1) I (by have:=tt a;omega) (by omega)) I I<|.v [33] (aJ I (aB L (k - 1) (by omega))) I I<|.v [29,34] (bW I (c)) I I<|.a 2 I<|.k [37,1,2,3,7] I
   ·exact .a 15 I<|.k [37,1,2,3,7] I
  refine ae I (λhx=>?_) (λhx=>?_)
  ·have j:sD T n L k=false:=by
    refine Rg λ⟨h1,h2,q⟩=>?_;rw[Rg (by have:=(u9 _ n hn).2 ⟨h1,h2⟩;simpa using this)]at b;subst b;simp only[Td,Q7]at hx;rw[hx.1]at a;rw[hx.2]at c;have:=q (by have:=tt a;omega);have:=tt c;omega
   rw[ux e j];exact ab (.a 1 I<|.k [6] I)<|ao<|QR I ax.pure rfl
  ·have f:sD T n L k=true:=by
    obtain⟨c1,m⟩:=Rt.1 hx;rw[c1]at b;obtain⟨h1,h2⟩:=(u9 _ n hn).1 (Q4 (ff b));refine Rb ⟨h1,h2,λh0=>?_⟩;rw[Rb (by omega)]at a;subst a;rw[RM]at m;rw[m]at c;have:=ff c;omega
   refine aj<|aC (.a 1 I<|.v (aW I) I<|.a 1 I<|.k [1,2,3,7] I) ?_;refine⟨L.length - (k+1),by omega,k+1,by omega,rfl,λi hi=>?_,rfl⟩;by_cases h:i=k
   ·rw[h];exact f
   ·exact d i (by omega)
 ·have g:k=L.length:=by have:=ff hc;omega
  subst g;rw[wL d];exact ba<|ab (.a 1 I<|.k [6] I)<|ao<|QR I ax.pure rfl
theorem Oj{α:Type}(p:α->Bool)(L:List α)(k:Nat)(a:α)(h:L[k]? =some a):(L.take (k+1)).all p=((L.take k).all p&&p a):=by
 rw[SN,h,T3];simp
theorem Oi{α:Type}(p:α->Bool)(L:List α)(k:Nat)(a:α)(h:L[k]? =some a)(hp:p a=false):L.all p=false:=by
 rw[Tw];intro b;have:=Rq.1 b a (Ro h);rw[hp]at this;cases this
theorem CO(T:ak)(hv:av T=true)(e:jI)(n d:Int):Can prog 108 [aL T,tW e,num n,num d] (· =flag (gL T n d e)):=by
 have A:=bO hv;have⟨g,j⟩:=QQ (fe T n e.aA);have⟨i,l⟩:=QQ (decide (d=n));have⟨o,m⟩:=QQ (decide (0<(e.aA.length:Int)));unfold gL;rw[j,l,m];refine aF func108 I ntmps108 I<|ab (.a 3 I<|.k [2,3,4,5] I)<|ai<|bz 27 (.raw (.bool ((!g)||(i&&o)))) [4,5] I ?_ ?_
 ·refine .a 4 I<|.c rfl (j▸qQ T hv n e.aA) I<|.a 2 I<|?_;cases g
  ·exact .a 10 I<|.k [27,4,5] I
  ·refine .a 2 I<|.v (bW I (l)) I<|.a 1 I<|?_;cases i
   ·exact .a 6 I<|.k [27,4,5] I
   ·exact .a 3 I<|.v (bW I (m)) I<|.a 2 I<|.k [27,4,5] I
 refine ae I (λhc=>?_) (λhc=>?_)
 ·have he:(g&& !(i&&o))=false:=by cases g<;>cases i<;>cases o<;>first|rfl|cases hc
  rw[he,Tm];exact ab (.a 1 I<|.k [8] I)<|ao<|QR I ax.pure rfl
 ·have he:(g&& !(i&&o))=true:=by cases g<;>cases i<;>cases o<;>first|rfl|cases hc
  rw[he,RM];refine aj<|ai<|ab (.a 3 I<|.k [4,5,30] I)<|ae I (λhc=>?_) (λhc=>?_)
  ·have hr:e.rep=false:=by simpa using hc
   rw[hr,QZ (by simp)];exact ab (.a 5 I<|.k [8] I)<|ao<|QR I ax.pure rfl
  ·have hr:e.rep=true:=by simpa using hc
   rw[hr,QY rfl];refine aj<|ai ?_;have⟨x,c⟩:=QQ (decide ((e.aA.length:Int)≠1));have⟨B,f⟩:=QQ (decide (32<(e.push.length:Int)));refine bz 44 (.raw (.bool (x||B))) [4,5] I ?_ ?_
   ·refine .a 3 I<|.v (bW I (c)) I<|.a 1 I<|?_;cases x
    ·exact .a 3 I<|.v (bW I (f)) I<|.a 1 I<|.k [44,4,5] I
    ·exact .a 5 I<|.k [44,4,5] I
   refine ae I (λhx=>?_) (λhx=>?_)
   ·have z:(decide ((e.aA.length:Int)=1)&&decide ((e.push.length:Int)<=32))=false:=by
     rcases Sh.1 hx with h|h
     ·rw[h]at c;rw[Rg (tt c)];rfl
     ·rw[h]at f;rw[Rg (by have:=tt f;omega:¬((e.push.length:Int)<=32)),Bool.and_false]
    rw[z,Tm];exact ab (.a 1 I<|.k [8] I)<|ao<|QR I ax.pure rfl
   ·obtain⟨c1,y⟩:=Rt.1 hx;rw[c1]at c;rw[y]at f;have w:e.push.length<=32:=by have:=ff f;omega
    rw[Rb (Q4 (ff c)),Rb (by omega:(e.push.length:Int)<=32),RM,RM];refine aj<|ai<|ab (.a 4 I<|.k [4,46,47,48] I)<|aw<|eF [4,46,47,48] I<|bd (λr s=>∃k,k<=e.push.length/\r=e.push.length - k/\(e.push.take k).all (kV T)=true/\s=⟨[(4,.bq (bn T) 0),(46,cr e.push),(47,num e.push.length),(48,num k)],[]⟩) e.push.length ⟨0,by omega,by omega,by simp,rfl⟩ ?_;rintro r s ⟨k,hk,rfl,b,rfl⟩;refine ab (.a 1 I<|.k [4,46,47,48,49] I)<|ai<|ae I (λhy=>?_) (λhy=>?_)
    ·have t:k<e.push.length:=by have:=tt hy;omega
     obtain⟨a,p⟩:∃a,e.push[k]? =some a:=⟨e.push[k],by simp[t]⟩;refine aj<|ai<|aw<|aK<|bm (aM (k*2) I) I<|bm (gj I (il e.push k a p) I) I<|au 2 I<|aE [4,10,46,47,48] I ?_;refine ab (.a 2 I<|.c rfl (Jo T (by omega) a) I<|.a 1 I<|.k [4,46,47,48,55] I)<|dS [] (.c 4<|.c 46<|.c 47<|.c 48<|.c 55 .nil) .nil rfl rfl ?_;refine ae I (λu=>?_) (λu=>?_)
     ·rw[Oi _ _ k a p (by simpa using u)];exact ab (.a 1 I<|.k [8] I)<|ao<|QR I ax.pure rfl
     ·have v:kV T a=true:=by simpa using u
      refine aj<|aC (.v (aW I) I<|.a 1 I<|.k [4,46,47,48] I) ?_;exact⟨e.push.length - (k+1),by omega,k+1,by omega,rfl,by rw[Oj _ _ k a p,b,v];rfl,rfl⟩
    ·have q:k=e.push.length:=by have:=ff hy;omega
     subst q;rw[RC]at b;rw[b];exact ba<|ab (.a 1 I<|.k [8] I)<|ao<|QR I ax.pure rfl
theorem oz(l:List jI)(k:Nat)(e:jI)(h:l[k]? =some e):l.getD k KM=e:=by rw[QU,h];rfl
theorem lf{T}{n:Int}{l}{k:Nat}{e}(h:l[k]? =some e)(b:gL T n k e=false):nD T n l=false:=Rg λa=>by
 have:=a k (QT.1 h).1;rw[oz l k e h,b]at this;cases this
theorem jb{T}{n:Int}{l}(h:∀(k:Nat) e,l[k]? =some e->gL T n k e=true):nD T n l=true:=Rb λd hd=>by
 have he:l[d]? =some l[d]:=by simp[hd]
 rw[oz l d _ he];exact h d _ he
theorem vp(T:ak)(x:cQ):Can prog 72 [aL T,dW x] (· =flag (df T x)):=by
 refine mA λ⟨E,w,vs,C⟩=>?_;obtain⟨v,_,u⟩:=C.get (i:=1) I;have hm:=(D9 u).1;unfold maxLen at hm;have⟨d,b⟩:=QQ (av T);have⟨l,m⟩:=QQ (aX T x.node);have⟨j,n⟩:=QQ (decide ((x.ed.length:Int)≠T.nodes));have⟨p,o⟩:=QQ (fe T x.node x.down);have he:decide ((x.ed.length:Int)=T.nodes)= !j :=by rw[<-n];simp
 unfold df;rw[b,m,he,o];refine aF func72 I ntmps72 I<|ab (.a 3 I<|.k [2,3] I)<|ai<|bz 33 (.raw (.bool ((((!d)|| !l)||j)|| !p))) [2,3] I ?_ ?_
 ·refine .a 1 I<|.c rfl (b▸fv T) I<|.a 2 I<|?_;cases d
  ·exact .a 23 I<|.k [33,2,3] I
  ·refine .a 3 I<|.c rfl (m▸ej T x.node) I<|.a 3 I<|?_;cases l
   ·exact .a 16 I<|.k [33,2,3] I
   ·refine .a 5 I<|.v (bW I (n)) I<|.a 2 I<|?_;cases j
    ·exact .a 5 I<|.c rfl (o▸qQ T b x.node x.down) I<|.a 2 I<|.k [33,2,3] I
    ·exact .a 8 I<|.k [33,2,3] I
 refine ae I (λhc=>?_) (λhc=>?_)
 ·have q:(d&&l&& !j &&p)=false:=by cases d<;>cases l<;>cases j<;>cases p<;>first|rfl|cases hc
  rw[q,Tm];exact ab (.a 1 I<|.k [4] I)<|ao<|QR I ax.pure rfl
 ·have q:(d&&l&& !j &&p)=true:=by cases d<;>cases l<;>cases j<;>cases p<;>first|rfl|cases hc
  rw[q,RM];have B:d=true:=by cases d<;>simp_all
  rw[B]at b;refine aj<|ai<|ab (.a 4 I<|.k [2,3,35,36,37] I)<|aw<|eF [2,3,35,36,37] I<|bd (λr s=>∃k,k<=x.ed.length/\r=x.ed.length - k/\(∀(i:Nat) e,i<k->x.ed[i]? =some e->gL T x.node i e=true)/\s=⟨[(2,.bq (bn T) 0),(3,.bq (fi x) 0),(35,iW x.ed),(36,num x.ed.length),(37,num k)],[]⟩) x.ed.length ⟨0,by omega,by omega,λi e hi=>by omega,rfl⟩ ?_;rintro r s ⟨k,hk,rfl,c,rfl⟩;refine ab (.a 1 I<|.k [2,3,35,36,37,38] I)<|ai<|ae I (λhy=>?_) (λhy=>?_)
  ·have t:k<x.ed.length:=by have:=tt hy;omega
   obtain⟨e,g⟩:∃a,x.ed[k]? =some a:=⟨x.ed[k],by simp[t]⟩;refine aj<|ai<|aw<|aK<|au 1 I<|bm (aM (k*3) I) I<|bm (gj I (lM x.ed k e g) I) I<|au 3 I<|aE [2,3,5,6,35,36,37] I ?_;refine ab (.a 5 I<|.c rfl (CO T b e x.node k) I<|.a 1 I<|.k [2,3,35,36,37,48] I)<|dS [] (.c 2<|.c 3<|.c 35<|.c 36<|.c 37<|.c 48 .nil) .nil rfl rfl ?_;refine ae I (λy=>?_) (λy=>?_)
   ·rw[lf g (by simpa using y)];exact ab (.a 1 I<|.k [4] I)<|ao<|QR I ax.pure rfl
   ·have z:gL T x.node k e=true:=by simpa using y
    refine aj<|aC (.v (aW I) I<|.a 1 I<|.k [2,3,35,36,37] I) ?_;refine⟨x.ed.length - (k+1),by omega,k+1,by omega,rfl,λi A hi f=>?_,rfl⟩;by_cases h:i=k
    ·subst h;rw[g]at f;cases f;exact z
    ·exact c i A (by omega) f
  ·have D:k=x.ed.length:=by have:=ff hy;omega
   rw[jb λi e hi=>c i e (by have:=(QT.1 hi).1;omega) hi];exact ba<|ab (.a 1 I<|.k [4] I)<|ao<|QR I ax.pure rfl
theorem sw(T:ak)(x:cQ):Can prog 91 [aL T,dW x] (· =flag (df T x)):=by
 refine mA λ⟨E,w,vs,hR⟩=>?_;obtain⟨v,_,Y⟩:=hR.get (i:=1) I;have hm:=(D9 Y).1;unfold maxLen at hm;have⟨q,f⟩:=QQ (av T);have⟨p,o⟩:=QQ (decide (x.node<0));have⟨C,K⟩:=QQ (decide (T.nodes<=x.node));have⟨B,H⟩:=QQ (decide ((x.ed.length:Int)≠T.nodes));have⟨N,J⟩:=QQ (fe T x.node x.down);have he:decide ((x.ed.length:Int)=T.nodes)= !B :=by rw[<-H];simp
 have hn:aX T x.node=((!p)&& !C):=by rw[<-o,<-K,<-decide_not,<-decide_not,<-S8];unfold aX;exact decide_eq_decide.2 (by omega)
 unfold df;rw[f,hn,he,J];refine aF func91 I ntmps91 I<|ab (.a 3 I<|.k [2,3] I)<|ai<|bz 39 (.raw (.bool (((((!q)||p)||C)||B)|| !N))) [2,3] I ?_ ?_
 ·refine .a 1 I<|.c rfl (f▸fh T) I<|.a 2 I<|?_;cases q
  ·exact .a 28 I<|.k [39,2,3] I
  ·refine .a 2 I<|.v (bW I (o)) I<|.a 2 I<|?_;cases p
   ·refine .a 4 I<|.v (bW I (K)) I<|.a 2 I<|?_;cases C
    ·refine .a 5 I<|.v (bW I (H)) I<|.a 2 I<|?_;cases B
     ·exact .a 5 I<|.c rfl (J▸qu T f x.node (by have:=ff o;omega) x.down) I<|.a 2 I<|.k [39,2,3] I
     ·exact .a 8 I<|.k [39,2,3] I
    ·exact .a 16 I<|.k [39,2,3] I
   ·exact .a 23 I<|.k [39,2,3] I
 refine ae I (λhc=>?_) (λhc=>?_)
 ·have S:(q&&((!p)&& !C)&& !B &&N)=false:=by cases q<;>cases p<;>cases C<;>cases B<;>cases N<;>first|rfl|cases hc
  rw[S,Tm];exact ab (.a 1 I<|.k [4] I)<|ao<|QR I ax.pure rfl
 ·have S:(q&&((!p)&& !C)&& !B &&N)=true:=by cases q<;>cases p<;>cases C<;>cases B<;>cases N<;>first|rfl|cases hc
  rw[S,RM];have e1:q=true:=by cases q<;>simp_all
  have e2:p=false:=by cases p<;>simp_all
  rw[e1]at f;rw[e2]at o;have W:0<=x.node:=by have:=ff o;omega
  refine aj<|ai<|ab (.a 1 I<|.k [2,3,5] I)<|aw<|eF [2,3,5] I<|bd (λr s=>∃k,k<=x.ed.length/\r=x.ed.length - k/\(∀(i:Nat) e,i<k->x.ed[i]? =some e->gL T x.node i e=true)/\s=⟨[(2,.bq (bn T) 0),(3,.bq (fi x) 0),(5,num k)],[]⟩) x.ed.length ⟨0,by omega,by omega,λi e hi=>by omega,rfl⟩ ?_;rintro r s ⟨k,hk,rfl,m,rfl⟩;refine ai<|ab (.a 5 I<|.k [2,3,5,44] I)<|ae I (λhy=>?_) (λhy=>?_)
  ·have V:k<x.ed.length:=by have:=tt hy;omega
   obtain⟨e,n⟩:∃a,x.ed[k]? =some a:=⟨x.ed[k],by simp[V]⟩;have⟨O,g1⟩:=QQ (fe T x.node e.aA);have⟨P,g2⟩:=QQ (decide ((k:Int)=x.node));have⟨Q,g3⟩:=QQ (decide (0<(e.aA.length:Int)));have⟨d,g4⟩:=QQ (e.rep);have⟨t,g5⟩:=QQ (decide (0<(e.push.length:Int)));have⟨R,g6⟩:=QQ (decide ((e.aA.length:Int)≠1));have⟨D,g7⟩:=QQ (decide (32<(e.push.length:Int)));have g:gL T x.node k e=((O&& !(P&&Q))&&(if d then(!R && !D)&&e.push.all (kV T) else !t)):=by
    unfold gL;rw[g1,g2,g3,g4,<-g5,<-g6,<-g7,<-decide_not,<-decide_not,<-decide_not];congr 2
    ·congr 2
     ·exact decide_eq_decide.2 (by omega)
     ·exact decide_eq_decide.2 (by omega)
    ·exact decide_eq_decide.2 (by omega)
   refine aj<|ai<|aw<|aK<|au 3 I<|bm (aM (k*3) I) I<|bm (gj I (lM x.ed k e n) I) I<|au 2 I<|aE [2,3,5,6] I ?_;refine gr 6 0 0 I I<|dS [] (.c 2<|.c 3<|.c 5<|.c 6 .nil) .nil rfl rfl ?_;refine ai<|bz 81 (.raw (.bool (((!O)||(P&&Q))||((!d)&&t)))) [2,3,5,6] I ?_ ?_
   ·refine .a 5 I<|.c rfl (g1▸qu T f x.node W e.aA) I<|.a 2 I<|?_;cases O
    ·exact .a 22 I<|.k [81,2,3,5,6] I
    ·refine .a 3 I<|.v (bW I (g2)) I<|.a 1 I<|?_;cases P
     ·refine .a 8 I<|.v (aJ I (show some (flag e.rep)=some (flag d) by rw[g4])) I<|.a 2 I<|?_;cases d
      ·exact .a 3 I<|.v (bW I (g5)) I<|.a 2 I<|.k [81,2,3,5,6] I
      ·exact .a 6 I<|.k [81,2,3,5,6] I
     ·refine .a 3 I<|.v (bW I (g3)) I<|.a 3 I<|?_;cases Q
      ·refine .a 1 I<|.v (aJ I (show some (flag e.rep)=some (flag d) by rw[g4])) I<|.a 2 I<|?_;cases d
       ·exact .a 3 I<|.v (bW I (g5)) I<|.a 2 I<|.k [81,2,3,5,6] I
       ·exact .a 6 I<|.k [81,2,3,5,6] I
      ·exact .a 10 I<|.k [81,2,3,5,6] I
   refine ae I (λA=>?_) (λA=>?_)
   ·rw[lf n (by rw[g];revert A;cases O<;>cases P<;>cases Q<;>cases d<;>cases t<;>intro A<;>first|rfl|(simp;done)|cases A)];exact ab (.a 1 I<|.k [4] I)<|ao<|QR I ax.pure rfl
   ·skip
    refine aj<|ai<|bz 95 (.raw (.bool (d&&(R||D)))) [2,3,5,6] I ?_ ?_
    ·refine .a 1 I<|.v (aJ I (show some (flag e.rep)=some (flag d) by rw[g4])) I<|.a 1 I<|?_;cases d
     ·exact .a 11 I<|.k [95,2,3,5,6] I
     ·refine .a 3 I<|.v (bW I (g6)) I<|.a 1 I<|?_;cases R
      ·exact .a 3 I<|.v (bW I (g7)) I<|.a 2 I<|.k [95,2,3,5,6] I
      ·exact .a 6 I<|.k [95,2,3,5,6] I
    refine ae I (λc=>?_) (λc=>?_)
    ·rw[lf n (by rw[g];revert c;cases d<;>cases R<;>cases D<;>intro c<;>first|rfl|(simp;done)|cases c)];exact ab (.a 1 I<|.k [4] I)<|ao<|QR I ax.pure rfl
    ·have z:e.push.length<=32\/e.push=[]:=by
      cases d
      ·right;have:t=false:=by cases t<;>simp_all
       subst this;have:=ff g5;exact Rd (by omega)
      ·left;have:D=false:=by cases D<;>simp_all
       subst this;have:=ff g7;omega
     have L:e.push.length<=32:=by rcases z with h|h;exact h;rw[h];simp
     have F:e.push.all (kV T)=true->gL T x.node k e=true:=λl=>by
      rw[g,l];clear g g1 g2 g3 g4 g5 g6 g7 z L m;revert A c;cases O<;>cases P<;>cases Q<;>cases d<;>cases t<;>cases R<;>cases D<;>intro A c<;>first|rfl|(cases A;done)|(cases c;done)
     have y:e.push.all (kV T)=false->gL T x.node k e=false:=λl=>by
      rcases z with h|h
      ·rw[g,l];cases d
       ·have:t=true:=by
         cases t
         ·have:=ff g5;have h0:=Rd (by omega:e.push.length=0);rw[h0]at l;cases l
         ·rfl
        subst this;simp
       ·simp
      ·rw[h]at l;cases l
     refine aj<|ab (.a 1 I<|.k [2,3,5,6,7] I)<|aw<|eF [2,3,5,6,7] I<|bd (λr s=>∃j,j<=e.push.length/\r=e.push.length - j/\(e.push.take j).all (kV T)=true/\s=⟨[(2,.bq (bn T) 0),(3,.bq (fi x) 0),(5,num k),(6,.bq (jL e) 0),(7,num j)],[]⟩) e.push.length ⟨0,by omega,by omega,by simp,rfl⟩ ?_;rintro r s ⟨j,hj,rfl,b,rfl⟩;refine ai<|ab (.a 5 I<|.k [2,3,5,6,7,100] I)<|ae I (λhw=>?_) (λhw=>?_)
     ·have G:j<e.push.length:=by have:=tt hw;omega
      obtain⟨a,l⟩:∃a,e.push[j]? =some a:=⟨e.push[j],by simp[G]⟩;refine aj<|ai<|aw<|er mixed (by kernel_rfl) (.a 4 I<|.v [105,106] (aM (j*2) I) I I<|.v [107] (gj I (il e.push j a l) I) I I<|.v [103,108] (dX I (Jh T f a)) I I<|.a 1 I<|.k [2,3,5,6,7,110] I) ?_;refine ae I (λhs=>?_) (λhs=>?_)
      ·rw[lf n (y (Oi _ _ j a l (by simpa using hs)))];exact ab (.a 1 I<|.k [4] I)<|ao<|QR I ax.pure rfl
      ·have X:kV T a=true:=by simpa using hs
       refine aj<|aC (.a 1 I<|.v (aW I) I<|.a 1 I<|.k [2,3,5,6,7] I) ?_;exact⟨e.push.length - (j+1),by omega,j+1,by omega,rfl,by rw[Oj _ _ j a l,b,X];rfl,rfl⟩
     ·have U:j=e.push.length:=by have:=ff hw;omega
      subst U;rw[RC]at b;have M:=F b;refine ba<|aC (.a 1 I<|.v (aW I) I<|.a 1 I<|.k [2,3,5] I) ?_;refine⟨x.ed.length - (k+1),by omega,k+1,by omega,rfl,λi Z hi u=>?_,rfl⟩;by_cases h:i=k
      ·subst h;rw[n]at u;cases u;exact M
      ·exact m i Z (by omega) u
  ·have aa:k=x.ed.length:=by have:=ff hy;omega
   rw[jb λi e hi=>m i e (by have:=(QT.1 hi).1;omega) hi];exact ba<|ab (.a 1 I<|.k [4] I)<|ao<|QR I ax.pure rfl
theorem nS(T:ak)(n:Int):(bK T n).Pairwise (· < ·):=by
 unfold bK iM;refine List.Pairwise.map _ (λa b h=>?_) ((List.pairwise_lt_range (n:=2*T.ah.length)).filter _);show(a:Int)<(b:Int);omega
theorem jD{T}{n:Int}{a:Int}:a∈bK T n↔ef T a=true/\aZ T a.toNat=n:=by
 unfold bK iM;rw[RB,cH];constructor
 ·rintro⟨b,hb,rfl⟩;obtain⟨h1,h2⟩:=RK.1 hb;have:=Ri.1 h1;refine⟨⟨by simp,by simp;omega⟩,by simpa using h2⟩
 ·rintro⟨⟨h0,h1⟩,h2⟩;refine⟨a.toNat,RK.2 ⟨Ri.2 (by omega),by simpa using h2⟩,by simp;omega⟩
theorem uA{T}{n:Int}{L:List Int}(hs:L.Pairwise (· < ·))(hm:∀a∈L,ef T a=true/\aZ T a.toNat=n):fe T n L=true:=Rb λi hi=>by
 have h1:=hm _ (bX (d:=0) hi);refine⟨h1.1,h1.2,λh0=>?_⟩;have:=TV.1 hs (i - 1) i (by omega) hi (by omega);rw[QU,QU,QX hi,QX (by omega:i - 1<L.length)];exact this
theorem oF(T:ak)(n:Int)(p:Int->Bool):fe T n ((bK T n).filter p)=true:=uA ((nS T n).filter p) λ_ a=>jD.1 (RK.1 a).1
theorem uz(T:ak)(D:List Bool)(n d:Nat):fe T n (bu T D n d)=true:=by
 unfold bu;split
 ·exact Rb λi hi=>by simp at hi
 ·exact oF T n _
theorem ku(T:ak)(D:List Bool)(n:Nat):bu T D n n=[]:=by unfold bu;rw[QY (.inl rfl)]
theorem zd{T:ak}{D}(hv:av T=true){n:Nat}(hn:(n:Int)<T.nodes):df T (dU T D n)=true:=by
 unfold df dU;have h1:aX T (n:Int)=true:=aQ.2 ⟨by omega,hn⟩;have hN:=(aS hv).nodes;have h2:decide (((toL T D n T.nodes.toNat).length:Int)=T.nodes)=true:=Rb (by rw[tu];omega);have g:fe T n (cI D (bK T n))=true:=oF T n _;have i:nD T n (toL T D n T.nodes.toNat)=true:=jb λd e he=>by
  unfold toL at he;rw[RE,R8]at he;obtain⟨c,a,rfl⟩:=he;have hd:c=d:=by
   have:=QT.1 a;obtain⟨h,f⟩:=this;simpa using f.symm
  subst hd;unfold gL;simp only[uz,RM];by_cases b:c=n
  ·subst b;rw[ku];simp
  ·rw[Rg (by omega)];simp
 rw[hv,h1,h2,g,i]
 rfl
theorem p9{T:ak}{D}(hv:av T=true){d x:Nat}(hd:(d:Int)<T.nodes)(hx:(x:Int)<T.nodes):(bJ T D d false).getD x 0=at' (bJ T D d false) (x:Int):=by
 have hl:=(dD (D:=D) hv (dir:=false) hd).1;unfold at';rw[QS,QU,QU,QX (by omega)]
 rfl
structure kE (T:ak) (D:List Bool) (n d a:Nat):Prop where
 eZ:a<2*T.ah.length
 tail:aZ T a=(n:Int)
 up:aI D a=false
 ne:n≠d
 reach:0<=(bJ T D d false).getD (aN T a).toNat 0
 pass:aN T a=(d:Int)\/bR T (aN T a).toNat=false
 sum:(bJ T D d false).getD n 0=(bJ T D d false).getD (aN T a).toNat 0+cz T a
theorem di{T D}{n d:Nat}{a:Int}(h:a∈bu T D n d):∃k:Nat,a=k/\kE T D n d k:=by
 unfold bu at h;split at h
 ·simp at h
 ·rename_i b;obtain⟨h1,h2⟩:=RK.1 h;obtain⟨f,c⟩:=jD.1 h1;obtain⟨i,j⟩:=cH.1 f;obtain⟨k,rfl⟩:=QW i;rw[QS]at h2 c;unfold ij at h2;simp only[Q7,R4,Rt,Ra,Sb]at h2;obtain⟨⟨⟨g1,g2⟩,g3⟩,g4⟩:=h2;refine⟨k,rfl,by omega,c,g1,λe=>b (.inl e),by omega,?_,by omega⟩;rcases SE.1 g3 with g|g
  ·exact .inl (Q4 (ff g))
  ·exact .inr g
theorem gu{T D}{n d k:Nat}(h:kE T D n d k)(hc:1<=cz T k):(k:Int)∈bu T D n d:=by
 have hs:=h.sum;have hr:=h.reach;unfold bu;rw[QZ (by rintro(e|e);exact h.ne e;omega)];refine RK.2 ⟨jD.2 ⟨cH.2 ⟨by omega,by have:=h.eZ;omega⟩,h.tail⟩,?_⟩;unfold ij;rw[QS];simp only[Q7,R4,Rt,Ra,Sb];refine⟨⟨⟨h.up,by omega⟩,?_⟩,by omega⟩;rcases h.pass with g|g
 ·rw[Rg (by simpa using g)];rfl
 ·rw[g,Bool.and_false]
theorem mH{T:ak}{D}(hv:av T=true){n d:Nat}(hn:(n:Int)<T.nodes)(hd:(d:Int)<T.nodes)(b:n≠d)(h0:0<=(bJ T D d false).getD n 0):∃k,kE T D n d k:=by
 have i:=aS hv;have l:=kH i D false hd;have f:=p9 (D:=D) hv hd hn;rcases l.o7 n hn (by rw[<-f];exact h0)with h|⟨a,j,hx,⟨o,c,e⟩,hs⟩
 ·exact absurd h b
 ·have m:=i.head a j;obtain⟨y,hy⟩:=QW m.1;have g:=p9 (D:=D) hv hd (x:=y) (by omega);simp only[fY,du,SX,TW]at hx c e hs;rw[hy]at c e hs;refine⟨a,j,hx,o,b,?_,?_,?_⟩
  ·rw[hy,QS,g];exact c
  ·rw[hy];exact e
  ·rw[hy,QS,f,g];exact hs
theorem ET{T:ak}{D}(hv:av T=true){d:Nat}(hd:(d:Int)<T.nodes):(bJ T D d false).getD d 0=0:=by
 rw[p9 hv hd hd];exact(kH (aS hv) D false hd).root
noncomputable def dN(T:ak)(D:List Bool)(d x:Nat):Int:=(bJ T D d false).getD x 0
def dB(T:ak)(p:List Int):Int:=p.foldr (λa c=>cz T a.toNat+c) 0
theorem ja(T:ak):dB T []=0:=rfl
theorem gV(T:ak)(a:Int)(p:List Int):dB T (a::p)=cz T a.toNat+dB T p:=rfl
theorem iD(T:ak)(p q:List Int):dB T (p++q)=dB T p+dB T q:=by
 induction p with
 |nil=>simp[ja]
 |cons a p b=>rw[RF,gV,gV,b];omega
inductive SP (T:ak) (D:List Bool) (d:Nat):Nat->List Int->Prop
 |nil:SP T D d d []
 |cons {n a m:Nat} {p:List Int}:kE T D n d a->aN T a=(m:Int)->SP T D d m p->SP T D d n ((a:Int)::p)
inductive Ch (T:ak) (D:List Bool) (d:Nat):Nat->List Int->Prop
 |nil:Ch T D d d []
 |cons {n a m:Nat} {p:List Int}:a<2*T.ah.length->aZ T a=(n:Int)->aI D a=false->aN T a=(m:Int)->(p=[]\/bR T m=false)->Ch T D d m p->Ch T D d n ((a:Int)::p)
theorem qo:∀(N:Nat) (l:List Nat),l.Nodup->(∀x∈l,x<N)->l.length<=N
 |0,l,_,h=>by
  cases l with
  |nil=>simp
  |cons a l=>have:=h a (by simp);omega
 |N+1,l,hn,h=>by
  have h1:=qo N (l.erase N) (hn.erase N) (λx hx=>by
   have h2:=(List.Nodup.mem_erase_iff hn).1 hx;have:=h x h2.2;have:=h2.1;omega)
  rw[List.length_erase]at h1;split at h1<;>omega
section
variable {T:ak} {D:List Bool} {d:Nat}
theorem eh(hv:av T=true){a:Nat}(b:a<2*T.ah.length):∃m:Nat,aN T a=(m:Int)/\(m:Int)<T.nodes:=by
 obtain⟨h0,h1⟩:=(aS hv).head a b;obtain⟨m,hm⟩:=QW h0;exact⟨m,hm,by rw[<-hm];exact h1⟩
theorem fE(hv:av T=true)(hd:(d:Int)<T.nodes):dN T D d d=0:=ET hv hd
theorem MF(hv:av T=true)(hd:(d:Int)<T.nodes){x:Nat}(hx:(x:Int)<T.nodes): -1<=dN T D d x/\dN T D d x<=4194240:=by
 obtain⟨h1,h2⟩:=dD (D:=D) hv (dir:=false) hd;exact h2 _ (bX (by omega))
theorem kE.dN{n a m:Nat}(h:kE T D n d a)(hm:aN T a=(m:Int)):0<=dN T D d m/\dN T D d n=dN T D d m+cz T a:=by
 have h1:=h.reach;have h2:=h.sum;rw[hm,QS]at h1 h2;exact⟨h1,h2⟩
theorem kE.node(hv:av T=true){n a:Nat}(h:kE T D n d a):(n:Int)<T.nodes:=by rw[<-h.tail];exact((aS hv).tail a h.eZ).2
theorem SP.node(hv:av T=true)(hd:(d:Int)<T.nodes){n:Nat}{p:List Int}(h:SP T D d n p):(n:Int)<T.nodes:=by
 cases h with
 |nil=>exact hd
 |cons h1 _ _=>exact h1.node hv
theorem SP.cost(hv:av T=true)(hd:(d:Int)<T.nodes){n:Nat}{p:List Int}(h:SP T D d n p):dN T D d n=dB T p/\0<=dN T D d n:=by
 induction h with
 |nil=>rw[fE hv hd];exact⟨rfl,SI _⟩
 |cons h1 hm _ a=>
  obtain⟨g1,g2⟩:=h1.dN hm;have:=(aS hv).cost _ h1.eZ;rw[gV,QS];omega
theorem SP.self{p:List Int}(h:SP T D d d p):p=[]:=by
 cases h with
 |nil=>rfl
 |cons h1 _ _=>exact absurd rfl h1.ne
theorem SP.len(hv:av T=true)(hd:(d:Int)<T.nodes){n:Nat}{p:List Int}(h:SP T D d n p):(p.length:Int)<=dN T D d n:=by
 induction h with
 |nil=>rw[fE hv hd];simp
 |cons h1 hm _ a=>
  obtain⟨g1,g2⟩:=h1.dN hm;have:=(aS hv).cost _ h1.eZ;simp only[Q8];omega
theorem SP.ch{n:Nat}{p:List Int}(h:SP T D d n p):Ch T D d n p:=by
 induction h with
 |nil=>exact .nil
 | @cons n a m p h1 hm hp b=>
  refine .cons h1.eZ h1.tail h1.up hm ?_ b;rcases h1.pass with hx|hx
  ·have:m=d:=by rw[hm]at hx;omega
   subst this;exact .inl hp.self
  ·rw[hm,QS]at hx;exact .inr hx
theorem yo(hv:av T=true)(hd:(d:Int)<T.nodes){n a m:Nat}(c:a<2*T.ah.length)(i:aZ T a=(n:Int))(hu:aI D a=false)(hm:aN T a=(m:Int))(l:m=d\/bR T m=false)(h0:0<=dN T D d m):0<=dN T D d n/\dN T D d n<=dN T D d m+cz T a:=by
 have b:=aS hv;have k:=kH b D false hd;have e:(m:Int)<T.nodes:=by rw[<-hm];exact(b.head a c).2
 have f:(n:Int)<T.nodes:=by rw[<-i];exact(b.tail a c).2
 have j:=p9 (D:=D) hv hd f;have g:=p9 (D:=D) hv hd e;have:=k.closed a c ⟨hu,by simp only[du,SX,TW];rw[hm,<-g];exact h0,by
  simp only[du,SX,TW];rw[hm];rcases l with h|h
  ·exact .inl (by rw[h])
  ·exact .inr (by simpa using h)⟩
 simp only[fY,du,SX,TW]at this;rw[hm,i,<-j,<-g]at this;exact this
theorem Ch.node(hv:av T=true)(hd:(d:Int)<T.nodes){n:Nat}{p:List Int}(h:Ch T D d n p):(n:Int)<T.nodes:=by
 cases h with
 |nil=>exact hd
 |cons h1 a _ _ _ _=>rw[<-a];exact((aS hv).tail _ h1).2
theorem Ch.to{n:Nat}{p:List Int}(h:Ch T D d n p):p=[]->n=d:=by
 cases h with
 |nil=>intro _;rfl
 |cons=>intro h;cases h
theorem Ch.le(hv:av T=true)(hd:(d:Int)<T.nodes){n:Nat}{p:List Int}(h:Ch T D d n p):0<=dN T D d n/\dN T D d n<=dB T p:=by
 induction h with
 |nil=>rw[fE hv hd];exact⟨SI _,SI _⟩
 | @cons n a m p b e hu hm c hp f=>
  have:=yo hv hd b e hu hm (by rcases c with h|h;exact .inl (hp.to h);exact .inr h) f.1;rw[gV,QS];omega
theorem Ch.sp(hv:av T=true)(hd:(d:Int)<T.nodes){n:Nat}{p:List Int}(h:Ch T D d n p)(hc:dN T D d n=dB T p):SP T D d n p:=by
 induction h with
 |nil=>exact .nil
 | @cons n a m p c e hu hm f hp g=>
  have b:m=d\/bR T m=false:=by rcases f with h|h;exact .inl (hp.to h);exact .inr h
  have h1:=hp.le hv hd;have h2:=yo hv hd c e hu hm b h1.1;rw[gV,QS]at hc;have i:=(aS hv).cost a c;refine .cons ⟨c,e,hu,?_,?_,?_,?_⟩ hm (g (by omega))
  ·rintro rfl;rw[fE hv hd]at hc h2;omega
  ·rw[hm,QS];exact h1.1
  ·rw[hm];rcases b with h|h;exact .inl (by rw[h]);exact .inr (by simpa using h)
  ·rw[hm,QS];show dN T D d n=dN T D d m+cz T a;omega
noncomputable def gb(T:ak)(D:List Bool)(d:Nat):Nat->Nat->List Int
 |0,_=>[]
 |f+1,n=>match bu T D n d with
  | []=>[]
  |a::_=>a::gb T D d f (aN T a.toNat).toNat
noncomputable def cE(T:ak)(D:List Bool)(n d:Nat):List Int:=gb T D d (dN T D d n).toNat n
theorem uJ{n:Nat}(h:dN T D d n<0):bu T D n d=[]:=by unfold bu;rw[QY (.inr h)]
theorem kO(hv:av T=true)(hd:(d:Int)<T.nodes):∀(f n:Nat),(n:Int)<T.nodes->0<=dN T D d n->dN T D d n<=f->SP T D d n (gb T D d f n)
 |f,n,hn,h0,j=>by
  by_cases h:n=d
  ·subst h;have:gb T D n f n=[]:=by cases f with|zero=>rfl|succ f=>simp only[gb,ku]
   rw[this];exact .nil
  ·obtain⟨k,hk⟩:=mH (D:=D) hv hn hd h h0;cases f with
   |zero=>
    obtain⟨m,hm,_⟩:=eh hv hk.eZ;have:=hk.dN hm;have:=(aS hv).cost k hk.eZ;omega
   |succ f=>
    simp only[gb];have e:=gu hk ((aS hv).cost k hk.eZ).1;cases hx:bu T D n d with
    |nil=>rw[hx]at e;cases e
    |cons a l=>
     obtain⟨b,hb,c⟩:=di (T:=T) (D:=D) (n:=n) (d:=d) (a:=a) (by rw[hx];simp);subst hb;obtain⟨m,hm,i⟩:=eh hv c.eZ;have g:=c.dN hm;have:=(aS hv).cost b c.eZ;simp only[QS,hm];exact .cons c hm (kO hv hd f m i g.1 (by omega))
theorem fM(hv:av T=true)(hd:(d:Int)<T.nodes){n:Nat}(hn:(n:Int)<T.nodes)(h0:0<=dN T D d n):SP T D d n (cE T D n d):=kO hv hd _ n hn h0 (by omega)
noncomputable def o5(T:ak)(D:List Bool)(d:Nat):Nat->Nat->Int
 |0,m=>if m=d then 1 else 0
 |f+1,m=>if m=d then 1 else(bu T D m d).foldl (λc a=>min 2 (c+o5 T D d f (aN T a.toNat).toNat)) 0
noncomputable def eA(T:ak)(D:List Bool)(d m:Nat):Int:=o5 T D d (dN T D d m).toNat m
theorem foldl_congr{α β:Type}{f g:α->β->α}:∀ {l:List β} {a},(∀a b,b∈l->f a b=g a b)->l.foldl f a=l.foldl g a
 | [],_,_=>rfl
 |b::l,a,h=>by simp only[SA,h a b (by simp)];exact foldl_congr λa c hc=>h a c (by simp[hc])
theorem ou(hv:av T=true)(hd:(d:Int)<T.nodes):∀(K m f:Nat),(m:Int)<T.nodes->dN T D d m<=K->dN T D d m<=f->o5 T D d f m=eA T D d m
 |K,m,f,l,r,s=>by
  unfold eA;by_cases h:m=d
  ·subst h;cases f<;>cases(dN T D m m).toNat<;>simp[o5]
  ·by_cases h0:dN T D d m<0
   ·have hx:=uJ h0;rw[show(dN T D d m).toNat=0 by omega];cases f<;>simp[o5,h,hx]
   ·obtain⟨k,hk⟩:=mH (D:=D) hv l hd h (by show 0<=dN T D d m;omega);have o:0<dN T D d m:=by
     obtain⟨n,e,_⟩:=eh hv hk.eZ;have:=hk.dN e;have:=(aS hv).cost k hk.eZ;omega
    obtain⟨g,q⟩:∃g,(dN T D d m).toNat=g+1:=⟨(dN T D d m).toNat - 1,by omega⟩;cases f with
    |zero=>omega
    |succ f=>
     cases K with
     |zero=>omega
     |succ K=>
      rw[q];simp only[o5,QZ h];refine foldl_congr λc a p=>?_;obtain⟨b,rfl,j⟩:=di p;obtain⟨n,e,i⟩:=eh hv j.eZ;have g1:=j.dN e;have g2:=(aS hv).cost b j.eZ;rw[QS,e,QS,ou hv hd K n f i (by omega) (by omega),ou hv hd K n g i (by omega) (by omega)]
theorem p8(m:Nat):eA T D m m=1:=by unfold eA;cases(dN T D m m).toNat<;>simp[o5]
theorem tR(hv:av T=true)(hd:(d:Int)<T.nodes){m:Nat}(i:(m:Int)<T.nodes)(h:m≠d):eA T D d m=(bu T D m d).foldl (λc a=>min 2 (c+eA T D d (aN T a.toNat).toNat)) 0:=by
 by_cases h0:dN T D d m<0
 ·unfold eA;rw[uJ h0,show(dN T D d m).toNat=0 by omega];simp[o5,h]
 ·have h1:=ou (D:=D) hv hd (dN T D d m).toNat m ((dN T D d m).toNat+1) i (by omega) (by omega);rw[<-h1];simp only[o5,QZ h];refine foldl_congr λc a j=>?_;obtain⟨b,rfl,e⟩:=di j;obtain⟨k,f,g⟩:=eh hv e.eZ;have g1:=e.dN f;have g2:=(aS hv).cost b e.eZ;rw[QS,f,QS,ou hv hd (dN T D d m).toNat k _ g (by omega) (by omega)]
theorem DE(hv:av T=true)(hd:(d:Int)<T.nodes){m:Nat}(a:(m:Int)<T.nodes)(h0:dN T D d m<0):eA T D d m=0:=by
 have b:m≠d:=by rintro rfl;rw[fE hv hd]at h0;omega
 rw[tR hv hd a b,uJ h0];rfl
theorem qd(g:Int->Int)(b:∀a,0<=g a):∀(l:List Int) (c:Int),0<=c->c<=2->0<=l.foldl (λc a=>min 2 (c+g a)) c/\l.foldl (λc a=>min 2 (c+g a)) c<=2
 | [],c,h0,h2=>⟨h0,h2⟩
 |a::l,c,h0,h2=>by
  have:=b a;exact qd g b l _ (show 0<=min 2 (c+g a) by omega) (show min 2 (c+g a)<=2 by omega)
theorem ud(g:Int->Int)(b:∀a,0<=g a):∀(l:List Int) (c:Int),c<=2->c<=l.foldl (λc a=>min 2 (c+g a)) c
 | [],c,_=>SI _
 |a::l,c,h2=>by
  have:=b a;have:=ud g b l (min 2 (c+g a)) (by omega);simp only[SA];omega
theorem wv(hv:av T=true)(hd:(d:Int)<T.nodes):∀(f m:Nat),0<=o5 T D d f m/\o5 T D d f m<=2
 |0,m=>by simp only[o5];split<;>omega
 |f+1,m=>by
  simp only[o5];split
  ·omega
  ·exact qd (λa=>o5 T D d f (aN T a.toNat).toNat) (λa=>(wv hv hd f _).1) _ 0 (by omega) (by omega)
theorem kG(hv:av T=true)(hd:(d:Int)<T.nodes)(m:Nat):0<=eA T D d m/\eA T D d m<=2:=wv hv hd _ m
theorem DC(hv:av T=true)(hd:(d:Int)<T.nodes):∀(K m:Nat),(m:Int)<T.nodes->0<=dN T D d m->dN T D d m<=K->1<=eA T D d m
 |K,m,f,h0,p=>by
  by_cases e:m=d
  ·subst e;rw[p8];omega
  ·obtain⟨k,hk⟩:=mH (D:=D) hv f hd e h0;have h:=gu hk ((aS hv).cost k hk.eZ).1;obtain⟨n,b,g⟩:=eh hv hk.eZ;have g1:=hk.dN b;have g2:=(aS hv).cost k hk.eZ;cases K with
   |zero=>omega
   |succ K=>
    have hp:=DC hv hd K n g g1.1 (by omega);rw[tR hv hd f e];obtain⟨j,l,hl⟩:=List.append_of_mem h;rw[hl,TN,SA];have i:∀a:Int,0<=eA T D d (aN T a.toNat).toNat:=λa=>(kG hv hd _).1;have o:=qd (λa=>eA T D d (aN T a.toNat).toNat) i j 0 (by omega) (by omega);have a2:=ud (λa=>eA T D d (aN T a.toNat).toNat) i l (min 2 (j.foldl (λc a=>min 2 (c+eA T D d (aN T a.toNat).toNat)) 0+eA T D d (aN T (k:Int).toNat).toNat)) (by omega);rw[QS,b,QS]at a2;rw[QS,b,QS];omega
theorem yl(hv:av T=true)(hd:(d:Int)<T.nodes){m:Nat}(g:(m:Int)<T.nodes)(i:m≠d)(h:eA T D d m=1):∃a:Nat,bu T D m d=[(a:Int)]/\kE T D m d a/\∀k:Nat,aN T a=(k:Int)->eA T D d k=1:=by
 rw[tR hv hd g i]at h;have p:∀a:Int,0<=eA T D d (aN T a.toNat).toNat:=λa=>(kG hv hd _).1;have c:∀a∈bu T D m d,1<=eA T D d (aN T a.toNat).toNat:=λa o=>by
  obtain⟨b,rfl,hb⟩:=di o;obtain⟨j,e,f⟩:=eh hv hb.eZ;have g1:=hb.dN e;rw[QS,e,QS];exact DC hv hd (dN T D d j).toNat j f g1.1 (by omega)
 cases hx:bu T D m d with
 |nil=>rw[hx]at h;simp at h
 |cons a l=>
  obtain⟨b,rfl,hb⟩:=di (T:=T) (D:=D) (n:=m) (d:=d) (a:=a) (by rw[hx];simp);have h1:=c b (by rw[hx];simp);rw[hx,SA]at h;cases l with
  |nil=>
   refine⟨b,rfl,hb,λk hk=>?_⟩;simp only[List.foldl_nil,QS,hk]at h h1;omega
  |cons a2 l=>
   have h2:=c a2 (by rw[hx];simp);rw[SA]at h;have:=ud (λa=>eA T D d (aN T a.toNat).toNat) p l (min 2 (min 2 (0+eA T D d (aN T (b:Int).toNat).toNat)+eA T D d (aN T a2.toNat).toNat)) (by omega);omega
theorem B2(hv:av T=true)(hd:(d:Int)<T.nodes){m a k:Nat}(b:(m:Int)<T.nodes)(c:m≠d)(hx:bu T D m d=[(a:Int)])(hk:aN T a=(k:Int))(h:eA T D d k=1):eA T D d m=1:=by
 rw[tR hv hd b c,hx];simp only[SA,List.foldl_nil,QS,hk,h];omega
theorem SP.unique(hv:av T=true)(hd:(d:Int)<T.nodes){n:Nat}{p q:List Int}(h:SP T D d n p)(e:SP T D d n q)(hc:eA T D d n=1):p=q:=by
 induction h generalizing q with
 |nil=>exact e.self.symm
 | @cons n a m p h1 hm hp r=>
  cases e with
  |nil=>exact absurd rfl h1.ne
  | @cons _ j s q c i e=>
   obtain⟨b,hb,_,g⟩:=yl hv hd (h1.node hv) h1.ne hc;have k:=gu h1 ((aS hv).cost a h1.eZ).1;have l:=gu c ((aS hv).cost j c.eZ).1;rw[hb]at k l;simp only[Rj]at k l;have o:a=b:=by omega
   have f:j=b:=by omega
   subst o;subst f;have em:m=s:=by rw[hm]at i;omega
   subst em;rw[r e (g m hm)]
noncomputable def fN(T:ak)(D:List Bool)(n d:Int):Bool:=decide (bY T D n d=0)&&decide (eA T D d.toNat n.toNat=1)
theorem SP.yH(hv:av T=true)(hd:(d:Int)<T.nodes){n:Nat}{p:List Int}(h:SP T D d n p):(p.length:Int)<T.nodes:=by
 have key:∃l:List Nat,l.length=p.length+1/\l.Nodup/\(∀x∈l,(x:Int)<T.nodes/\dN T D d x<=dN T D d n):=by
  induction h with
  |nil=>exact⟨[d],rfl,by simp,λx hx=>by simp at hx;subst hx;exact⟨hd,SI _⟩⟩
  | @cons n a m p h1 hm hp f=>
   obtain⟨l,e,c,b⟩:=f;have g1:=h1.dN hm;have g2:=(aS hv).cost a h1.eZ;refine⟨n::l,by simp[e],SD.2 ⟨λhn=>by have:=(b n hn).2;omega,c⟩,λx hx=>?_⟩;cases hx with
   |head=>exact⟨h1.node hv,SI _⟩
   |tail _ hx=>have:=b x hx;exact⟨this.1,by omega⟩
 obtain⟨l,e,c,b⟩:=key;have hN:=(aS hv).nodes;have:=qo T.nodes.toNat l c (λx hx=>by have:=(b x hx).1;omega);omega
end
def eo(T:ak):Bool->Int->List Int->Int
 |_,_,[]=>0
 |f,n,a::l=>if ef T a=false then 2 else if aZ T a.toNat≠n\/(f=false/\bR T n.toNat=true) then 4 else eo T false (aN T a.toNat) l
def eI(T:ak)(n:Int)(l:List Int):Int:=if av T then(if aX T n then eo T true n l else 2) else 1
def cV(T:ak):Int->List Int->Int
 |n,[]=>n
 |_,a::l=>cV T (aN T a.toNat) l
def mW(T:ak)(n:Int)(l:List Int):PV:=.tuple [num (if eI T n l=0 then cV T n l else 0),num (if eI T n l=0 then dB T l else 0),num (eI T n l)]
theorem nB(T:ak):∀(n:Int) (l m:List Int),cV T n (l++m)=cV T (cV T n l) m
 |_,[],_=>rfl
 |_,a::l,m=>nB T _ l m
theorem drop_cons(l:List Int)(k:Nat)(h:k<l.length):l.drop k=l.getD k 0::l.drop (k+1):=by
 rw[TR h,QU,QX h];rfl
theorem fP(T:ak)(n:Int)(l:List Int)(k:Nat)(h:k<l.length):cV T n (l.take (k+1))=aN T (l.getD k 0).toNat:=by
 rw[dE l k 0 h,nB];rfl
theorem mC(T:ak)(l:List Int)(k:Nat)(h:k<l.length):dB T (l.take (k+1))=dB T (l.take k)+cz T (l.getD k 0).toNat:=by
 rw[dE l k 0 h,iD];simp[gV,ja]
theorem oY{T f}{n a:Int}{l:List Int}(h1:ef T a=true)(h2:aZ T a.toNat=n)(b:f=true\/bR T n.toNat=false):eo T f n (a::l)=eo T false (aN T a.toNat) l:=by
 simp only[eo];rw[QZ (by rw[h1];simp),QZ];rintro(h|⟨h,c⟩)
 ·exact h h2
 ·rcases b with b|b
  ·rw[b]at h;cases h
  ·rw[b]at c;cases c
theorem Bv{T f}{n a:Int}{l:List Int}(h1:ef T a=true)(h2:aZ T a.toNat≠n\/(f=false/\bR T n.toNat=true)):eo T f n (a::l)=4:=by
 simp only[eo];rw[QZ (by rw[h1];simp),QY h2]
theorem Fe(T:ak)(hl:T.ah.length<=4611686018427387902)(a:Int)(h:ef T a=true):Can prog 47 [aL T,num a] (· =num (aN T a.toNat)):=by
 obtain⟨h0,h1⟩:=cH.1 h;obtain⟨a,rfl⟩:=QW h0;exact iH T a (by omega) hl
theorem EG(T:ak)(a:Int)(h:ef T a=true):Can prog 153 [aL T,num a] (· =num (cz T a.toNat)):=by
 obtain⟨h0,h1⟩:=cH.1 h;obtain⟨a,rfl⟩:=QW h0;exact nv T a (by omega)
theorem u7(T:ak)(hv:av T=true)(a:Int)(h:ef T a=true):Can prog 86 [aL T,num a] (· =num (aZ T a.toNat)):=by
 obtain⟨h0,h1⟩:=cH.1 h;obtain⟨a,rfl⟩:=QW h0;exact fI T hv a (by omega)
theorem pB(T:ak)(hv:av T=true)(a:Int)(h:ef T a=true):Can prog 94 [aL T,num a] (· =num (aN T a.toNat)):=by
 obtain⟨h0,h1⟩:=cH.1 h;obtain⟨a,rfl⟩:=QW h0;exact gY T hv a (by omega)
theorem CR(T:ak)(hv:av T=true)(a:Int)(h:ef T a=true):Can prog 170 [aL T,num a] (· =num (cz T a.toNat)):=by
 obtain⟨h0,h1⟩:=cH.1 h;obtain⟨a,rfl⟩:=QW h0;exact py T hv a (by omega)
theorem kh{T:ak}(hv:av T=true){a:Int}(h:ef T a=true):(1<=cz T a.toNat/\cz T a.toNat<=65535)/\∃m:Nat,aN T a.toNat=(m:Int)/\(m:Int)<T.nodes:=by
 obtain⟨h0,h1⟩:=cH.1 h;have hl:a.toNat<2*T.ah.length:=by omega
 exact⟨(aS hv).cost _ hl,eh hv hl⟩
theorem D2{T:ak}(hv:av T=true){x:Nat}(hx:(x:Int)<T.nodes):T.over.length=0\/x<T.over.length:=by have:=(gQ hv).2.2.2;omega
theorem AR(T:ak)(n:Int)(l:List Int)(hl:l.length<=1000000):Can prog 160 [aL T,num n,aq l] (· =mW T n l):=by
 refine aF func160 I ntmps160 I<|ab (.a 4 I<|.k [1,2,3,7] I)<|ai<|ab (.a 1 I<|.c rfl (fv T) I<|.a 1 I<|.k [1,2,3,7,13] I)<|ae I (λhc=>?_) (λhc=>?_)
 ·have hv:av T=false:=by simpa using hc
  have g:eI T n l=1:=by unfold eI;rw[hv];rfl
  unfold mW;rw[g];exact ab (.a 3 I<|.k [6,7,8] I)<|ao<|QR I ax.pure rfl
 ·have hv:av T=true:=by simpa using hc
  have P:=bO hv;refine aj<|ai<|ab (.a 2 I<|.c rfl (ej T n) I<|.a 1 I<|.k [1,2,3,7,17] I)<|ae I (λhc=>?_) (λhc=>?_)
  ·have hn:aX T n=false:=by simpa using hc
   have g:eI T n l=2:=by unfold eI;rw[hv,hn];rfl
   unfold mW;rw[g];exact ab (.a 3 I<|.k [6,7,8] I)<|ao<|QR I ax.pure rfl
  ·have hn:aX T n=true:=by simpa using hc
   have g:eI T n l=eo T true n l:=by unfold eI;rw[hv,hn];rfl
   obtain⟨m,o⟩:=aQ.1 hn;obtain⟨n,rfl⟩:=QW m;refine aj<|ab (.a 2 I<|.k [2,3,6,7] I)<|ai<|ab (.a 3 I<|.k [3,6,7,19,20,21] I)<|aw<|eF [3,6,7,19,20,21] I<|bd (λr s=>∃(k x:Nat),k<=l.length/\r=l.length - k/\cV T n (l.take k)=(x:Int)/\(x:Int)<T.nodes/\0<=dB T (l.take k)/\dB T (l.take k)<=65535*(k:Int)/\eo T true n l=eo T (decide (k=0)) x (l.drop k)/\s=⟨[(3,.bq (bn T) 0),(6,num x),(7,num (dB T (l.take k))),(19,aq l),(20,num l.length),(21,num k)],[]⟩) l.length ⟨0,n,by omega,by omega,rfl,o,by simp[ja],by simp[ja],rfl,rfl⟩ ?_;rintro r s ⟨k,x,hk,rfl,hx,w,N,O,hw,rfl⟩;refine ab (.a 1 I<|.k [3,6,7,19,20,21,22] I)<|ai<|ae I (λhy=>?_) (λhy=>?_)
   ·have e:k<l.length:=by have:=tt hy;omega
    rw[drop_cons l k e]at hw;have⟨F,a⟩:=QQ (ef T (l.getD k 0));have B:=s4 T (by omega) (l.getD k 0);rw[a]at B;refine aj<|ai<|aw<|ab (.a 1 I<|.v (aM (k) I) I<|.v (aJ I (aB l k e)) I<|.a 2 I<|.k [3,6,7,9,10,19,20,21] I)<|ai<|ab (.a 2 I<|.c rfl (B) I<|.a 1 I<|.k [3,6,7,9,10,19,20,21,29] I)<|ae I (λA=>?_) (λA=>?_)
    ·have h1:F=false:=by simpa using A
     subst h1;have t:eo T true n l=2:=by rw[hw];simp only[eo];rw[QY a]
     unfold mW;rw[g,t];exact ab (.a 3 I<|.k [6,7,8] I)<|ao<|QR I ax.pure rfl
    ·have h1:F=true:=by simpa using A
     subst h1;obtain⟨⟨C,D⟩,y,i,z⟩:=kh hv a;have q:=fP T n l k e;have p:=mC T l k e;have⟨G,b⟩:=QQ (decide (aZ T (l.getD k 0).toNat≠(x:Int)));have⟨H,c⟩:=QQ (decide (0<(k:Int)));have⟨R,d⟩:=QQ (bR T x);refine aj<|ai<|bz 43 (.raw (.bool (G||(H&&R)))) [3,7,10,19,20,21] I ?_ ?_
     ·refine .a 2 I<|.c rfl (rU T _ a) I<|.a 1 I<|.v (bW I (b)) I<|.a 1 I<|?_;cases G
      ·refine .a 1 I<|.v (bW I (c)) I<|.a 1 I<|?_;cases H
       ·exact .a 5 I<|.k [43,3,7,10,19,20,21] I
       ·exact .a 2 I<|.c rfl (d▸qv T x (D2 hv w)) I<|.a 2 I<|.k [43,3,7,10,19,20,21] I
      ·exact .a 8 I<|.k [43,3,7,10,19,20,21] I
     refine ae I (λhb=>?_) (λhb=>?_)
     ·have u:eo T true n l=4:=by
       rw[hw];refine Bv a ?_;rcases Sh.1 hb with h|h
       ·rw[h]at b;exact .inl (tt b)
       ·obtain⟨L,M⟩:=Q3.1 h;rw[L]at c;rw[M]at d;exact .inr ⟨Rg (by have:=tt c;omega),by rw[QS];exact d⟩
      unfold mW;rw[g,u];exact ab (.a 3 I<|.k [6,7,8] I)<|ao<|QR I ax.pure rfl
     ·obtain⟨J,K⟩:=Rt.1 hb;rw[J]at b;have Q:aZ T (l.getD k 0).toNat=(x:Int):=Q4 (ff b);have v:=oY (T:=T) (f:=decide (k=0)) (n:=(x:Int)) (l:=l.drop (k+1)) a Q (by
       rcases SE.1 K with h|h
       ·rw[h]at c;exact .inl (Rb (by have:=ff c;omega))
       ·rw[h]at d;exact .inr (by rw[QS];exact d))
      rw[v,i]at hw;have E:=Fe T (by omega) _ a;rw[i]at E;refine aj<|ab (.a 2 I<|.c rfl (E) I<|.a 1 I<|.k [3,6,7,10,19,20,21] I)<|aC (.a 3 I<|.c rfl (EG T _ a) I<|.v (aW I (hc:=p.symm)) I<|.a 1 I<|.k [3,6,7,19,20,21] I) ?_;refine aC (.v (aW I) I<|.a 1 I<|.k [3,6,7,19,20,21] I)<|⟨l.length - (k+1),by omega,k+1,y,by omega,rfl,by rw[q,i],z,by omega,by omega,by rw[hw];rfl,rfl⟩
   ·have j:k=l.length:=by have:=ff hy;omega
    subst j;rw[TX]at hw;rw[RC]at hx ⊢;unfold mW;rw[g,hw];simp only[eo,Sw];rw[hx];exact ba<|ab (.a 5 I<|.k [6,7,8] I)<|ao<|QR I ax.pure rfl
theorem Gh(T:ak)(n:Int)(l:List Int)(hl:l.length<=1000000):Can prog 171 [aL T,num n,aq l] (· =mW T n l):=by
 have⟨g1,i⟩:=QQ (decide (n<0));have⟨g2,j⟩:=QQ (decide (T.nodes<=n));have m:aX T n= !(g1||g2):=by rw[<-i,<-j,<-TS,<-decide_not];unfold aX;exact decide_eq_decide.2 (by omega)
 refine aF func171 I ntmps171 I<|ab (.a 4 I<|.k [1,2,3] I)<|ai<|ab (.a 1 I<|.c rfl (fh T) I<|.a 1 I<|.k [1,2,3,13] I)<|ae I (λhc=>?_) (λhc=>?_)
 ·have hv:av T=false:=by simpa using hc
  have g:eI T n l=1:=by unfold eI;rw[hv];rfl
  unfold mW;rw[g];exact ab (.a 3 I<|.k [6,7,8] I)<|ao<|QR I ax.pure rfl
 ·have hv:av T=true:=by simpa using hc
  have U:=bO hv;refine aj<|ai<|bz 21 (.raw (.bool (g1||g2))) [1,2,3] I ?_ ?_
  ·refine .a 1 I<|.v (bW I (i)) I<|.a 1 I<|?_;cases g1
   ·exact .a 3 I<|.v (bW I (j)) I<|.a 1 I<|.k [21,1,2,3] I
   ·exact .a 5 I<|.k [21,1,2,3] I
  refine ae I (λhc=>?_) (λhc=>?_)
  ·have hn:aX T n=false:=by rw[m,hc];rfl
   have g:eI T n l=2:=by unfold eI;rw[hv,hn];rfl
   unfold mW;rw[g];exact ab (.a 3 I<|.k [6,7,8] I)<|ao<|QR I ax.pure rfl
  ·have hn:aX T n=true:=by rw[m,hc];rfl
   have g:eI T n l=eo T true n l:=by unfold eI;rw[hv,hn];rfl
   obtain⟨u,v⟩:=aQ.1 hn;clear m i j hc;obtain⟨n,rfl⟩:=QW u;refine aj<|ab (.a 1 I<|.k [1,2,3,9] I)<|ai<|ab (.a 1 I<|.k [1,2,3,9,10] I)<|aw<|eF [1,2,3,9,10] I<|bd (λr s=>∃(k x:Nat),k<=l.length/\r=l.length - k/\cV T n (l.take k)=(x:Int)/\(x:Int)<T.nodes/\0<=dB T (l.take k)/\dB T (l.take k)<=65535*(k:Int)/\eo T true n l=eo T (decide (k=0)) x (l.drop k)/\s=⟨[(1,num x),(2,aq l),(3,.bq (bn T) 0),(9,num (dB T (l.take k))),(10,num k)],[]⟩) l.length ⟨0,n,by omega,by omega,rfl,v,by simp[ja],by simp[ja],rfl,rfl⟩ ?_;rintro r s ⟨k,x,hk,rfl,hx,W,R,S,hw,rfl⟩;refine ai<|ab (.a 4 I<|.k [1,2,3,9,10,25] I)<|ae I (λhy=>?_) (λhy=>?_)
   ·have a:k<l.length:=by have:=tt hy;omega
    rw[drop_cons l k a]at hw;have⟨K,o⟩:=QQ (decide (l.getD k 0<0));have⟨Y,p⟩:=QQ (decide (2*(T.ah.length:Int)<=l.getD k 0));refine aj<|ai<|aw<|ai<|iY mixed (by kernel_rfl) 41 (.raw (.bool (K||Y))) [1,2,3,9,10] I ?_ ?_
    ·refine .a 2 I<|.v [28,29] (aM (k) I) I I<|.v [30] (aJ I (aB l k a)) I I<|.v [31] (bW I (o)) I I<|.a 1 I<|?_;cases K
     ·exact .a 2 I<|.v [34,35] (aM (k) I) I I<|.v [36] (aJ I (aB l k a)) I I<|.a 1 I<|.v [38] (dX I (ky T hv)) I I<|.v [37,39] (bW I (p)) I I<|.a 1 I<|.k [41,1,2,3,9,10] I
     ·exact .a 8 I<|.k [41,1,2,3,9,10] I
    refine ae I (λF=>?_) (λF=>?_)
    ·have w:=qD o p F;have B:eo T true n l=2:=by rw[hw];simp only[eo];rw[QY (by unfold ef;exact Rg w)]
     unfold mW;rw[g,B];exact ab (.a 3 I<|.k [6,7,8] I)<|ao<|QR I ax.pure rfl
    ·have b:ef T (l.getD k 0)=true:=cH.2 (oS o p F);obtain⟨⟨G,H⟩,y,q,E⟩:=kh hv b;have A:=fP T n l k a;have z:=mC T l k a;have⟨L,c⟩:=QQ (decide (aZ T (l.getD k 0).toNat≠(x:Int)));have⟨M,d⟩:=QQ (decide (0<(k:Int)));have⟨X,e⟩:=QQ (bR T x);refine aj<|ai<|iY mixed (by kernel_rfl) 58 (.raw (.bool (L||(M&&X)))) [2,3,9,10] I ?_ ?_
     ·refine .a 3 I<|.v [43,44] (aM (k) I) I I<|.v [45] (aJ I (aB l k a)) I I<|.v [42,46] (dX I (u7 T hv _ b)) I I<|.a 1 I<|.v [47,48] (bW I (c)) I I<|.a 1 I<|?_;cases L
      ·refine .a 1 I<|.v [51] (bW I (d)) I I<|.a 1 I<|?_;cases M
       ·exact .a 5 I<|.k [58,2,3,9,10] I
       ·exact .a 2 I<|.v [54,55] (dX I (e▸xu T hv x)) I I<|.a 2 I<|.k [58,2,3,9,10] I
      ·exact .a 8 I<|.k [58,2,3,9,10] I
     refine ae I (λhb=>?_) (λhb=>?_)
     ·have C:eo T true n l=4:=by
       rw[hw];refine Bv b ?_;rcases Sh.1 hb with h|h
       ·rw[h]at c;exact .inl (tt c)
       ·obtain⟨P,Q⟩:=Q3.1 h;rw[P]at d;rw[Q]at e;exact .inr ⟨Rg (by have:=tt d;omega),by rw[QS];exact e⟩
      unfold mW;rw[g,C];exact ab (.a 3 I<|.k [6,7,8] I)<|ao<|QR I ax.pure rfl
     ·obtain⟨N,O⟩:=Rt.1 hb;rw[N]at c;have V:aZ T (l.getD k 0).toNat=(x:Int):=Q4 (ff c);have D:=oY (T:=T) (f:=decide (k=0)) (n:=(x:Int)) (l:=l.drop (k+1)) b V (by
       rcases SE.1 O with h|h
       ·rw[h]at d;exact .inl (Rb (by have:=ff d;omega))
       ·rw[h]at e;exact .inr (by rw[QS];exact e))
      rw[D,q]at hw;have J:=pB T hv _ b;rw[q]at J;refine aj<|er mixed (by kernel_rfl) (.a 4 I<|.v [61,62] (aM (k) I) I I<|.v [63] (aJ I (aB l k a)) I I<|.v [60,64] (dX I (CR T hv _ b)) I I<|.v [59,65] (aW I (hc:=z.symm)) I I<|.a 1 I<|.k [2,3,9,10] I) ?_;refine Og mixed (by kernel_rfl) (.a 3 I<|.v [68,69] (aM (k) I) I I<|.v [70] (aJ I (aB l k a)) I I<|.v [67,71] (dX I (J)) I I<|.a 1 I<|.k [1,2,3,9,10] I)<|aC (.a 1 I<|.v (aW I) I<|.a 1 I<|.k [1,2,3,9,10] I) ?_;exact⟨l.length - (k+1),by omega,k+1,y,by omega,rfl,by rw[A,q],E,by omega,by omega,by rw[hw];rfl,rfl⟩
   ·have t:k=l.length:=by have:=ff hy;omega
    subst t;rw[TX]at hw;rw[RC]at hx ⊢;unfold mW;rw[g,hw];simp only[eo,Sw];rw[hx];exact ba<|ab (.a 5 I<|.k [6,7,8] I)<|ao<|QR I ax.pure rfl
theorem nK(T:ak)(hv:av T=true):Can prog 155 [aL T] (· =mc (ek (aZ T) T.nodes.toNat (2*T.ah.length))):=by
 have f:=gQ hv;have e:=aS hv;obtain⟨n,hn⟩:∃n:Nat,T.nodes=(n:Int):=⟨T.nodes.toNat,by omega⟩;rw[show T.nodes.toNat=n by omega];refine aF func155 I ntmps155 I<|ab (.a 2 I<|.k [1] I)<|aK<|au 2 I<|cb (dc I (Ru I) I I hn hn ⟨by unfold maxLen;omega,by omega⟩) I<|au 1 I<|aE [1,3] I ?_;refine sb 28 3 n<|ai<|ab (.a 1 I<|.c rfl (jw T (by omega)) I<|.a 1 I<|.k [1,3,10,11] I)<|aw<|eF [1,3,10,11] I<|bd (λr s=>∃k,k<=2*T.ah.length/\r=2*T.ah.length - k/\s=⟨[(1,.bq (bn T) 0),(3,.own 0),(10,num (2*(T.ah.length:Int))),(11,num k)],nc 28 3 (ek (aZ T) n k)⟩) (2*T.ah.length) ⟨0,by omega,by omega,by rw[u5];rfl⟩ ?_;rintro r s ⟨k,hk,rfl,rfl⟩;refine ab (.a 1 I<|.k [1,3,10,11,12] I)<|ai<|ae I (λhc=>?_) (λhc=>?_)
 ·have a:k<2*T.ah.length:=by have:=Q5 hc;omega
  obtain⟨c,h⟩:=e.tail k a;obtain⟨m,hm⟩:=QW c;have b:m<n:=by omega
  have j:=fR (aZ T) n k;have g:((ek (aZ T) n k).getD m []).length<=k:=by
   rw[kA _ _ _ _ b];simp only[RN];exact Rr (RG _ _) (by simp)
  refine aj<|ai<|aw<|ab (.a 2 I<|.k [1,3,4,10,11] I)<|ab (.a 2 I<|.c rfl (hm▸kX T k a) I<|.a 1 I<|.k [1,3,4,5,10,11] I)<|bx<|au 4 I<|bm (aM (m) I) I<|bm (aJ I (nT _ m (by omega))) I<|au 2 I<|cb (bF I (Ru I) I (nY _ _ _ m (by omega)) I I ⟨by unfold maxLen;omega,by omega⟩) I<|bm (aM (m) I) I<|bc (b9 I (Q6 I) I I I (by show m<(gP _).length;simp[gP];omega)) I I<|aE [1,3,10,11] I ?_;refine dS (J0 (ek (aZ T) n k).length m) (.cons 1 I Ren.pure<|.cons 3 I (Ren.own (i:=0) I)<|.cons 10 I Ren.pure<|.cons 11 I Ren.pure<|.nil) (Bb 28 3 (ek (aZ T) n k) m (by omega) (k:Int)) (xo _ _) I ?_;rw[<-u4 (aZ T) n k m hm b];refine aC (.v (aW I) I<|.a 1 I<|.k [1,3,10,11] I)<|⟨2*T.ah.length - (k+1),by omega,k+1,by omega,rfl,rfl⟩
 ·have d:k=2*T.ah.length:=by have:=Rf hc;omega
  subst d;exact ba<|ab (.a 2 I<|.k [2] I)<|ao<|QR I (Ba _ _ _) rfl
theorem A7(T:ak)(m:Nat)(hm:m<T.nodes.toNat):(ek (aZ T) T.nodes.toNat (2*T.ah.length)).getD m []=bK T m:=by
 rw[kA _ _ _ _ hm];unfold bK iM;exact Sc (List.map Int.ofNat) (Ug λa _=>SR.2 (by simp))
theorem xw(rs:List (List Int))(i:Nat)(h:i<rs.length):(rs.map aq)[i]? =some (aq (rs.getD i [])):=by simp[h]
theorem Ko(T:ak)(D:List Bool)(s d:Int):ct T D [s,d]=bY T D s d:=by
 unfold bY ct;by_cases h:(av T&&bN T D)=true
 ·rw[QY h];by_cases hs:aX T s=true<;>by_cases hd:aX T d=true<;>simp[h,hs,hd]
 ·rw[QZ h];have:(av T&&bN T D)=false:=by simpa using h
  simp[this]
noncomputable def gG(T:ak)(D:List Bool)(s d:Int):Int:=if bY T D s d=0 then(if dN T D d.toNat s.toNat<0 then 11 else 0) else bY T D s d
theorem CA{T D}{m d j:Nat}(c:m≠d)(h0:0<=dN T D d m)(hj:j<(bK T m).length)(e:∀i,i<j->ij T D (bJ T D d false) (dN T D d m) d ((bK T m).getD i 0).toNat=false)(hy:ij T D (bJ T D d false) (dN T D d m) d ((bK T m).getD j 0).toNat=true):∃l,bu T D m d=(bK T m).getD j 0::l:=by
 unfold bu;rw[QZ (by rintro(h|h);exact c h;exact absurd h (by show ¬dN T D d m<0;omega))];have h1:((bK T m).take j).filter (λa=>ij T D (bJ T D d false) (dN T D d m) d a.toNat)=[]:=by
  rw[List.filter_eq_nil_iff];intro a f;obtain⟨i,hi,rfl⟩:=Uv f;have b:i<j:=by rw[Sg]at hi;omega
  have:=e i b;rw[QU,QX (by omega),SM]at this;rw[List.getElem_take,this];simp
 have hs:bK T m=(bK T m).take j++(bK T m).getD j 0::(bK T m).drop (j+1):=by rw[<-drop_cons _ _ hj,SQ]
 have h2:(bK T m).filter (λa:Int=>ij T D (bJ T D d false) (dN T D d m) d a.toNat)=(bK T m).getD j 0::((bK T m).drop (j+1)).filter (λa:Int=>ij T D (bJ T D d false) (dN T D d m) d a.toNat):=by
  refine(Sc (List.filter λa:Int=>ij T D (bJ T D d false) (dN T D d m) d a.toNat) hs).trans ?_;rw[Sd,h1,Sx,S1,QY hy]
 exact⟨_,h2⟩
theorem ua{T D}{m d f:Nat}{a:Int}{l:List Int}(h:bu T D m d=a::l):gb T D d (f+1) m=a::gb T D d f (aN T a.toNat).toNat:=by simp only[gb,h]
theorem IF{T:ak}{D}(hv:av T=true){m d:Nat}(hm:(m:Int)<T.nodes)(hd:(d:Int)<T.nodes)(b:m≠d)(h0:0<=dN T D d m)(c:∀i,i<(bK T m).length->ij T D (bJ T D d false) (dN T D d m) d ((bK T m).getD i 0).toNat=false):False:=by
 obtain⟨k,hk⟩:=mH (D:=D) hv hm hd b h0;have:=gu hk ((aS hv).cost k hk.eZ).1;unfold bu at this;rw[QZ (by rintro(h|h);exact b h;exact absurd h (by show ¬dN T D d m<0;omega))]at this;obtain⟨h1,h2⟩:=RK.1 this;obtain⟨i,hi,he⟩:=Uv h1;have e:=c i hi;rw[QU,QX hi,SM,he]at e;have a:ij T D (bJ T D d false) (dN T D d m) d (k:Int).toNat=true:=h2;rw[e]at a;cases a
theorem xF(T:ak)(D:List Bool)(s d:Int):Can prog 159 [aL T,aV D,num s,num d] (· =ec (gG T D s d) (cE T D s.toNat d.toNat)):=by
 have v:=rj T D [s,d] (by simp);rw[Ko]at v;refine aF func159 I ntmps159 I<|ab (.a 3 I<|.k [1,2,3,4] I)<|ai<|ab (.a 5 I<|.c rfl (v) I<|.a 1 I<|.k [1,2,3,4,10] I)<|ab (.a 2 I<|.k [1,2,3,4,10,26] I)<|ae I (λhc=>?_) (λhc=>?_)
 ·have he:bY T D s d≠0:=tt hc;exact ab (.a 3 I<|.k [8,9] I)<|ao<|QR I (RW (QV ax.bH (QV ax.pure Rl))) (by unfold ec gG;rw[QZ he,QZ he];rfl)
 ·have he:bY T D s d=0:=Q4 (ff hc);obtain⟨hv,hf,W,V⟩:=fH he;obtain⟨Y,G⟩:=aQ.1 W;obtain⟨P,o⟩:=aQ.1 V;obtain⟨s,rfl⟩:=QW Y;obtain⟨d,rfl⟩:=QW P;have Q:Can prog 151 [aL T,aV D,num d] (· = .tuple [aq (bJ T D d false),num 0]):=by
   have h:=tT T D (d:Int);rw[show ct T D [(d:Int)]=0 by unfold bY at he;split at he;assumption;assumption]at h;exact h
  have hS:=aS hv;have hN:=hS.nodes;have ah:=bO hv;obtain⟨af,M⟩:=dD (D:=D) hv (dir:=false) o;refine aj<|ab (.a 3 I<|.c rfl (Q) I<|.a 5 I<|.k [1,2,3,4,11] I)<|ai<|ab (.a 2 I<|.v (aM (s) I) I<|.v (aJ I (aB _ s (by omega))) I<|.a 1 I<|.k [1,2,3,4,11,39] I)<|ae I (λhc=>?_) (λhc=>?_)
  ·have h0:dN T D d s<0:=tt hc;exact ab (.a 2 I<|.k [8,9] I)<|ao<|QR I (RW (QV ax.bH (QV ax.pure Rl))) (by unfold ec gG;simp only[QS];rw[QY he,QY h0];rfl)
  ·have h0:0<=dN T D d s:=by have:=ff hc;show 0<=(bJ T D d false).getD s 0;omega
   have hE:gG T D (s:Int) (d:Int)=0:=by unfold gG;simp only[QS];rw[QY he,QZ (by omega)]
   rw[hE];refine aj<|ab (.a 1 I<|.c rfl (nK T hv) I<|.a 1 I<|.k [1,2,3,4,11,13] I)<|ab (.a 1 I<|.k [1,2,3,4,11,13,14] I)<|eU 14 3 1 I ?_;refine ai<|ab (.a 2 I<|.k [1,3,4,11,13,14,15] I)<|aw<|eF [1,3,4,11,13,14,15] I<|bd (λr st=>∃(p:List Int) (m f:Nat),(m:Int)<T.nodes/\0<=dN T D d m/\dN T D d m<=f/\r=(dN T D d m).toNat/\(p.length:Int)+dN T D d m<=dN T D d s/\cE T D s d=p++gb T D d f m/\st=⟨[(1,aV D),(3,num d),(4,.bq (bn T) 0),(11,aq (bJ T D d false)),(13,mc (ek (aZ T) T.nodes.toNat (2*T.ah.length))),(14,.own 0),(15,num m)],[some (.row 3 1 p.length (aU p))]⟩) (dN T D d s).toNat ⟨[],s,(dN T D d s).toNat,G,h0,by omega,rfl,by simp,rfl,rfl⟩ ?_;rintro r st ⟨p,m,f,hm,x,al,rfl,ar,hp,rfl⟩;refine ai<|ab (.a 3 I<|.k [1,3,4,11,13,14,15,45] I)<|ae I (λhy=>?_) (λhy=>?_)
   ·have z:m≠d:=by have:=tt hy;omega
    have U:m<(bJ T D d false).length:=by omega
    have F:=A7 T m (by omega);have aa:=(MF (D:=D) hv o G).2;have an:(bK T m).length<=512:=Rr (eu T m _) (by omega);refine aj<|aw<|ab (.a 2 I<|.v (aM (m) I (by omega) (by rw[fR];omega)) I<|.v (aJ I ((xw _ m (by rw[fR];omega)).trans (by rw[F]))) I<|.a 2 I<|.k [1,3,4,11,13,14,15,49,50,51] I)<|aw<|eF [1,3,4,11,13,14,15,49,50,51] I<|bd (λr st=>∃j:Nat,j<=(bK T m).length/\r=(bK T m).length - j/\(∀i,i<j->ij T D (bJ T D d false) (dN T D d m) d ((bK T m).getD i 0).toNat=false)/\st=⟨[(1,aV D),(3,num d),(4,.bq (bn T) 0),(11,aq (bJ T D d false)),(13,mc (ek (aZ T) T.nodes.toNat (2*T.ah.length))),(14,.own 0),(15,num m),(49,aq (bK T m)),(50,num (bK T m).length),(51,num j)],[some (.row 3 1 p.length (aU p))]⟩) (bK T m).length ⟨0,by omega,by omega,λi hi=>by omega,rfl⟩ ?_;rintro r st ⟨j,hj,rfl,g,rfl⟩;refine ab (.a 1 I<|.k [1,3,4,11,13,14,15,49,50,51,52] I)<|ai<|ae I (λZ=>?_) (λZ=>?_)
    ·have q:j<(bK T m).length:=by have:=tt Z;omega
     obtain⟨L,ad⟩:=kS (bX (d:=0) q);obtain⟨a,K⟩:=QW L;have e:a<2*T.ah.length:=by omega
     obtain⟨y,k,H⟩:=eh hv e;have u:y<(bJ T D d false).length:=by omega
     have hh:=iH T a e (by omega);rw[k]at hh;have hD:D.length=0\/a<D.length:=by simp only[bN,Ra]at hf;omega
     have⟨p1,A⟩:=QQ (aI D a);have⟨p2,B⟩:=QQ (decide ((bJ T D d false).getD y 0<0));have⟨p3,C⟩:=QQ (decide ((y:Int)≠(d:Int)));have⟨p4,E⟩:=QQ (bR T y);have c:∀b,ij T D (bJ T D d false) (dN T D d m) d ((bK T m).getD j 0).toNat=b↔(!((p1||p2)||(p3&&p4))&&decide ((bJ T D d false).getD y 0+cz T a=dN T D d m))=b:=λb=>by
      unfold ij;rw[K,QS,k,QS,A,B,C,E]
     refine aj<|ai<|aw<|ab (.v (aM (j) I) I<|.v (aJ I ((aB _ j q).trans (by rw[K]))) I<|.a 1 I<|.k [1,3,4,11,13,14,15,17,49,50,51] I)<|ab (.a 2 I<|.c rfl (hh) I<|.a 1 I<|.k [1,3,4,11,13,14,15,17,18,49,50,51] I)<|ai<|bz 77 (.raw (.bool ((p1||p2)||(p3&&p4)))) [1,3,4,11,13,14,15,17,18,49,50,51] I ?_ ?_
     ·refine .a 2 I<|.c rfl (A▸kI D a hD) I<|.a 1 I<|?_;cases p1
      ·refine .a 2 I<|.v (aM (y) I) I<|.v (aJ I (aB _ y u)) I<|.v (bW I (B)) I<|.a 2 I<|?_;cases p2
       ·refine .a 2 I<|.v (bW I (C)) I<|.a 1 I<|?_;cases p3
        ·exact .a 5 I<|.k [77,1,3,4,11,13,14,15,17,18,49,50,51] I
        ·exact .a 2 I<|.c rfl (E▸qv T y (D2 hv H)) I<|.a 2 I<|.k [77,1,3,4,11,13,14,15,17,18,49,50,51] I
       ·exact .a 9 I<|.k [77,1,3,4,11,13,14,15,17,18,49,50,51] I
      ·exact .a 16 I<|.k [77,1,3,4,11,13,14,15,17,18,49,50,51] I
     refine ae I (λhk=>?_) (λhk=>?_)
     ·have t:=(c false).2 (by rw[hk];rfl);refine ba<|aC (.v (aW I) I<|.a 1 I<|.k [1,3,4,11,13,14,15,49,50,51] I) ?_;refine⟨(bK T m).length - (j+1),by omega,j+1,by omega,rfl,λi hi=>?_,rfl⟩;by_cases h:i=j
      ·rw[h];exact t
      ·exact g i (by omega)
     ·skip
      refine aj ?_;have av:=M _ (bX (d:=0) u);have ag:=hS.cost a e;refine er mixed (by kernel_rfl) (.a 2 I<|.v [78,79] (aM (y) I) I I<|.v [80] (aJ I (aB _ y u)) I I<|.a 2 I<|.v [82,83] (dX I (nv T a e)) I I<|.v [81,84] (aW I) I I<|.a 2 I<|.v [86,87] (aM (m) I) I I<|.v [88] (aJ I (aB _ m U)) I I<|.a 1 I<|.k [1,3,4,11,13,14,15,17,18,49,50,51,90] I)<|ae I (λX=>?_) (λX=>?_)
      ·have J:=(c true).2 (by rw[hk];exact Rb (tt X));obtain⟨l,hl⟩:=CA z x q g J;obtain⟨b,hb,O⟩:=di (T:=T) (D:=D) (n:=m) (d:=d) (a:=(bK T m).getD j 0) (by rw[hl];simp);have N:b=a:=by omega
       subst N;have R:=O.dN k;refine aK<|au 3 I<|cb (bF I (Ru I) I I I I (by unfold maxLen;omega)) I<|au 1 I ?_;refine dL [1] (.c 1<|.c 3<|.c 4<|.c 11<|.c 13<|.c 14<|.c 18<|.nil) (.kept rfl (.eY rfl (cW _ _))<|.nil) I I (bg ?_);refine ab (.a 2 I<|.k [1,3,4,11,13,14,15] I)<|ba ?_;cases f with
       |zero=>omega
       |succ f=>
        refine⟨(dN T D d y).toNat,by omega,p++[(b:Int)],y,f,H,R.1,by omega,rfl,by simp;omega,?_,by simp⟩;rw[hp,ua hl,K,QS,k,QS,RO]
        rfl
      ·have t:=(c false).2 (by rw[hk,SE];exact .inr (Rg (ff X)));refine aj<|aC (.v (aW I) I<|.a 1 I<|.k [1,3,4,11,13,14,15,49,50,51] I) ?_;refine⟨(bK T m).length - (j+1),by omega,j+1,by omega,rfl,λi hi=>?_,rfl⟩;by_cases h:i=j
       ·rw[h];exact t
       ·exact g i (by omega)
    ·exact absurd (IF hv hm o z x (λi hi=>g i (by have:=ff Z;omega))) (λh=>h)
   ·have S:m=d:=by have:=ff hy;omega
    subst S;have w:gb T D m f m=[]:=by cases f with|zero=>rfl|succ f=>simp only[gb,ku]
    rw[w,R9]at hp;exact ba<|ab (.a 3 I<|.k [8,9] I)<|ao<|QR I (RW (QV (Tj rfl Sj) (QV ax.pure Rl))) (by unfold ec;rw[QY rfl];simp only[QS];rw[hp];rfl)
theorem nR(T:ak)(D:List Bool)(m d:Nat):(bu T D m d).Pairwise (· < ·):=by
 unfold bu;split
 ·exact List.Pairwise.nil
 ·exact(nS T m).filter _
theorem CB{T D}{m d a:Nat}(h:(a:Int)∈bu T D m d)(e:∀i:Nat,i<a->¬(i:Int)∈bu T D m d):∃l,bu T D m d=(a:Int)::l:=by
 have hs:=nR T D m d;cases hx:bu T D m d with
 |nil=>rw[hx]at h;cases h
 |cons b l=>
  obtain⟨c,rfl,_⟩:=di (T:=T) (D:=D) (n:=m) (d:=d) (a:=b) (by rw[hx];simp);rw[hx]at h hs e;have h1:=e c;have:c=a:=by
   cases h with
   |head=>rfl
   |tail _ h=>
    have:=(T8.1 hs).1 _ h;exact absurd (R1 ..) (h1 (by omega))
  exact⟨l,by rw[this]⟩
theorem NF{T:ak}{D}(hv:av T=true){m d k:Nat}(hm:(m:Int)<T.nodes)(hd:(d:Int)<T.nodes)(hk:k<2*T.ah.length):(decide (aZ T k=(m:Int))&&DW T D (bJ T D d false) k d)=true↔(k:Int)∈bu T D m d:=by
 obtain⟨y,a,j⟩:=eh hv hk;have f:=aS hv;constructor
 ·intro h;obtain⟨h1,h2⟩:=Q3.1 h;have h1:=tt h1;unfold DW at h2;rw[h1,a]at h2;simp only[QS,Q7,R4,RX,Ra]at h2;obtain⟨⟨⟨⟨g1,g2⟩,g3⟩,g4⟩,g5⟩:=h2;refine gu ⟨hk,h1,g1,by omega,?_,?_,?_⟩ (f.cost k hk).1
  ·rw[a,QS];exact g3
  ·rw[a];rcases g4 with g|g
   ·exact .inl (by omega)
   ·exact .inr (by simpa using g)
  ·rw[a,QS];exact g5
 ·intro h;obtain⟨k',i,hn⟩:=di h;have:k'=k:=by omega
  subst this;have b:=hn.reach;have c:=hn.pass;have e:=hn.sum;have l:=hn.ne;rw[a,QS]at b e;rw[a,QS]at c;refine Q3.2 ⟨Rb hn.tail,?_⟩;unfold DW;rw[hn.tail,a];simp only[QS,Q7,R4,RX,Ra];refine⟨⟨⟨⟨hn.up,by omega⟩,b⟩,?_⟩,e⟩;rcases c with g|g
  ·exact .inl (by omega)
  ·exact .inr (by simpa using g)
theorem pC(T:ak)(D:List Bool)(s d:Int):Can prog 147 [aL T,aV D,num s,num d] (· =ec (gG T D s d) (cE T D s.toNat d.toNat)):=by
 have⟨g1,n⟩:=QQ (decide (s<0));have⟨g2,o⟩:=QQ (decide (T.nodes<=s));have q:aX T s= !(g1||g2):=by rw[<-n,<-o,<-TS,<-decide_not];unfold aX;exact decide_eq_decide.2 (by omega)
 refine aF func147 I ntmps147 I<|ab (.a 3 I<|.k [1,2,3,4] I)<|ab (.a 3 I<|.c rfl (lY T D d) I<|.a 5 I<|.k [1,2,3,4,10,11] I)<|ai<|ab (.a 2 I<|.k [1,2,3,4,10,11,22] I)<|ae I (λhc=>?_) (λhc=>?_)
 ·have c:ct T D [d]≠0:=tt hc;have he:bY T D s d≠0:=by unfold bY;rw[QZ c];exact c
  have L:bY T D s d=ct T D [d]:=by unfold bY;rw[QZ c]
  exact ab (.a 3 I<|.k [8,9] I)<|ao<|QR I (RW (QV ax.bH (QV ax.pure Rl))) (by unfold ec gG;rw[QZ he,QZ he,L];rfl)
 ·have c:ct T D [d]=0:=Q4 (ff hc);rw[c,QY rfl];refine aj<|ai<|bz 31 (.raw (.bool (g1||g2))) [1,2,3,4,10] I ?_ ?_
  ·refine .a 1 I<|.v (bW I (n)) I<|.a 1 I<|?_;cases g1
   ·exact .a 3 I<|.v (bW I (o)) I<|.a 1 I<|.k [31,1,2,3,4,10] I
   ·exact .a 5 I<|.k [31,1,2,3,4,10] I
  refine ae I (λhy=>?_) (λhy=>?_)
  ·have hn:aX T s=false:=by rw[q,hy];rfl
   have he:bY T D s d=2:=by unfold bY;rw[QY c,hn];rfl
   exact ab (.a 2 I<|.k [8,9] I)<|ao<|QR I (RW (QV ax.bH (QV ax.pure Rl))) (by unfold ec gG;rw[he];rfl)
  ·have hn:aX T s=true:=by rw[q,hy];rfl
   have he:bY T D s d=0:=by unfold bY;rw[QY c,hn];rfl
   obtain⟨hv,hf,R,O⟩:=fH he;obtain⟨U,B⟩:=aQ.1 R;obtain⟨J,g⟩:=aQ.1 O;clear q n o hy;obtain⟨s,rfl⟩:=QW U;obtain⟨d,rfl⟩:=QW J;simp only[QS];have C:=aS hv;have hN:=C.nodes;have ad:=bO hv;obtain⟨E,F⟩:=dD (D:=D) hv (dir:=false) g;refine aj<|ai<|ab (.a 2 I<|.v (aM (s) I) I<|.v (aJ I (aB _ s (by omega))) I<|.a 1 I<|.k [1,2,3,4,10,36] I)<|ae I (λhy=>?_) (λhy=>?_)
   ·have h0:dN T D d s<0:=tt hy;exact ab (.a 2 I<|.k [8,9] I)<|ao<|QR I (RW (QV ax.bH (QV ax.pure Rl))) (by unfold ec gG;simp only[QS];rw[QY he,QY h0];rfl)
   ·have h0:0<=dN T D d s:=by have:=ff hy;show 0<=(bJ T D d false).getD s 0;omega
    have hE:gG T D (s:Int) (d:Int)=0:=by unfold gG;simp only[QS];rw[QY he,QZ (by omega)]
    rw[hE];refine aj<|ab (.a 1 I<|.k [1,2,3,4,10,12] I)<|eU 12 3 1 I ?_;refine ai<|aw<|eF [1,2,3,4,10,12] I<|bd (λr st=>∃(p:List Int) (m f:Nat),(m:Int)<T.nodes/\0<=dN T D d m/\dN T D d m<=f/\r=(dN T D d m).toNat/\(p.length:Int)+dN T D d m<=dN T D d s/\cE T D s d=p++gb T D d f m/\st=⟨[(1,aV D),(2,num m),(3,num d),(4,.bq (bn T) 0),(10,aq (bJ T D d false)),(12,.own 0)],[some (.row 3 1 p.length (aU p))]⟩) (dN T D d s).toNat ⟨[],s,(dN T D d s).toNat,B,h0,by omega,rfl,by simp,rfl,rfl⟩ ?_;rintro r st ⟨p,m,f,hm,M,af,rfl,ag,hp,rfl⟩;refine ai<|ab (.a 3 I<|.k [1,2,3,4,10,12,39] I)<|ae I (λW=>?_) (λW=>?_)
    ·have P:m≠d:=by have:=tt W;omega
     have X:=(MF (D:=D) hv g B).2;refine aj<|aw<|ab (.a 1 I<|.k [1,2,3,4,10,12,13] I)<|aw<|eF [1,2,3,4,10,12,13] I<|bd (λr st=>∃a:Nat,a<=2*T.ah.length/\r=2*T.ah.length - a/\(∀i:Nat,i<a->¬(i:Int)∈bu T D m d)/\st=⟨[(1,aV D),(2,num m),(3,num d),(4,.bq (bn T) 0),(10,aq (bJ T D d false)),(12,.own 0),(13,num a)],[some (.row 3 1 p.length (aU p))]⟩) (2*T.ah.length) ⟨0,by omega,by omega,λi hi=>by omega,rfl⟩ ?_;rintro r st ⟨a,ha,rfl,t,rfl⟩;refine ai<|ab (.a 4 I<|.v (aW I) I<|.a 1 I<|.k [1,2,3,4,10,12,13,45] I)<|ae I (λS=>?_) (λS=>?_)
     ·have e:a<2*T.ah.length:=by have:=tt S;omega
      obtain⟨y,v,V⟩:=eh hv e;have Y:=gY T hv a e;rw[v]at Y;have⟨Z,z⟩:=QQ (decide (aZ T a=(m:Int)));have⟨p2,A⟩:=QQ (DW T D (bJ T D d false) a d);have u:=NF (D:=D) hv hm g e;rw[z,A]at u;refine aj<|ai<|aw<|bz 60 (.raw (.bool (Z&&p2))) [1,2,3,4,10,12,13] I ?_ ?_
      ·refine .a 2 I<|.c rfl (fI T hv a e) I<|.a 1 I<|.v (bW I (z)) I<|.a 1 I<|?_;cases Z
       ·exact .a 7 I<|.k [60,1,2,3,4,10,12,13] I
       ·exact .a 5 I<|.c rfl (A▸CD T D (bJ T D d false) a d hv hf E F e) I<|.a 1 I<|.k [60,1,2,3,4,10,12,13] I
      refine ae I (λhk=>?_) (λhk=>?_)
      ·have j:=u.1 hk;obtain⟨l,hl⟩:=CB j t;obtain⟨b,hb,H⟩:=di j;have G:b=a:=by omega
       subst G;have K:=H.dN v;have aa:=C.cost b e;refine aK<|au 3 I<|cb (bF I (Ru I) I I I I (by unfold maxLen;omega)) I<|au 1 I ?_;refine dL [1] (.c 1<|.c 3<|.c 4<|.c 10<|.c 12<|.c 13<|.nil) (.kept rfl (.eY rfl (cW _ _))<|.nil) I I (bg ?_);refine ab (.a 2 I<|.c rfl (Y) I<|.a 1 I<|.k [1,2,3,4,10,12] I)<|ba ?_;cases f with
       |zero=>omega
       |succ f=>
        refine⟨(dN T D d y).toNat,by omega,p++[(b:Int)],y,f,V,K.1,by omega,rfl,by simp;omega,?_,by simp⟩;rw[hp,ua hl,QS,v,QS,RO]
        rfl
      ·have Q:¬(a:Int)∈bu T D m d:=λh=>by rw[u.2 h]at hk;cases hk
       refine aj<|aC (.a 1 I<|.v (aW I) I<|.a 1 I<|.k [1,2,3,4,10,12,13] I) ?_;refine⟨2*T.ah.length - (a+1),by omega,a+1,by omega,rfl,λi hi=>?_,rfl⟩;by_cases h:i=a
       ·rw[h];exact Q
       ·exact t i (by omega)
     ·have w:False:=by
       obtain⟨k,hk⟩:=mH (D:=D) hv hm g P M;have:=gu hk (C.cost k hk.eZ).1;exact t k (by have:=hk.eZ;have:=ff S;omega) this
      exact absurd w (λh=>h)
    ·have N:m=d:=by have:=ff W;omega
     subst N;have x:gb T D m f m=[]:=by cases f with|zero=>rfl|succ f=>simp only[gb,ku]
     rw[x,R9]at hp;exact ba<|ab (.a 3 I<|.k [8,9] I)<|ao<|QR I (RW (QV (Tj rfl Sj) (QV ax.pure Rl))) (by unfold ec;rw[QY rfl,hp];rfl)
section
variable {P:Program} {σ:ca} {t:cq} {o:Oper}
theorem Df{src dst x}{k k':IntKind}{a c:Int}{ty}(e:o.op= .convert src dst x)(hs:P.underlying src=some ty)(hd:P.underlying dst=some (.int k'))(hx:aH t x=some (.raw (.int k a)))(hc:k'.wrap a=c):bE P σ t o (.raw (.int k' c)):=by
 intro F base E ρ w b _ d;have h1:=aD b d hx;generalize f:ρ x=z at h1;cases h1;have h2:(convert src dst (.int k a)).run P w= .ok (.int k' c) w:=by
  simp[convert,Sem.run_bind,run_underlying hs,run_underlying hd,Conv.intToInt,hc]
 simp only[execOp,e,f,Sem.run_bind,h2];exact bI (.raw _)
theorem Mq{ty x f s k}{i:Nat}{c:UInt8}(l:o.op= .index ty x f)(hu:P.underlying ty=some .string)(hx:aH t x=some (.raw (.string s)))(d:aH t f=some (.raw (.int k i)))(h:s[i]? =some c):bE P σ t o (.raw (.int .u8 c.toNat)):=by
 intro F base E ρ w b _ g;have h1:=aD b g hx;have a:=aD b g d;generalize m:ρ x=z at h1;generalize e:ρ f=n at a;cases h1;cases a;have h2:(Instr.index ty (.string s) (.int k i)).run P w= .ok (.int .u8 c.toNat) w:=by
  have j:(asIntOf (.int k (i:Int))).run P w= .ok (k,(i:Int)) w:=rfl;simp[Instr.index,Sem.run_bind,run_underlying hu,h,j]
 simp only[execOp,l,m,e,Sem.run_bind,h2];exact bI (.raw _)
theorem J8{N L:Nat}{x y st}{Q:Exit->St->Prop}{b}(h:W P N L (if b then x else y) st Q):W P N L (.cond (.const (.bool b)) x y) st Q:=λF base E₀ w₀ E a w c hs=>
 wp_cond_split (show a.eval (.const (.bool b))= .bool b from rfl) (λhb=>by subst hb;exact h F base E₀ w₀ E a w c hs) (λhb=>by subst hb;exact h F base E₀ w₀ E a w c hs)
end
theorem u8_in(c:UInt8):In64 (c.toNat:Int):=by have:=c.toNat_lt;unfold In64;omega
theorem NX(c:UInt8):In64 (0+(c.toNat:Int)):=by have:=c.toNat_lt;unfold In64;omega
theorem Mc(n:Nat)(h:n<=255):IntKind.u8.wrap (n:Int)=(n:Int):=by rw[IntKind.wrap_u8];omega
def zV(a b:Int):Int:=if a<b then -1 else if b<a then 1 else 0
theorem wJ(a:Int):Can prog 206 [num a] (· =flag false):=by
 exact aF func206 I ntmps206 I<|ab (.a 1 I<|.k [0] I)<|ab (.a 4 I<|.k [2] I)<|ao<|QR I ax.pure (by simp;rfl)
theorem DA(a b:Int):Can prog 203 [num a,num b] (· =num (zV a b)):=by
 refine aF func203 I ntmps203 I<|ab (.a 1 I<|.k [0,1] I)<|ab (.a 1 I<|.c rfl (wJ a) I<|.a 1 I<|.k [0,1,5] I)<|ab (.a 1 I<|.c rfl (wJ b) I<|.a 1 I<|.k [0,1,5,6] I)<|ai<|ab (.a 1 I<|.k [0,1,6,11] I)<|ae I (λhc=>?_) (λhc=>?_)
 ·cases hc
 ·refine aj<|ai<|ab (.a 1 I<|.k [0,1,13] I)<|ae I (λhc=>?_) (λhc=>?_)
  ·cases hc
  ·refine aj<|ai<|ab (.a 3 I<|.k [0,1,16] I)<|ae I (λhc=>?_) (λhc=>?_)
   ·have h1:a<b:=tt hc;exact ab (.a 1 I<|.k [4] I)<|ao<|QR I ax.pure (by unfold zV;rw[QY h1];rfl)
   ·have h1:¬a<b:=ff hc;refine aj<|ai<|ab (.a 3 I<|.k [19] I)<|ae I (λhy=>?_) (λhy=>?_)
    ·have h2:b<a:=tt hy;exact ab (.a 1 I<|.k [4] I)<|ao<|QR I ax.pure (by unfold zV;rw[QZ h1,QY h2];rfl)
    ·have h2:¬b<a:=ff hy;exact aj<|ab (.a 1 I<|.k [4] I)<|ao<|QR I ax.pure (by unfold zV;rw[QZ h1,QZ h2];rfl)
theorem NG(a b:Int):Can prog 202 [.slice 2 [num a,num b]] (· =num (if a=0 then b else a)):=by
 refine aF func202 I ntmps202 I<|ab (.a 1 I<|.k [0] I)<|ab (.a 1 I<|.k [0,3] I)<|ai<|ab (.a 3 I<|.k [3,6,7,8] I)<|aw<|eF [3,6,7,8] I<|bd (λr st=>∃j:Nat,j<=2/\r=2 - j/\(0<j->a=0)/\(1<j->b=0)/\st=⟨[(3,num 0),(6,.slice 2 [num a,num b]),(7,num 2),(8,num j)],[]⟩) 2 ⟨0,by omega,by omega,by omega,by omega,rfl⟩ ?_;rintro r st ⟨j,g,rfl,d,hb,rfl⟩;refine ab (.a 1 I<|.k [3,6,7,8,9] I)<|ai<|ae I (λhc=>?_) (λhc=>?_)
 ·have e:j<2:=by have:=tt hc;omega
  obtain⟨v,hv,c⟩:∃v,[num a,num b][j]? =some (num v)/\v=(if j=0 then a else b):=by
   match j,e with
   |0,_=>exact⟨a,rfl,rfl⟩
   |1,_=>exact⟨b,rfl,rfl⟩
  refine aj<|ai<|aw<|ab (.v (aM (j) I) I<|.v (aJ I (hv)) I<|.a 1 I<|.k [3,5,6,7,8] I)<|ab (.a 3 I<|.k [3,5,6,7,8,14] I)<|ae I (λhy=>?_) (λhy=>?_)
  ·have h1:v≠0:=tt hy;refine ab (.a 2 I<|.k [2] I)<|ao<|⟨_,_,RY I,ax.pure,Sc num ?_⟩;by_cases h0:j=0
   ·rw[QY h0]at c;rw[QZ (by omega)];exact c
   ·rw[QZ h0]at c;rw[QY (d (by omega))];exact c
  ·have h1:v=0:=Q4 (ff hy);refine aj<|aC (.v (aW I) I<|.a 1 I<|.k [3,6,7,8] I) ?_;refine⟨2 - (j+1),by omega,j+1,by omega,rfl,λ_=>?_,λh=>?_,rfl⟩
   ·by_cases h0:j=0
    ·rw[QY h0]at c;omega
    ·exact d (by omega)
   ·rw[QZ (by omega)]at c;omega
 ·have f:j=2:=by have:=ff hc;omega
  refine ba<|ab (.a 2 I<|.k [2] I)<|ao<|⟨_,_,RY I,ax.pure,Sc num ?_⟩;rw[QY (d (by omega))];exact(hb (by omega)).symm
def Ku(L:List Int)(a b:Nat):Int:=if zV (L.getD b 0) (L.getD a 0)=0 then zV a b else zV (L.getD b 0) (L.getD a 0)
theorem HK(L:List Int)(a b:Nat)(c:a<L.length)(hb:b<L.length):Can prog 201 [num a,num b,.bq [aq L] 0] (· =num (Ku L a b)):=by
 refine aF func201 I ntmps201 I<|ab (.a 1 I<|.k [0,1,2] I)<|er mixed (by kernel_rfl) (.a 2 I<|.v [6,7] (aM (b) I) I I<|.v [8] (aJ I (aB L b hb)) I I<|.a 2 I<|.v [10,11] (aM (a) I) I I<|.v [12] (aJ I (aB L a c)) I I<|.v [9,13] (dX I (DA _ _)) I I<|.a 2 I<|.v [15,16] (dX I (DA _ _)) I I<|.a 1 I<|.v [18] (dX I (NG _ _)) I I<|.a 1 I<|.k [5] I) ?_;exact ao<|QR I ax.pure rfl
def NA(n:Nat):UInt8:=if n=0 then 0 else if n=1 then 1 else if n<4 then 2 else if n<8 then 3 else 4
theorem Fm(n:Nat)(hn:n<=12):Can prog 183 [.raw (.int .u64 n)] (· =num (NA n).toNat):=by
 refine aF func183 I ntmps183 I<|ab (.a 1 I<|.k [0,2] I)<|ai<|ab (.a 1 I<|.v (Em I I I I) I<|.k [0,2,4] I)<|ae I (λhc=>?_) (λhc=>?_)
 ·exact absurd (tt hc) (by omega)
 ·refine aj<|ai<|ab (.a 1 I<|.v (Em I I I I) I<|.k [0,2,8] I)<|ae I (λhc=>?_) (λhc=>?_)
  ·exact absurd (tt hc) (by omega)
  ·refine aj<|ai<|ab (.a 1 I<|.v (Em I I I I) I<|.k [0,2,14] I)<|ae I (λhc=>?_) (λhc=>?_)
   ·exact absurd (tt hc) (by omega)
   ·exact aj<|ab (.a 2 I<|.v (Df I Tryz.underlying209 Tryz.underlying5 rfl (Mc n (by omega))) I<|.v (Mq (c:=NA n) I Tryz.underlying9 rfl rfl (by rcases(show n=0\/n=1\/n=2\/n=3\/n=4\/n=5\/n=6\/n=7\/n=8\/n=9\/n=10\/n=11\/n=12 by omega)with h|h|h|h|h|h|h|h|h|h|h|h|h<;>subst h<;>rfl)) I<|.v (Df I Tryz.underlying5 Tryz.underlying3 rfl (lA (u8_in _))) I<|.v (aW I (hn:=NX _)) I<|.a 1 I<|.k [2] I)<|ao<|QR I ax.pure (by rw[Int.zero_add];rfl)
theorem Ld(n:Nat)(hn:n<=12):Can prog 205 [.raw (.int .u64 n)] (· =num (NA n).toNat):=by
 refine aF func205 I ntmps205 I<|ab (.a 1 I<|.k [0] I)<|ai (J8 (b:=false) ?_);exact aj<|ab (.a 1 I<|.c rfl (Fm n hn) I<|.a 1 I<|.k [2] I)<|ao ⟨_,_,.cons (.tmp rfl) .nil,ax.pure,rfl⟩
def wk(L:List Int)(x y:Int):Prop:=L.getD y.toNat 0<L.getD x.toNat 0\/(L.getD y.toNat 0=L.getD x.toNat 0/\x<=y)
theorem EA{L:List Int}{x y z:Int}(h:wk L x y)(k:wk L y z):wk L x z:=by unfold wk at*;omega
theorem zU(L:List Int)(a b:Nat):Ku L a b<0↔¬wk L b a:=by
 unfold Ku zV wk;simp only[QS];split<;>split<;>(try split)<;>omega
theorem Nd(L:List Int){x y:Int}(h:¬wk L x y):wk L y x:=by unfold wk at*;omega
def J5(L ys:List Int)(i j:Nat):Prop:=∀p q,p<q->q<=i->q≠j->wk L (ys.getD p 0) (ys.getD q 0)
def J6(L ys:List Int)(i:Nat):Prop:=∀p q,p<q->q<i->wk L (ys.getD p 0) (ys.getD q 0)
theorem J6.ins{L ys:List Int}{i:Nat}(h:J6 L ys i):J5 L ys i i:=λp q h1 h2 a=>h p q h1 (by omega)
theorem J5.Oy{L ys:List Int}{i:Nat}(h:J5 L ys i 0):J6 L ys (i+1):=λp q h1 h2=>h p q h1 (by omega) (by omega)
theorem J5.done{L ys:List Int}{i j:Nat}(h:J5 L ys i j)(hb:wk L (ys.getD (j - 1) 0) (ys.getD j 0)):J6 L ys (i+1):=λp q h1 h2=>by
 by_cases a:q=j
 ·subst a;by_cases hp:p=q - 1
  ·rw[hp];exact hb
  ·exact EA (h p (q - 1) (by omega) (by omega) (by omega)) hb
 ·exact h p q h1 (by omega) a
theorem J5.swap{L ys:List Int}{i j:Nat}(h:J5 L ys i j)(h0:0<j)(hj:j<=i)(hi:i<ys.length)(hb:¬wk L (ys.getD (j - 1) 0) (ys.getD j 0)):J5 L (Heap.eK ys j (j - 1)) i (j - 1):=λp q h1 h2 c=>by
 rw[Heap.eG ys j (j - 1) p (by omega) (by omega),Heap.eG ys j (j - 1) q (by omega) (by omega),QZ c];by_cases b:q=j
 ·rw[QY b];by_cases hp:p=j - 1
  ·rw[QY hp];exact Nd L hb
  ·rw[QZ hp,QZ (by omega)];exact h p (j - 1) (by omega) (by omega) (by omega)
 ·rw[QZ b];by_cases hp:p=j - 1
  ·rw[QY hp];exact h j q (by omega) h2 b
  ·rw[QZ hp];by_cases a:p=j
   ·rw[QY a];exact h (j - 1) q (by omega) h2 b
   ·rw[QZ a];exact h p q h1 h2 b
theorem swap_perm(ys:List Int)(p q:Nat)(hp:p<ys.length)(a:q<ys.length):(Heap.eK ys p q).Perm ys:=by
 have:= @List.set_set_perm _ ys p q hp a;unfold Heap.eK;rw[QU,QU,QX hp,QX a];exact this
theorem J6.pair{L ys:List Int}(h:J6 L ys ys.length):ys.Pairwise (wk L):=by
 rw[TV];intro i j hi b a;have:=h i j a b;rw[QU,QU,QX hi,QX b]at this;exact this
def eL(ys:List Int):Option cX:=some (.row 3 1 ys.length (aU ys))
abbrev EE(L:List Int):PV:=.func 201 [.bq [aq L] 0]
theorem Fi(L xs:List Int)(c:Option cX)(hx:∀x∈xs,0<=x/\x<L.length)(hn:xs.length<=12):bM prog 207 [.own 1,num 0,num xs.length,EE L] [c,eL xs] (λ_ σ'=>∃ys,ys.Perm xs/\ys.Pairwise (wk L)/\σ'=[c,eL ys]):=by
 refine cF func207 I ntmps207 I<|ab (.a 1 I<|.v (aW I) I<|.a 1 I<|.k [0,1,2,3,8] I)<|aw<|eF [0,1,2,3,8] I<|bd (λr st=>∃(ys:List Int) (i:Nat),ys.Perm xs/\0<i/\J6 L ys i/\r=13 - i/\st=⟨[(0,.own 1),(1,num 0),(2,num xs.length),(3,EE L),(8,num i)],[c,eL ys]⟩) 12 ⟨xs,1,.refl _,by omega,λp q h1 h2=>by omega,rfl,rfl⟩ ?_;rintro r st ⟨ys,i,hp,D,hs,rfl,rfl⟩;have n:=hp.length_eq;refine ai<|ab (.a 3 I<|.k [0,1,2,3,8,14] I)<|ae I (λhc=>?_) (λhc=>?_)
 ·have E:i<xs.length:=by have:=tt hc;omega
  refine aj<|ai<|aw<|ab (.a 2 I<|.k [0,1,2,3,8,9] I)<|aw<|eF [0,1,2,3,8,9] I<|bd (λr st=>∃(ys:List Int) (j:Nat),ys.Perm xs/\j<=i/\J5 L ys i j/\r=j/\st=⟨[(0,.own 1),(1,num 0),(2,num xs.length),(3,EE L),(8,num i),(9,num j)],[c,eL ys]⟩) i ⟨ys,i,hp,by omega,hs.ins,rfl,rfl⟩ ?_;clear hp hs n;rintro r st ⟨f,j,hp,t,hs,rfl,rfl⟩;have n:=hp.length_eq;refine ai ?_;have⟨w,e⟩:=QQ (decide ((0:Int)<(r:Int)));have l:∀k,k<f.length->∃a:Nat,f.getD k 0=(a:Int)/\a<L.length:=λk hk=>by
   have h1:=hx _ (hp.mem_iff.1 (bX (d:=0) hk));exact⟨(f.getD k 0).toNat,by omega,by omega⟩
  obtain⟨a,h,o⟩:=l r (by omega);obtain⟨b,hb,s⟩:=l (r - 1) (by omega);have⟨y,g⟩:=QQ (decide (Ku L a b<0));refine iY mixed (by kernel_rfl) 34 (.raw (.bool (w&&y))) [0,1,2,3,8,9] I ?_ ?_
  ·refine .a 2 I<|.v [18,19] (bW I (e)) I I<|.a 1 I<|?_;cases w
   ·exact .a 13 I<|.k [34,0,1,2,3,8,9] I
   ·exact .a 3 I<|.v [23,24] (aM (r) I) I I<|.v [25] (aJ I ((aB f r (by omega)).trans (by rw[h]))) I I<|.a 2 I<|.v [28] (aW I) I I<|.v [27,29] (aM ((r - 1)) I (by have:=tt e;omega) (by omega)) I I<|.v [30] (aJ I ((aB f (r - 1) (by omega)).trans (by rw[hb]))) I I<|.v [22,26,31] (dX I (HK L a b o s)) I I<|.v [32] (bW I (g)) I I<|.a 1 I<|.k [34,0,1,2,3,8,9] I
  refine ae I (λhy=>?_) (λhy=>?_)
  ·obtain⟨c1,z⟩:=Q3.1 hy;rw[c1]at e;rw[z]at g;have u:0<r:=by have:=tt e;omega
   have m:=(zU L a b).1 (tt g);rw[<-h,<-hb]at m;refine aj<|ai<|aw<|dh 15 20 mixed (.val [0] I (bb I) I I<|.val [9] I (bb I) I I<|.late [0] I (jQ rfl rfl) inferInstance rfl rfl<|.late [9] I (jQ rfl rfl) inferInstance rfl rfl<|.late [40] I (OQ rfl rfl rfl rfl (by unfold In64;omega)) inferInstance rfl rfl<|.val [0] I (bb I) I I<|.val [9] I (bb I) I I<|.val [43] I (aW I) I I<|.val [42,44] I (aM ((r - 1)) I) I I<|.val [45] I (aJ I ((aB f (r - 1) (by omega)).trans (by rw[hb]))) I I<|.val [0] I (bb I) I I<|.val [9] I (bb I) I I<|.val [47,48] I (aM (r) I) I I<|.val [49] I (aJ I ((aB f r (by omega)).trans (by rw[h]))) I I<|.val [37,38] I (aM (r) I) I I<|.nil) (by kernel_rfl) I I (aR (ks:=[0,1,2,3,8,9,39,41,46,50,51]) I) ?_;refine bc (cp I (Q6 I) I I I (by first|omega|(simp;omega))) I I<|bm (aM ((r - 1)) I) I<|bc (cp I (Q6 I) I I I (by first|omega|(simp;omega))) I I<|aE [0,1,2,3,8,9] I ?_;refine aC (.a 1 I<|.v (aW I) I<|.a 1 I<|.k [0,1,2,3,8,9] I)<|⟨r - 1,by omega,Heap.eK f r (r - 1),r - 1,(swap_perm f r (r - 1) (by omega) (by omega)).trans hp,by omega,hs.swap u t (by omega) m,rfl,?_⟩;unfold eL Heap.eK;rw[h,hb,show((r - 1:Nat):Int)=(r:Int) - 1 by omega];simp only[Ry]
   rfl
  ·have v:J6 L f (i+1):=by
    by_cases h0:r=0
    ·subst h0;exact hs.Oy
    ·refine hs.done ?_;rw[h,hb];refine Q4 λhn=>?_;have:=(zU L a b).2 hn;have A:w=true:=by rw[<-e];exact Rb (by omega)
     have B:y=true:=by rw[<-g];exact Rb this
     rw[A,B]at hy;cases hy
   refine ba<|aC (.a 1 I<|.v (aW I) I<|.a 1 I<|.k [0,1,2,3,8] I) ?_;exact⟨13 - (i+1),by omega,f,i+1,hp,by omega,v,rfl,rfl⟩
 ·have C:ys.length<=i:=by have:=ff hc;omega
  exact ba<|⟨_,RY I,ys,hp,J6.pair (λp q h1 h2=>hs p q h1 (by omega)),rfl⟩
theorem LD(L xs:List Int)(c:Option cX)(k:Int)(hx:∀x∈xs,0<=x/\x<L.length)(hn:xs.length<=12):bM prog 204 [.own 1,num 0,num xs.length,num k,EE L] [c,eL xs] (λ_ σ'=>∃ys,ys.Perm xs/\ys.Pairwise (wk L)/\σ'=[c,eL ys]):=by
 refine cF func204 I ntmps204 I<|ab (.a 1 I<|.k [0,1,2,3,4,10] I)<|ab (.a 1 I<|.k [0,1,2,3,4,10,11] I)<|aw<|bd (λr st=>st=⟨[(0,.own 1),(1,num 0),(2,num xs.length),(3,num k),(4,EE L),(10,flag true),(11,flag true)],[c,eL xs]⟩) 0 I ?_;rintro r st rfl;refine aw<|ab (.a 2 I<|.v (aW I) I<|.a 1 I<|.k [0,1,2,3,4,10,11,12] I)<|ai<|ab (.a 2 I<|.k [0,1,2,3,4,10,11,12,25] I)<|ae (b:=decide ((xs.length:Int) - 0<=12)) I (λ_=>?_) (λhc=>absurd (ff hc) (by omega));refine aK<|au 4 I<|cD I I (RT (Fi L xs c hx hn) (λ_ σ' h=>?_));obtain⟨ys,h1,h2,rfl⟩:=h;refine aE [] I<|ao ⟨_,.nil,ys,h1,h2,rfl⟩
theorem Gy(L xs:List Int)(c:Option cX)(hx:∀x∈xs,0<=x/\x<L.length)(hn:xs.length<=12):bM prog 200 [.own 1,EE L] [c,eL xs] (λ_ σ'=>∃ys,ys.Perm xs/\ys.Pairwise (wk L)/\σ'=[c,eL ys]):=by
 have hw:IntKind.u64.wrap (xs.length:Int)=(xs.length:Int):=by rw[IntKind.wrap_u64];omega
 refine cF func200 I ntmps200 I<|ab (.a 3 I<|.k [0,1,4] I)<|bx<|au 3 I<|bm (Df I Tryz.underlying3 Tryz.underlying229 rfl hw) I<|ez I (Ld xs.length hn) I<|au 1 I<|cD I I (RT (LD L xs c _ hx hn) (λ_ σ' h=>?_));obtain⟨ys,h1,h2,rfl⟩:=h;refine aE [] I<|⟨_,RY I,ys,h1,h2,rfl⟩
def rC(L:List Int)(i:Nat):List Int:=((List.range i).filter λk=>decide (0<=L.getD k 0)).map Int.ofNat
theorem Fc(L:List Int)(i:Nat):rC L (i+1)=rC L i++(if 0<=L.getD i 0 then [(i:Int)] else []):=by
 unfold rC;rw[R2,Sd,Sm];congr 1;by_cases h:0<=L.getD i 0
 ·rw[QY h,S1,QY (by simpa using h)];rfl
 ·rw[QZ h,S1,QZ (by simpa using h)];rfl
theorem Al(L:List Int)(i:Nat):(rC L i).length<=i:=by
 unfold rC;rw[RN];exact Rr (RG _ _) (by simp)
theorem Am{L:List Int}{i:Nat}{x:Int}:x∈rC L i↔∃k:Nat,x=(k:Int)/\k<i/\0<=L.getD k 0:=by
 unfold rC;simp only[RB,RK,Ri,Ra];constructor
 ·rintro⟨k,⟨h1,h2⟩,rfl⟩;exact⟨k,rfl,h1,h2⟩
 ·rintro⟨k,rfl,h1,h2⟩;exact⟨k,⟨h1,h2⟩,rfl⟩
theorem Ci(L:List Int)(i:Nat):(rC L i).Nodup:=by
 unfold rC;have h1:(List.range i).Pairwise (· ≠ ·):=UP;refine List.Pairwise.map Int.ofNat (λa b h e=>h (by cases e;rfl)) (h1.filter _)
theorem C8(L cs:List Int)(hn:L.length<=12):bM prog 197 [aq L] [eL cs] (λr σ'=>∃ys,ys.Perm (rC L L.length)/\ys.Pairwise (wk L)/\r= .own 1/\σ'=[eL cs,eL ys]):=by
 refine cF func197 I ntmps197 I<|ab (.a 2 I<|.k [1] I)<|ab (.a 1 I<|.k [1,3] I)<|eU 3 3 1 I ?_;refine ai<|ab (.a 3 I<|.k [1,3,6,7,8] I)<|aw<|eF [1,3,6,7,8] I<|bd (λr st=>∃i,i<=L.length/\r=L.length - i/\st=⟨[(1,.bq [aq L] 0),(3,.own 1),(6,aq L),(7,num L.length),(8,num i)],[eL cs,eL (rC L i)]⟩) L.length ⟨0,by omega,by omega,rfl⟩ ?_;rintro r st ⟨i,hi,rfl,rfl⟩;have d:=Al L i;refine ab (.a 1 I<|.k [1,3,6,7,8,9] I)<|ai<|ae I (λhc=>?_) (λhc=>?_)
 ·have c:i<L.length:=by have:=tt hc;omega
  have a:=Fc L i;refine aj<|ai<|aw<|ab (.a 1 I<|.v (aM (i) I) I<|.v (aJ I (aB L i c)) I<|.a 2 I<|.k [1,3,4,5,6,7,8] I)<|ab (.a 2 I<|.k [1,3,4,6,7,8,14] I)<|ae I (λhy=>?_) (λhy=>?_)
  ·have h0:0<=L.getD i 0:=tt hy;rw[QY h0]at a;refine bx<|au 3 I<|cb (bF I (Ru I) I I I I (by unfold maxLen;omega)) I<|au 1 I ?_;refine dL [0,2] (.c 1<|.c 3<|.c 6<|.c 7<|.c 8<|.nil) (.kept rfl (.row RZ)<|.kept rfl (.eY rfl (cW _ _))<|.nil) I I (bg ?_);refine aC (.v (aW I) I<|.a 1 I<|.k [1,3,6,7,8] I)<|⟨L.length - (i+1),by omega,i+1,by omega,rfl,?_⟩;rw[a];first
    |rfl
    |(simp only[eL,Q0,Rk];rfl)
  ·have h0:¬0<=L.getD i 0:=ff hy;rw[QZ h0,R9]at a;refine aj<|aC (.v (aW I) I<|.a 1 I<|.k [1,3,6,7,8] I) ?_;refine⟨L.length - (i+1),by omega,i+1,by omega,rfl,?_⟩;rw[a];first
    |rfl
    |(simp only[eL,Q0,Rk];rfl)
 ·have b:i=L.length:=by have:=ff hc;omega
  subst b;refine ba<|aK<|au 2 I<|cD I I (RT (Gy L (rC L L.length) (eL cs) (λx hx=>by obtain⟨k,rfl,h1,_⟩:=Am.1 hx;omega) (by omega)) (λ_ σ' h=>?_));obtain⟨ys,h1,h2,rfl⟩:=h;refine aE [3] I<|ab (.a 2 I<|.k [2] I)<|ao<|⟨_,RY I,ys,h1,h2,rfl,rfl⟩
theorem AY(xs:List Int)(c:Option cX)(hn:xs.length<=12):bM prog 198 [.own 1] [c,eL xs] (λ_ σ'=>σ'=[c,eL xs.reverse]):=by
 refine cF func198 I ntmps198 I<|ab (.a 2 I<|.v (aW I) I<|.a 2 I<|.k [0,2,3] I)<|aw<|eF [0,2,3] I<|bd (λr st=>∃(ys:List Int) (i:Nat),ys.length=xs.length/\2*i<=xs.length+1/\(∀k,k<xs.length->ys.getD k 0=if k<i\/xs.length - i<=k then xs.getD (xs.length - 1 - k) 0 else xs.getD k 0)/\r=xs.length+1 - i/\st=⟨[(0,.own 1),(2,num i),(3,num ((xs.length:Int) - 1 - i))],[c,eL ys]⟩) (xs.length+1) ⟨xs,0,rfl,by omega,λk hk=>by rw[QZ (by omega)],by omega,by simp⟩ ?_;rintro r st ⟨ys,i,hl,hi,hk,rfl,rfl⟩;refine ai<|ab (.a 3 I<|.k [0,2,3,9] I)<|ae I (λhc=>?_) (λhc=>?_)
 ·have m:2*i+1<xs.length:=by have:=tt hc;omega
  have⟨a,j⟩:=QQ (ys.getD i 0);have⟨b,hb⟩:=QQ (ys.getD (xs.length - 1 - i) 0);refine aj<|ai<|aw<|dh 13 20 mixed (.val [0] I (bb I) I I<|.val [2] I (bb I) I I<|.late [0] I (jQ rfl rfl) inferInstance rfl rfl<|.late [3] I (jQ rfl rfl) inferInstance rfl rfl<|.val [0] I (bb I) I I<|.val [3] I (bb I) I I<|.val [18,19] I (aM ((xs.length - 1 - i)) I) I I<|.val [20] I (aJ I ((aB ys (xs.length - 1 - i) (by omega)).trans (by rw[hb]))) I I<|.val [0] I (bb I) I I<|.val [2] I (bb I) I I<|.val [22,23] I (aM (i) I) I I<|.val [24] I (aJ I ((aB ys i (by omega)).trans (by rw[j]))) I I<|.val [14,15] I (aM (i) I) I I<|.nil) (by kernel_rfl) I I (aR (ks:=[0,2,3,16,17,21,25,26]) I) ?_;refine bc (cp I (Q6 I) I I I (by first|omega|(simp;omega))) I I<|bm (aM ((xs.length - 1 - i)) I) I<|bc (cp I (Q6 I) I I I (by first|omega|(simp;omega))) I I<|aE [0,2,3] I ?_;refine aC (.a 1 I<|.v (aW I) I<|.a 1 I<|.v (aW I) I<|.a 2 I<|.k [0,2,3] I)<|⟨xs.length+1 - (i+1),by omega,Heap.eK ys i (xs.length - 1 - i),i+1,by rw[Heap.ir];exact hl,by omega,λk e=>?_,rfl,?_⟩
  ·rw[Heap.eG ys i (xs.length - 1 - i) k (by omega) (by omega)];by_cases h1:k=xs.length - 1 - i
   ·rw[QY h1,QY (by omega),hk i (by omega),QZ (by omega),h1,show xs.length - 1 - (xs.length - 1 - i)=i by omega]
   ·rw[QZ h1];by_cases h2:k=i
    ·rw[QY h2,QY (by omega),hk _ (by omega),QZ (by omega),h2]
    ·rw[QZ h2,hk k e];by_cases d:k<i\/xs.length - i<=k
     ·rw[QY d,QY (by omega)]
     ·rw[QZ d,QZ (by omega)]
  ·unfold eL Heap.eK;rw[j,hb,show(xs.length:Int) - 1 - ((i+1:Nat):Int)=(xs.length:Int) - 1 - i - 1 by omega];simp only[Ry]
   rfl
 ·have l:¬2*i+1<xs.length:=by have:=ff hc;omega
  refine ba<|⟨_,RY I,?_⟩;have:ys=xs.reverse:=by
   refine Sl (by simp[hl]) λk h1 h2=>?_;have d:=hk k (by omega);rw[List.getElem_reverse];have f:ys.getD k 0=ys[k]:=by simp[h1]
   have g:xs.getD (xs.length - 1 - k) 0=xs[xs.length - 1 - k]:=by rw[QU,QX (by omega)];rfl
   by_cases h:k<i\/xs.length - i<=k
   ·rw[QY h,f,g]at d;exact d
   ·rw[QZ h,f]at d;rw[d,<-g,show xs.length - 1 - k=k by omega]
  rw[this]
end
end PW
end Go.Proofs.YtoopjinigmhpcaaGreatDoor
