/- Part 5. -/
import Derived.RangeFuncFrom
import Derived.Laws.CopyRow
import Derived.Laws.IdiomCopy
import Derived.WideShapes
import Derived.Test.YtfcadpknnbgibaaGreatDoorCardWVB4
set_option maxRecDepth 100000
set_option maxHeartbeats 4000000
namespace Go.Proofs.YtfcadpknnbgibaaGreatDoor
open Go.Proofs.Tryz
namespace PW
section
open Go.RowKit Go.Shelf cm Mem Net iF
attribute [local go_sem] Oper.semAt_some
def eR(k x:Int):List PV:=[num k,num x]
def fh(k x:Int):PV:=.agg (eR k x)
instance (k x:Int):aM (eR k x):=by unfold eR;infer_instance
instance (k x:Int):IsPure (fh k x):=by unfold fh;infer_instance
def fG(T:aw)(k x:Int):Bool:=if k=1 then decide (0<=x)&&decide (x<(T.ah.length:Int)) else if k=2 then bZ T x else if k=3 then decide (1<=x)&&decide (x<=64) else false
theorem tn(T:aw)(k x:Int):Can prog 170 [bu T,fh k x] (· =flag (fG T k x)):=by
 have⟨f,h1⟩:=dw (decide (0<=x));have⟨j,h2⟩:=dw (decide (x<(T.ah.length:Int)));have⟨g,h⟩:=dw (decide (1<=x));have⟨l,i⟩:=dw (decide (x<=64));have m:fG T k x=if k=1 then(f&&j) else if k=2 then bZ T x else if k=3 then(g&&l) else false:=by unfold fG;rw[h1,h2,h,i]
 rw[m];refine aR func170 I ntmps170 I<|aj (.a 3 I<|.k [2,3] I)<|an<|aj (.a 2 I<|.k [2,3,6] I)<|ay<|aj (.a 2 I<|.k [2,3,6,7] I)<|ak I (λa=>?_) (λa=>?_)
 ·have k1:k=1:=tt a;refine cD 4 (.raw (.bool (f&&j))) [] I ?_ ?_
  ·refine .a 2 I<|.v (cT I (h1)) I<|.a 1 I<|?_;cases f
   ·exact .a 8 I<|.k [4] I
   ·exact .a 5 I<|.v (cT I (h2)) I<|.a 2 I<|.k [4] I
  exact aA<|jF I aQ.pure (by rw[Vn k1];rfl)
 ·have k1:¬k=1:=ff a;refine aj (.a 2 I<|.k [2,3,6,20] I)<|ak I (λb=>?_) (λb=>?_)
  ·have d:k=2:=tt b;exact aj (.a 3 I<|.c rfl (jw T x) I<|.a 1 I<|.k [4] I)<|aA<|jF I aQ.pure (by rw[Vk k1,Vn d];rfl)
  ·have d:¬k=2:=ff b;refine aj (.a 2 I<|.k [3,26] I)<|ak I (λc=>?_) (λc=>?_)
   ·have e:k=3:=tt c;refine cD 4 (.raw (.bool (g&&l))) [] I ?_ ?_
    ·refine .a 2 I<|.v (cT I (h)) I<|.a 1 I<|?_;cases g
     ·exact .a 5 I<|.k [4] I
     ·exact .a 2 I<|.v (cT I (i)) I<|.a 2 I<|.k [4] I
    exact aA<|jF I aQ.pure (by rw[Vk k1,Vk d,Vn e];rfl)
   ·have e:¬k=3:=ff c;exact ao<|aj (.a 1 I<|.k [4] I)<|aA<|jF I aQ.pure (by rw[Vk k1,Vk d,Vk e];rfl)
theorem KL(c0 c1 a:Value)(k x:Int)(n:Nat)(w:World):CallsIn Fence.wide n prog 171 #[.agg #[c0,c1,a],.agg #[.int .i64 k,.int .i64 x]] w λe w'=>
  e= .returned (.func (.func 217) #[] #[.pointer (some ⟨w.heap.size,0,none⟩),.pointer (some ⟨w.heap.size+1,0,none⟩)])/\w'=(w.alloc (.cells #[c0,c1,a] 25)).alloc (.cells #[.int .i64 k,.int .i64 x] 112):=by
 refine callsIn_of_wp func171 I trivial ?_ rfl;simp only[ntmps171,Xl,VI,YQ,Nat.reduceAdd,Nat.reduceSub,X5,X6,Yy,Yj,WJ,Wt]
 gi_wp2
 go_ret
 exact⟨rfl,rfl⟩
def PN(W:World)(b off:Nat)(L:List mh):Prop:=∀i,i<L.length->W.cell? ⟨b,off+i*7,none⟩=some (.int .i64 (bV L i).a)/\W.cell? ⟨b,off+i*7+1,none⟩=some (.int .i64 (bV L i).b)/\W.cell? ⟨b,off+i*7+2,none⟩=some (.int .i64 (bV L i).c0)/\W.cell? ⟨b,off+i*7+3,none⟩=some (.int .i64 (bV L i).c1)/\W.cell? ⟨b,off+i*7+4,none⟩=some (.int .i64 (bV L i).cap)/\W.cell? ⟨b,off+i*7+5,none⟩=some (.int .i64 (bV L i).fH)/\W.cell? ⟨b,off+i*7+6,none⟩=some (.int .i64 (bV L i).wC)
theorem Hy(n l Bt Bc cap:Nat)(ad:Option Addr)(J:List (iF.Ix 0)->World->Prop)(W:World)(hBt:W.cell? ⟨Bt,2,none⟩=some (.slice ad 0 cap))(h0:J [] W):
  CallsIn Fence.wide n prog 217 #[.func (.yield l) #[] #[],.pointer (some ⟨Bt,0,none⟩),.pointer (some ⟨Bc,0,none⟩)] W λe W'=>(∃v,e= .returned v)/\J [] W':=by
 refine callsIn_of_wp func217 I trivial ?_ rfl
 simp only[ntmps217,Xl,VI,YQ,Nat.reduceAdd,Nat.reduceSub,X5,X6,Yy,Yj,WJ,Wt]
 gi_wp2
 gi_loopw [10] (λi wr=>i= .int .i64 0/\J [] wr) (λ_ _=>0)
 case atStart=>exact⟨rfl,h0⟩
 case round=>
  obtain⟨rfl,hJs⟩:=hrel
  gi_wp2
  go_end0
  exact⟨⟨_,rfl⟩,hJs⟩
def RV(n₁ G:Nat)(W:World)(v:Value)(L:List mh):Prop:=(∃a cap,v= .slice a 0 cap/\L=[])\/∃b off cap,v= .slice (some ⟨b,off,none⟩) L.length cap/\b<n₁/\b≠G/\PN W b off L
theorem BL(T:aw)(k x:Int)(hk:k=1\/k=2\/k=3)(hl:T.ah.length<=1000)(n g d G:Nat)(hn:1<=n)(v:Value)(w:World)(q:g<w.heap.size)(a:d<w.heap.size)(f:d≠G)
  (t:w.cell? ⟨g,2,none⟩=some v) (s:w.cell? ⟨d,0,none⟩=some (.int .i64 k)) (u:w.cell? ⟨d,1,none⟩=some (.int .i64 x)) (hv:RV w.heap.size G w v T.ah):SeqStopsK Fence.wide n prog 217 #[.pointer (some ⟨g,0,none⟩),.pointer (some ⟨d,0,none⟩)] (λi:iF.Ix T.ah.length=> #[Value.int .i64 (i.1:Int)]) (Kp G w.heap.size) (λys=>ys=mg (ej k x T.ah) T.ah.length T.ah.length) (λ_=>True) T.ah.length w:=λl J o W c r _ y h0=>by
 have kt:=(c.cell (p:=⟨g,2,none⟩) q).trans t;have kk:=(c.cell (p:=⟨d,0,none⟩) a).trans s;have z:=(c.cell (p:=⟨d,1,none⟩) a).trans u;rcases hv with⟨C,cap,rfl,D⟩|⟨b,off,cap,rfl,hb,j,hc⟩
 ·generalize T.ah=L at*;subst D;exact(Hy n l g d cap C J W kt h0).mono λe W' h=>⟨h.1,.inl ⟨_,rfl,h.2⟩⟩
 ·have m:PN W b off T.ah:=λi hi=>by
   obtain⟨a0,A,a2,a3,a4,a5,B⟩:=hc i hi;exact⟨(c.cell (p:=⟨b,_,none⟩) hb).trans a0,(c.cell (p:=⟨b,_,none⟩) hb).trans A,(c.cell (p:=⟨b,_,none⟩) hb).trans a2,(c.cell (p:=⟨b,_,none⟩) hb).trans a3,(c.cell (p:=⟨b,_,none⟩) hb).trans a4,(c.cell (p:=⟨b,_,none⟩) hb).trans a5,(c.cell (p:=⟨b,_,none⟩) hb).trans B⟩
  have fin:∀ {e:Ending} {W':World},(∃v,e= .returned v)/\((∃ys,ys=mg (ej k x T.ah) T.ah.length T.ah.length/\J ys W')\/(∃pre,o pre W'))->(∃v,e= .returned v)/\((∃xs,xs=mg (ej k x T.ah) T.ah.length T.ah.length/\J xs W')\/(∃pre,True/\o pre W')):=λh=>⟨h.1,h.2.imp id λ⟨pre,h⟩=>⟨pre,trivial,h⟩⟩;rcases hk with rfl|rfl|rfl
  ·exact(Hz Fence.wide n trivial rfl hn l g d G w.heap.size b off cap T.ah x hl hb j a f J o y W kt kk z m c.size r h0).mono λe W' h=>fin h
  ·exact(HA Fence.wide n trivial rfl hn l g d G w.heap.size b off cap T.ah x hl hb j a f J o y W kt kk z m c.size r h0).mono λe W' h=>fin h
  ·exact(HB Fence.wide n trivial rfl hn l g d G w.heap.size b off cap T.ah x hl hb j a f J o y W kt kk z m c.size r h0).mono λe W' h=>fin h
theorem xY{E w}:∀ {cs} {M:List Bool},bn E w cs (aT M)->cs=M.map Value.bool
 | [],[],_=>rfl
 | [],b::M,h=>by have:=h.1;simp[aT]at this
 |c::cs,[],h=>by have:=h.1;simp[aT]at this
 |c::cs,b::M,h=>by
  have h0:=dt (h.2 0 c (flag b) I I);have h1:bn E w cs (aT M):=⟨by have:=h.1;simpa[aT]using this,λi x u k1 a=>h.2 (i+1) x u (by simpa using k1) (by simpa[aT]using a)⟩;rw[xY h1,h0]
  rfl
theorem sB{E w}:∀(M:List Bool),bn E w (M.map Value.bool) (aT M)
 | []=>Yn _ _
 |b::M=>XP (.raw _) (sB M)
def I4{N:Nat}(n:Nat)(l:List (iF.Ix N)):List Bool:=l.foldl (λM i=>(M.set (2*i.1) true).set (2*i.1+1) true) (List.replicate n false)
theorem BY{N n:Nat}(l:List (iF.Ix N))(i:iF.Ix N):I4 n (l++[i])=((I4 n l).set (2*i.1) true).set (2*i.1+1) true:=by unfold I4;rw[Zm];rfl
theorem zE{N n:Nat}(l:List (iF.Ix N)):(I4 n l).length=n:=by
 unfold I4
 suffices h:∀M:List Bool,(l.foldl (λM (i:iF.Ix N)=>(M.set (2*i.1) true).set (2*i.1+1) true) M).length=M.length by rw[h];simp
 induction l with
 |nil=>intro M;rfl
 |cons a l ih=>intro M;rw[Xn,ih];simp
def dq(T:aw)(k x:Int):List Bool:=(List.range (2*T.ah.length)).map λa=>ej k x T.ah (a / 2)
theorem Bw(p:Nat->Bool)(N:Nat):∀k,k<=N->∀a,a<2*N->(I4 (2*N) (mg p N k))[a]? =some (decide (a / 2<k)&&p (a / 2))
 |0,_,a,ha=>by
  show(List.replicate (2*N) false)[a]? =_;rw[Wx,Vn ha];simp
 |k+1,hk,a,ha=>by
  have ih:=Bw p N k (by omega) a ha;have hl:=zE (n:=2*N) (mg p N k);cases hp:p k with
  |false=>
   rw[zv hp,ih];by_cases e:a / 2=k
   ·rw[e,hp];simp
   ·rw[show decide (a / 2<k+1)=decide (a / 2<k) from decide_eq_decide.2 (by omega)]
  |true=>
   rw[rz hp (by omega),BY];simp only;rw[VV];by_cases b:2*k+1=a
   ·rw[Vn b,Vn (by simp;omega),show a / 2=k by omega,hp];simp
   ·rw[Vk b,VV];by_cases c:2*k=a
    ·rw[Vn c,Vn (by omega),show a / 2=k by omega,hp];simp
    ·rw[Vk c,ih,show decide (a / 2<k+1)=decide (a / 2<k) from decide_eq_decide.2 (by omega)]
theorem Oj(T:aw)(k x:Int):I4 (2*T.ah.length) (mg (ej k x T.ah) T.ah.length T.ah.length)=dq T k x:=by
 apply Wz;intro a;by_cases ha:a<2*T.ah.length
 ·rw[Bw _ _ _ (Vh _) a ha];unfold dq;rw[Vt,YH ha];have:a / 2<T.ah.length:=by omega
  simp[this]
 ·rw[V4 (by rw[zE];omega),V4 (by unfold dq;simp;omega)]
structure oJ (base n B:Nat) (v:Value) (Mm:Nat->Prop) (M:List Bool) (W:World):Prop where
 bl:base<=W.heap.size
 row:W.ownsRow base 4 1 v n (M.map Value.bool)
 box:W.heap[B]? =some (.cells #[v] 22 (0,0))
 gl:ou Mm W
theorem CC{W W':World}{base e n:Nat}{v xs}(h:W.ownsRow base e 1 v n xs)(hs:∀(g:Nat) (o:Array Value),W.heap[g]? =some (Obj.cells o e (0,0))->W'.heap[g]? =W.heap[g]?):W'.ownsRow base e 1 v n xs:=by
 refine⟨h.1,h.2.imp id ?_⟩;rintro⟨g,cap,cur,h1,h2,a,b⟩;exact⟨g,cap,cur,h1,h2,(hs g cur a).trans a,b⟩
theorem oJ.same{base n B:Nat}{v}{Mm:Nat->Prop}{M}{W W':World}(h:oJ base n B v Mm M W)(a:W.heap.size<=W'.heap.size)(hs:∀(b:Nat) (cs:Array Value) (t:TypeId) (fz:Nat×Nat),W.heap[b]? =some (Obj.cells cs t fz)->W'.heap[b]? =W.heap[b]?):oJ base n B v Mm M W':=
 ⟨VL h.bl a,CC h.row (λg o hg=>hs g o _ _ hg),(hs B _ _ _ h.box).trans h.box,λg cs hg=>by
  obtain⟨h1,t,fz,h2⟩:=h.gl g cs hg;exact⟨h1,t,fz,(hs g _ _ _ h2).trans h2⟩⟩
theorem oJ.grown{base n B:Nat}{v}{Mm:Nat->Prop}{M}{W W':World}{row:Option Nat}(h:oJ base n B v Mm M W)(hg:W.grownBy W' row)(hr:∀r,row=some r->∃o:Obj,W.heap[r]? =some o/\o.isCells=false):oJ base n B v Mm M W':=
 h.same hg.size λb cs t fz hb=>hg.block b (Vs.1 hb).1 λe=>by
  obtain⟨o,h1,h2⟩:=hr b e.symm;rw[hb]at h1;cases h1;cases h2
theorem oJ.sat{base n B:Nat}{E:Env}{M W p bi o}(k:Sat (λ_=>False) base [some bi,o] E p)(l:o=some (.cells 22 [.own 0]))(y:∃e s m ys,bi= .row e s m ys)(w:E.at_ 1= .pointer (some ⟨B,0,none⟩))(g:base<=B)(d:(E.at_ 0).oneCell'=true)(h:oJ base n B (E.at_ 0) E.M M W):Sat (λ_=>False) base [some (.row 4 1 n (aT M)),some (.cells 22 [.own 0])] E W:=by
 subst l;have x:E.L=2:=k.len;have uk:∀(i:Nat) blk,[some (cj.row 4 1 n (aT M)),some (.cells 22 [.own 0])][i]? =some (some blk)->∃a,[some bi,some (cj.cells 22 [.own 0])][i]? =some (some a):=λi blk h=>by
  match i,h with
  |0,_=>exact⟨_,rfl⟩
  |1,_=>exact⟨_,rfl⟩
  |_+2,h=>simp at h
 have new:∀(i:Nat) blk,[some bi,some (cj.cells 22 [.own 0])][i]? =some (some blk)->∃a,[some (cj.row 4 1 n (aT M)),some (.cells 22 [.own 0])][i]? =some (some a):=λi blk h=>by
  match i,h with
  |0,_=>exact⟨_,rfl⟩
  |1,_=>exact⟨_,rfl⟩
  |_+2,h=>simp at h
 refine⟨h.bl,λb hb=>hb.elim,x,λb=>?_,λi blk hi=>?_,λi j f bj b h1 h2 c v=>?_,h.gl⟩
 ·rw[k.mm b];constructor
  ·rintro(h|⟨i,blk,h1,h2⟩)
   ·exact .inl h
   ·obtain⟨a,c⟩:=new i blk h1;exact .inr ⟨i,a,c,h2⟩
  ·rintro(h|⟨i,blk,h1,h2⟩)
   ·exact .inl h
   ·obtain⟨a,c⟩:=uk i blk h1;exact .inr ⟨i,a,c,h2⟩
 ·match i,hi with
  |0,hi=>cases hi;exact⟨_,h.row,sB M⟩
  |1,hi=>cases hi;exact⟨B,_,w,g,h.box,XP (.own 0 (by omega) _ rfl d) (Yn _ _)⟩
  |_+2,hi=>simp at hi
 ·obtain⟨q,t⟩:=uk i f h1;obtain⟨r,u⟩:=uk j bj h2;exact k.inj i j q r b t u c v
theorem oJ.of{base n B:Nat}{E:Env}{M W}(c:Sat (λ_=>False) base [some (.row 4 1 n (aT M)),some (.cells 22 [.own 0])] E W)(g:E.at_ 1= .pointer (some ⟨B,0,none⟩)):oJ base n B (E.at_ 0) E.M M W/\(E.at_ 0).oneCell'=true:=by
 obtain⟨cs,h1,h2⟩:=c.blk 0 _ rfl;rw[xY h2]at h1;obtain⟨b,d,k1,i,h,a⟩:=c.blk 1 _ rfl;have e:b=B:=by rw[g]at k1;cases k1;rfl
 subst e;obtain⟨f⟩:=d
 match f,a with
 | [],a=>have:=a.1;simp at this
 |_::_::_,a=>have:=a.1;simp at this
 | [u],a=>
  have hu:=a.2 0 u _ rfl rfl;cases hu with
  |own _ _ _ hu ho=>
   subst hu;exact⟨⟨c.bl,h1,h,c.gl⟩,ho⟩
theorem Ox(w:World)(a b:Value)(t:TypeId):(w.alloc (.cells #[a,b] t)).cell? ⟨w.heap.size,0,none⟩=some a/\(w.alloc (.cells #[a,b] t)).cell? ⟨w.heap.size,1,none⟩=some b:=by
 unfold World.cell?;simp only[World.alloc_heap_new];exact⟨rfl,rfl⟩
theorem Tw(w:World)(a b c:Value)(t:TypeId):(w.alloc (.cells #[a,b,c] t)).cell? ⟨w.heap.size,2,none⟩=some c:=by
 unfold World.cell?;simp only[World.alloc_heap_new]
 rfl
attribute [local go_sem] Oper.semAt_some
def Su(K:St->Prop):Exit->St->Prop
 | .normal,s=>K s
 |_,_=>False
theorem piece{P}{N L n:Nat}{c:Code}{st}{K:St->Prop}{F:Nat->Prop}{base:Nat}{E₀ E w₀ w a}{Q:Exit->Act->World->Prop}(hc:uw F base L E₀ w₀ E w)(hs:dT F base N st E a w)(h:W P N L c st (Su K))(d:∀s E' b w',K s->dT F base N s E' b w'->c8 E₀ w₀ E' w'->iE F base w₀ w'->Q .normal b w'):c.wpIn Fence.wide n P Q a w:=
 wpIn_wide.2 (wp_mono (h F base E₀ w₀ E a w hc hs) λe b w' ⟨s,E',k1,f,g,i⟩=>by
  cases e<;>first|exact d s E' b w' k1 f g i|exact k1.elim)
def zx:Op->Bool
 | .defer _=>true
 |_=>false
theorem Lb{ops:Array Oper}(h:(ops.all λo=> !zx o.op)=true)(i:Nat)(o:Oper)(ho:ops[i]? =some o)(c:Call):o.op≠ .defer c:=λe=>by
 have:=Ze.1 h o (Yp ho);rw[e]at this;cases this
theorem Oc{E:Env}{w w':World}{v}{L:List mh}{n₁ G:Nat}(h:dj E w v (.slice L.length (bR L)))(k:Ext w w')(s:G=n₁\/E.M G)(hlt:∀b,E.M b->b<w.heap.size)(hn:w'.heap.size=n₁:=by rfl):RV n₁ G w' v L:=by
 generalize f:L.length=m at h;generalize g:bR L=xs at h;cases h with
 |cg=>exact .inl ⟨none,0,rfl,Vy f⟩
 |empty a c _=>exact .inl ⟨some a,c,rfl,Vy f⟩
 |slice b off _ c cs _ h0 h1 h2 hb hM hc hl hr=>
  subst f;subst g;have t:=k.size;refine .inr ⟨b,off,c,rfl,by omega,λe=>?_,λi hi=>?_⟩
  ·subst e;rcases s with h|h
   ·omega
   ·exact hM h
  ·have key:∀j v,(jt (bV L i))[j]? =some (.raw v)->j<7->w'.cell? ⟨b,off+(i*7+j),none⟩=some v:=λj v hj r=>by
    have e:=eM L i j hi r;rw[hj]at e;have hlt:i*7+j<cs.length:=by rw[hl];exact(Vf.1 e).1
    have d:cs[i*7+j]? =some cs[i*7+j]:=Vm hlt;have:=dt (hr _ _ _ d e);rw[this]at d;exact k.cell (hc _ _ d)
   have k0:=key 0 _ rfl (by omega);have k1:=key 1 _ rfl (by omega);have l:=key 2 _ rfl (by omega);have n:=key 3 _ rfl (by omega);have o:=key 4 _ rfl (by omega);have p:=key 5 _ rfl (by omega);have q:=key 6 _ rfl (by omega);simp only[<-Xk,Yf]at k0 k1 l n o p q;exact⟨k0,k1,l,n,o,p,q⟩
theorem KO{P F}{n:Nat}{c:Code}{Q:Exit->Act->World->Prop}{a w}(Fin:Act->World->Prop)(h1:c.wpIn F n P (Exit.then Fin Q) a w)(h2:∀d w',Fin d w'->c.wpIn F n P (Exit.then (λ_ _=>False) Q) d w'):(Code.loop c).wpIn F n P Q a w:=by
 have mono:∀ {K g:Act->World->Prop} {a:Act} {w:World},(∀a w,K a w->g a w)->c.wpIn F n P (Exit.then K Q) a w->c.wpIn F n P (Exit.then g Q) a w:=λhk h b k cs f hb hr=>by
  obtain⟨e,d,w',q,r⟩:=h b k cs f hb hr;exact⟨e,d,w',by cases e<;>first|exact hk _ _ q|exact q,r⟩
 classical
 by_cases i:Fin a w
 ·exact wpIn_loop Fin (λ_ _=>0) i (λa w h=>mono (λ_ _ h=>h.elim) (h2 a w h))
 ·refine wpIn_loop (λd w'=>(d=a/\w'=w)\/Fin d w') (λd w'=>if Fin d w' then 0 else 1) (.inl ⟨rfl,rfl⟩) ?_;rintro d w' (⟨rfl,rfl⟩|h)
  ·exact mono (λj l h=>⟨.inr h,by rw[Vn h,Vk i];exact Nat.one_pos⟩) h1
  ·exact mono (λ_ _ h=>h.elim) (h2 d w' h)
theorem cp{α:Type}{l:List α}{n:Nat}(h:l.length=n+1):∃a t,l=a::t/\t.length=n:=by
 cases l with
 |nil=>simp at h
 |cons a t=>exact⟨a,t,rfl,by simpa using h⟩
theorem IP(T:aw)(k x:Int)(hv:aH T=true)(hc:fG T k x=true)(w:World)(vs:Array Value)(hR:bn (EF λ_=>False) w vs.toList [bu T,.slice 1 (eR k x)])(gl:ou (λ_=>False) w):
  Calls prog 126 vs w λe w'=>∃v,e= .returned (.tuple #[v,.int .i64 0])/\Ext w w'/\w'.ownsRow w.heap.size 4 1 v (2*T.ah.length) ((dq T k x).map Value.bool):=by
 have dZ:=dy hv;have hS:=Zl (λ_=>False) w (λ_ h=>h.elim) gl;refine(callsIn_wide (n:=4)).1 ?_;refine callsIn_of_wp_marks func126 I trivial ?_ rfl;have dD:=mz (N:=41) hS hR (by have:=hR.1;simp at this;omega);have dv:uw (λ_=>False) w.heap.size 0 (EF λ_=>False) w (EF λ_=>False) w:=⟨rfl,YN _ _,Yh _ _ _⟩;refine wpIn_seq (piece (K:=λs=>s=⟨[(1,.slice 1 (eR k x)),(2,.cH (bJ T) 0)],[]⟩) dv dD ?_ ?_)
 ·skip
  refine aL (.a 3 I<|.k [1,2] I)<|rfl
 rintro _ E1 a1 w1 rfl dE g1 b1;refine wpIn_seq (piece (K:=λs=>s=⟨[(1,.slice 1 (eR k x)),(2,.cH (bJ T) 0)],[]⟩) ⟨rfl,g1,b1⟩ dE ?_ ?_)
 ·skip
  refine aj (.a 1 I<|.c rfl (gw T) I<|.a 1 I<|.k [1,2,12] I) ?_;rw[hv];refine ak I (λhc=>?_) (λhc=>?_)
  ·cases hc
  ·refine eX [1,2] I (ao ?_);exact rfl
 rintro _ E2 a2 w2 rfl dF g2 b2;refine wpIn_seq (piece (K:=λs=>s=⟨[(1,.slice 1 (eR k x)),(2,.cH (bJ T) 0),(6,.ptr 1 0)],[some (.row 4 1 (2*T.ah.length) (aT (List.replicate (2*T.ah.length) false))),some (.cells 22 [.own 0])]⟩) ⟨rfl,g2,b2⟩ dF ?_ ?_)
 ·skip
  refine bp<|av 1 I<|fW I (jl T (by omega)) I<|bW (eJ I (VW I) I I (show 2*(T.ah.length:Int)=((2*T.ah.length:Nat):Int) by omega) (show 2*(T.ah.length:Int)=((2*T.ah.length:Nat):Int) by omega) ⟨by unfold maxLen;omega,by omega⟩) I<|av 2 I<|aF [1,2,6] I ?_;rw[<-jd]
  rfl
 rintro _ f a3 F rfl a g3 b3;have⟨n,hn⟩:=dw (2*T.ah.length);rw[hn]at a;obtain⟨B,dQ,hB,di,dR,dS⟩:=a.sat.blk 1 _ rfl;obtain⟨dP,dO,dN⟩:=a.sat.blk 0 _ rfl;have t1:=a.tmp 1 _ rfl;have t2:=a.tmp 2 _ rfl;have t6:=a.tmp 6 _ rfl;have P:=a.size;have bb:=a.lO;obtain⟨cE,ds⟩:=a3;simp only at bb P;subst bb;obtain⟨al⟩:=cE;replace P:al.length=41:=by simpa using P
 obtain⟨x0,z0,e0,k0⟩:=cp (n:=40) P;obtain⟨x1,z1,e1,k1⟩:=cp (n:=39) k0;obtain⟨x2,z2,e2,k2⟩:=cp (n:=38) k1;obtain⟨x3,z3,e3,k3⟩:=cp (n:=37) k2;obtain⟨x4,z4,e4,k4⟩:=cp (n:=36) k3;obtain⟨x5,z5,e5,k5⟩:=cp (n:=35) k4;obtain⟨x6,z6,e6,k6⟩:=cp (n:=34) k5;obtain⟨x7,z7,e7,k7⟩:=cp (n:=33) k6;obtain⟨x8,z8,e8,k8⟩:=cp (n:=32) k7;obtain⟨x9,z9,e9,k9⟩:=cp (n:=31) k8;obtain⟨V,ef,cF,bm⟩:=cp (n:=30) k9;obtain⟨X,eg,cG,bq⟩:=cp (n:=29) bm;obtain⟨Y,z12,cJ,br⟩:=cp (n:=28) bq;obtain⟨Z,eh,cK,bs⟩:=cp (n:=27) br;obtain⟨aa,ei,cL,bw⟩:=cp (n:=26) bs;obtain⟨ab,ek,cM,bx⟩:=cp (n:=25) bw;obtain⟨aJ,en,cN,bz⟩:=cp (n:=24) bx;obtain⟨aK,eo,cO,bA⟩:=cp (n:=23) bz;obtain⟨aM,ep,cP,bB⟩:=cp (n:=22) bA;obtain⟨aN,er,cQ,bC⟩:=cp (n:=21) bB;obtain⟨aO,z20,cR,bD⟩:=cp (n:=20) bC;obtain⟨aP,z21,cS,bE⟩:=cp (n:=19) bD;obtain⟨aQ,z22,cT,bF⟩:=cp (n:=18) bE;obtain⟨aR,z23,cU,bG⟩:=cp (n:=17) bF;obtain⟨aS,z24,cV,bH⟩:=cp (n:=16) bG;obtain⟨aU,z25,cW,bK⟩:=cp (n:=15) bH;obtain⟨aV,z26,cX,bL⟩:=cp (n:=14) bK;obtain⟨aW,z27,cY,bM⟩:=cp (n:=13) bL;obtain⟨aX,z28,cZ,bN⟩:=cp (n:=12) bM;obtain⟨aY,z29,c3,bO⟩:=cp (n:=11) bN;obtain⟨ad,et,c4,bP⟩:=cp (n:=10) bO;obtain⟨ae,z31,c5,bQ⟩:=cp (n:=9) bP;obtain⟨af,z32,c6,bR⟩:=cp (n:=8) bQ;obtain⟨ag,z33,c7,bS⟩:=cp (n:=7) bR;obtain⟨ah,eu,c8,bT⟩:=cp (n:=6) bS;obtain⟨ai,z35,c9,bU⟩:=cp (n:=5) bT;obtain⟨an,z36,da,bV⟩:=cp (n:=4) bU;obtain⟨aq,z37,db,bX⟩:=cp (n:=3) bV;obtain⟨ar,ev,dc,bY⟩:=cp (n:=2) bX;obtain⟨au,ew,dd,bZ⟩:=cp (n:=1) bY;obtain⟨ax,z40,de,b0⟩:=cp (n:=0) bZ;have df:=Vy b0;subst df;subst de;subst dd;subst dc;subst db;subst da;subst c9;subst c8;subst c7;subst c6;subst c5;subst c4;subst c3;subst cZ;subst cY;subst cX;subst cW;subst cV;subst cU;subst cT;subst cS;subst cR;subst cQ;subst cP;subst cO;subst cN;subst cM;subst cL;subst cK;subst cJ;subst cG;subst cF;subst e9;subst e8;subst e7;subst e6;subst e5;subst e4;subst e3;subst e2;subst e1;subst e0;clear k0 k1 k2 k3 k4 k5 k6 k7 k8 k9 bm bq br bs bw bx bz bA bB bC bD bE bF bG bH bK bL bM bN bO bP bQ bR bS bT bU bV bX bY bZ b0 P
 skip
 have e1:Act.eval ⟨⟨[x0,x1,x2,x3,x4,x5,x6,x7,x8,x9,V,X,Y,Z,aa,ab,aJ,aK,aM,aN,aO,aP,aQ,aR,aS,aU,aV,aW,aX,aY,ad,ae,af,ag,ah,ai,an,aq,ar,au,ax]⟩,[]⟩ (.tmp 1)=x1:=rfl;have e2:Act.eval ⟨⟨[x0,x1,x2,x3,x4,x5,x6,x7,x8,x9,V,X,Y,Z,aa,ab,aJ,aK,aM,aN,aO,aP,aQ,aR,aS,aU,aV,aW,aX,aY,ad,ae,af,ag,ah,ai,an,aq,ar,au,ax]⟩,[]⟩ (.tmp 2)=x2:=rfl;have e6:Act.eval ⟨⟨[x0,x1,x2,x3,x4,x5,x6,x7,x8,x9,V,X,Y,Z,aa,ab,aJ,aK,aM,aN,aO,aP,aQ,aR,aS,aU,aV,aW,aX,aY,ad,ae,af,ag,ah,ai,an,aq,ar,au,ax]⟩,[]⟩ (.tmp 6)=x6:=rfl;rw[e1]at t1;rw[e2]at t2;rw[e6]at t6;clear e1 e2 e6;cases t1 with
 |slice lb lo _ aA lcs _ _ dV dW dY dX M bf O=>
  match lcs,bf,M,O with
  | [u0,u1],_,M,O=>
   have dH:=dt (O 0 u0 _ rfl rfl);have dJ:=dt (O 1 u1 _ rfl rfl);subst dH;subst dJ;have l0:=M 0 _ rfl;have l1:=M 1 _ rfl;clear M O;cases t2 with
   |cH bt bo off dM _ eb ea Q dG aG=>
    match dM,dG,Q,aG with
    | [c0,c1,p],_,Q,aG=>
     have m0:=Q 0 _ rfl;have m1:=Q 1 _ rfl;have m2:=Q 2 _ rfl;have a8:bn f F [c0,c1,p] (bJ T):=⟨rfl,aG⟩;cases t6 with
     |ptr _ _ H _ h6=>
      have dh:H=B:=by
       rcases h6 with h6|⟨n',c',h6⟩
       ·rw[hB]at h6;cases h6;rfl
       ·rw[hB]at h6;cases h6
      subst dh;clear h6;simp only[Yf]at l0 l1 m0 m1 m2 ⊢;have ba:=tn T k x;rw[hc]at ba;have aB:Ext F (F.alloc (.cells #[.int .i64 k,.int .i64 x] 112)):=(XH F).alloc _;have dL:=(callsIn_wide (n:=3)).2 (ba (λ_=>False) (F.alloc (.cells #[.int .i64 k,.int .i64 x] 112)) #[.agg #[c0,c1,p],.agg #[.int .i64 k,.int .i64 x]] (λ_ h=>h.elim) ((a.sat.gl.sub (λ_ h=>h.elim)).goes (E:=EF λ_=>False) (E':=EF λ_=>False) (.ext aB)) (XP (.agg _ _ rfl (λj z u k1 k2=>((a8.pure (λ_ h=>h.elim):bn (EF λ_=>False) F [c0,c1,p] (bJ T)).2 j z u (by simpa using k1) k2).goes (.ext aB))) (XP (.agg _ _ rfl (λj z u k1 k2=>(XP (.raw _) (XP (.raw _) (Yn _ _)):bn (EF λ_=>False) _ [.int .i64 k,.int .i64 x] (eR k x)).2 j z u (by simpa using k1) k2)) (Yn _ _))))
      gi_wp2
      refine KO (λa' w'=>∃(y0 y1 y2 y3 y4 y5 y7 y8 y9 b4 b5 b6 b7 b8 b9 ca cb cc cd cf cg ch cj ck cl cn cq cr ct cu cv cw cx cy cz cA cB cC:Value) (D:Nat),a'=⟨#[y0,y1,y2,y3,y4,y5,Value.pointer (some ⟨H,0,none⟩),y7,y8,y9,b4,b5,b6,b7,b8,b9,ca,Value.int .i64 1,Value.int .i64 1,cb,cc,cd,cf,cg,ch,cj,ck,cl,cn,cq,cr,ct,cu,cv,cw,cx,cy,cz,cA,cB,cC],[⟨.collected D,#[]⟩]⟩/\oJ w.heap.size n H (f.at_ 0) f.M (dq T k x) w'/\Below w.heap.size w w'/\w.heap.size<=D/\w'.heap[D]? =some (.deferred (some []))) ?_ ?_
      ·gi_wp2
       refine⟨trivial,dL.mono ?_⟩;rintro e d ⟨v5,rfl,y,r,rfl,dK⟩;cases dK;have q0:d.cell? ⟨bt,bo,none⟩=some c0:=y.cell (jY _ m0);have q1:d.cell? ⟨bt,bo+1,none⟩=some c1:=y.cell (jY _ m1);have q2:d.cell? ⟨bt,bo+2,none⟩=some p:=y.cell (jY _ m2);have q3:d.cell? ⟨F.heap.size,0,none⟩=some (.int .i64 k):=y.cell (Ox F _ _ _).1;have q4:d.cell? ⟨F.heap.size,1,none⟩=some (.int .i64 x):=y.cell (Ox F _ _ _).2
       gi_wp2
       refine⟨trivial,(KL c0 c1 p k x 3 d).mono ?_⟩;rintro e R ⟨rfl,rfl⟩
       gi_wp2
       have aZ:Ext F d:=aB.trans y;have ec:=aZ.size;have cD:Ext d ((d.alloc (.cells #[c0,c1,p] 25)).alloc (.cells #[.int .i64 k,.int .i64 x] 112)):=((XH d).alloc _).alloc _;have ed:((d.alloc (.cells #[c0,c1,p] 25)).alloc (.cells #[.int .i64 k,.int .i64 x] 112)).heap.size=d.heap.size+2:=by simp
       have p2:((d.alloc (.cells #[c0,c1,p] 25)).alloc (.cells #[.int .i64 k,.int .i64 x] 112)).cell? ⟨d.heap.size,2,none⟩=some p:=jY _ (Tw d _ _ _ _);have p3:((d.alloc (.cells #[c0,c1,p] 25)).alloc (.cells #[.int .i64 k,.int .i64 x] 112)).cell? ⟨d.heap.size+1,0,none⟩=some (.int .i64 k):=by
        have:=(Ox (d.alloc (.cells #[c0,c1,p] 25)) (.int .i64 k) (.int .i64 x) 112).1;rwa [World.size_alloc]at this
       have p4:((d.alloc (.cells #[c0,c1,p] 25)).alloc (.cells #[.int .i64 k,.int .i64 x] 112)).cell? ⟨d.heap.size+1,1,none⟩=some (.int .i64 x):=by
        have:=(Ox (d.alloc (.cells #[c0,c1,p] 25)) (.int .i64 k) (.int .i64 x) 112).2;rwa [World.size_alloc]at this
       generalize (d.alloc (.cells #[c0,c1,p] 25)).alloc (.cells #[.int .i64 k,.int .i64 x] 112)=R at*;have S:Ext F R:=aZ.trans cD;obtain⟨dp,bh⟩:=oJ.of a.sat hB;have aD:oJ w.heap.size n H (f.at_ 0) f.M (List.replicate n false) R:=dp.same S.size (λb cs t fz hb=>S.block b (Vs.1 hb).1);have dm:f.L=2:=a.sat.len;obtain⟨G,dk,a7⟩:∃G,(∀b,bg (f.at_ 0)=some b->b=G)/\(G=R.heap.size\/f.M G):=by
        cases du:bg (f.at_ 0)with
        |none=>exact⟨_,λb h=>(by cases h),.inl rfl⟩
        |some g=>exact⟨g,λb h=>(by cases h;rfl),.inr ((a.sat.mm g).2 (.inr ⟨0,_,rfl,du⟩))⟩
       have dz:=Oc (n₁:=R.heap.size) (a8.2 2 p _ rfl rfl) S a7 (λb hb=>a.sat.lt hb);have dj:d.heap.size+1≠G:=by
        rcases a7 with h|h
        ·omega
        ·have:=a.sat.lt h;omega
       have dx:k=1\/k=2\/k=3:=by
        unfold fG at hc;split at hc
        ·exact .inl ‹_›
        ·split at hc
         ·exact .inr (.inl ‹_›)
         ·split at hc
          ·exact .inr (.inr ‹_›)
          ·cases hc
       refine wpIn_rangeFunc_ownF (α:=iF.Ix T.ah.length) I (by omega) (gf:=217) (lb:= #[.pointer (some ⟨d.heap.size,0,none⟩),.pointer (some ⟨d.heap.size+1,0,none⟩)]) I trivial (enters_of func217 (by kernel_rfl) I)
        (encs:=λi=> #[Value.int .i64 (i.1:Int)]) (BL T k x dx (by omega) 3 d.heap.size (d.heap.size+1) G (by omega) p R (by omega) (by omega) dj p2 p3 p4 dz) (λh1 h2=>h1.trans h2) (λW l o o' hl ho _ _=>⟨(grownBy_putObj' W l o').size,λb h1 _=>(grownBy_putObj' W l o').block b (by have:=(Vs.1 ho).1;omega) (λe=>by cases e;omega)⟩) (Below.refl _ _) (λ_=>rfl)
        (λl W=>oJ w.heap.size n H (f.at_ 0) f.M (I4 n l) W/\Kp G R.heap.size R W/\Below w.heap.size w W) (λ_ _ _=>False)
        (λs W W' row hs hg hr=>⟨hs.1.grown hg (λr e=>(hr r e).2),⟨VL hs.2.1.size hg.size,λb h1 h2=>(hg.block b (by have:=hs.2.1.size;omega) (λe=>by have:=(hr b e.symm).1;omega)).trans (hs.2.1.block b h1 h2)⟩,hs.2.2.trans ⟨hg.os,hg.tape,hg.output,hg.size,λb h1=>hg.block b (by have:=hs.1.bl;omega) (λe=>by have:=(hr b e.symm).1;have:=aD.bl;omega)⟩⟩)
        (λ_ _ _ _ _ h _ _=>h) ⟨aD,Kp.refl _ _ _,b3.toBelow.trans (Below.iB S a.sat.bl)⟩
        (λi=>⟨#[x0,Value.slice (some ⟨lb,lo,none⟩) 1 aA,Value.pointer (some ⟨bt,bo,none⟩),x3,x4,x5,Value.pointer (some ⟨H,0,none⟩),x7,Value.pointer (some ⟨F.heap.size,0,none⟩),Value.int .i64 (i.1:Int),V,X,Y,Z,aa,ab,Value.slice (some ⟨lb,lo,none⟩) 1 aA,Value.int .i64 1,Value.int .i64 0,Value.bool true,Value.pointer (some ⟨lb,lo,none⟩),Value.agg #[.int .i64 k,.int .i64 x],Value.agg #[c0,c1,p],Value.agg #[.int .i64 k,.int .i64 x],Value.bool true,Value.bool false,Value.agg #[c0,c1,p],Value.agg #[.int .i64 k,.int .i64 x],Value.func (.func 217) #[] #[.pointer (some ⟨d.heap.size,0,none⟩),.pointer (some ⟨d.heap.size+1,0,none⟩)],Value.int .i64 (i.1:Int),ad,ae,af,ag,ah,ai,an,aq,ar,au,ax],[]⟩) ?assign ?body ?done ?stop
       case assign=>
        intro l i W K hK
        gi_wp2
        exact hK
       case body=>
        rintro l pre i W ⟨J,hK,hb⟩ hlt;have aC:=zE (n:=n) pre;have dU:=i.2;have ay:=QS (I4 n pre) i.1 (by rw[aC];omega) (by rw[aC];omega);rw[aC,<-BY]at ay;have dr:oJ w.heap.size n H (f.at_ 0) f.M (I4 n pre) {W with drawn:=W.drawn+1}:=J.same (Vh _) (λ_ _ _ _ _=>rfl);have bj:=dr.sat a.sat rfl ⟨_,_,_,_,rfl⟩ hB di bh;refine wpIn_block (wpIn_region_any mixed (lZ (λj o ho c=>?_) ?_ _ _ _ _ (ay.any (λ_=>False) w.heap.size f {W with drawn:=W.drawn+1} f _ {W with drawn:=W.drawn+1} ⟨dm,YN _ _,Yh _ _ _⟩ ⟨bj,?_,rfl,rfl⟩ _ ?_)))
        ·exact Lb (by kernel_rfl) j o ho c
        ·rintro⟨a',w',h⟩;exact h
        ·intro k' p' C;simp only[look,VZ]at C;split at C
         ·rename_i he;have:=VF he;subst this;cases C;exact .ptr 1 0 H (by omega) (.inl hB)
         ·split at C
          ·rename_i he;have:=VF he;subst this;cases C;exact .raw _
          ·cases C
        ·rintro a' w' ⟨⟨t',σ'⟩,E',bl,aE,q,L⟩;simp only at bl;subst bl;have a6:E'.at_ 1= .pointer (some ⟨H,0,none⟩):=(q.at_ 1 (by omega)).trans hB;have bk:E'.at_ 0=f.at_ 0:=q.at_ 0 (by omega);obtain⟨A,_⟩:=oJ.of aE.sat a6;rw[bk]at A;have dn:∀b,f.M b->E'.M b:=λb hb=>by
          rcases(a.sat.mm b).1 hb with h|⟨j,blk,h1,h2⟩
          ·exact h.elim
          ·match j,h1 with
           |0,_=>exact(aE.sat.mm b).2 (.inr ⟨0,_,rfl,by rw[bk];exact h2⟩)
           |1,_=>exact(aE.sat.mm b).2 (.inr ⟨1,_,rfl,by rw[q.at_ 1 (by omega)];exact h2⟩)
           |_+2,h1=>simp at h1
         have az:∀b,f.M b->bg (f.at_ 0)=some b\/b=H:=λb hb=>by
          rcases(a.sat.mm b).1 hb with h|⟨j,blk,h1,h2⟩
          ·exact h.elim
          ·match j,h1 with
           |0,_=>exact .inl h2
           |1,_=>rw[hB]at h2;cases h2;exact .inr rfl
           |_+2,h1=>simp at h1
         have bc:oJ w.heap.size n H (f.at_ 0) f.M (I4 n (pre++[i])) w':=⟨A.bl,A.row,A.box,A.gl.sub dn⟩;have ee:R.heap.size<=W.heap.size:=hK.size;have bd:Kp G R.heap.size W w':=⟨q.size,λb h1 h2=>by
          by_cases hm:f.M b
          ·rcases az b hm with h|h
           ·exact absurd (dk b h) h2
           ·rw[h,A.box,J.box]
          ·exact q.heap b (show b<W.heap.size by omega) hm⟩
         refine⟨⟨q.size,λb o hb ho=>?_⟩,bd,bc,hK.trans bd,hb.trans ⟨L.os,L.tape,L.output,L.size,L.block⟩⟩;have dC:¬f.M b:=λhm=>by
          rcases az b hm with h|h
          ·rcases J.row.2 with⟨h1,_⟩|⟨g,cap,cur,h1,_,h3,_⟩
           ·rw[h1]at h;cases h
           ·rw[h1]at h;cases h;rw[h3]at hb;cases hb;cases ho
          ·rw[h,J.box]at hb;cases hb;cases ho
         rw[q.heap b (Vs.1 hb).1 dC];exact hb
       case done=>
        rintro D ys W hD rfl ⟨J,hK,hb⟩ U;have dA:I4 n (mg (ej k x T.ah) T.ah.length T.ah.length)=dq T k x:=by rw[<-hn];exact Oj T k x
        rw[dA]at J
        gi_wp2
        exact⟨_,_,_,_,_,_,_,_,_,_,_,_,_,_,_,_,_,_,_,_,_,_,_,_,_,_,_,_,_,_,_,_,_,_,_,_,_,_,D,rfl,J,hb,by have:=aD.bl;omega,U⟩
       case stop=>
        rintro D c pre W _ _ h _;exact h.elim
      ·rintro a' w' ⟨y0,y1,y2,y3,y4,y5,y7,y8,y9,b4,b5,b6,b7,b8,b9,ca,cb,cc,cd,cf,cg,ch,cj,ck,cl,cn,cq,cr,ct,cu,cv,cw,cx,cy,cz,cA,cB,cC,D,rfl,J,hb,hD,U⟩;have dT:w'.cell? ⟨H,0,none⟩=some (f.at_ 0):=by
        unfold World.cell?;simp only[J.box]
        rfl
       gi_wp2
       have m:=grownBy_putObj' w' D (.deferred none);have dB:∀(g:Nat) (o:Array Value) (e:TypeId),w'.heap[g]? =some (Obj.cells o e (0,0))->(w'.putObj D (.deferred none)).heap[g]? =w'.heap[g]? :=λg o e hg=>m.block g (Vs.1 hg).1 (λh=>by cases h;rw[U]at hg;cases hg);refine⟨by simp,.inl ⟨_,_,rfl,run_takeDeferred U,?_⟩⟩;rw[hn];exact⟨_,results_tmp2 rfl _ _ _,f.at_ 0,rfl,hb.trans ⟨m.os,m.tape,m.output,m.size,λb h1=>m.block b (by have:=J.bl;omega) (λh=>by cases h;omega)⟩,CC J.row (λg o hg=>dB g o _ hg)⟩
end
section
open Go.RowKit cm Mem Net iF
theorem Can.Sr{P f ps}{R:PV->bH->Prop}{S:PV->Prop}(h:aD P f ps [] R)(i:∀r σ',R r σ'->∃q,aQ σ' r q/\S q):Can P f ps S:=λF w vs d g hr=>by
 refine(h F w.heap.size (EF F) w vs (Zl F w d g) hr).mono ?_;rintro e w' ⟨v,r,σ',E',rfl,h1,h2,k,a,c⟩;obtain⟨q,k1,j⟩:=i r σ' h1;exact⟨v,rfl,a.toBelow,q,j,k1.rep h2 (λb hb=>(h2.mm b).2 (.inl hb)) (λb hb=>(h2.fb b hb).2) v c⟩
theorem EV(T:aw)(k x:Int)(hv:aH T=true)(hc:fG T k x=true):aD prog 126 [bu T,.slice 1 (eR k x)] [] (λr σ'=>r= .tuple [.own 0,num 0]/\σ'=[some (.row 4 1 (2*T.ah.length) (aT (dq T k x)))]):=λF base E w vs f p=>by
 refine(IP T k x hv hc w vs (p.pure (λ_ h=>h.elim)) (f.gl.sub λ_ h=>h.elim)).mono ?_;rintro e w' ⟨v,rfl,n,a⟩;have d:w'.ownsRow base 4 1 v (2*T.ah.length) ((dq T k x).map Value.bool):=⟨a.1,a.2.imp id λ⟨g,cap,cur,h1,h2,m⟩=>⟨g,cap,cur,h1,VL f.bl h2,m⟩⟩;have j:∀b,bg v=some b->w.heap.size<=b/\b<w'.heap.size:=λb hb=>by
  rcases a.2 with⟨h1,_⟩|⟨g,cap,cur,h1,h2,m,_⟩
  ·rw[h1]at hb;cases hb
  ·rw[h1]at hb;cases hb;exact⟨h2,(Vs.1 m).1⟩
 have l:v.oneCell'=true:=by
  rcases a.2 with⟨h1,_⟩|⟨g,cap,cur,h1,h2,m,_⟩<;>rw[h1]<;>rfl
 have o:E.L=0:=f.len;have hp:=f.push n (v:=v) (blk:=.row 4 1 (2*T.ah.length) (aT (dq T k x))) (λb h=>(j b h).1) ⟨_,d,sB _⟩;refine⟨_,_,_,E.push v,rfl,⟨rfl,rfl⟩,hp.1,hp.2,Zz n f,.tuple _ _ rfl (λi c u h1 h2=>?_)⟩
 match i,h1,h2 with
 |0,h1,h2=>
  simp at h1 h2;subst h1;subst h2;exact .own 0 (by show 0<E.L+1;omega) _ (by simp[Env.push,o]) l
 |1,h1,h2=>
  simp at h1 h2;subst h1;subst h2;exact .raw _
 |_+2,h1,h2=>simp at h2
def lS(T:aw)(k x:Int):Int:=if(aH T&&fG T k x)=true then 0 else 1
def uN(e:Int)(L:List Bool):PV:=.tuple [aY (if e=0 then L else []),num e]
theorem pK(T:aw)(k x:Int):(dq T k x).length=2*T.ah.length:=by simp[dq]
theorem EU(T:aw)(k x:Int)(b:(aH T&&fG T k x)=false):Can prog 126 [bu T,.slice 1 (eR k x)] (· =uN 1 []):=by
 refine aR func126 I ntmps126 I<|aj (.a 3 I<|.k [1,2] I)<|an<|aj (.a 1 I<|.c rfl (gw T) I<|.a 1 I<|.k [1,2,12] I)<|ak I (λh1=>?_) (λh1=>?_)
 ·skip
  exact aj (.a 2 I<|.k [4,5] I)<|aA<|jF I (Yi (Vp aQ.cg (Vp aQ.pure Wg))) rfl
 ·have hv:aH T=true:=by simpa using h1
  have hc:fG T k x=false:=by rw[hv,WB]at b;exact b
  have d:=dy hv;have a:=tn T k x;rw[hc]at a;refine ao<|aK<|av 1 I<|fW I (jl T (by omega)) I<|bW (eJ I (VW I) I I (show 2*(T.ah.length:Int)=((2*T.ah.length:Nat):Int) by omega) (show 2*(T.ah.length:Int)=((2*T.ah.length:Nat):Int) by omega) ⟨by unfold maxLen;omega,by omega⟩) I<|av 2 I<|aF [1,2,6] I ?_;refine an<|aj (.a 3 I<|.k [2,6,16,17,18] I)<|ay<|eX [2,6,16,17,18] I<|bq (λr st=>st=⟨[(2,.cH (bJ T) 0),(6,.ptr 1 0),(16,.slice 1 (eR k x)),(17,num 1),(18,num 0)],[some (.row 4 1 (2*T.ah.length) (fN [.raw (.bool false)] (2*T.ah.length))),some (.cells 22 [.own 0])]⟩) 0 I ?_;rintro r st rfl;refine aj (.a 1 I<|.k [2,6,16,17,18,19] I)<|an<|ak I (λh2=>?_) (λh2=>?_)
  ·skip
   refine ao<|an<|ay<|aK<|aZ (aX (0) I) I<|aZ (gr I ((show((eR k x).drop 0).take 2=eR k x from rfl)) I) I<|av 2 I<|aF [2,6,8,16,17,18] I ?_;refine an<|aj (.a 2 I<|.c rfl (a) I<|.a 1 I<|.k [2,6,8,16,17,18,25] I)<|ak I (λc=>?_) (λc=>?_)
   ·skip
    exact aj (.a 2 I<|.k [4,5] I)<|aA<|jF I (Yi (Vp aQ.cg (Vp aQ.pure Wg))) rfl
   ·exact absurd c (by decide)
  ·exact absurd h2 (by decide)
theorem xF(T:aw)(k x:Int)(hv:aH T=true)(hc:fG T k x=true):aD prog 85 [bu T,fh k x] [] (λr σ'=>r= .tuple [.own 0,num 0]/\σ'=[some (.row 4 1 (2*T.ah.length) (aT (dq T k x)))]):=by
 refine aV func85 I ntmps85 I<|aj (.a 4 I<|.k [2,3] I)<|aK<|av 3 I<|br I I (VO (EV T k x hv hc) (λr σ' h=>?_));obtain⟨rfl,rfl⟩:=h;refine av 4 I<|aF [4,5] I ?_;exact aA<|⟨_,V5 I,rfl,rfl⟩
theorem BV(T:aw)(k x:Int):Can prog 85 [bu T,fh k x] (· =uN (lS T k x) (dq T k x)):=by
 cases a:(aH T&&fG T k x)with
 |true=>
  obtain⟨hv,hc⟩:=Wd.1 a;refine Can.Sr (xF T k x hv hc) ?_;rintro r σ' ⟨rfl,rfl⟩;refine⟨_,Yi (Vp (Yw rfl W9) (Vp aQ.pure Wg)),?_⟩;unfold uN lS aY;rw[Vn a,Vn rfl,pK]
 |false=>
  have he:lS T k x=1:=by unfold lS;rw[Vk (by rw[a];simp)]
  rw[he];exact aR func85 I ntmps85 I<|aj (.a 4 I<|.k [2,3] I)<|aj (.a 3 I<|.c rfl (EU T k x a) I<|.a 4 I<|.k [4,5] I)<|aA<|jF I aQ.pure rfl
end
section
open Go.RowKit cm Mem
structure gG where
 to:Nat
 lk:Nat
 co:Nat
 deriving DecidableEq
structure cC where
 cn:Nat
 seq:Nat
 gM:Nat
 over:Bool
 cU:List gG
 deriving DecidableEq
def jk(a:gG):List PV:=[num a.to,num a.lk,num a.co]
def dZ(l:List gG):List PV:=l.flatMap jk
def eG(l:List gG):PV:=.slice l.length (dZ l)
def dp(a:cC):List PV:=[num a.cn,num a.seq,num a.gM,flag a.over,eG a.cU,.slice 0 []]
def dP(a:cC):PV:=.agg (dp a)
instance (a:gG):aM (jk a):=by unfold jk;infer_instance
instance (a:gG):di (jk a):=by unfold jk;infer_instance
instance (l:List gG):aM (dZ l):=Ym _ _ λ_=>inferInstance
instance (l:List gG):di (dZ l):=di.flatMap _ _ λ_=>inferInstance
instance (l:List gG):IsPure (eG l):=by unfold eG;infer_instance
instance (l:List gG):gN (eG l):=by unfold eG;infer_instance
instance (a:cC):aM (dp a):=by unfold dp;infer_instance
instance (a:cC):IsPure (dP a):=by unfold dP;infer_instance
theorem Gt(l:List gG):(dZ l).length=l.length*3:=by
 unfold dZ;induction l with
 |nil=>rfl
 |cons a l ih=>rw[Wm,Vu,ih,VI,XL];simp[jk];omega
theorem Dp(l:List gG)(a:gG):dZ l++jk a=dZ (l++[a]):=by simp[dZ]
def dK:gG:=⟨0,0,0⟩
theorem i1(l:List gG)(i:Nat)(hi:i<l.length):((dZ l).drop (i*3)).take 3=jk (l.getD i dK):=by
 induction l generalizing i with
 |nil=>simp at hi
 |cons a l ih=>
  cases i with
  |zero=>rfl
  |succ i=>
   have h:=ih i (by simpa using hi);have:(dZ (a::l)).drop ((i+1)*3)=(dZ l).drop (i*3):=by
    rw[show(i+1)*3=i*3+3 by omega]
    rfl
   rw[this,h]
   rfl
theorem Jm(l:List gG)(i j:Nat)(hi:i<l.length)(hj:j<3):(dZ l)[i*3+j]? =(jk (l.getD i dK))[j]? :=by
 rw[<-i1 l i hi,Wn,Vn hj,WV]
structure cC.Ok (a:cC):Prop where
 cn:a.cn<64
 TA:1<=a.seq
 seq1:a.seq<=1073741824
 gM:a.gM<3600
 len:a.cU.length<=256
 inc:a.cU.Pairwise λx y=>x.lk<y.lk
 ok:∀x∈a.cU,x.lk<256/\x.to≠a.cn/\x.to<64/\1<=x.co/\x.co<=65535
def cC.uk(a:cC)(n:Nat):cC:= {a with gM:=n}
theorem cC.Ok.uk{a:cC}(h:a.Ok){n:Nat}(hn:n<3600):(a.uk n).Ok:=⟨h.cn,h.TA,h.seq1,hn,h.len,h.inc,h.ok⟩
theorem Qg:r8 prog 127=true:=by kernel_rfl
theorem AK(l:List gG)(hl:l.length<=100000):aD prog 138 [eG l] [] (λr σ'=>r= .own 0/\σ'=[some (.row 131 3 l.length (dZ l))]):=by
 refine aV func138 I ntmps138 I<|aj (.a 1 I<|.k [0] I)<|an<|aK (ZI (K:=λs=>∃b:Bool,s=⟨[(0,eG l),(4,.raw (.bool b))],[]⟩/\(b=true->l=[])) ?_ ?_)
 ·cases l with
  |nil=>exact av 1 rfl<|qY rfl Qg rfl rfl rfl rfl rfl λb=>aF [0,4] rfl ⟨b,rfl,λ_=>rfl⟩
  |cons a l=>exact av 1 rfl<|dA (mZ rfl Qg rfl rfl (Zg _)) rfl rfl rfl<|aF [0,4] rfl ⟨_,rfl,λh=>by cases h⟩
 rintro _ ⟨b,rfl,hb⟩;refine ak I (λhc=>?_) (λhc=>?_)
 ·have:l=[]:=hb hc;subst this;refine aj (.a 1 I<|.k [2] I)<|fe 2 131 3 I ?_;exact aA<|⟨_,V5 I,rfl,rfl⟩
 ·refine ao<|aK<|bW (ga I (YC I)) I<|av 1 I<|bW (bP I (VW I) I I I (Gt l) (by unfold maxLen;omega)) I<|av 1 I<|aF [2] I ?_;refine dM [1] (.cons 2 I (Ren.own (i:=0) I) .nil) (.kept rfl (.row VT) .nil) I I<|aA<|⟨_,V5 I,rfl,by rw[Ws];rfl⟩
theorem qq(l:List gG)(hl:l.length<=100000):Can prog 138 [eG l] (· =eG l):=Can.Sr (AK l hl) (by rintro r σ' ⟨rfl,rfl⟩;exact⟨_,Yw rfl W9,rfl⟩)
theorem Qj:r8 prog 89=true:=by kernel_rfl
theorem tD(l:List Nat)(hl:l.length<=100000):aD prog 207 [cE l] [] (λr σ'=>r= .own 0/\σ'=[some (.row 5 1 l.length (ei l))]):=by
 refine aV func207 I ntmps207 I<|aj (.a 1 I<|.k [0] I)<|an<|aK (ZI (K:=λs=>∃b:Bool,s=⟨[(0,cE l),(4,.raw (.bool b))],[]⟩/\(b=true->l=[])) ?_ ?_)
 ·cases l with
  |nil=>exact av 1 rfl<|qY rfl Qj rfl rfl rfl rfl rfl λb=>aF [0,4] rfl ⟨b,rfl,λ_=>rfl⟩
  |cons a l=>exact av 1 rfl<|dA (mZ rfl Qj rfl rfl (Zg _)) rfl rfl rfl<|aF [0,4] rfl ⟨_,rfl,λh=>by cases h⟩
 rintro _ ⟨b,rfl,hb⟩;refine ak I (λhc=>?_) (λhc=>?_)
 ·have:l=[]:=hb hc;subst this;refine aj (.a 1 I<|.k [2] I)<|fe 2 5 1 I ?_;exact aA<|⟨_,V5 I,rfl,rfl⟩
 ·refine ao<|aK<|bW (ga I (YC I)) I<|av 1 I<|bW (bP I (VW I) I I I (show(ei l).length=l.length*1 by simp[ei]) (by unfold maxLen;omega)) I<|av 1 I<|aF [2] I ?_;refine dM [1] (.cons 2 I (Ren.own (i:=0) I) .nil) (.kept rfl (.row VT) .nil) I I<|aA<|⟨_,V5 I,rfl,by rw[Ws];rfl⟩
theorem Ej(l:List Nat)(hl:l.length<=100000):Can prog 207 [cE l] (· =cE l):=Can.Sr (tD l hl) (by rintro r σ' ⟨rfl,rfl⟩;exact⟨_,Yw rfl W9,rfl⟩)
theorem B6(l:List Nat)(hl:l.length<=100000)(σ:bH):aD prog 207 [cE l] σ (λr σ'=>r= .own σ.length/\σ'=σ++[some (.row 5 1 l.length (ei l))]):=by
 refine aD.frame (VO (tD l hl) ?_);rintro r σ' ⟨rfl,rfl⟩;exact⟨[.row 5 1 l.length (ei l)],rfl,_,_,Up.own rfl,ZB (.row ZH) nf.nil,by simp,rfl⟩
theorem SE:r8 prog 64=true:=by kernel_rfl
theorem nL:Can prog 57 [.slice 0 []] (· = .slice 0 []):=by
 refine aR func57 I ntmps57 I<|aj (.a 1 I<|.k [0] I)<|an<|aK (ZI (K:=λs=>∃b:Bool,s=⟨[(0,.slice 0 []),(4,.raw (.bool b))],[]⟩) (av 1 I<|qY I SE rfl rfl rfl rfl rfl λb=>aF [0,4] I ⟨b,rfl⟩) ?_);rintro _ ⟨b,rfl⟩;refine ak I (λhc=>?_) (λhc=>?_)
 ·exact aj (.a 1 I<|.k [2] I)<|aA<|jF I aQ.cg rfl
 ·refine ao<|aK<|bW (ga I (YC I)) I<|av 1 I<|bW (bP I (VW I) I I I I (by unfold maxLen;omega)) I<|av 1 I<|aF [2] I ?_;exact aA<|jF I (Yw rfl Wg) rfl
theorem nB(a:cC)(h:a.cU.length<=256):Can prog 89 [dP a] (· =dP a):=by
 refine aR func89 I ntmps89 I<|aK<|bW (dv I I I) I<|av 1 I<|aF [1,2] I ?_;refine aK<|av 2 I<|fW I (qq a.cU (by omega)) I<|av 2 I<|aF [1,2] I ?_;refine aK<|av 2 I<|fW I (nL) I<|av 2 I<|aF [1,2] I ?_;refine aK<|av 2 I<|aF [2] I ?_;exact aA<|⟨_,dP a,V5 I,(aQ.pure:aQ _ (dP a) (dP a)),rfl⟩
theorem qD(a:cC)(h:a.cU.length<=256):Can prog 146 [dP a] (· =dP a):=by
 refine aR func146 I ntmps146 I<|aK<|bW (dv I I I) I<|av 1 I<|aF [1,2] I ?_;refine aK<|av 2 I<|fW I (qq a.cU (by omega)) I<|av 2 I<|aF [1,2] I ?_;refine aK<|av 2 I<|fW I (nL) I<|av 2 I<|aF [1,2] I ?_;refine aK<|av 2 I<|aF [2] I ?_;exact aA<|⟨_,dP a,V5 I,(aQ.pure:aQ _ (dP a) (dP a)),rfl⟩
theorem yl{α:Type}{l:List α}{k:Nat}{x}(h:l[k]? =some x):l.set k x=l:=by
 obtain⟨h1,rfl⟩:=Vf.1 h;exact Y1 h1
section
variable {P:Program} {σ:bH} {t:cd} {o:Oper}
theorem vj{ty e n i s s':Nat}{x y:Operand}{xs ys:List PV}(ho:o.op= .call {callee:=.builtin .copy,args:= #[x,y],argTypes:= #[ty,ty]})(hu:P.underlying ty=some (.slice e))(hs:(P.info? e).map (·.size)=some 1)(hx:aI t x=some (.own i))(hi:σ[i]? =some (some (.row s s' n xs)))(hy:aI t y=some (.slice 0 ys)):de P σ t o (.raw (.int .i64 0)) σ:=by
 intro F base E ρ w j p hT;have h1:=aB j hT hx;have h2:=aB j hT hy;generalize k:ρ x=v at h1;generalize l:ρ y=u at h2;have hv:∃d m c,v= .slice d m c:=by
  cases h1 with
  |own _ z _ h _=>
   obtain⟨cs,k1,A⟩:=p.blk i _ hi;rcases k1.2 with⟨hv,h0⟩|⟨g,cap,cur,hv,_⟩
   ·rw[hv]at h;subst h;exact⟨_,_,_,rfl⟩
   ·rw[hv]at h;subst h;exact⟨_,_,_,rfl⟩
 have hw:∃d c,u= .slice d 0 c:=by
  cases h2 with
  |cg=>exact⟨_,_,rfl⟩
  |empty a c h=>exact⟨_,_,rfl⟩
  |slice b off _ c cs _ h0=>omega
 obtain⟨d,m,c,rfl⟩:=hv;obtain⟨r,q,rfl⟩:=hw;have f:=run_copy_none (P:=P) w ty ty o.type e d r m c 0 q hu hs (by simp);have hr:(execOp ρ o).run P w= .ok (.value (.int .i64 0)) w:=by
  simp only[execOp,ho,resolve,invoke,builtin,XF,VX,Xw,k,l,Sem.run_bind,Sem.run_pure,Result.andThen_ok,f,goInt]
 exact⟨_,w,E,.inl hr,p,YN _ _,Yh _ _ _,.raw _⟩
theorem xx{ty e n i:Nat}{x y:Operand}{xs ys:List PV}(ho:o.op= .call {callee:=.builtin .copy,args:= #[x,y],argTypes:= #[ty,ty]})(hu:P.underlying ty=some (.slice e))(hs:(P.info? e).map (·.size)=some 1)(hx:aI t x=some (.own i))(hi:σ[i]? =some (some (.row e 1 n xs)))(hy:aI t y=some (.slice n ys))(hl:ys.length=n)(hn:0<n)[di ys]:
  de P σ t o (.raw (.int .i64 n)) (σ.set i (some (.row e 1 n ys))):=by
 intro F base E ρ w r s hT;have h1:=aB r hT hx;have h2:=pj (aB r hT hy);generalize J:ρ x=v at h1;generalize K:ρ y=u at h2;rcases h2 with⟨_,h0,_⟩|⟨a,c,news,rfl,m,z⟩
 ·omega
 ·cases h1 with
  |own _ N _ p _=>
   obtain⟨cs,k1,O⟩:=s.blk i _ hi;obtain⟨M,L⟩:=k1;rcases L with⟨_,h0⟩|⟨b,cap,cur,hv,A,hg,G,C,q,H⟩
   ·omega
   ·rw[hv]at p;subst p;have l:bg (E.at_ i)=some b:=by rw[hv];rfl
    have B:E.M b:=(s.mm b).2 (.inr ⟨i,_,hi,l⟩);have f:news.length=n:=z.1.trans hl;have k:=run_copy_row (P:=P) w ty ty o.type e b 0 n cap a n c cur e news hu hs hg (by rw[f];simp) m (by rw[f,q];omega) z.rN;rw[f,Ws,List.take_zero,WJ]at k;have hr:(execOp ρ o).run P w= .ok (.value (.int .i64 n)) (w.setRow b (news++cur.toList.drop n).toArray):=by
     simp only[execOp,ho,resolve,invoke,builtin,XF,VX,Xw,J,K,Sem.run_bind,Sem.run_pure,Result.andThen_ok,k,goInt]
    have oq:∀j,j<w.heap.size->j≠b->(w.setRow b (news++cur.toList.drop n).toArray).heap[j]? =w.heap[j]? :=λj _ hj=>setRow_other w b j _ hj;have d:w.heap.size<=(w.setRow b (news++cur.toList.drop n).toArray).heap.size:=by simp
    have g:c8 E w E (w.setRow b (news++cur.toList.drop n).toArray):=⟨Vh _,λ_ _=>rfl,λ_ _ h=>h,d,λj hj hM=>oq j hj (λe=>hM (by rw[e];exact B))⟩;have D:cur.toList.length=cap:=by rw[V3,q];omega
    have hn:=s.ta (w':=w.setRow b (news++cur.toList.drop n).toArray) (bi':=.row e 1 n ys) hi l d oq ⟨news,⟨by rw[f];omega,.inr ⟨b,cap,_,hv,A,setRow_heap w b cur _ e _ hg,G,C,by
     simp only[Xl,Vu,XY,f,D];omega,by
     rw[Xt,Xq (by omega),V2 (by omega)]⟩⟩,z.goes g⟩
    exact⟨_,_,E,.inl hr,hn.1,hn.2,⟨⟨rfl,rfl,rfl,d,λj hj=>setRow_other w b j _ (by omega)⟩,λj hj=>setRow_other w b j _ (λe=>(s.fb j hj).2 i _ hi (by rw[e];exact l))⟩,.raw _⟩
theorem D1{ty e n i:Nat}{x y:Operand}{D:List Bool}(ho:o.op= .call {callee:=.builtin .copy,args:= #[x,y],argTypes:= #[ty,ty]})(hu:P.underlying ty=some (.slice e))(hs:(P.info? e).map (·.size)=some 1)(hx:aI t x=some (.own i))(hi:σ[i]? =some (some (.row e 1 n (aT (List.replicate n false)))))(hy:aI t y=some (aY D))(a:D.length=0\/D.length=n):
  de P σ t o (num D.length) (σ.set i (some (.row e 1 n (aT (if D.length=0 then List.replicate n false else D))))):=by
 by_cases h0:D.length=0
 ·have hd:D=[]:=Vy h0;subst hd;rw[Vn (show([]:List Bool).length=0 from rfl),yl hi];exact vj ho hu hs hx hi hy
 ·rw[Vk h0];have hn:D.length=n:=a.resolve_left h0;subst hn;exact xx ho hu hs hx hi hy (by simp[aT]) (by omega)
end
section
variable {P:Program} {σ:bH} {t:cd} {o:Oper}
theorem de.as{σ σ' σ'' t o p p'}(h:de P σ t o p σ')(hs:σ'=σ'')(hp:p=p':=by rfl):de P σ t o p' σ'':=by subst hp;subst hs;exact h
theorem SV{x ty}{a c:Int}(ho:o.op= .unOp .neg ty x)(hx:aI t x=some (.raw (.int .i64 a)))(hc: -a=c)(hn:In64 c):bE P σ t o (.raw (.int .i64 c)):=by
 intro F base E ρ w b _ hT;have h1:=aB b hT hx;generalize d:ρ x=z at h1;cases h1;have hr:(execOp ρ o).run P w= .ok (.value (.int .i64 c)) w:=by
  simp only[execOp,ho,d];simp[Op.unary,Op.intArith,hc,l3 hn]
 rw[hr];exact bA (.raw _)
theorem Ht{ty e i:Nat}{x y:Operand}{L:List Nat}{xs:List PV}(ho:o.op= .call {callee:=.builtin .copy,args:= #[x,y],argTypes:= #[ty,ty]})(hu:P.underlying ty=some (.slice e))(hs:(P.info? e).map (·.size)=some 1)(hx:aI t x=some (.own i))(hi:σ[i]? =some (some (.row e 1 L.length xs)))(hy:aI t y=some (cE L))(hl:xs.length=L.length):
  de P σ t o (num L.length) (σ.set i (some (.row e 1 L.length (ei L)))):=by
 by_cases h0:L.length=0
 ·have hd:L=[]:=Vy h0;subst hd;have:xs=[]:=Vy hl;subst this;have a:σ.set i (some (.row e 1 ([]:List Nat).length (ei [])))=σ:=yl hi;rw[a];exact vj ho hu hs hx hi hy
 ·exact xx ho hu hs hx hi hy (by simp[ei]) (by omega)
theorem HE(z:Array Value)(m k:Nat)(h:m<=k):(madeCells z k).toList.take m=(madeCells z m).toList:=by
 apply Wz;intro j;rw[Wn];by_cases hj:j<m
 ·rw[Vn hj];simp[madeCells,hj,VS hj h]
 ·rw[Vk hj];simp[madeCells,hj]
theorem N8{ty e s by':Nat}{z:List Value}{l c:Operand}{n m:Nat}{li ci:Int}{k k':IntKind}(ho:o.op= .makeSlice ty l c)(hk:Ae P ty=some (e,s,by',z))(hl:aI t l=some (.raw (.int k li)))(hc:aI t c=some (.raw (.int k' ci)))(hli:li=(n:Int))(hci:ci=(m:Int))(hnm:n<=m)(hn:m<=maxLen/\by'*m<=281474976710656):
    de P σ t o (.own σ.length) (σ++[some (.row e s n (fN (z.map .raw) n))]):=by
  intro F base E ρ w hρ hS hT
  have h1:=aB hρ hT hl
  have h2:=aB hρ hT hc
  generalize hz1:ρ l=v1 at h1
  generalize hz2:ρ c=v2 at h2
  cases h1;cases h2
  subst hli;subst hci
  obtain⟨hu,i,z',hi,hs,hby,hz,hzz,hzs,hpos⟩:=pU hk
  subst hs
  have hrun := run_make (P := P) w ty e i z' hu hi hz k k' n m (by omega) (by omega) (by have h : ((i.bytes * m : Nat) : Int) <= 281474976710656 := by rw [hby]; omega
                                                                                         rwa [Int.natCast_mul]at h) (by have:=hn.1;simp[maxLen]at this;omega)
  simp only[Vi]at hrun
  have hr:(execOp ρ o).run P w= .ok (.value (.slice (some ⟨w.heap.size,0,none⟩) n m)) (w.alloc (.cells (madeCells z'.cells (m*i.size)) e)):=by
    simp only[execOp,ho,hz1,hz2,Sem.run_bind,hrun,Result.andThen_ok,Sem.run_pure]
  have hR:bn E w (madeCells z'.cells (n*i.size)).toList (fN (z.map .raw) n):=by
    rw[<-hzz];exact p6 z'.cells n (n*i.size) (by rw[hzs])
  obtain⟨a1,a2,a3,a4⟩:=rD (w':=w.alloc (.cells (madeCells z'.cells (m*i.size)) e)) hS ((XH w).alloc _) (v:=.slice (some ⟨w.heap.size,0,none⟩) n m) (λb h=>by simp[bg]at h;omega)
    ⟨by simp[madeCells],.inr ⟨w.heap.size,m,madeCells z'.cells (m*i.size),rfl,hS.bl,heap_alloc_new w _,hnm,hn.1,by simp[madeCells],HE _ _ _ (XD _ hnm)⟩⟩ hR
  exact⟨_,_,_,.inl hr,a1,a2,a3,a4⟩
end
theorem OB(L:List Nat)(i:Nat)(n:Nat)(h:i<L.length):over (ei L) i [.raw (.int .u8 (n:Int))]=ei (L.set i n):=by
 unfold over ei;rw[Yt,Xc,Vn (by simpa using h)];simp
theorem nH{P}{σ:bH}{t}{o:Oper}{ty e n:Nat}{x y}{i j c:Nat}{L:List Nat}(ho:o.op= .store ty x y)(hk:qU P ty=some none)(hx:aI t x=some (.ptr i j))(hy:aI t y=some (.raw (.int .u8 (c:Int))))(hi:σ[i]? =some (some (.row e 1 n (ei L))))(hj:j<L.length):de P σ t o (.raw undef) (σ.set i (some (.row e 1 n (ei (L.set j c))))):=by
 have:=eh (P:=P) (σ:=σ) ho hk hx hy hi (by show j<(ei L).length;rw[lr];exact hj);have e:(cj.row e 1 n (ei L)).tG (over (cj.row e 1 n (ei L)).xs j [.raw (.int .u8 (c:Int))])= .row e 1 n (ei (L.set j c)):=by
  show cj.row e 1 n (over (ei L) j [.raw (.int .u8 (c:Int))])=_;rw[OB L j c hj]
 rw[e]at this;exact this
theorem RC:(prog.info? 5).map (·.size)=some 1:=by kernel_rfl
theorem wR(B:List Nat)(n s:Nat)(h1:1<=s)(t:s<=4)(hn:n<256 ^ s)(u:B.length<=100000):aD prog 156 [cE B,.raw (.int .u64 n),num s] [] (λr σ'=>r= .tuple [.own 0,num 0]/\σ'=[some (.row 5 1 (B++fw s n).length (ei (B++fw s n)))]):=by
 have l:n / 2 ^ (8*s)=0:=Nat.div_eq_of_lt (by rw[Nat.pow_mul];exact hn);have j:=bK s n;refine aV func156 I ntmps156 I<|aj (.a 2 I<|.k [0,1,2] I)<|an ?_;have⟨o,a⟩:=dw (decide ((s:Int)<1));have⟨p,b⟩:=dw (decide ((8:Int)<(s:Int)));have f:o=false:=by rw[<-a];exact VA (by omega)
 have g:p=false:=by rw[<-b];exact VA (by omega)
 subst f;subst g;refine aj (.a 1 I<|.v (cT I (a)) I<|.a 2 I<|.v (cT I (b)) I<|.a 1 I<|.k [0,1,2,15] I)<|ak I (λhc=>?_) (λhc=>?_)
 ·cases hc
 ·refine ao<|an ?_;have⟨q,c⟩:=dw (decide ((s:Int)<8));have h:q=true:=by rw[<-c];exact VM (by omega)
  subst h;refine aj (.a 1 I<|.v (cT I (c)) I<|.a 3 I<|.v (aU I) I<|.v (MM (n:=8*s) I I I (show 8*s<=64 by omega) l) I<|.v (Qv I I I I) I<|.a 1 I<|.k [0,1,2,24] I)<|ak I (λhc=>?_) (λhc=>?_)
  ·cases hc
  ·refine ao<|aK<|av 5 I<|aZ (aU I) I<|bW (N8 (n:=B.length) (m:=B.length+s) I (VW I) I I I (by omega) (by omega) (by unfold maxLen;omega)) I<|av 1 I<|aF [0,1,2,8] I ?_;refine aK<|av 2 I<|bW (Ht I Tryz.underlying89 RC rfl rfl rfl (by simp[tg])) I<|aF [1,2,8] I ?_;refine an<|aj (.a 1 I<|.v (aU I) I<|.a 1 I<|.k [1,8,9] I)<|ay<|eX [1,8,9] I<|bq (λk st=>∃C,k<=s/\C++fw k n=B++fw s n/\st=⟨[(1,.raw (.int .u64 n)),(8,.own 0),(9,num ((k:Int) - 1))],[some (.row 5 1 C.length (ei C))]⟩) s ⟨B,by omega,rfl,rfl⟩ ?_;rintro k st ⟨C,hk,hC,rfl⟩;refine an<|aj (.a 2 I<|.k [1,8,9,38] I)<|ak I (λhc=>?_) (λhc=>?_)
   ·have hlt:0<k:=by have:=Vg hc;omega
    obtain⟨m,rfl⟩:∃m,k=m+1:=⟨k - 1,by omega⟩;have i:C.length<=100008:=by have:=V1 List.length hC;simp only[Vu,bK]at this;omega
    have hi:((m+1:Nat):Int) - 1=(m:Int):=by omega
    refine ao<|an<|ay ?_;rw[hi];refine bp<|av 3 I<|aZ (aU I) I<|aZ (MM (n:=8*m) I I I (show 8*m<=64 by omega) I) I<|aZ (eE I Tryz.underlying221 Tryz.underlying5 rfl (Mh _)) I<|av 1 I<|bW (bP I (VW I) I I I I (by unfold maxLen;omega)) I<|av 1 I ?_;refine ft [1] (.c 1<|.c 8<|.c 9<|.nil) (.kept rfl (.eZ rfl (B7 C [n / 2 ^ (8*m) % 256]))<|.nil) I I (bM ?_);refine aL (.a 1 I<|.v (aU I) I<|.a 1 I<|.k [1,8,9] I)<|⟨m,by omega,C++[n / 2 ^ (8*m) % 256],by omega,by rw[VU];exact hC,by simp[ei]⟩
   ·have e:k=0:=by have:=Vj hc;omega
    subst e;have d:C=B++fw s n:=by simpa[fw]using hC
    subst d;exact bh<|aj (.a 3 I<|.k [6,7] I)<|aA<|⟨_,V5 I,rfl,rfl⟩
theorem q9(B:List Nat)(n s:Nat)(h1:1<=s)(a:s<=4)(hn:n<256 ^ s)(b:B.length<=100000):Can prog 156 [cE B,.raw (.int .u64 n),num s] (· = .tuple [cE (B++fw s n),num 0]):=Can.Sr (wR B n s h1 a hn b) (by rintro r σ' ⟨rfl,rfl⟩;exact⟨_,Yi (Vp (Yw rfl W9) W9),rfl⟩)
theorem CZ(L:List Nat)(h1:1<=L.length)(o:L.length<=4)(g:sr L):Can prog 110 [cE L] (· = .tuple [.raw (.int .u64 ((Ga 0 L:Nat):Int)),num 0]):=by
 refine aR func110 I ntmps110 I<|aj (.a 2 I<|.k [0] I)<|an ?_;have⟨l,b⟩:=dw (decide ((L.length:Int)<1));have⟨m,d⟩:=dw (decide ((8:Int)<(L.length:Int)));have h:l=false:=by rw[<-b];exact VA (by omega)
 have i:m=false:=by rw[<-d];exact VA (by omega)
 subst h;subst i;refine aj (.a 2 I<|.v (cT I (b)) I<|.a 3 I<|.v (cT I (d)) I<|.a 1 I<|.k [0,14] I)<|ak I (λhc=>?_) (λhc=>?_)
 ·cases hc
 ·refine ao<|aj (.a 1 I<|.k [0,4] I)<|an<|aj (.a 3 I<|.k [4,15,16,17] I)<|ay<|eX [4,15,16,17] I<|bq (λr s=>∃k,k<=L.length/\r=L.length - k/\s=⟨[(4,.raw (.int .u64 ((Ga 0 (L.take k):Nat):Int))),(15,cE L),(16,num L.length),(17,num k)],[]⟩) L.length ⟨0,by omega,by omega,rfl⟩ ?_;rintro r s ⟨k,hk,rfl,rfl⟩;refine aj (.a 1 I<|.k [4,15,16,17,18] I)<|an<|ak I (λhc=>?_) (λhc=>?_)
  ·have hlt:k<L.length:=by have:=Vg hc;omega
   have hx:=g.get hlt;have a:=Mj (L.take k) (L.getD k 0) 0;rw[<-cL L k 0 hlt]at a;have f:Ga 0 (L.take k)<16777216:=by
    have q:=Mi (c:=0) (L:=L.take k) (λx hx=>g x (Y8 hx));have j:(L.take k).length<=3:=by rw[V8];omega
    have t:=YA (show 0<256 by decide) j;omega
   generalize Ga 0 (L.take k)=p at a f;refine ao<|an<|ay<|aj (.v (aX (k) I) I<|.v (aO I (rL L k hlt)) I<|.a 1 I<|.k [4,6,15,16,17] I)<|aL (.a 1 I<|.v (Qw (n:=8) I I I (by decide) I (lF _ (by omega))) I<|.a 1 I<|.v (eE I Tryz.underlying5 Tryz.underlying221 rfl (lF _ (by omega))) I<|.v (SX I I I (by omega) hx rfl (by omega)) I<|.a 1 I<|.k [4,15,16,17] I) ?_;refine aL (.v (aU I) I<|.a 1 I<|.k [4,15,16,17] I)<|⟨L.length - (k+1),by omega,k+1,by omega,rfl,by rw[a];rfl⟩
  ·have e:k=L.length:=by have:=Vj hc;omega
   rw[e,VN];exact bh<|aj (.a 3 I<|.k [2,3] I)<|aA<|jF I aQ.pure rfl
theorem P6{l:List Rc}(h:∀r∈l,r.Ok){k:Nat}(hk:k<l.length):(l.getD k EA).Ok:=h _ (b9 hk)
theorem uO(l:List Rc)(h:∀r∈l,r.Ok)(hl:l.length<=300):Can prog 157 [wJ l] (· = .tuple [cE (je l),num 0]):=by
 have c:∀k,k<=l.length->(je (l.take k)).length<=k*65538:=λk=>by
  induction k with
  |zero=>simp[je]
  |succ k ih=>
   intro hk;have:=ih (by omega);have h2:=(P6 h (show k<l.length by omega)).len;rw[cL l k EA (by omega),pF,Vu,XL];simp only[qK,VI];omega
 refine aR func157 I ntmps157 I<|aj (.a 2 I<|.k [0] I)<|aj (.a 1 I<|.k [0,4] I)<|an<|aj (.a 3 I<|.k [4,7,8,9] I)<|fe 4 5 1 I ?_;refine ay<|eX [4,7,8,9] I<|bq (λr s=>∃k,k<=l.length/\r=l.length - k/\s=⟨[(4,.own 0),(7,wJ l),(8,num l.length),(9,num k)],[some (.row 5 1 (je (l.take k)).length (ei (je (l.take k))))]⟩) l.length ⟨0,by omega,by omega,rfl⟩ ?_;rintro r s ⟨k,hk,rfl,rfl⟩;refine aj (.a 1 I<|.k [4,7,8,9,10] I)<|an<|ak I (λhc=>?_) (λhc=>?_)
 ·have hlt:k<l.length:=by have:=Vg hc;omega
  have hx:=P6 h hlt;have a:=pF (l.take k) (l.getD k EA);rw[<-cL l k EA hlt]at a;have g:=c k hk;have b:=Ct l k hlt;generalize l.getD k EA=x at hx a b;generalize je (l.take k)=C at a g;obtain⟨h1,h2,p,q⟩:=hx;refine ao<|an<|ay<|aK<|aZ (aX (k*2) I) I<|aZ (gr I (b) I) I<|av 2 I<|aF [4,6,7,8,9] I ?_;refine an ?_;have⟨m,d⟩:=dw (decide ((x.k:Int)<1));have⟨o,e⟩:=dw (decide ((255:Int)<(x.k:Int)));have i:m=false:=by rw[<-d];exact VA (by omega)
  have j:o=false:=by rw[<-e];exact VA (by omega)
  subst i;subst j;refine aj (.a 2 I<|.v (cT I (d)) I<|.a 3 I<|.v (cT I (e)) I<|.a 1 I<|.k [4,6,7,8,9,20] I)<|ak I (λhc=>?_) (λhc=>?_)
  ·cases hc
  ·refine ao<|an<|aj (.a 4 I<|.k [4,6,7,8,9,24] I)<|ak I (λhc=>?_) (λhc=>?_)
   ·exact absurd (Vg hc) (by omega)
   ·refine ao<|aK<|av 3 I<|aZ (eE I Tryz.underlying3 Tryz.underlying5 rfl (sf _ (by omega))) I<|av 3 I<|aZ (MM (n:=8) I I I (by decide) I) I<|aZ (eE I Tryz.underlying3 Tryz.underlying5 rfl (sf _ (by omega))) I<|av 3 I<|aZ (eE I Tryz.underlying3 Tryz.underlying5 rfl (Mh _)) I<|av 1 I<|bW (bP I (VW I) I I I I (by unfold maxLen;omega)) I<|av 1 I<|aF [4,6,7,8,9] I ?_;refine bp<|av 3 I<|bW (bP I (VW I) I I I (show(ei x.v).length=x.v.length*1 by rw[lr,Xt]) (by unfold maxLen;omega)) I<|av 1 I ?_;refine ft [3] (.c 4<|.c 7<|.c 8<|.c 9<|.nil) (.kept rfl (.eZ rfl (show _=ei (C++qK x) by simp[ei,qK]))<|.nil) I I (bM ?_);refine aL (.v (aU I) I<|.a 1 I<|.k [4,7,8,9] I)<|⟨l.length - (k+1),by omega,k+1,by omega,rfl,by rw[a];simp[qK];omega⟩
 ·have f:k=l.length:=by have:=Vj hc;omega
  rw[f,VN];exact bh<|aj (.a 3 I<|.k [2,3] I)<|aA<|jF I (Yi (Vp (Yw rfl W9) W9)) rfl
theorem LZ(p:List Nat)(hp:sr p)(hl:p.length<=90000):Can prog 203 [cE (p++[0,0]),num p.length] (· = .tuple [cE (r7 p),num 0]):=by
 have a:(p++[0,0]).length=p.length+2:=by simp
 have j:(p++[0,0]).set p.length 0=p++[0,0]:=by simp
 have k:(p++[0,0]).set (p.length+1) 0=p++[0,0]:=by simp
 have hx:=y6 p;have d:((p++[0,0]).set p.length (wx p)).set (p.length+1) (wz p)=r7 p:=by simp[r7]
 obtain⟨h1,h2⟩:=zm p;have hs:=F6 (p++[0,0]) (hp.append (.cons (by decide) (.cons (by decide) .nil))) (by omega);have l:oA (0,0) (p++[0,0])=((oA (0,0) p).1,((oA (0,0) p).2+2*(oA (0,0) p).1) % 255):=by
  rw[u7];generalize oA (0,0) p=q at h1 h2;simp only[oA,Xn,Zj,Xp];omega
 rw[l]at hs;have e:wx p=(510 - (oA (0,0) p).1 - (oA (0,0) p).2) % 255:=rfl;have g:wz p=(oA (0,0) p).2:=rfl;generalize wx p=X at e d hx;generalize wz p=Y at g d hx;generalize oA (0,0) p=q at h1 h2 hs e g;obtain⟨f,s⟩:=q;simp only at h1 h2 hs e g;refine aR func203 I ntmps203 I<|aj (.a 2 I<|.k [0,1] I)<|an ?_;have⟨m,b⟩:=dw (decide ((p.length:Int)<0));have⟨n,c⟩:=dw (decide ((p.length:Int)<(p.length:Int)));have t:m=false:=by rw[<-b];exact VA (by omega)
 have z2:n=false:=by rw[<-c];exact VA (by omega)
 subst t;subst z2;refine aj (.a 1 I<|.v (cT I (b)) I<|.a 4 I<|.v (aU I (hc:=(show(((p++[0,0]).length:Nat):Int) - 2=(p.length:Int) by rw[a];omega))) I<|.v (cT I (c)) I<|.a 1 I<|.k [0,1,19] I)<|ak I (λhc=>?_) (λhc=>?_)
 ·cases hc
 ·refine ao<|aK<|av 1 I<|br I I (VO (B6 (p++[0,0]) (by omega) []) (λ_ σ' h=>?_));obtain⟨rfl,rfl⟩:=h;refine av 1 I<|aF [0,1,6] I ?_;refine dY (σ':=[some (.row 5 1 (p++[0,0]).length (ei (p++[0,0])))]) I<|aK<|av 4 I<|aZ (aU I) I<|aZ (aX (p.length) I) I<|bw (nH I (VJ I) I I I (by simp)) I I<|aZ (aX (p.length+1) I) I<|bw (nH I (VJ I) I I I (by simp)) I I<|aF [0,1,6] I ?_;refine dY (σ':=[some (.row 5 1 (p++[0,0]).length (ei (p++[0,0])))]) (by show [some (cj.row _ 1 _ (ei (((p++[0,0]).set p.length 0).set (p.length+1) 0)))]=_;rw[j,k])<|aj (.a 1 I<|.v (tY I (Vp (Yw rfl W9) Wg) (hs)) I<|.a 5 I<|.k [0,1,6,7,8] I)<|aj (.a 3 I<|.v (aU I) I<|.v (aU I (hc:=(show(((p++[0,0]).length:Nat):Int) - (p.length:Int) - 1=1 by rw[a];omega))) I<|.c rfl (lA 1 (by omega)) I<|.a 1 I<|.k [1,6,7,8,9] I)<|aj (.a 2 I<|.v (aU I (hc:=(show(1:Int)*(f:Int)=(f:Int) by omega))) I<|.a 1 I<|.v (aU I) I<|.c rfl (lA ((f:Int) - (((s+2*f) % 255:Nat):Int)) (by omega)) I<|.a 1 I<|.k [1,6,7,10] I) ?_;have o:((f:Int) - (((s+2*f) % 255:Nat):Int)) % 255=(X:Int):=by omega
  rw[o];have r:(-(f:Int) - (X:Int)) % 255=(Y:Int):=by omega
  have i:=lA (-(f:Int) - (X:Int)) (by omega);rw[r]at i;refine aK<|av 4 I<|aZ (aU I) I<|av 1 I<|aZ (eE I Tryz.underlying3 Tryz.underlying5 rfl (sf _ (by omega))) I<|av 1 I<|aZ (SV I I I (by unfold In64;omega)) I<|av 1 I<|aZ (aU I) I<|fW I (i) I<|aZ (eE I Tryz.underlying3 Tryz.underlying5 rfl (sf _ (by omega))) I<|aZ (aX (p.length) I) I<|bw (nH I (VJ I) I I I (by simp)) I I<|aZ (aX (p.length+1) I) I<|bw (nH I (VJ I) I I I (by simp)) I I<|aF [6] I ?_;exact aj (.a 3 I<|.k [4,5] I)<|aA<|jF I (Yi (Vp (Yw rfl W9) W9)) (by rw[d,a,<-yh p];rfl)
open Net iF
def yV(L:List Bool):Option cj:=some (.row 4 1 L.length (aT L))
end
section
open Go.RowKit cm Mem Net
theorem aD.Sq{P f ps σ}{R:PV->Prop}(h:Can P f ps R)[aM ps]:aD P f ps σ (λr σ'=>R r/\σ'=σ):=λF base E w vs a d=>by
 refine(h E.M w vs (λb hb=>a.lt hb) a.gl (d.pure (λ_ h=>h))).mono ?_;rintro e w' ⟨v,rfl,c,r,hr,hv⟩;exact⟨v,r,σ,E,rfl,⟨hr,rfl⟩,a.ext c,.ext c,Zz c a,hv.back⟩
section
variable {T:aw} {D:List Bool} {d:Nat}
structure Dg (T:aw) (D:List Bool) (d:Nat) (O:List Int):Prop where
 nodup:O.Nodup
 mem:∀x,x∈O↔∃k:Nat,x=(k:Int)/\(k:Int)<T.nodes/\0<=dN T D d k
 pair:O.Pairwise λx y=>dN T D d y.toNat<=dN T D d x.toNat
theorem Dg.of(hv:aH T=true)(hd:(d:Int)<T.nodes){O:List Int}(h1:O.Perm (sK (bN T D d false) (bN T D d false).length))(h2:O.Pairwise (wU (bN T D d false))):Dg T D d O:=by
 obtain⟨c,_⟩:=fi (D:=D) hv (dir:=false) hd;refine⟨h1.nodup_iff.2 (DT _ _),λx=>?_,h2.imp λ{x y} h=>?_⟩
 ·rw[h1.mem_iff,By];constructor
  ·rintro⟨k,e,b,a⟩;exact⟨k,e,by omega,a⟩
  ·rintro⟨k,e,b,a⟩;exact⟨k,e,by omega,a⟩
 ·unfold wU at h;show(bN T D d false).getD _ 0<=(bN T D d false).getD _ 0;omega
noncomputable def od(T:aw)(D:List Bool)(d:Nat)(c:Int)(l:List Int):Int:=l.foldl (λc a=>min 2 (c+eQ T D d (bx T a.toNat).toNat)) c
structure sv (T:aw) (D:List Bool) (d:Nat) (R cs:List Int) (i:Nat):Prop where
 len:(cs.length:Int)=T.nodes
 val:∀m:Nat,(m:Int)<T.nodes->cs.getD m 0=if m=d then 1 else if(m:Int)∈R.take i then eQ T D d m else 0
theorem sv.start(hd:(d:Int)<T.nodes)(R:List Int):sv T D d R ((List.replicate T.nodes.toNat 0).set d 1) 0:=by
 refine⟨by simp;omega,λm hm=>?_⟩;rw[Qo,VV];by_cases h:d=m
 ·subst h;rw[Vn rfl,Vn (by simp;omega),Vn rfl];rfl
 ·rw[Vk h,Vk (λe=>h e.symm),Wx,Vn (by omega)];rfl
theorem sv.next(hv:aH T=true)(hd:(d:Int)<T.nodes){O cs:List Int}{i m a y:Nat}(o:Dg T D d O)(h:sv T D d O.reverse cs i)(hi:i<O.reverse.length)(hm:O.reverse.getD i 0=(m:Int))(ha:(a:Int)∈cA T D m d)(hy:bx T a=(y:Int)):cs.getD y 0=eQ T D d y/\y≠m/\(y:Int)<T.nodes:=by
 obtain⟨b,hb,hn⟩:=gW ha;have k:b=a:=by omega
 subst k;obtain⟨f,p,c⟩:=fJ hv hn.nu;have:f=y:=by omega
 subst this;have l:=hn.dN hy;have hc:=(bz hv).cost b hn.nu;refine⟨?_,λe=>by subst e;omega,c⟩;rw[h.val f c];by_cases j:f=d
 ·subst j;rw[Vn rfl,rh]
 ·rw[Vk j,Vn ?_];have g:(f:Int)∈O.reverse:=Y4.2 ((o.mem _).2 ⟨f,rfl,c,l.1⟩);have hs:O.reverse=O.reverse.take i++(m:Int)::O.reverse.drop (i+1):=by rw[<-hm,<-drop_cons _ _ hi,X1]
  have hp:O.reverse.Pairwise λx y=>dN T D d x.toNat<=dN T D d y.toNat:=List.pairwise_reverse.2 o.pair;rw[hs]at hp g;rcases W5.1 g with h1|h1
  ·exact h1
  ·exfalso;have n:=(List.pairwise_append.1 hp).2.1;rcases V9.1 h1 with h2|h2
   ·have:f=m:=by omega
    subst this;omega
   ·have:=(List.pairwise_cons.1 n).1 _ h2;simp only[Vi]at this;omega
theorem sv.fresh{O cs:List Int}{i m:Nat}(g:Dg T D d O)(h:sv T D d O.reverse cs i)(hi:i<O.reverse.length)(hm:O.reverse.getD i 0=(m:Int)):(m:Int)<T.nodes/\0<=dN T D d m/\cs.getD m 0=if m=d then 1 else 0:=by
 have f:(m:Int)∈O.reverse:=by rw[<-hm];exact b9 hi
 obtain⟨k,hk,a,c⟩:=(g.mem _).1 (Y4.1 f);have:k=m:=by omega
 subst this;refine⟨a,c,?_⟩;rw[h.val k a];have hs:O.reverse=O.reverse.take i++(k:Int)::O.reverse.drop (i+1):=by rw[<-hm,<-drop_cons _ _ hi,X1]
 have hn:O.reverse.Nodup:=List.pairwise_reverse.2 (g.nodup.imp λh=>λe=>h e.symm);rw[hs]at hn;have b:¬(k:Int)∈O.reverse.take i:=λh1=>(List.pairwise_append.1 hn).2.2 _ h1 (k:Int) (by simp) I;rw[Vk b]
theorem sv.step(hv:aH T=true)(hd:(d:Int)<T.nodes){O cs:List Int}{i m:Nat}(j:Dg T D d O)(h:sv T D d O.reverse cs i)(hi:i<O.reverse.length)(hm:O.reverse.getD i 0=(m:Int)):sv T D d O.reverse (cs.set m (od T D d (cs.getD m 0) (cA T D m d))) (i+1):=by
 obtain⟨f,_,k⟩:=h.fresh j hi hm;have g:m<cs.length:=by have:=h.len;omega
 refine⟨by simpa using h.len,λx hx=>?_⟩;rw[Qo,VV,cL _ _ 0 hi,hm];by_cases c:m=x
 ·subst c;rw[Vn rfl,Vn g,WH,k];by_cases a:m=d
  ·subst a;rw[Vn rfl,Vn rfl,sO];rfl
  ·rw[Vk a,Vk a,Vn (by simp),uQ hv hd f a];rfl
 ·rw[Vk c,<-Qo,h.val x hx];by_cases b:x=d
  ·rw[Vn b,Vn b]
  ·rw[Vk b,Vk b];have:(x:Int)∈O.reverse.take i++[(m:Int)]↔(x:Int)∈O.reverse.take i:=by
    simp only[W5,WW];exact⟨λh=>h.elim id (λe=>absurd e (by omega)),.inl⟩
   by_cases h1:(x:Int)∈O.reverse.take i
   ·rw[Vn h1,Vn (this.2 h1)]
   ·rw[Vk h1,Vk (λh2=>h1 (this.1 h2))]
theorem sv.done(hv:aH T=true)(hd:(d:Int)<T.nodes){O cs:List Int}{n:Nat}(b:Dg T D d O)(h:sv T D d O.reverse cs O.reverse.length)(hn:(n:Int)<T.nodes):cs.getD n 0=eQ T D d n:=by
 rw[h.val n hn,VN];by_cases a:n=d
 ·subst a;rw[Vn rfl,rh]
 ·rw[Vk a];by_cases h1:(n:Int)∈O.reverse
  ·rw[Vn h1]
  ·rw[Vk h1];refine(Fp hv hd hn (Int.not_le.1 λh0=>h1 (Y4.2 ((b.mem _).2 ⟨n,rfl,hn,h0⟩)))).symm
theorem DL(c:Int):od T D d c []=c:=rfl
theorem DK(c:Int)(l:List Int)(k a:Nat)(hk:k<l.length)(ha:l.getD k 0=(a:Int)):od T D d c (l.take (k+1))=min 2 (od T D d c (l.take k)+eQ T D d (bx T a).toNat):=by
 unfold od;rw[cL _ _ 0 hk,Zm,ha]
 rfl
theorem Bp(hv:aH T=true)(hd:(d:Int)<T.nodes)(c:Int)(h0:0<=c)(h2:c<=2)(l:List Int):0<=od T D d c l/\od T D d c l<=2:=rp _ (λa=>(nz hv hd _).1) l c h0 h2
theorem L1(cs:List Int)(m:Nat)(hm:m<cs.length):cs.set m (cs.getD m 0)=cs:=by
 rw[Qo,Vm hm,WH,Y1]
end
def QW(T:aw)(D:List Bool)(n d:Int)(c:Int):PV:=.tuple [num (if c9 T D n d=0 then c else 0),num (c9 T D n d)]
theorem GC(T:aw)(D:List Bool)(n d:Int)(aa:T.nodes<=12):Can prog 169 [bu T,aY D,num n,num d,num 2] (· =QW T D n d (eQ T D d.toNat n.toNat)):=by
 refine aR func169 I ntmps169 I<|aj (.a 3 I<|.k [1,2,3,4,5] I)<|aj (.a 4 I<|.c rfl (w9 T D n d) I<|.a 5 I<|.k [1,2,3,4,5,12,13] I)<|an<|aj (.a 2 I<|.k [1,2,3,4,5,12,13,31] I)<|ak I (λhc=>?_) (λhc=>?_)
 ·have he:c9 T D n d≠0:=tt hc;exact aj (.a 3 I<|.k [10,11] I)<|aA<|jF I aQ.pure (by unfold QW;rw[Vk he];rfl)
 ·have he:c9 T D n d=0:=VQ (ff hc);rw[he];obtain⟨hv,hf,hn,hd⟩:=iZ he;rw[bY]at hn hd;obtain⟨n,rfl⟩:=Vo hn.1;obtain⟨d,rfl⟩:=Vo hd.1;have hn:=hn.2;have hd:=hd.2;have ad:=dy hv;have hS:=bz hv;obtain⟨J,K⟩:=fi (D:=D) hv (dir:=false) hd;obtain⟨N,hN⟩:∃N:Nat,T.nodes=(N:Int):=⟨T.nodes.toNat,by omega⟩;have G:T.nodes.toNat=N:=by omega
  refine ao<|an<|aj (.a 2 I<|.k [1,2,3,4,5,12,34] I)<|ak I (λhc=>?_) (λhc=>?_)
  ·cases hc
  ·refine ao<|aj (.a 1 I<|.c rfl (o3 T hv) I<|.a 1 I<|.k [1,2,3,4,5,12,14] I)<|aK<|av 2 I<|bW (eJ I (VW I) I I hN hN ⟨by unfold maxLen;omega,by omega⟩) I<|av 1 I<|aF [1,2,3,4,5,12,14,15] I ?_;refine dY (σ':=[gL (List.replicate N 0)]) (by unfold gL;rw[WX,<-dJ];rfl)<|aK<|av 3 I<|aZ (wh (c:=1) I I I I) I<|aZ (aX (d) I (by omega) (by rw[WX];omega)) I<|bw (cK I (VJ I) I I I (by first|omega|(simp;omega))) I I<|aF [1,2,3,4,5,12,14,15] I ?_;refine dY (σ':=[gL ((List.replicate T.nodes.toNat 0).set d 1)]) ?_ ?_
   ·rw[G];unfold gL;simp only[VK,WX];rfl
   have s:=sv.start (D:=D) hd;generalize (List.replicate T.nodes.toNat (0:Int)).set d 1=j at s;refine aK<|av 1 I<|br I I (VO (EO (bN T D d false) j (by omega)) (λ_ σ' h=>?_));obtain⟨O,u,H,rfl,rfl⟩:=h;refine av 1 I<|aF [1,2,3,4,5,12,14,15,16] I ?_;have t:=Dg.of hv hd u H;have v:O.length<=12:=by have:=u.length_eq;have:=Bx (bN T D d false) (bN T D d false).length;omega
   refine aK<|av 1 I<|br I I (VO (Cw O (gL j) v) (λ_ σ' h=>?_));subst h;refine aF [1,2,3,4,5,12,14,15,16] I<|an<|aj (.a 3 I<|.k [1,2,3,4,5,12,14,15,49,50,51] I)<|ay<|eX [1,2,3,4,5,12,14,15,49,50,51] I<|bq (λr st=>∃(cs:List Int) (i:Nat),i<=O.reverse.length/\r=O.reverse.length - i/\sv T D d O.reverse cs i/\st=⟨[(1,aY D),(2,num n),(3,num d),(4,num 2),(5,.cH (bJ T) 0),(12,bm (bN T D d false)),(14,mS (ep (bI T) T.nodes.toNat (2*T.ah.length))),(15,.own 0),(49,.own 1),(50,num O.reverse.length),(51,num i)],[gL cs,gL O.reverse]⟩) O.reverse.length ⟨j,0,by omega,by omega,s _,rfl⟩ ?_;rintro r st ⟨cs,i,hi,rfl,q,rfl⟩;have ab:O.reverse.length<=12:=by simpa using v
   refine aj (.a 1 I<|.k [1,2,3,4,5,12,14,15,49,50,51,52] I)<|an<|ak I (λhx=>?_) (λhx=>?_)
   ·have hlt:i<O.reverse.length:=by have:=tt hx;omega
    obtain⟨m,hm⟩:∃m:Nat,O.reverse.getD i 0=(m:Int):=by
     obtain⟨k,hk,_⟩:=(t.mem _).1 (Y4.1 (b9 (d:=0) hlt));exact⟨k,hk⟩
    obtain⟨V,ae,P⟩:=q.fresh t hlt hm;have L:=q.len;have C:=CD T m (by omega);have l:=xa T D (bN T D d false) (cw T m) m d hv hf J K V hd (λa ha=>mM ha) (VL (fK T m _) (by omega));have l:Can prog 78 [bu T,aY D,bm (bN T D d false),bm (cw T m),num m,num d] (· =bm (cA T D m d)):=l;have af:(cA T D m d).length<=512:=by
     have h1:(cA T D m d).length<=(cw T m).length:=by unfold cA lT;split;simp;exact Wl _ _
     exact VL h1 (VL (fK T m _) (by omega))
    have E:=L1 cs m (by omega);have x:0<=cs.getD m 0/\cs.getD m 0<=2:=by rw[P];split<;>omega
    refine ao<|an<|ay<|aj (.v (aX (i) I) I<|.v (aO I ((aS _ i hlt).trans (by rw[hm]))) I<|.a 1 I<|.k [1,2,3,4,5,12,14,15,18,49,50,51] I)<|ev mixed (by kernel_rfl) (.a 5 I<|.v [58,59] (aX (m) I (by omega) (by rw[gv];omega)) I I<|.v [60] (aO I ((yb _ m (by rw[gv];omega)).trans (by rw[C]))) I I<|.a 2 I<|.v [55,56,57,61,62,63] (dW I (l)) I I<|.a 2 I<|.k [1,2,3,4,5,12,14,15,18,49,50,51,64,65,66] I) ?_;refine ay<|eX [1,2,3,4,5,12,14,15,18,49,50,51,64,65,66] I<|bq (λr st=>∃k:Nat,k<=(cA T D m d).length/\r=(cA T D m d).length - k/\st=⟨[(1,aY D),(2,num n),(3,num d),(4,num 2),(5,.cH (bJ T) 0),(12,bm (bN T D d false)),(14,mS (ep (bI T) T.nodes.toNat (2*T.ah.length))),(15,.own 0),(18,num m),(49,.own 1),(50,num O.reverse.length),(51,num i),(64,bm (cA T D m d)),(65,num (cA T D m d).length),(66,num k)],[gL (cs.set m (od T D d (cs.getD m 0) ((cA T D m d).take k))),gL O.reverse]⟩) (cA T D m d).length ⟨0,by omega,by omega,by rw[List.take_zero,DL,E];rfl⟩ ?_;rintro r st ⟨k,hk,rfl,rfl⟩;have Q:=Bp (D:=D) hv hd (cs.getD m 0) x.1 x.2 ((cA T D m d).take k);have b:=DK (T:=T) (D:=D) (d:=d) (cs.getD m 0) (cA T D m d) k;generalize g:od T D d (cs.getD m 0) ((cA T D m d).take k)=c at Q b;refine aj (.a 1 I<|.k [1,2,3,4,5,12,14,15,18,49,50,51,64,65,66,67] I)<|an<|ak I (λhy=>?_) (λhy=>?_)
    ·have f:k<(cA T D m d).length:=by have:=tt hy;omega
     obtain⟨a,ha,w⟩:=gW (b9 (d:=0) f);have A:(a:Int)∈cA T D m d:=by rw[<-ha];exact b9 f
     obtain⟨y,p,ag⟩:=fJ hv w.nu;obtain⟨M,W,_⟩:=q.next hv hd t hlt hm A p;have Z:=jq T a w.nu (by omega);rw[p]at Z;have Y:=nz (D:=D) hv hd y;have R:(cs.set m c).getD y 0=eQ T D d y:=by rw[<-M,Qo,VV,Vk (λe=>W e.symm),<-Qo]
     have z:(cs.set m c).getD m 0=c:=by rw[Qo,VV,Vn rfl,Vn (by omega)];rfl
     have b:=b a f ha;rw[p,Vi]at b;refine ao<|an<|ay<|aj (.v (aX (k) I) I<|.v (aO I ((aS _ k f).trans (by rw[ha]))) I<|.a 1 I<|.k [1,2,3,4,5,12,14,15,18,20,49,50,51,64,65,66] I)<|aj (.a 3 I<|.c rfl (Z) I<|.v (aX (y) I (by omega) (by simp only[VK];omega)) I<|.v (aO I ((aS _ y (by simp only[VK];omega)).trans (by rw[R]))) I<|.a 1 I<|.k [1,2,3,4,5,12,14,15,18,21,49,50,51,64,65,66] I)<|aj (.a 4 I<|.v (aX (m) I (by omega) (by simp only[VK];omega)) I<|.v (aO I ((aS _ m (by simp only[VK];omega)).trans (by rw[z]))) I<|.v (aU I) I<|.a 1 I<|.k [1,2,3,4,5,12,14,15,18,21,49,50,51,64,65,66,83] I)<|ak I (λX=>?_) (λX=>?_)
     ·have o:od T D d (cs.getD m 0) ((cA T D m d).take (k+1))=2:=by have:=tt X;omega
      refine bp<|av 3 I<|aZ (aX (m) I (by omega) (by simp only[VK];omega)) I<|bw (cK I (VJ I) I I I (by first|omega|(simp;omega))) I I<|aF [1,2,3,4,5,12,14,15,18,49,50,51,64,65,66] I ?_;refine aL (.v (aU I) I<|.a 1 I<|.k [1,2,3,4,5,12,14,15,18,49,50,51,64,65,66] I)<|⟨(cA T D m d).length - (k+1),by omega,k+1,by omega,rfl,?_⟩;rw[o];unfold gL;simp only[VK,Zx]
      rfl
     ·have o:od T D d (cs.getD m 0) ((cA T D m d).take (k+1))=c+eQ T D d y:=by have:=ff X;omega
      refine bp<|av 2 I<|aZ (aX (m) I (by omega) (by simp only[VK];omega)) I<|aZ (aO I ((aS _ m (by simp only[VK];omega)).trans (by rw[z]))) I<|av 1 I<|aZ (aU I) I<|aZ (aX (m) I (by omega) (by simp only[VK];omega)) I<|bw (cK I (VJ I) I I I (by first|omega|(simp;omega))) I I<|aF [1,2,3,4,5,12,14,15,18,49,50,51,64,65,66] I ?_;refine aL (.v (aU I) I<|.a 1 I<|.k [1,2,3,4,5,12,14,15,18,49,50,51,64,65,66] I)<|⟨(cA T D m d).length - (k+1),by omega,k+1,by omega,rfl,?_⟩;rw[o];unfold gL;simp only[VK,Zx]
      rfl
    ·have U:k=(cA T D m d).length:=by have:=ff hy;omega
     refine bh<|aL (.v (aU I) I<|.a 1 I<|.k [1,2,3,4,5,12,14,15,49,50,51] I) ?_;have F:=q.step hv hd t hlt hm;rw[U,VN]at g;exact⟨O.reverse.length - (i+1),by omega,cs.set m (od T D d (cs.getD m 0) (cA T D m d)),i+1,by omega,rfl,F,by rw[g];rfl⟩
   ·have S:i=O.reverse.length:=by have:=ff hx;omega
    subst S;have B:=q.done hv hd t hn;have L:=q.len;exact bh<|aj (.a 2 I<|.v (aX (n) I) I<|.v (aO I ((aS cs n (by omega)).trans (by rw[B]))) I<|.a 2 I<|.k [10,11] I)<|aA<|jF I aQ.pure (by unfold QW;rw[he,Vn rfl];rfl)
theorem GA(T:aw)(D:List Bool)(n d:Int):iD T D n d=(decide (c9 T D n d=0)&&decide ((if c9 T D n d=0 then eQ T D d.toNat n.toNat else 0)=1)):=by
 unfold iD;by_cases h:c9 T D n d=0
 ·rw[Vn h]
 ·simp[h]
theorem vZ(T:aw)(D:List Bool)(n d:Int)(c:T.nodes<=12):Can prog 125 [bu T,aY D,num n,num d] (· =flag (iD T D n d)):=by
 rw[GA];have⟨e,a⟩:=dw (decide (c9 T D n d=0));have⟨f,b⟩:=dw (decide ((if c9 T D n d=0 then eQ T D d.toNat n.toNat else 0)=1));rw[a,b];refine aR func125 I ntmps125 I<|aj (.a 2 I<|.k [1,2,3,4] I)<|aj (.a 4 I<|.c rfl (GC T D n d c) I<|.a 5 I<|.k [9,10] I)<|cD 8 (.raw (.bool (e&&f))) [] I ?_ ?_
 ·refine .a 1 I<|.v (cT I (a)) I<|.a 1 I<|?_;cases e
  ·exact .a 4 I<|.k [8] I
  ·exact .a 1 I<|.v (cT I (b)) I<|.a 2 I<|.k [8] I
 exact aA<|jF I aQ.pure rfl
structure Qz (L out:List Int) (i:Nat) (b:Int):Prop where
 none:b<0->∀k:Nat,k<i->0<=L.getD k 0->(k:Int)∈out
 some:∀n:Nat,b=(n:Int)->n<i/\0<=L.getD n 0/\¬(n:Int)∈out/\∀k:Nat,k<i->0<=L.getD k 0->¬(k:Int)∈out->L.getD k 0<=L.getD n 0
theorem Qz.no{L out:List Int}{i:Nat}{b:Int}(h:Qz L out i b)(h1:¬(0<=L.getD i 0/\¬(i:Int)∈out/\(b<0\/∃n:Nat,b=(n:Int)/\L.getD n 0<L.getD i 0))):Qz L out (i+1) b:=by
 refine⟨λhb k hk a=>?_,λn hn=>?_⟩
 ·by_cases c:k=i
  ·subst c;exact VQ λho=>h1 ⟨a,ho,.inl hb⟩
  ·exact h.none hb k (by omega) a
 ·obtain⟨e,a2,a3,a4⟩:=h.some n hn;refine⟨by omega,a2,a3,λk hk a d=>?_⟩;by_cases c:k=i
  ·subst c;exact Int.not_lt.1 λhl=>h1 ⟨a,d,.inr ⟨n,hn,hl⟩⟩
  ·exact a4 k (by omega) a d
structure Part (L out:List Int):Prop where
 nodup:out.Nodup
 mem:∀x∈out,∃k:Nat,x=(k:Int)/\k<L.length/\0<=L.getD k 0
 pair:out.Pairwise λx y=>L.getD y.toNat 0<=L.getD x.toNat 0
 rest:∀x∈out,∀k:Nat,k<L.length->0<=L.getD k 0->¬(k:Int)∈out->L.getD k 0<=L.getD x.toNat 0
theorem Part.len{L out:List Int}(h:Part L out):out.length<=L.length:=by
 have h1:=vo L.length (out.map Int.toNat) (by
  unfold List.Nodup;rw[WO];refine X9 ?_ h.nodup;intro a b ha hb c e;obtain⟨k,rfl,_⟩:=h.mem a ha;obtain⟨d,rfl,_⟩:=h.mem b hb;simp only[Vi]at e;exact c (by rw[e])) (λx hx=>by
  obtain⟨y,hy,rfl⟩:=Vv.1 hx;obtain⟨k,rfl,hk,_⟩:=h.mem y hy;simpa using hk)
 simpa using h1
theorem Oh:qd prog 170=some (3,49):=by kernel_rfl
theorem Oi:qd prog 171=some (40,4):=by kernel_rfl
theorem TE:MV prog 49=some (.slice none 0 0):=by kernel_rfl
theorem TZ:MV prog 4=some (.bool false):=by kernel_rfl
theorem Uv:r8 prog 49=true:=by kernel_rfl
abbrev encI(n:Int):Value:=.int .i64 n
abbrev NB(p:Int×Int):Value:=.agg (tE p)
theorem N4:jK prog 3 encI:=Kz Tryz.underlying3
theorem N5:jK prog 40 NB:=by
 have h:(prog.info? 3).map (·.size)=some 1:=by kernel_rfl
 obtain⟨i,h1,h2⟩:=Vr.1 h;exact OJ Tryz.underlying40 Tryz.underlying3 h1 h2
theorem JB(a b:Int):prog.built 40 [(0,.int .i64 a),(1,.int .i64 b)]=some #[.int .i64 a,.int .i64 b]:=by kernel_rfl
theorem MH{P:Program}{σ t}{o:Oper}{ty x y}{a b:Int}(ho:o.op= .build ty #[(0,x),(1,y)])(hx:aI t x=some (num a))(hy:aI t y=some (num b))(hb:P.built ty [(0,.int .i64 a),(1,.int .i64 b)]=some #[.int .i64 a,.int .i64 b]):bE P σ t o (.agg [num a,num b]):=by
 intro F base E ρ w e f hT;have d:=run_build (P:=P) w ty #[(0,.int .i64 a),(1,.int .i64 b)] #[.int .i64 a,.int .i64 b] hb;have h0:ρ x= .int .i64 a:=dt (aB e hT hx);have h1:ρ y= .int .i64 b:=dt (aB e hT hy);have hr:(execOp ρ o).run P w= .ok (.value (.agg #[.int .i64 a,.int .i64 b])) w:=by
  simp only[execOp,ho,Sem.run_bind,XF,VX,Xw,h0,h1,d,Result.andThen_ok,Sem.run_pure]
 rw[hr];refine bA (.agg #[.int .i64 a,.int .i64 b] _ rfl (λi x u k1 c=>?_))
 match i,k1,c with
 |0,k1,c=>simp at k1 c;subst k1;subst c;exact .raw _
 |1,k1,c=>simp at k1 c;subst k1;subst c;exact .raw _
 |_+2,k1,c=>simp at c
section
variable {κ:Type} [DecidableEq κ]
theorem xz(k:κ)(p:PV):∀l:List (κ×PV),cQ k (ir k p l)=some p
 | []=>by simp[ir,cQ]
 |(a,q)::l=>by
  unfold ir;split
  ·rename_i h;simp[cQ,h]
  ·rename_i h;simp only[cQ,Vk h];exact xz k p l
theorem ME{P σ t}{o:Oper}{x y ty a}{m:Option PV}(ho:o.op= .binOp .eql ty x y a)(hk:r8 P ty=true)(hx:aI t x=some (m.getD (.raw (.slice none 0 0))))(hy:aI t y=some (.raw (.slice none 0 0)))(hm:∀v,m=some v->∃n xs,v= .slice n xs/\0<n):bE P σ t o (.raw (.bool m.isNone)):=by
 cases m with
 |none=>exact PC ho hk hx hy
 |some v=>
  obtain⟨n,xs,rfl,hn⟩:=hm v rfl;exact mZ ho hk hx hy hn
end
def mj(T:aw)(D:List Bool)(dm:List (Int×PV)):Prop:=∀k v,(k,v)∈dm->∃d:Nat,k=(d:Int)/\(d:Int)<T.nodes/\v=bm (bN T D d false)
def np(T:aw)(D:List Bool)(um:List ((Int×Int)×PV)):Prop:=∀k v,(k,v)∈um->v=flag (iD T D k.1 k.2)
theorem mj.pure{T D}{dm:List (Int×PV)}(h:mj T D dm):nZ (some (.mp (bD encI dm))):=λb hb=>by
 cases hb;refine⟨λi u hu=>?_⟩;have hm:=VE hu;simp only[bD,V7,Vv,Function.comp]at hm;obtain⟨⟨k,v⟩,a,rfl⟩:=hm;obtain⟨d,_,_,hv⟩:=h k v a;show IsPure v;rw[hv]
 infer_instance
abbrev ZC:=@mj.pure
theorem np.pure{T D}{um:List ((Int×Int)×PV)}(h:np T D um):nZ (some (.mp (bD NB um))):=λb hb=>by
 cases hb;refine⟨λi u hu=>?_⟩;have hm:=VE hu;simp only[bD,V7,Vv,Function.comp]at hm;obtain⟨⟨k,v⟩,a,rfl⟩:=hm;show IsPure v;rw[h k v a]
 infer_instance
abbrev ZD:=@np.pure
theorem mj.set{T:aw}{D}{dm:List (Int×PV)}(h:mj T D dm){d:Nat}(hd:(d:Int)<T.nodes):mj T D (ir (d:Int) (bm (bN T D d false)) dm):=λk v hk=>by
 rcases vl hk with e|e
 ·cases e;exact⟨d,rfl,hd,rfl⟩
 ·exact h k v e
theorem np.set{T D}{um:List ((Int×Int)×PV)}(h:np T D um)(a b:Int):np T D (ir (a,b) (flag (iD T D a b)) um):=λk v hk=>by
 rcases vl hk with e|e
 ·cases e;rfl
 ·exact h k v e
theorem mj.look{T D}{dm:List (Int×PV)}(h:mj T D dm){d:Nat}{v}(hl:cQ (d:Int) dm=some v):v=bm (bN T D d false):=by
 obtain⟨a,h1,_,h2⟩:=h _ _ (mH hl);have:a=d:=by omega
 subst this;exact h2
def zF(T:aw)(n:Int)(p:List Int):List Int:=n::p.map λa=>bx T a.toNat
def zc(T:aw)(p:List Int):List Int:=(List.range (p.length+1)).map λi=>dU T (p.take i)
theorem zH(T:aw)(n:Int)(p:List Int):(zF T n p).length=p.length+1:=by simp[zF]
theorem Ft(T:aw)(p:List Int):(zc T p).length=p.length+1:=by simp[zc]
theorem K9(T:aw)(n:Int)(p:List Int)(k:Nat)(h:k<p.length):zF T n (p.take (k+1))=zF T n (p.take k)++[bx T (p.getD k 0).toNat]:=by
 rw[cL p k 0 h];simp[zF]
theorem JN(T:aw)(p:List Int)(k:Nat)(h:k<p.length):zc T (p.take (k+1))=zc T (p.take k)++[dU T (p.take (k+1))]:=by
 unfold zc;rw[show(p.take (k+1)).length+1=(p.take k).length+1+1 by simp;omega,WM,Wu];congr 1
 ·refine Wh λi hi=>?_;have:=VP.1 hi;rw[XU,XU,Xe (by simp at this;omega),Xe (by simp at this;omega)]
 ·simp only[VX,Xw,XU];rw[Xe (by simp;omega),show(p.take k).length+1=k+1 by simp;omega]
theorem zG(T:aw)(n:Int)(p:List Int)(i:Nat)(h:i<=p.length):(zF T n p).getD i 0=dB T n (p.take i):=by
 cases i with
 |zero=>rfl
 |succ i=>
  rw[kL T n p i (by omega)];simp only[zF,YG];rw[Qo,Vt,Vm (by omega),Qo,Vm (by omega)]
  rfl
theorem Fs(T:aw)(p:List Int)(i:Nat)(h:i<=p.length):(zc T p).getD i 0=dU T (p.take i):=by
 unfold zc;rw[Qo,Vt,YH (by omega)]
 rfl
def ig(T:aw)(D:List Bool)(n:Int)(p:List Int):Int:=if(aH T&&cf T D)=true then(if gZ T n p=0 then(if p.any (λa=>bO D a.toNat) then 7 else 0) else gZ T n p) else 1
abbrev TD(T:aw)(D:List Bool)(p:List Int)(i:Nat):Option cj:=some (.cells 173 (bJ T++[aY D,bm p,.own i,.own (i+1),.own (i+2),.own (i+3)]))
def IM(T:aw)(D:List Bool)(p a cs:List Int)(dm:List (Int×PV))(um:List ((Int×Int)×PV)):bH:=
 [gL a,gL cs,some (.mp (bD encI dm)),some (.mp (bD NB um)),TD T D p 0]
theorem pY{T}:∀ {f} {n:Int} {l:List Int},fA T f n l=0->∀a∈l,jE T a=true
 |f,n,[],_,a,ha=>by cases ha
 |f,n,b::l,h,a,ha=>by
  simp only[fA]at h;split at h
  ·omega
  ·split at h
   ·omega
   ·rename_i h1 _;rcases V9.1 ha with rfl|ha
    ·simpa using h1
    ·exact pY h a ha
theorem qI{T}{n:Int}{p:List Int}(h:gZ T n p=0):aH T=true/\bZ T n=true/\fA T true n p=0:=by
 unfold gZ at h;split at h
 ·rename_i h1;split at h
  ·rename_i h2;exact⟨h1,h2,h⟩
  ·omega
 ·omega
theorem jZ{T}(hv:aH T=true){p:List Int}(ha:∀a∈p,jE T a=true):∀k,k<=p.length->0<=dU T (p.take k)/\dU T (p.take k)<=65535*k
 |0,_=>by simp[mr]
 |k+1,h=>by
  have:=jZ hv ha k (by omega);rw[qw T p k (by omega)];have:=(mo hv (ha _ (b9 (d:=0) (show k<p.length by omega)))).1;omega
theorem DM(T:aw)(D:List Bool)(p:List Int)(n:Int)(hp:p.length<=1000)(L:T.ah.length<=256):aD prog 83 [bu T,aY D,bm p,num n] [] (λr σ'=>(ig T D n p≠0/\r= .tuple [.raw (.pointer none),num (ig T D n p)])\/(ig T D n p=0/\r= .tuple [.ptr 4 0,num 0]/\σ'=IM T D p (zF T n p) (zc T p) [] [])):=by
 have⟨v,i⟩:=dw (aH T);have⟨B,j⟩:=dw (cf T D);refine aV func83 I ntmps83 I<|aj (.a 3 I<|.k [1,2,3,4] I)<|an<|cD 25 (.raw (.bool ((!v)|| !B))) [1,2,3,4] I ?_ ?_
 ·refine .a 1 I<|.c rfl (i▸gw T) I<|.a 2 I<|?_;cases v
  ·exact .a 5 I<|.k [25,1,2,3,4] I
  ·exact .a 2 I<|.c rfl (j▸rn T D (by omega)) I<|.a 2 I<|.k [25,1,2,3,4] I
 refine ak I (λhc=>?_) (λhc=>?_)
 ·have he:ig T D n p=1:=by unfold ig;rw[i,j];cases v<;>cases B<;>first|rfl|cases hc
  exact aj (.a 2 I<|.k [8,9] I)<|aA<|⟨_,V5 I,.inl ⟨by rw[he];decide,by rw[he];rfl⟩⟩
 ·have hv:aH T=true:=by rw[i];cases v;cases hc;rfl
  have C:cf T D=true:=by rw[j];cases B;cases v<;>cases hc;rfl
  have l:(aH T&&cf T D)=true:=by rw[hv,C];rfl
  refine ao<|an<|aj (.a 3 I<|.c rfl (Cg T n p (by omega)) I<|.a 7 I<|.k [1,2,3,4,12] I)<|aj (.a 2 I<|.k [1,2,3,4,12,35] I)<|ak I (λhx=>?_) (λhx=>?_)
  ·have hx1:gZ T n p≠0:=tt hx;have he:ig T D n p=gZ T n p:=by unfold ig;rw[Vn l,Vk hx1]
   exact aj (.a 3 I<|.k [8,9] I)<|aA<|⟨_,V5 I,.inl ⟨by rw[he];exact hx1,by rw[he];rfl⟩⟩
  ·have hx1:gZ T n p=0:=VQ (ff hx);obtain⟨_,hn,hw⟩:=qI hx1;have ha:=pY hw;have y:=jZ hv ha;refine ao<|aK<|av 4 I<|bW (nG (xs:=[_]) I (YC I) ⟨Wy rfl,Wy rfl⟩ rfl rfl) I<|bW (nG (xs:=[_]) I (YC I) ⟨Wy rfl,Wy rfl⟩ rfl rfl) I<|bW (mF encI rfl) I<|bW (mF NB rfl) I<|av 1 I<|bW (dv I I I) I<|av 1 I<|aF [1,2,4,13] I ?_;refine aj (.a 1 I<|.k [1,2,4,13,14] I)<|an<|aj (.a 3 I<|.k [1,4,13,14,47,48,49] I)<|ay<|eX [1,4,13,14,47,48,49] I<|bq (λr st=>∃k:Nat,k<=p.length/\r=p.length - k/\(∀a∈p.take k,bO D a.toNat=false)/\st=⟨[(1,aY D),(4,.cH (bJ T) 0),(13,.ptr 4 0),(14,num (dU T (p.take k))),(47,bm p),(48,num p.length),(49,num k)],IM T D p (zF T n (p.take k)) (zc T (p.take k)) [] []⟩) p.length ⟨0,by omega,by omega,by simp,rfl⟩ ?_;rintro r st ⟨k,hk,rfl,g,rfl⟩;have G:=y k hk;have H:=zH T n (p.take k);have J:=Ft T (p.take k);have K:(p.take k).length=k:=by simp;omega
   refine aj (.a 1 I<|.k [1,4,13,14,47,48,49,50] I)<|an<|ak I (λhy=>?_) (λhy=>?_)
   ·have hlt:k<p.length:=by have:=tt hy;omega
    have c:=b9 (d:=0) hlt;have o:=ha _ c;obtain⟨w,m,hm,M⟩:=mo hv o;have e:=K9 T n p k hlt;have u:=JN T p k hlt;have f:=qw T p k hlt;have q:=o;simp only[jE,VH]at q;obtain⟨a,b⟩:∃a:Nat,p.getD k 0=(a:Int):=⟨(p.getD k 0).toNat,by omega⟩;have s:a<2*T.ah.length:=by omega
    have F:D.length=0\/a<D.length:=by simp only[cf,VH]at C;omega
    rw[b,Vi]at hm w e f;have E:=jq T a s (by omega);rw[hm]at E;refine ao<|an<|ay<|aj (.v (aX (k) I) I<|.v (aO I ((aS p k hlt).trans (by rw[b]))) I<|.a 1 I<|.k [1,4,13,14,16,47,48,49] I)<|an<|aj (.a 2 I<|.c rfl (my D a F) I<|.k [1,4,13,14,16,47,48,49,55] I)<|ak I (λA=>?_) (λA=>?_)
    ·have he:ig T D n p=7:=by
      unfold ig;rw[Vn l,Vn hx1,Vn];exact Xo.2 ⟨_,c,by rw[b];exact A⟩
     exact aj (.a 2 I<|.k [8,9] I)<|aA<|⟨_,V5 I,.inl ⟨by rw[he];decide,by rw[he];rfl⟩⟩
    ·have t:∀a∈p.take (k+1),bO D a.toNat=false:=λx hx=>by
      rw[cL p k 0 hlt]at hx;rcases W5.1 hx with h|h
      ·exact g x h
      ·simp only[WW]at h;rw[h,b];exact A
     refine ao<|aj (.a 3 I<|.c rfl (mv T a s) I<|.v (aU I) I<|.a 1 I<|.k [1,4,13,14,16,47,48,49] I)<|lN 9 20 mixed (.late [13] I (o9 rfl rfl) inferInstance rfl rfl<|.val [13] I (aP I) I I<|.val [62] I (aP I) I I<|.val [63] I (aP I) I I<|.val [64] I (aP I) I I<|.val [4] I (aP I) I I<|.val [16] I (aP I) I I<|.val [66,67] I (dW I (E)) I I<|.val [68] I (aP I) I I<|.nil) (by kernel_rfl) I I (aJ (ks:=[1,4,13,14,47,48,49,61,65,69]) I) ?_;refine bW (bP I (VW I) I I I I (by unfold maxLen;omega)) I<|av 3 I ?_;refine ft [5,1,2,3,4] (.c 1<|.c 4<|.c 13<|.c 14<|.c 47<|.c 48<|.c 49<|.nil) (.kept rfl (.eZ rfl (ed _ _))<|.kept rfl (.row VT)<|.same (ZC (T:=T) (D:=D) (dm:=[]) (λ_ _ h=>by cases h)) I<|.same (ZD (T:=T) (D:=D) (um:=[]) (λ_ _ h=>by cases h)) I<|.kept rfl (.cells (WU<|WU<|WU<|WU<|WU<|WU<|WU<|WU<|WU<|Wp))<|.nil) I I (bM ?_);refine bp<|av 7 I<|bW (bP I (VW I) I I I I (by unfold maxLen;omega)) I<|av 3 I ?_;refine ft [0,5,2,3,4] (.c 1<|.c 4<|.c 13<|.c 14<|.c 47<|.c 48<|.c 49<|.nil) (.kept rfl (.row VT)<|.kept rfl (.eZ rfl (ed _ _))<|.same (ZC (T:=T) (D:=D) (dm:=[]) (λ_ _ h=>by cases h)) I<|.same (ZD (T:=T) (D:=D) (um:=[]) (λ_ _ h=>by cases h)) I<|.kept rfl (.cells (WU<|WU<|WU<|WU<|WU<|WU<|WU<|WU<|WU<|Wp))<|.nil) I I (bM ?_);refine aL (.v (aU I) I<|.a 1 I<|.k [1,4,13,14,47,48,49] I)<|⟨p.length - (k+1),by omega,k+1,by omega,rfl,t,?_⟩;rw[e,u,f,hm];unfold IM gL;simp only[Vu,VR]
     rfl
   ·have z:k=p.length:=by have:=ff hy;omega
    subst z;rw[VN]at g;refine bh<|aj (.a 3 I<|.k [8,9] I)<|aA<|⟨_,V5 I,.inr ⟨?_,rfl,by rw[VN]⟩⟩;unfold ig;rw[Vn l,Vn hx1,Vk];intro h;obtain⟨x,hx,hx2⟩:=Xo.1 h;rw[g x hx]at hx2;cases hx2
noncomputable def iH(T:aw)(D:List Bool)(n:Int)(p:List Int)(i j:Nat):Bool:=
 decide (dN T D (dB T n (p.take j)).toNat (dB T n (p.take i)).toNat=dU T (p.take j) - dU T (p.take i))&&iD T D (dB T n (p.take i)) (dB T n (p.take j))
theorem dx{T:aw}(hv:aH T=true){n:Int}(hn:bZ T n=true){p:List Int}(ha:∀a∈p,jE T a=true)(i:Nat)(hi:i<=p.length):∃u:Nat,dB T n (p.take i)=(u:Int)/\(u:Int)<T.nodes:=by
 cases i with
 |zero=>
  obtain⟨h0,h1⟩:=bY.1 hn;obtain⟨u,hu⟩:=Vo h0;exact⟨u,hu,by rw[<-hu];exact h1⟩
 |succ i=>
  rw[kL T n p i (by omega)];exact(mo hv (ha _ (b9 (d:=0) (show i<p.length by omega)))).2
theorem za{T:aw}{D}(hv:aH T=true)(a:cf T D=true){d:Nat}(hd:(d:Int)<T.nodes):dG T D [(d:Int)]=0:=by
 unfold dG;rw[hv,a];have:bZ T (d:Int)=true:=bY.2 ⟨by omega,hd⟩;simp[this]
theorem AZ(T:aw)(D:List Bool)(p:List Int)(n:Int)(dm:List (Int×PV))(um:List ((Int×Int)×PV))(x:Option cj)(hx:nZ x)(hv:aH T=true)(V:cf T D=true)(C:T.nodes<=12)(hn:bZ T n=true)(ha:∀a∈p,jE T a=true)(hp:p.length<=1000)(i j:Nat)(hi:i<=p.length)(hj:j<=p.length)(s:mj T D dm)(f:np T D um):
    aD prog 84 [.ptr 4 0,num i,num j] (IM T D p (zF T n p) (zc T p) dm um++[x]) (λr σ'=>r=flag (iH T D n p i j)/\∃B K,mj T D B/\np T D K/\σ'=IM T D p (zF T n p) (zc T p) B K++[x]):=by
  obtain⟨u,hu,Y⟩:=dx hv hn ha i hi;obtain⟨y,hy,A⟩:=dx hv hn ha j hj;have L:iH T D n p i j=(decide (dN T D y u=dU T (p.take j) - dU T (p.take i))&&iD T D u y):=by unfold iH;rw[hu,hy,Vi,Vi]
  rw[L];obtain⟨Q,R⟩:=fi (D:=D) hv (dir:=false) A;have P:=bz hv;have O:=P.nodes;have M:Can prog 121 [bu T,aY D,num y] (· = .tuple [bm (bN T D y false),num 0]):=by
    have h:=uT T D (y:Int);rw[za hv V A]at h;exact h
  have S:=jZ hv ha i hi;have U:=jZ hv ha j hj;have W:=zH T n p;have X:=Ft T p;have E:=zG T n p i hi;have F:=zG T n p j hj;have G:=Fs T p i hi;have H:=Fs T p j hj;rw[hu]at E;rw[hy]at F;have N:∀v,cQ (y:Int) dm=some v->∃n xs,v= .slice n xs/\0<n:=λv h=>⟨_,_,s.look h,by omega⟩;refine aV func84 I ntmps84 I<|aj (.a 1 I<|.k [0,1,2] I)<|ev mixed (by kernel_rfl) (.a 5 I<|.v [15,16] (aX (i) I) I I<|.v [17] (aO I ((aS _ i (by omega)).trans (by rw[E]))) I I<|.a 5 I<|.v [22,23] (aX (j) I) I I<|.v [24] (aO I ((aS _ j (by omega)).trans (by rw[F]))) I I<|.a 2 I<|.k [0,1,2,7,8] I) ?_;refine an<|aj (.a 5 I<|.v (fu N4 rfl Oh TE rfl rfl rfl (cz _) I) I<|.v (ME I Uv rfl rfl N) I<|.k [0,1,2,7,8,32] I)<|ak I (λh1=>?_) (λh1=>?_)
  · obtain ⟨g, l⟩ : ∃ z, ir (y : Int) (bm (bN T D y false)) dm = z := ⟨_, rfl⟩;have c:mj T D g:=by rw[<-l];exact s.set A
    have w:cQ (y:Int) g=some (bm (bN T D y false)):=by rw[<-l];exact xz _ _ _
    refine dE 18 20 mixed (.val [0] I (aP I) I I<|.val [34] I (aP I) I I<|.val [35] I (aP I) I I<|.val [36] I (aP I) I I<|.val [8] I (aP I) I I<|.val [0] I (aP I) I I<|.val [39] I (aP I) I I<|.val [40] I (aP I) I I<|.val [41] I (aP I) I I<|.val [0] I (aP I) I I<|.val [43] I (aP I) I I<|.val [44] I (aP I) I I<|.val [45] I (aP I) I I<|.val [8] I (aP I) I I<|.val [42,46,47] I (dW I (M)) I I<|.val [48] I (aP I) I I<|.val [33] I (aP I) I I<|.late [33] I (H9 rfl rfl rfl) inferInstance rfl rfl<|.nil) (by kernel_rfl) I I (aJ (ks:=[0,1,2,7,8,37,38,49]) I)<|bw (iP N4 rfl Oh rfl rfl rfl (cz _) I) I I<|aF [0,1,2,7,8] I ?_;refine dY (σ':=IM T D p (zF T n p) (zc T p) g um++[x]) (by rw[<-l];rfl)<|an<|ev mixed (by kernel_rfl) (.a 5 I<|.v [54,55] (fu N4 rfl Oh TE rfl rfl rfl (cz _) (by rw[w])) I I<|.a 1 I<|.v [56,57] (aX (u) I) I I<|.v [58] (aO I (aS _ u (by omega))) I I<|.a 5 I<|.v [63,64] (aX (j) I) I I<|.v [65] (aO I ((aS _ j (by omega)).trans (by rw[H]))) I I<|.a 5 I<|.v [70,71] (aX (i) I) I I<|.v [72] (aO I ((aS _ i (by omega)).trans (by rw[G]))) I I<|.v [66,73] (aU I) I I<|.a 1 I<|.k [0,7,8,75] I) ?_;refine ak I (λh2=>?_) (λh2=>?_)
    · have q:dN T D y u≠dU T (p.take j) - dU T (p.take i):=tt h2;refine aj (.a 1 I<|.k [6] I)<|aA<|⟨_,V5 I,?_,_,_,c,f,rfl⟩;rw[VA q]
      rfl
    · have q:dN T D y u=dU T (p.take j) - dU T (p.take i):=VQ (ff h2);obtain⟨b,hb⟩:∃b:Bool,(cQ ((u:Int),(y:Int)) um).getD (.raw (.bool false))=flag b:=by
        cases h:cQ ((u:Int),(y:Int)) um with
        |none=>exact⟨false,rfl⟩
        |some v=>exact⟨_,f _ _ (mH h)⟩
      refine ao<|aK<|av 2 I<|aZ (MH I I I (JB _ _)) I<|av 2 I<|aF [0,7,8,9] I ?_;refine dY (σ':=IM T D p (zF T n p) (zc T p) g um++[x,some (.cells 40 [num u,num y])]) I<|ev mixed (by kernel_rfl) (.a 5 I<|.v [83,84] (eA N5 rfl Oi TZ rfl rfl rfl (ug _ _) hb rfl) I I<|.a 5 I<|.k [0,7,8,9,10,11] I) ?_;refine an<|aj (.a 2 I<|.k [0,7,8,9,10,89] I)<|ak I (λt=>?_) (λt=>?_)
      · have⟨o,e⟩:=dw (ir ((u:Int),(y:Int)) (flag (iD T D u y)) um);have d:np T D o:=by rw[<-e];exact f.set u y
        refine ev mixed (by kernel_rfl) (.a 10 I<|.v [93,97,98,99] (dW I (vZ T D u y C)) I I<|.a 1 I<|.k [0,9,10] I)<|dE 6 20 mixed (.val [0] I (aP I) I I<|.val [101] I (aP I) I I<|.val [102] I (aP I) I I<|.val [103] I (aP I) I I<|.val [9] I (aP I) I I<|.val [10] I (aP I) I I<|.nil) (by kernel_rfl) I I (aJ (ks:=[10,104,105,106]) I) ?_;refine bw (iP N5 (k:=((u:Int),(y:Int))) I Oi rfl rfl rfl (ug (.int .i64 (u:Int)) (.int .i64 (y:Int))) I) I I<|aF [10] I ?_;refine dY (σ':=IM T D p (zF T n p) (zc T p) g o++[x,some (.cells 40 [num u,num y])]) (by rw[<-e];rfl) ?_;obtain⟨b,m⟩:∃b,b=iD T D u y:=⟨_,rfl⟩;refine aj (.a 2 I<|.k [6] I)<|dM [0,1,2,3,4,5] (.c 6<|.nil) (.kept rfl (.row VT)<|.kept rfl (.row VT)<|.same (ZC c) I<|.same (ZD d) I<|.kept rfl (.cells (WU<|WU<|WU<|WU<|WU<|WU<|WU<|WU<|WU<|Wp))<|.same hx rfl<|.nil) I I ?_;refine aA<|⟨_,V5 I,?_,_,_,c,d,rfl⟩;rw[VM q,WB];first
          |rfl
          |(rw[m];rfl)
      · have m:b=iD T D u y:=by
          cases h:cQ ((u:Int),(y:Int)) um with
          |none=>rw[h]at t;cases t
          |some v=>
            rw[h,f _ _ (mH h)]at hb;have:=hb;simp only[WH]at this;cases this
            rfl
        have d:=f;obtain⟨o,e⟩:∃z,z=um:=⟨_,rfl⟩;subst e;refine ao<|aj (.a 2 I<|.k [6] I)<|dM [0,1,2,3,4,5] (.c 6<|.nil) (.kept rfl (.row VT)<|.kept rfl (.row VT)<|.same (ZC c) I<|.same (ZD d) I<|.kept rfl (.cells (WU<|WU<|WU<|WU<|WU<|WU<|WU<|WU<|WU<|Wp))<|.same hx rfl<|.nil) I I ?_;refine aA<|⟨_,V5 I,?_,_,_,c,d,rfl⟩;rw[VM q,WB];first
          |rfl
          |(rw[m];rfl)
  · obtain ⟨v, J⟩ : ∃ v, cQ (y : Int) dm = some v := by
      cases h:cQ (y:Int) dm with
      |none=>rw[h]at h1;cases h1
      |some v=>exact⟨v,rfl⟩
    have w:cQ (y:Int) dm=some (bm (bN T D y false)):=by rw[J,s.look J]
    have c:=s;obtain⟨g,l⟩:∃z,z=dm:=⟨_,rfl⟩;subst l;refine ao<|an<|ev mixed (by kernel_rfl) (.a 5 I<|.v [54,55] (fu N4 rfl Oh TE rfl rfl rfl (cz _) (by rw[w])) I I<|.a 1 I<|.v [56,57] (aX (u) I) I I<|.v [58] (aO I (aS _ u (by omega))) I I<|.a 5 I<|.v [63,64] (aX (j) I) I I<|.v [65] (aO I ((aS _ j (by omega)).trans (by rw[H]))) I I<|.a 5 I<|.v [70,71] (aX (i) I) I I<|.v [72] (aO I ((aS _ i (by omega)).trans (by rw[G]))) I I<|.v [66,73] (aU I) I I<|.a 1 I<|.k [0,7,8,75] I) ?_;refine ak I (λh2=>?_) (λh2=>?_)
    · have q:dN T D y u≠dU T (p.take j) - dU T (p.take i):=tt h2;refine aj (.a 1 I<|.k [6] I)<|aA<|⟨_,V5 I,?_,_,_,c,f,rfl⟩;rw[VA q]
      rfl
    · have q:dN T D y u=dU T (p.take j) - dU T (p.take i):=VQ (ff h2);obtain⟨b,hb⟩:∃b:Bool,(cQ ((u:Int),(y:Int)) um).getD (.raw (.bool false))=flag b:=by
        cases h:cQ ((u:Int),(y:Int)) um with
        |none=>exact⟨false,rfl⟩
        |some v=>exact⟨_,f _ _ (mH h)⟩
      refine ao<|aK<|av 2 I<|aZ (MH I I I (JB _ _)) I<|av 2 I<|aF [0,7,8,9] I ?_;refine dY (σ':=IM T D p (zF T n p) (zc T p) g um++[x,some (.cells 40 [num u,num y])]) I<|ev mixed (by kernel_rfl) (.a 5 I<|.v [83,84] (eA N5 rfl Oi TZ rfl rfl rfl (ug _ _) hb rfl) I I<|.a 5 I<|.k [0,7,8,9,10,11] I) ?_;refine an<|aj (.a 2 I<|.k [0,7,8,9,10,89] I)<|ak I (λt=>?_) (λt=>?_)
      · have⟨o,e⟩:=dw (ir ((u:Int),(y:Int)) (flag (iD T D u y)) um);have d:np T D o:=by rw[<-e];exact f.set u y
        refine ev mixed (by kernel_rfl) (.a 10 I<|.v [93,97,98,99] (dW I (vZ T D u y C)) I I<|.a 1 I<|.k [0,9,10] I)<|dE 6 20 mixed (.val [0] I (aP I) I I<|.val [101] I (aP I) I I<|.val [102] I (aP I) I I<|.val [103] I (aP I) I I<|.val [9] I (aP I) I I<|.val [10] I (aP I) I I<|.nil) (by kernel_rfl) I I (aJ (ks:=[10,104,105,106]) I) ?_;refine bw (iP N5 (k:=((u:Int),(y:Int))) I Oi rfl rfl rfl (ug (.int .i64 (u:Int)) (.int .i64 (y:Int))) I) I I<|aF [10] I ?_;refine dY (σ':=IM T D p (zF T n p) (zc T p) g o++[x,some (.cells 40 [num u,num y])]) (by rw[<-e];rfl) ?_;obtain⟨b,m⟩:∃b,b=iD T D u y:=⟨_,rfl⟩;refine aj (.a 2 I<|.k [6] I)<|dM [0,1,2,3,4,5] (.c 6<|.nil) (.kept rfl (.row VT)<|.kept rfl (.row VT)<|.same (ZC c) I<|.same (ZD d) I<|.kept rfl (.cells (WU<|WU<|WU<|WU<|WU<|WU<|WU<|WU<|WU<|Wp))<|.same hx rfl<|.nil) I I ?_;refine aA<|⟨_,V5 I,?_,_,_,c,d,rfl⟩;rw[VM q,WB];first
          |rfl
          |(rw[m];rfl)
      · have m:b=iD T D u y:=by
          cases h:cQ ((u:Int),(y:Int)) um with
          |none=>rw[h]at t;cases t
          |some v=>
            rw[h,f _ _ (mH h)]at hb;have:=hb;simp only[WH]at this;cases this
            rfl
        have d:=f;obtain⟨o,e⟩:∃z,z=um:=⟨_,rfl⟩;subst e;refine ao<|aj (.a 2 I<|.k [6] I)<|dM [0,1,2,3,4,5] (.c 6<|.nil) (.kept rfl (.row VT)<|.kept rfl (.row VT)<|.same (ZC c) I<|.same (ZD d) I<|.kept rfl (.cells (WU<|WU<|WU<|WU<|WU<|WU<|WU<|WU<|WU<|Wp))<|.same hx rfl<|.nil) I I ?_;refine aA<|⟨_,V5 I,?_,_,_,c,d,rfl⟩;rw[VM q,WB];first
          |rfl
          |(rw[m];rfl)
theorem vO(l:List eW)(e:eW):jz l++vN e=jz (l++[e]):=by simp[jz]
theorem sW(l:List eW):(jz l).length=l.length*2:=by
 induction l with
 |nil=>rfl
 |cons a l ih=>simp only[jz,Wm,Vu,VI]at*;rw[ih];simp[vN];omega
def qi(c:Nat->Bool)(i:Nat):Nat->Option Nat
 |0=>none
 |m+1=>if m+1<=i then none else if c (m+1) then some (m+1) else qi c i m
theorem yw{c:Nat->Bool}{i j:Nat}(a:i<j)(hc:c j=true):∀m,j<=m->(∀k,j<k->k<=m->c k=false)->qi c i m=some j
 |0,h,_=>by omega
 |m+1,h,hn=>by
  unfold qi;rw[Vk (by omega)];by_cases e:j=m+1
  ·subst e;rw[Vn hc]
  ·rw[Vk (by rw[hn (m+1) (by omega) (by omega)];simp)];exact yw a hc m (by omega) (λk h1 h2=>hn k h1 (by omega))
theorem yu{c:Nat->Bool}{i:Nat}:∀m,(∀k,i<k->k<=m->c k=false)->qi c i m=none
 |0,_=>rfl
 |m+1,hn=>by
  unfold qi;by_cases e:m+1<=i
  ·rw[Vn e]
  ·rw[Vk e,Vk (by rw[hn (m+1) (by omega) (by omega)];simp)];exact yu m (λk h1 h2=>hn k h1 (by omega))
theorem Ao{c:Nat->Bool}{i:Nat}:∀m j,qi c i m=some j->i<j/\j<=m/\c j=true/\∀k,j<k->k<=m->c k=false
 |0,j,h=>by cases h
 |m+1,j,h=>by
  unfold qi at h;split at h
  ·cases h
  ·split at h
   ·cases h;rename_i h1 h2;exact⟨by omega,by omega,h2,λk f g=>by omega⟩
   ·rename_i h1 h2;obtain⟨a,b,c1,d⟩:=Ao m j h;refine⟨a,by omega,c1,λk f g=>?_⟩;by_cases e:k=m+1
    ·subst e;simpa using h2
    ·exact d k f (by omega)
theorem pr{c:Nat->Bool}{i:Nat}:∀m,qi c i m=none->∀k,i<k->k<=m->c k=false
 |0,_,k,h1,h2=>by omega
 |m+1,h,k,h1,h2=>by
  unfold qi at h;split at h
  ·omega
  ·split at h
   ·cases h
   ·rename_i b a;by_cases e:k=m+1
    ·subst e;simpa using a
    ·exact pr m h k h1 (by omega)
noncomputable def lK(T:aw)(D:List Bool)(n:Int)(p:List Int):Nat->Nat->List eW
 |0,_=>[]
 |f+1,i=>if i<p.length then(match qi (iH T D n p i) i p.length with
  |some j=>⟨1,dB T n (p.take j)⟩::lK T D n p f j
  |none=>⟨2,p.getD i 0⟩::lK T D n p f (i+1)) else []
noncomputable def qc(T:aw)(D:List Bool)(n:Int)(p:List Int):List eW:=lK T D n p p.length 0
section
variable {T:aw} {D:List Bool} {n:Int} {p:List Int}
theorem zD(f i:Nat)(h:p.length<=i):lK T D n p f i=[]:=by
 cases f with
 |zero=>rfl
 |succ f=>simp only[lK];rw[Vk (by omega)]
theorem rG{f i j:Nat}(hi:i<p.length)(a:i<j)(hj:j<=p.length)(hc:iH T D n p i j=true)(b:∀k,j<k->k<=p.length->iH T D n p i k=false):lK T D n p (f+1) i=⟨1,dB T n (p.take j)⟩::lK T D n p f j:=by
 simp only[lK];rw[Vn hi,yw a hc p.length hj b]
theorem rF{f i:Nat}(hi:i<p.length)(a:∀k,i<k->k<=p.length->iH T D n p i k=false):lK T D n p (f+1) i=⟨2,p.getD i 0⟩::lK T D n p f (i+1):=by
 simp only[lK];rw[Vn hi,yu p.length a]
theorem td:∀ {f} {x:Int} {l m:List Int},fA T f x (l++m)=0->fA T f x l=0/\∃g,fA T g (dB T x l) m=0
 |f,x,[],m,h=>⟨rfl,f,h⟩
 |f,x,a::l,m,h=>by
  simp only[Wt,fA]at h ⊢;split at h
  ·omega
  ·rename_i h1;rw[Vk h1];split at h
   ·omega
   ·rename_i h2;rw[Vk h2];exact td h
theorem Gf(hv:aH T=true):∀ {f} {x:Nat} {l:List Int} {y:Nat},fA T f x l=0->(∀a∈l,bO D a.toNat=false)->dB T x l=(y:Int)->Ch T D y x l
 |f,x,[],y,_,_,he=>by
  have:y=x:=by simp only[dB]at he;omega
  subst this;exact .nil
 |f,x,a::l,y,h,hd,he=>by
  simp only[fA]at h;split at h
  ·omega
  ·rename_i h1;split at h
   ·omega
   ·rename_i h2;have d:jE T a=true:=by simpa using h1
    obtain⟨_,m,hm,i⟩:=mo hv d;simp only[jE,VH]at d;obtain⟨b,rfl⟩:=Vo d.1;rw[Vi]at hm;simp only[dB,Vi]at he h2 h;rw[hm]at he h;have e:=Gf hv h (λc hc=>hd c (by simp[hc])) he;refine .cons (by omega) (VQ λhn=>h2 (.inl hn)) (hd b (by simp)) hm ?_ e;cases l with
    |nil=>exact .inl rfl
    |cons c l=>
     right;simp only[fA]at h;split at h
     ·omega
     ·split at h
      ·omega
      ·rename_i g;simp only[Vi]at g;cases ho:cW T m with
       |false=>rfl
       |true=>exact absurd (.inr ⟨trivial,ho⟩) g
structure uz (T:aw) (D:List Bool) (n:Int) (p:List Int):Prop where
 valid:aH T=true
 fits:cf T D=true
 node:bZ T n=true
 walk:fA T true n p=0
 up:∀a∈p,bO D a.toNat=false
theorem Kh(h:ig T D n p=0):uz T D n p:=by
 unfold ig at h;split at h
 ·rename_i h1;obtain⟨hv,c⟩:=Wd.1 h1;split at h
  ·rename_i h2;obtain⟨_,hn,hw⟩:=qI h2;split at h
   ·omega
   ·rename_i b;exact⟨hv,c,hn,hw,λa ha=>by
     cases hd:bO D a.toNat with
     |false=>rfl
     |true=>exact absurd (Xo.2 ⟨a,ha,hd⟩) b⟩
  ·omega
 ·omega
theorem uz.ec(h:uz T D n p):∀a∈p,jE T a=true:=pY h.walk
def kd(p:List Int)(i j:Nat):List Int:=(p.drop i).take (j - i)
theorem kR(p:List Int){i j:Nat}(a:i<=j):p.take j=p.take i++kd p i j:=by
 unfold kd;have h:(p.take j)=(p.take j).take i++(p.take j).drop i:=(X1 i _).symm;rw[h,XU,Xe a,YY]
theorem rR(p:List Int){i j:Nat}(a:i<=j)(hj:j<=p.length):(kd p i j).length=j - i:=by unfold kd;simp;omega
theorem uz.ch(h:uz T D n p){i j u y:Nat}(b:i<=j)(hj:j<=p.length)(hu:dB T n (p.take i)=(u:Int))(hy:dB T n (p.take j)=(y:Int)):Ch T D y u (kd p i j):=by
 have h1:fA T true n (p.take j)=0:=(td (l:=p.take j) (m:=p.drop j) (by rw[X1];exact h.walk)).1;rw[kR p b]at h1;obtain⟨_,g,hg⟩:=td h1;rw[hu]at hg;refine Gf h.valid hg (λa ha=>h.up a ?_) ?_
 ·exact List.mem_of_mem_drop (Y8 ha)
 ·rw[<-hu,<-oT,<-kR p b];exact hy
theorem H6(T:aw)(p:List Int){i j:Nat}(a:i<=j):dU T (p.take j) - dU T (p.take i)=dU T (kd p i j):=by
 rw[kR p a,jn];omega
theorem pB(h:uz T D n p){i j u y:Nat}(b:i<=j)(hj:j<=p.length)(hu:dB T n (p.take i)=(u:Int))(hy:dB T n (p.take j)=(y:Int)):iH T D n p i j=true↔SP T D y u (kd p i j)/\eQ T D y u=1:=by
 have c:=h.ch b hj hu hy;have ha:=h.ec;obtain⟨u',l,e⟩:=dx h.valid h.node ha i (by omega);obtain⟨f,m,a⟩:=dx h.valid h.node ha j hj;have g:u'=u:=by omega
 have k:f=y:=by omega
 subst g;subst k;have d:c9 T D (u':Int) (f:Int)=0:=by
  unfold c9;rw[Vn (za h.valid h.fits a),bY.2 ⟨by omega,e⟩]
  rfl
 unfold iH iD;rw[hu,hy,Vi,Vi,H6 T p b,d];simp only[decide_true,WB,Vx,VH];constructor
 ·rintro⟨h1,h2⟩;exact⟨c.sp h.valid a h1,h2⟩
 ·rintro⟨h1,h2⟩;exact⟨(h1.cost h.valid a).1,h2⟩
theorem Nr(h:uz T D n p){i j:Nat}(a:i<=j)(hj:j<=p.length)(hc:iH T D n p i j=true):(j:Int) - i<T.nodes:=by
 have ha:=h.ec;obtain⟨u,hu,c⟩:=dx h.valid h.node ha i (by omega);obtain⟨y,hy,b⟩:=dx h.valid h.node ha j hj;have:=((pB h a hj hu hy).1 hc).1.KI h.valid b;rw[rR p a hj]at this;omega
end
def yi(e:Int)(l:List eW):PV:=.tuple [kg (if e=0 then l else []),num e]
def CU(l:List eW):Option cj:=some (.row 174 2 l.length (jz l))
theorem IH(l:List eW):nZ (CU l):=λb hb=>by cases hb;exact(inferInstance:aM (jz l))
theorem DN(T:aw)(D:List Bool)(p:List Int)(n:Int)(hp:p.length<=1000)(a:T.ah.length<=256):aD prog 83 [bu T,aY D,bm p,num n] [] (λr σ'=>∃x,r= .tuple [x,num (ig T D n p)]/\(ig T D n p=0->x= .ptr 4 0/\σ'=IM T D p (zF T n p) (zc T p) [] [])):=
 VO (DM T D p n hp a) λr σ' h=>by
  rcases h with⟨he,rfl⟩|⟨he,rfl,rfl⟩
  ·exact⟨_,rfl,λh=>absurd h he⟩
  ·exact⟨_,by rw[he],λ_=>⟨rfl,rfl⟩⟩
theorem xe(T:aw)(D:List Bool)(p:List Int)(n:Int)(hp:p.length<=1000)(F:T.ah.length<=256)(A:T.nodes<=12):Can prog 44 [bu T,aY D,bm p,num n] (· =yi (ig T D n p) (qc T D n p)):=by
  refine aR func44 I ntmps44 I<|aj (.a 3 I<|.k [1,2,3,4] I)<|Nc ?_;refine aK<|av 4 I<|br I I (VO (DN T D p n hp F) (λr σ' h=>?_));obtain⟨x,rfl,hx⟩:=h;refine av 5 I<|aF [2,4,10,11] I ?_;refine an<|aj (.a 2 I<|.k [2,4,10,11,24] I)<|ak I (λhc=>?_) (λhc=>?_)
  · have he:ig T D n p≠0:=tt hc;exact aj (.a 3 I<|.k [8,9] I)<|aA<|jF I (Yi (Vp aQ.cg (Vp aQ.pure Wg))) (by unfold yi;rw[Vk he];rfl)
  · have he:ig T D n p=0:=VQ (ff hc);obtain⟨rfl,rfl⟩:=hx he;have y:=Kh he;have hv:=y.valid;have J:=bz hv;have hN:=J.nodes;have ha:=y.ec;obtain⟨N,B⟩:∃N:Nat,T.nodes=(N:Int):=⟨T.nodes.toNat,by omega⟩;rw[he];clear hc;refine ao<|aj (.a 1 I<|.k [2,4,10,12] I)<|fe 12 174 2 I ?_;refine aj (.a 1 I<|.k [2,4,10,12,13] I)<|an<|Na ?_;refine an<|ay<|eX [2,4,10,12,13] I<|bq (λr st=>∃(l:List eW) (i f:Nat) (g:List (Int×PV)) (o:List ((Int×Int)×PV)),i<=p.length/\p.length - i<=f/\l.length<=i/\r=p.length - i/\qc T D n p=l++lK T D n p f i/\mj T D g/\np T D o/\st=⟨[(2,bm p),(4,.cH (bJ T) 0),(10,.ptr 4 0),(12,.own 5),(13,num i)],IM T D p (zF T n p) (zc T p) g o++[CU l]⟩) p.length ⟨[],0,p.length,[],[],by omega,by omega,by simp,by omega,rfl,(λ_ _ h=>by cases h),(λ_ _ h=>by cases h),rfl⟩ ?_;rintro r st ⟨l,i,f,g,o,hi,L,P,rfl,hl,a,b,rfl⟩;refine an<|aj (.a 4 I<|.k [2,4,10,12,13,29] I)<|ak I (λh1=>?_) (λh1=>?_)
    · have hlt:i<p.length:=by have:=tt h1;omega
      refine ao<|ay<|an ?_;obtain⟨m,hm⟩:∃m:Nat,min (p.length:Int) ((i:Int)+(N:Int) - 1)=(m:Int):=⟨(min (p.length:Int) ((i:Int)+(N:Int) - 1)).toNat,by omega⟩;have z:∀k,m<k->k<=p.length->iH T D n p i k=false:=λk h2 v=>by
        cases C:iH T D n p i k with
        |false=>rfl
        |true=>
          have:=Nr y (i:=i) (j:=k) (by omega) v C;omega
      refine aj (.a 4 I<|.v (aO I ((show some (num T.nodes)=some (num (N:Int)) by rw[B]))) I<|.v (aU I) I<|.v (aU I) I<|.v (wh I I I (hm)) I<|.a 1 I<|.k [2,4,10,12,13,14] I)<|ay<|eX [2,4,10,12,13,14] I<|bq (λr st=>∃(j:Nat) (g:List (Int×PV)) (o:List ((Int×Int)×PV)),i<=j/\j<=p.length/\r=j/\(∀k,j<k->k<=p.length->iH T D n p i k=false)/\mj T D g/\np T D o/\st=⟨[(2,bm p),(4,.cH (bJ T) 0),(10,.ptr 4 0),(12,.own 5),(13,num i),(14,num j)],IM T D p (zF T n p) (zc T p) g o++[CU l]⟩) m ⟨m,g,o,by omega,by omega,rfl,z,a,b,rfl⟩ ?_;clear a b;rintro r st ⟨j,g,o,M,hj,rfl,q,a,b,rfl⟩;refine an<|aj (.a 3 I<|.k [2,4,10,12,13,14,40] I)<|ak I (λh2=>?_) (λh2=>?_)
      · have s:i<r:=by have:=tt h2;omega
        refine ao<|an<|ay<|aK<|av 3 I<|br I I (VO (AZ T D p n g o (CU l) (IH l) hv y.fits A y.node ha hp i r (by omega) hj a b) (λ_ σ' h=>?_));obtain⟨rfl,u,w,c,d,rfl⟩:=h;refine aF [2,4,10,12,13,14,46] I<|ak I (λv=>?_) (λv=>?_)
        · have E:=zG T n p r hj;have O:=zH T n p;refine aK<|av 6 I<|aZ (aX (r) I) I<|aZ (aO I ((aS _ r (by omega)).trans (by rw[E]))) I<|av 2 I<|bW (bP I (VW I) I I I I (by unfold maxLen;omega)) I<|av 1 I ?_;refine ft [0,1,2,3,4,6] (.c 2<|.c 4<|.c 10<|.c 12<|.c 14<|.nil) (.kept rfl (.row VT)<|.kept rfl (.row VT)<|.same (ZC c) I<|.same (ZD d) I<|.kept rfl (.cells (WU<|WU<|WU<|WU<|WU<|WU<|WU<|WU<|WU<|Wp))<|.kept rfl (.eZ rfl (vO _ ⟨1,dB T n (p.take r)⟩))<|.nil) I I (bM ?_);refine aj (.a 2 I<|.k [2,4,10,12,13] I)<|bh ?_;cases f with
          |zero=>omega
          |succ f=>
            first
              | (refine ⟨p.length - r, by omega, l ++ [⟨1, dB T n (p.take r)⟩], r, f, u, w, by omega, by omega, by simp; omega, rfl, ?_, c, d, ?_⟩
                 · rw[hl,rG hlt s hj v q,VU];rfl
                 · unfold CU;simp only[Vu,VR];rfl)
              | (refine ⟨p.length - (i + 1), by omega, l ++ [⟨2, p.getD i 0⟩], i + 1, f, g, o, by omega, by omega, by simp; omega, rfl, ?_, a, b, ?_⟩
                 · rw[hl,rF hlt t,VU];rfl
                 · unfold CU;simp only[Vu,VR];rfl)
        · skip
          refine ao<|aL (.a 1 I<|.v (aU I) I<|.a 1 I<|.k [2,4,10,12,13,14] I) ?_;refine⟨r - 1,by omega,r - 1,u,w,by omega,by omega,rfl,λk G H=>?_,c,d,?_⟩
          · by_cases e:k=r
            · rw[e];exact v
            · exact q k (by omega) H
          · rw[show((r - 1:Nat):Int)=(r:Int) - 1 by omega]
      · have t:∀k,i<k->k<=p.length->iH T D n p i k=false:=λk v G=>q k (by have:=ff h2;omega) G;refine bh<|aK<|av 3 I<|aZ (aX (i) I) I<|aZ (aO I (aS _ i hlt)) I<|av 2 I<|bW (bP I (VW I) I I I I (by unfold maxLen;omega)) I<|av 1 I ?_;refine ft [0,1,2,3,4,6] (.c 2<|.c 4<|.c 10<|.c 12<|.c 13<|.nil) (.kept rfl (.row VT)<|.kept rfl (.row VT)<|.same (ZC a) I<|.same (ZD b) I<|.kept rfl (.cells (WU<|WU<|WU<|WU<|WU<|WU<|WU<|WU<|WU<|Wp))<|.kept rfl (.eZ rfl (vO _ ⟨2,p.getD i 0⟩))<|.nil) I I (bM ?_);refine aL (.a 1 I<|.v (aU I) I<|.a 1 I<|.k [2,4,10,12,13] I) ?_;cases f with
        |zero=>omega
        |succ f=>
          first
            | (refine ⟨p.length - r, by omega, l ++ [⟨1, dB T n (p.take r)⟩], r, f, u, w, by omega, by omega, by simp; omega, rfl, ?_, c, d, ?_⟩
               · rw[hl,rG hlt s hj v q,VU];rfl
               · unfold CU;simp only[Vu,VR];rfl)
            | (refine ⟨p.length - (i + 1), by omega, l ++ [⟨2, p.getD i 0⟩], i + 1, f, g, o, by omega, by omega, by simp; omega, rfl, ?_, a, b, ?_⟩
               · rw[hl,rF hlt t,VU];rfl
               · unfold CU;simp only[Vu,VR];rfl)
    · have K:i=p.length:=by have:=ff h1;omega
      rw[zD f i (by omega),V6]at hl;exact bh<|aj (.a 3 I<|.k [8,9] I)<|aA<|jF I (Yi (Vp (Yw rfl W9) (Vp aQ.pure Wg))) (by unfold yi;rw[Vn rfl,hl];rfl)
section
variable {T:aw} {D:List Bool} {d:Nat}
theorem Fo(hv:aH T=true)(hd:(d:Int)<T.nodes):∀(K m:Nat),(m:Int)<T.nodes->0<=dN T D d m->dN T D d m<=K->eQ T D d m≠1->∃p q,SP T D d m p/\SP T D d m q/\p≠q
 |K,m,o,h0,B,hc=>by
  by_cases j:m=d
  ·subst j;exact absurd (rh m) hc
  ·obtain⟨k,hk⟩:=rK (D:=D) hv o hd j h0;have f:=nJ hk ((bz hv).cost k hk.nu).1;cases hx:cA T D m d with
   |nil=>rw[hx]at f;cases f
   |cons a l=>
    obtain⟨b,rfl,hb⟩:=gW (T:=T) (D:=D) (n:=m) (d:=d) (a:=a) (by rw[hx];simp);obtain⟨x,c,r⟩:=fJ hv hb.nu;have w:=hb.dN c;have A:=(bz hv).cost b hb.nu;cases l with
    |nil=>
     cases K with
     |zero=>omega
     |succ K=>
      have u:eQ T D d x≠1:=λh=>hc (Dx hv hd o j hx c h);obtain⟨p,q,h1,h2,y⟩:=Fo hv hd K x r w.1 (by omega) u;exact⟨b::p,b::q,.cons hb c h1,.cons hb c h2,λe=>y (W4 e).2⟩
    |cons a2 l=>
     obtain⟨v,rfl,i⟩:=gW (T:=T) (D:=D) (n:=m) (d:=d) (a:=a2) (by rw[hx];simp);obtain⟨z,g,s⟩:=fJ hv i.nu;have t:=i.dN g;refine⟨b::eT T D x d,v::eT T D z d,.cons hb c (jA hv hd r w.1),.cons i g (jA hv hd s t.1),λe=>?_⟩;have he:=(W4 e).1;have hlt:=B4 T D m d;rw[hx]at hlt;have:=(List.pairwise_cons.1 hlt).1 (v:Int) (by simp);omega
theorem Ch.append{e n:Nat}{p q:List Int}(h:Ch T D e n p)(c:Ch T D d e q)(ho:q=[]\/cW T e=false):Ch T D d n (p++q):=by
 induction h with
 |nil=>exact c
 | @cons n a m p ha f hu hm b hp ih=>
  refine .cons ha f hu hm ?_ ih;rcases b with h|h
  ·subst h;have:=hp.to rfl;subst this;rcases ho with h|h
   ·subst h;exact .inl rfl
   ·exact .inr h
  ·exact .inr h
theorem SP.suffix(hv:aH T=true)(hd:(d:Int)<T.nodes){e:Nat}:∀ {n:Nat} {p q:List Int},SP T D d n (p++q)->eQ T D d n=1->Ch T D e n p->SP T D d e q/\eQ T D d e=1
 |n,[],q,h,hc,c=>by
  have:=c.to rfl;subst this;exact⟨h,hc⟩
 |n,a::p,q,h,hc,c=>by
  cases h with
  | @cons _ b m _ h1 hm hp=>
   cases c with
   | @cons _ o m2 _ _ _ _ g _ f=>
    have:m2=m:=by rw[hm]at g;omega
    subst this;obtain⟨j,k,_,l⟩:=Fl hv hd (h1.node hv) h1.ne hc;have i:=nJ h1 ((bz hv).cost b h1.nu).1;rw[k]at i;simp only[WW]at i;have:j=b:=by omega
    subst this;exact SP.suffix hv hd hp (l m2 hm) f
theorem SP.pre(hv:aH T=true)(hd:(d:Int)<T.nodes){e n:Nat}{p q:List Int}(he:(e:Int)<T.nodes)(h:SP T D d n (p++q))(hc:eQ T D d n=1)(hp:Ch T D e n p)(c:Ch T D d e q)(ho:q=[]\/cW T e=false):SP T D e n p/\eQ T D e n=1:=by
 have a:=(h.cost hv hd).1;rw[jn]at a;have hle:=hp.le hv he;have hn:=hp.node hv he;have b:SP T D e n p:=by
  refine hp.sp hv he ?_;have hs:=jA hv he hn hle.1;have f:=(hs.cost hv he).1;have:=((hs.ch).append c ho).le hv hd;rw[jn]at this;omega
 refine⟨b,VQ λh1=>?_⟩;obtain⟨g,i,g1,g2,g3⟩:=Fo hv he (dN T D e n).toNat n hn hle.1 (by omega) h1;have key:∀r,SP T D e n r->SP T D d n (r++q):=λr hr=>by
  refine((hr.ch).append c ho).sp hv hd ?_;rw[jn,a,<-(hr.cost hv he).1,(b.cost hv he).1]
 have:=(key g g1).unique hv hd (key i g2) hc;exact g3 (List.append_cancel_right this)
theorem Ch.TV{e:Nat}:∀ {n:Nat} {p q:List Int},Ch T D d n (p++q)->p≠[]->Ch T D e n p->q=[]\/cW T e=false
 |n,[],q,_,h,_=>absurd rfl h
 |n,a::p,q,h,_,g=>by
  cases h with
  | @cons _ b m _ _ _ _ hm j hp=>
   cases g with
   | @cons _ k m2 _ _ _ _ i _ f=>
    have:m2=m:=by rw[hm]at i;omega
    subst this;cases p with
    |nil=>
     have:=f.to rfl;subst this;exact j
    |cons c p=>exact Ch.TV hp (by simp) f
variable {n:Int} {p:List Int}
theorem qH(p:List Int){i j k:Nat}(h1:i<=j)(h2:j<=k):kd p i k=kd p i j++kd p j k:=by
 have b:=kR p (show i<=k by omega);have a:=kR p h2;rw[kR p h1,VU]at a;rw[b]at a;exact List.append_cancel_left a
theorem Ns(h:uz T D n p){i j i' j':Nat}(h1:i<=i')(h2:i'<j')(k:j'<=j)(hj:j<=p.length)(hc:iH T D n p i j=true):iH T D n p i' j'=true:=by
 have ha:=h.ec;have hv:=h.valid;obtain⟨u,hu,r⟩:=dx hv h.node ha i (by omega);obtain⟨y,hy,c⟩:=dx hv h.node ha j hj;obtain⟨u',a,l⟩:=dx hv h.node ha i' (by omega);obtain⟨s,b,f⟩:=dx hv h.node ha j' (by omega);obtain⟨c1,m⟩:=(pB h (by omega) hj hu hy).1 hc;rw[qH p h1 (show i'<=j by omega)]at c1;obtain⟨g,o⟩:=c1.suffix hv c m (h.ch h1 (by omega) hu a);rw[qH p (show i'<=j' by omega) k]at g;have hp:=h.ch (show i'<=j' by omega) (by omega) a b;have q:=h.ch k hj b hy;have ho:=g.ch.TV (e:=s) (by
  intro e;have:=rR p (show i'<=j' by omega) (by omega);rw[e]at this;simp at this;omega) hp
 exact(pB h (by omega) (by omega) a b).2 (g.pre hv c f o hp q ho)
end
section
variable {T:aw} {D:List Bool} {n:Int} {p:List Int}
theorem Lp{i k:Nat}{a:Int}(h:a∈kd p i k):a∈p:=List.mem_of_mem_drop (Y8 h)
theorem xS(h:uz T D n p){i:Nat}(hi:i<p.length){x:Nat}(hx:dB T n (p.take i)=(x:Int)):bI T (p.getD i 0).toNat=(x:Int):=by
 have ha:=h.ec;obtain⟨y,hy,c⟩:=dx h.valid h.node ha (i+1) hi;have b:=h.ch (i:=i) (j:=i+1) (by omega) hi hx hy;have hp:kd p i (i+1)=[p.getD i 0]:=by
  unfold kd;rw[drop_cons p i hi,show i+1 - i=1 by omega]
  rfl
 rw[hp]at b;generalize p.getD i 0=a at b;cases b with
 |cons _ h2 _ _ _ _=>exact h2
end
section
variable {T:aw} {D:List Bool} {n:Int} {p:List Int}
end
def DG(T:aw)(s:eW)(n:Int):Int×Int:=if It T s=false then(0,1) else if bZ T n=false then(0,2) else if s.kind=1 then(s.num,0) else if s.kind=2 then(if bI T s.num.toNat≠n then(0,4) else(bx T s.num.toNat,0)) else(0,7)
def qF(T:aw)(n:Int)(p:List Int)(x:Int):Nat->Nat->Nat
 |0,i=>i
 |f+1,i=>if dB T n (p.take i)=x then i else qF T n p x f (i+1)
noncomputable def lX(T:aw)(D:List Bool)(n:Int)(p:List Int)(i:Nat)(s:eW):Option Nat:=
 if s.kind=2/\i<p.length/\p.getD i 0=s.num then some (i+1)
 else if s.kind=1 then(if dB T n (p.take (qF T n p s.num (p.length - i) i))=s.num/\iH T D n p i (qF T n p s.num (p.length - i) i)=true then some (qF T n p s.num (p.length - i) i) else none)
 else none
noncomputable def P4(T:aw)(D:List Bool)(n:Int)(p:List Int):Nat->List eW->Bool
 |i,[]=>decide (i=p.length)
 |i,s::l=>match lX T D n p i s with
  |some j=>P4 T D n p j l
  |none=>false
section
variable {T:aw} {D:List Bool} {n:Int} {p:List Int}
theorem DS(x:Int):∀f i,i<=qF T n p x f i/\qF T n p x f i<=i+f
 |0,i=>by simp[qF]
 |f+1,i=>by
  simp only[qF];split
  ·omega
  ·have:=DS x f (i+1);omega
theorem Kl(x:Int):∀f i k,i<=k->k<qF T n p x f i->dB T n (p.take k)≠x
 |0,i,k,h1,h2=>by simp only[qF]at h2;omega
 |f+1,i,k,h1,h2=>by
  simp only[qF]at h2;split at h2
  ·omega
  ·rename_i a;by_cases e:k=i
   ·subst e;exact a
   ·exact Kl x f (i+1) k (by omega) h2
theorem zu(x:Int):∀f i j,i<=j->j<=i+f->dB T n (p.take j)=x->(∀k,i<=k->k<j->dB T n (p.take k)≠x)->qF T n p x f i=j
 |0,i,j,h1,h2,_,_=>by simp only[qF];omega
 |f+1,i,j,h1,h2,a,b=>by
  simp only[qF];by_cases e:i=j
  ·subst e;rw[Vn a]
  ·rw[Vk (b i (Vh _) (by omega))];exact zu x f (i+1) j (by omega) (by omega) a (λk d c=>b k (by omega) c)
theorem Ch.fin{d:Nat}{m:Nat}{q:List Int}(h:Ch T D d m q):dB T (m:Int) q=(d:Int):=by
 induction h with
 |nil=>rfl
 | @cons n a m p ha b hu hm ho hp ih=>simp only[dB,Vi,hm];exact ih
theorem sF(h:uz T D n p){i j:Nat}(a:i<=j)(hj:j<=p.length)(hc:iH T D n p i j=true):qF T n p (dB T n (p.take j)) (p.length - i) i=j:=by
 have ha:=h.ec;have hv:=h.valid;refine zu _ _ _ _ a (by omega) I λk h1 h2 he=>?_;obtain⟨u,hu,f⟩:=dx hv h.node ha i (by omega);obtain⟨y,hy,b⟩:=dx hv h.node ha j hj;obtain⟨z,g,l⟩:=dx hv h.node ha k (by omega);have c:z=y:=by omega
 subst c;obtain⟨c1,d⟩:=(pB h a hj hu hy).1 hc;rw[qH p h1 (show k<=j by omega)]at c1;obtain⟨e,m⟩:=c1.suffix hv b d (h.ch h1 (by omega) hu g);have:=e.self;have hl:=rR p (show k<=j by omega) hj;rw[this]at hl;simp at hl;omega
theorem sa{x y:Nat}(hv:aH T=true)(b:cf T D=true)(hx:(x:Int)<T.nodes)(hy:(y:Int)<T.nodes):lM T D x y=if dN T D y x<0 then 11 else 0:=by
 have a:c9 T D (x:Int) (y:Int)=0:=by
  unfold c9;rw[Vn (za hv b hy),bY.2 ⟨by omega,hx⟩]
  rfl
 unfold lM;rw[Vn a];simp only[Vi]
theorem C0{x y:Nat}(hv:aH T=true)(b:cf T D=true)(hx:(x:Int)<T.nodes)(hy:(y:Int)<T.nodes):iD T D x y=true↔eQ T D y x=1:=by
 have a:c9 T D (x:Int) (y:Int)=0:=by
  unfold c9;rw[Vn (za hv b hy),bY.2 ⟨by omega,hx⟩]
  rfl
 unfold iD;rw[a];simp
theorem QX(h:uz T D n p){i j x y:Nat}(c:i<=j)(hj:j<=p.length)(hx:dB T n (p.take i)=(x:Int))(hy:dB T n (p.take j)=(y:Int)):iH T D n p i j=true↔lM T D x y=0/\iD T D x y=true/\eT T D x y=kd p i j:=by
 have ha:=h.ec;have hv:=h.valid;obtain⟨d,l,b⟩:=dx hv h.node ha i (by omega);obtain⟨e,m,a⟩:=dx hv h.node ha j hj;have f:d=x:=by omega
 have g:e=y:=by omega
 subst f;subst g;rw[pB h c hj hx hy,sa hv h.fits b a,C0 hv h.fits b a];constructor
 ·rintro⟨h1,h2⟩;have h0:=(h1.cost hv a).2;exact⟨by rw[Vk (by omega)],h2,(jA hv a b h0).unique hv a h1 h2⟩
 ·rintro⟨h1,h2,k⟩;have h0:0<=dN T D e d:=by
   split at h1
   ·omega
   ·omega
  exact⟨by rw[<-k];exact jA hv a b h0,h2⟩
theorem DI(h:uz T D n p):∀(f i:Nat),i<=p.length->p.length - i<=f->P4 T D n p i (lK T D n p f i)=true
 |f,i,hi,c=>by
  by_cases hlt:i<p.length
  ·cases f with
   |zero=>omega
   |succ f=>
    cases b:qi (iH T D n p i) i p.length with
    |none=>
     rw[rF hlt (λk h1 h2=>pr _ b k h1 h2)];simp only[P4];have a:lX T D n p i ⟨2,p.getD i 0⟩=some (i+1):=by unfold lX;rw[Vn ⟨rfl,hlt,rfl⟩]
     rw[a];exact DI h f (i+1) (by omega) (by omega)
    |some j=>
     obtain⟨t1,t2,t3,t4⟩:=Ao _ _ b;rw[rG hlt t1 t2 t3 t4];simp only[P4];have a:lX T D n p i ⟨1,dB T n (p.take j)⟩=some j:=by
      unfold lX;simp only;rw[Vk (by omega),Vn trivial,sF h (by omega) t2 t3,Vn ⟨rfl,t3⟩]
     rw[a];exact DI h f j t2 (by omega)
  ·rw[zD f i (by omega)];simp only[P4,VH];omega
theorem Of:∀f i,(lK T D n p f i).length<=f:=λf=>by
 induction f with
 |zero=>intro i;simp[lK]
 |succ f ih=>
  intro i;simp only[lK];split
  ·split
   ·have:=ih ‹Nat›;simp only[VI];omega
   ·have:=ih (i+1);simp only[VI];omega
  ·simp
theorem Bo(h:uz T D n p):ig T D n p=0:=by
 unfold ig;have h2:gZ T n p=0:=by unfold gZ;rw[Vn h.valid,Vn h.node];exact h.walk
 rw[Vn (by rw[h.valid,h.fits];rfl),Vn h2,Vk];intro e;obtain⟨x,b,a⟩:=Xo.1 e;rw[h.up x b]at a;cases a
end
def l5(D:List Bool)(q:List Int):Bool:= !q.any λa=>bO D a.toNat
theorem sD{D}{q:List Int}:l5 D q=true↔∀a∈q,bO D a.toNat=false:=by
 unfold l5;rw[WG,List.any_eq_false];constructor
 ·intro h a ha;have:=h a ha;simpa using this
 ·intro h a ha;rw[h a ha];simp
theorem JI{D}{q:List Int}{a:Int}(ha:a∈q)(h:bO D a.toNat=true):l5 D q=false:=by
 unfold l5;rw[Bool.not_eq_false',Xo];exact⟨a,ha,h⟩
theorem RF(T:aw)(D:List Bool)(q:List Int)(l:cf T D=true)(ha:∀a∈q,jE T a=true)(m:q.length<=1000):Can prog 239 [aY D,bm q] (· =flag (l5 D q)):=by
 refine aR func239 I ntmps239 I<|aj (.a 1 I<|.k [0,1] I)<|an<|aj (.a 3 I<|.k [0,7,8,9] I)<|ay<|eX [0,7,8,9] I<|bq (λr st=>∃k:Nat,k<=q.length/\r=q.length - k/\(∀a∈q.take k,bO D a.toNat=false)/\st=⟨[(0,aY D),(7,bm q),(8,num q.length),(9,num k)],[]⟩) q.length ⟨0,by omega,by omega,by simp,rfl⟩ ?_;rintro r st ⟨k,hk,rfl,e,rfl⟩;refine aj (.a 1 I<|.k [0,7,8,9,10] I)<|an<|ak I (λhy=>?_) (λhy=>?_)
 ·have hlt:k<q.length:=by have:=tt hy;omega
  have b:=b9 (d:=0) hlt;have f:=ha _ b;simp only[jE,VH]at f;obtain⟨a,c⟩:∃a:Nat,q.getD k 0=(a:Int):=⟨(q.getD k 0).toNat,by omega⟩;have j:D.length=0\/a<D.length:=by simp only[cf,VH]at l;omega
  refine ao<|an<|ay<|aj (.v (aX (k) I) I<|.v (aO I ((aS q k hlt).trans (by rw[c]))) I<|.a 1 I<|.k [0,6,7,8,9] I)<|aj (.a 2 I<|.c rfl (my D a j) I<|.k [0,7,8,9,15] I)<|ak I (λi=>?_) (λi=>?_)
  ·have he:=JI (D:=D) b (by rw[c];exact i);exact aj (.a 1 I<|.k [4] I)<|aA<|jF I aQ.pure (by rw[he];rfl)
  ·skip
   refine ao<|aL (.v (aU I) I<|.a 1 I<|.k [0,7,8,9] I) ?_;refine⟨q.length - (k+1),by omega,k+1,by omega,rfl,λx hx=>?_,rfl⟩;rw[cL q k 0 hlt]at hx;rcases W5.1 hx with h|h
   ·exact e x h
   ·simp only[WW]at h;rw[h,c];exact i
 ·have g:k=q.length:=by have:=ff hy;omega
  subst g;rw[VN]at e;exact bh<|aj (.a 1 I<|.k [4] I)<|aA<|jF I aQ.pure (by rw[sD.2 e];rfl)
theorem Ki{T D}{n:Int}{p:List Int}(a:(aH T&&cf T D)=true)(h:gZ T n p≠0):ig T D n p=gZ T n p:=by unfold ig;rw[Vn a,Vk h]
theorem Hb{T D}{n:Int}{p:List Int}(b:(aH T&&cf T D)=true)(h:gZ T n p=0):ig T D n p=if l5 D p=true then 0 else 7:=by
 unfold ig l5;rw[Vn b,Vn h];cases p.any λa=>bO D a.toNat<;>rfl
theorem EI(T:aw)(D:List Bool)(p:List Int)(n:Int)(hp:p.length<=1000)(h:T.ah.length<=256):Can prog 222 [bu T,aY D,bm p,num n] (· =num (ig T D n p)):=by
 have⟨e,a⟩:=dw (aH T);have⟨f,b⟩:=dw (cf T D);refine aR func222 I ntmps222 I<|aj (.a 2 I<|.k [1,2,3,4] I)<|an<|cD 20 (.raw (.bool ((!e)|| !f))) [1,2,3,4] I ?_ ?_
 ·refine .a 1 I<|.c rfl (a▸gw T) I<|.a 2 I<|?_;cases e
  ·exact .a 5 I<|.k [20,1,2,3,4] I
  ·exact .a 2 I<|.c rfl (b▸rn T D (by omega)) I<|.a 2 I<|.k [20,1,2,3,4] I
 refine ak I (λhc=>?_) (λhc=>?_)
 ·have he:ig T D n p=1:=by unfold ig;rw[a,b];cases e<;>cases f<;>first|rfl|cases hc
  exact aj (.a 1 I<|.k [8] I)<|aA<|jF I aQ.pure (by rw[he];rfl)
 ·have hv:aH T=true:=by rw[a];cases e;cases hc;rfl
  have g:cf T D=true:=by rw[b];cases f;cases e<;>cases hc;rfl
  have d:(aH T&&cf T D)=true:=by rw[hv,g];rfl
  refine ao<|an<|aj (.a 3 I<|.c rfl (Cg T n p (by omega)) I<|.a 7 I<|.k [1,2,11] I)<|aj (.a 2 I<|.k [1,2,11,30] I)<|ak I (λhx=>?_) (λhx=>?_)
  ·have hx1:gZ T n p≠0:=tt hx;exact aj (.a 2 I<|.k [8] I)<|aA<|jF I aQ.pure (by rw[Ki d hx1];rfl)
  ·have hx1:gZ T n p=0:=VQ (ff hx);obtain⟨_,hn,hw⟩:=qI hx1;have ha:=pY hw;rw[Hb d hx1];refine ao<|an<|aj (.a 2 I<|.c rfl (RF T D p g ha hp) I<|.a 1 I<|.k [35] I)<|ak I (λhy=>?_) (λhy=>?_)
   ·have c:l5 D p=false:=by simpa using hy
    exact aj (.a 1 I<|.k [8] I)<|aA<|jF I aQ.pure (by rw[c];rfl)
   ·have c:l5 D p=true:=by simpa using hy
    exact ao<|aj (.a 1 I<|.k [8] I)<|aA<|jF I aQ.pure (by rw[c];rfl)
section
variable {T:aw} {D:List Bool} {n:Int} {p:List Int}
theorem oW(T:aw):cf T []=true:=by simp[cf]
theorem uz.bare(h:uz T D n p):uz T [] n p:=⟨h.valid,oW T,h.node,h.walk,λa _=>by simp[bO]⟩
theorem To{n:Int}{p:List Int}(h:ig T D n p=0):ig T [] n p=0:=Bo (Kh h).bare
end
theorem Iy(T:aw)(D:List Bool)(p:List Int)(n:Int)(hp:p.length<=1000)(a:T.ah.length<=256)(b:T.nodes<=12):Can prog 180 [bu T,aY D,bm p,num n] (· =yi (ig T D n p) (qc T [] n p)):=by
 refine aR func180 I ntmps180 I<|aj (.a 3 I<|.k [1,2,3,4] I)<|an<|aj (.a 4 I<|.c rfl (EI T D p n hp a) I<|.a 1 I<|.k [2,3,4,10] I)<|aj (.a 2 I<|.k [2,3,4,10,17] I)<|ak I (λhc=>?_) (λhc=>?_)
 ·have he:ig T D n p≠0:=tt hc;exact aj (.a 3 I<|.k [8,9] I)<|aA<|jF I (Yi (Vp aQ.cg (Vp aQ.pure Wg))) (by unfold yi;rw[Vk he];rfl)
 ·have he:ig T D n p=0:=VQ (ff hc);have hl:=xe T [] p n hp a b;rw[To he]at hl;rw[he];exact ao<|aj (.a 3 I<|.v (EX I (Vp aQ.pure<|Vp aQ.cg<|Vp aQ.pure<|Vp aQ.pure Wg) (hl)) I<|.a 4 I<|.k [8,9] I)<|aA<|jF I aQ.pure rfl
def Qa(K:St->Prop):Exit->St->Prop
 | .normal,s=>K s
 |_,_=>False
theorem Dm{P}{N L:Nat}{x y st}{Q:Exit->St->Prop}{Q1:St->Prop}(h:W P N L x st (Qa Q1))(k:∀s,Q1 s->W P N L y s Q):W P N L (.seq x y) st Q:=
 an (h.mono λe s a=>by
  cases e<;>first|exact k s a|exact a.elim)
section
variable {T:aw} {D:List Bool} {n:Int} {p:List Int}
end
section
variable {T:aw} {D:List Bool}
theorem Ch.ec{d m:Nat}{q:List Int}(h:Ch T D d m q):∀a∈q,jE T a=true:=by
 induction h with
 |nil=>intro a ha;cases ha
 | @cons n a m p ha c hu hm ho hp ih=>
  intro b hb;rcases V9.1 hb with rfl|hb
  ·exact gR.2 ⟨by omega,by omega⟩
  ·exact ih b hb
theorem s5{x y:Int}(h:lM T D x y=0):∃a b:Nat,x=(a:Int)/\y=(b:Int)/\(a:Int)<T.nodes/\(b:Int)<T.nodes/\aH T=true/\SP T D b a (eT T D x.toNat y.toNat):=by
 unfold lM at h;split at h
 ·rename_i he;obtain⟨hv,c,hn,hd⟩:=iZ he;rw[bY]at hn hd;obtain⟨a,rfl⟩:=Vo hn.1;obtain⟨b,rfl⟩:=Vo hd.1;refine⟨a,b,rfl,rfl,hn.2,hd.2,hv,?_⟩;simp only[Vi]at h ⊢;exact jA hv hd.2 hn.2 (by split at h<;>omega)
 ·rename_i he;exact absurd h he
end
noncomputable def SD(T:aw)(D:List Bool)(x y:Int):Bool:=(((aH T&&cf T D)&& !decide (x=y))&&iD T [] x y)&&l5 D (eT T [] x.toNat y.toNat)
theorem Aq{T D}{x y:Int}(h:iD T D x y=true):lM T D x y=0:=by
 unfold iD at h;rw[Vx,VH,VH]at h;obtain⟨h1,h2⟩:=h;obtain⟨hv,c,hn,hd⟩:=iZ h1;rw[bY]at hn hd;obtain⟨a,rfl⟩:=Vo hn.1;obtain⟨b,rfl⟩:=Vo hd.1;simp only[Vi]at h2;unfold lM;rw[Vn h1,Vk];simp only[Vi];intro h0;rw[Fp hv hd.2 hn.2 h0]at h2;omega
section
variable {T:aw} {D:List Bool} {n:Int} {p:List Int}
theorem ET(h:uz T D n p){i k x y:Nat}(q:i<k)(hk:k<=p.length)(hx:dB T n (p.take i)=(x:Int))(hy:dB T n (p.take k)=(y:Int)):(SD T D x y&&iC (eT T [] x y) (kd p i k))=iH T [] n p i k:=by
 have hb:=h.bare;have ha:=h.ec;have hv:=h.valid;obtain⟨g,r,b⟩:=dx hv h.node ha i (by omega);obtain⟨j,s,t⟩:=dx hv h.node ha k hk;have l:g=x:=by omega
 have d:j=y:=by omega
 subst l;subst d;rw[XV,QX hb (by omega) hk hx hy];unfold SD iC;simp only[Vi,Vx,WG,VH,Xm];constructor
 ·rintro⟨⟨⟨_,c⟩,u⟩,m⟩;exact⟨Aq c,c,m⟩
 ·rintro⟨h1,h2,c⟩;refine⟨⟨⟨⟨⟨hv,h.fits⟩,λe=>?_⟩,h2⟩,?_⟩,c⟩
  ·have d:g=j:=by omega
   subst d;rw[sa hv (oW T) b b]at h1;have f:=jA (D:=[]) hv b b (by split at h1<;>omega);have o:=f.self;rw[o]at c;have:=rR p (show i<=k by omega) hk;rw[<-c]at this;simp at this;omega
  ·rw[c,sD];exact λa ha=>h.up a (Lp ha)
end
section
variable {P:Program} {σ:bH} {t:cd} {o:Oper}
end
noncomputable def DR(T:aw)(n:Int)(p:List Int)(x:Int)(i:Nat):Nat->Nat->Option Nat
 |0,_=>none
 |f+1,j=>if dB T n (p.take j)=x/\iH T [] n p i j=true then some j else DR T n p x i f (j+1)
noncomputable def vT(T:aw)(n:Int)(p:List Int)(i:Nat)(s:eW):Option Nat:=
 if s.kind=2/\i<p.length/\p.getD i 0=s.num then some (i+1)
 else if s.kind=1 then DR T n p s.num i (p.length - i) (i+1)
 else none
noncomputable def Sa(T:aw)(n:Int)(p:List Int):Nat->List eW->Bool
 |i,[]=>decide (i=p.length)
 |i,s::l=>match vT T n p i s with
  |some j=>Sa T n p j l
  |none=>false
def vn(T:aw):Int->List eW->Bool
 |_,[]=>true
 |x,s::l=>if s.kind=1/\s.num=x then false else vn T (DG T s x).1 l
section
variable {T:aw} {n:Int} {p:List Int}
theorem xn{x:Int}{i:Nat}:∀(f j k:Nat),DR T n p x i f j=some k->j<=k/\k<j+f/\dB T n (p.take k)=x/\iH T [] n p i k=true/\∀m,j<=m->m<k->¬(dB T n (p.take m)=x/\iH T [] n p i m=true)
 |0,j,k,h=>by simp[DR]at h
 |f+1,j,k,h=>by
  simp only[DR]at h;split at h
  ·rename_i h1;cases h;exact⟨Vh _,by omega,h1.1,h1.2,λm h2 g=>by omega⟩
  ·rename_i h1;obtain⟨a,b,c,d,e⟩:=xn f (j+1) k h;refine⟨by omega,by omega,c,d,λm h2 g=>?_⟩;by_cases hm:m=j
   ·subst hm;exact h1
   ·exact e m (by omega) g
theorem FA{x:Int}{i:Nat}:∀(f j k:Nat),j<=k->k<j+f->dB T n (p.take k)=x->iH T [] n p i k=true->(∀m,j<=m->m<k->¬(dB T n (p.take m)=x/\iH T [] n p i m=true))->DR T n p x i f j=some k
 |0,j,k,h1,h2,_,_,_=>by omega
 |f+1,j,k,h1,h2,a,b,c=>by
  simp only[DR];by_cases e:j=k
  ·subst e;rw[Vn ⟨a,b⟩]
  ·rw[Vk (c j (Vh _) (by omega))];exact FA f (j+1) k (by omega) (by omega) a b (λm g d=>c m (by omega) d)
theorem vU(h:uz T [] n p){i:Nat}(hi:i<=p.length)(s:eW)(j:Nat):vT T n p i s=some j↔lX T [] n p i s=some j/\¬(s.kind=1/\s.num=dB T n (p.take i)):=by
 unfold vT lX;by_cases h1:s.kind=2/\i<p.length/\p.getD i 0=s.num
 ·rw[Vn h1,Vn h1];constructor
  ·intro e;exact⟨e,λo=>by omega⟩
  ·intro e;exact e.1
 ·rw[Vk h1,Vk h1];by_cases h2:s.kind=1
  ·rw[Vn h2,Vn h2];constructor
   ·intro e;obtain⟨a,b,c,d,_⟩:=xn _ _ _ e;have r:=sF h (show i<=j by omega) (by omega) d;rw[c]at r;rw[r,Vn ⟨c,d⟩];refine⟨rfl,λo=>?_⟩;have:=zu (T:=T) (n:=n) (p:=p) s.num (p.length - i) i i (Vh _) (by omega) o.2.symm (λk f t=>by omega);omega
   ·rintro⟨l,o⟩;split at l
    ·rename_i f;simp only[WE]at l;have q:=DS (T:=T) (n:=n) (p:=p) s.num (p.length - i) i;have g:=Kl (T:=T) (n:=n) (p:=p) s.num (p.length - i) i;rw[l]at f q g;have w:i≠j:=λe=>o ⟨h2,by rw[e];exact f.1.symm⟩;exact FA _ _ _ (by omega) (by omega) f.1 f.2 (λm t u v=>g m (by omega) u v.1)
    ·cases l
  ·rw[Vk h2,Vk h2];simp
theorem step_end(h:uz T [] n p){i j:Nat}(hi:i<=p.length){s}(a:lX T [] n p i s=some j):(DG T s (dB T n (p.take i))).1=dB T n (p.take j)/\(DG T s (dB T n (p.take i))).2=0/\j<=p.length:=by
 have ha:=h.ec;have hv:=h.valid;obtain⟨x,hx,q⟩:=dx hv h.node ha i hi;have g:bZ T (x:Int)=true:=bY.2 ⟨by omega,q⟩;rw[hx];have t:=a;unfold lX at a;split at a
 ·rename_i h1;cases a;have e:=ha _ (b9 (d:=0) h1.2.1);have k:=xS h h1.2.1 hx;have f:=kL T n p i h1.2.1;rw[h1.2.2]at e k f;have c:It T s=true:=by unfold It;rw[Vk (by omega),Vn h1.1];exact e
  have b:DG T s x=(dB T n (p.take (i+1)),0):=by
   unfold DG;rw[Vk (by rw[c];simp),Vk (by rw[g];simp),Vk (by omega),Vn h1.1,Vk (by rw[k];simp),f]
  rw[b];exact⟨rfl,rfl,h1.2.1⟩
 ·split at a
  ·rename_i h2;split at a
   ·rename_i l;simp only[WE]at a;have m:=DS (T:=T) (n:=n) (p:=p) s.num (p.length - i) i;rw[a]at l m;obtain⟨y,hy,r⟩:=dx hv h.node ha j (by omega);have o:s.num=(y:Int):=by rw[<-l.1];exact hy
    have c:It T s=true:=by unfold It;rw[Vn h2,o];exact bY.2 ⟨by omega,r⟩
    have b:DG T s x=(s.num,0):=by
     unfold DG;rw[Vk (by rw[c];simp),Vk (by rw[g];simp),Vn h2]
    rw[b];exact⟨l.1.symm,rfl,by omega⟩
   ·cases a
  ·cases a
theorem JH(h:uz T [] n p):∀(l:List eW) (i:Nat),i<=p.length->Sa T n p i l=(P4 T [] n p i l&&vn T (dB T n (p.take i)) l)
 | [],i,hi=>by simp[Sa,P4,vn]
 |s::l,i,hi=>by
  simp only[Sa,P4,vn];cases b:lX T [] n p i s with
  |none=>
   have a:vT T n p i s=none:=by
    cases a:vT T n p i s with
    |none=>rfl
    |some j=>have:=((vU h hi s j).1 a).1;rw[b]at this;cases this
   rw[a]
   rfl
  |some j=>
   obtain⟨c,e,d⟩:=step_end h hi b;by_cases hd:s.kind=1/\s.num=dB T n (p.take i)
   ·have a:vT T n p i s=none:=by
     cases a:vT T n p i s with
     |none=>rfl
     |some j=>exact absurd hd ((vU h hi s j).1 a).2
    rw[a,Vn hd];simp
   ·rw[(vU h hi s j).2 ⟨b,hd⟩,Vk hd,c];simp only;exact JH h l j d
theorem ze(h:uz T [] n p):∀(f i:Nat),i<=p.length->vn T (dB T n (p.take i)) (lK T [] n p f i)=true
 |f,i,hi=>by
  by_cases hlt:i<p.length
  ·cases f with
   |zero=>rfl
   |succ f=>
    cases b:qi (iH T [] n p i) i p.length with
    |none=>
     rw[rF hlt (λk h1 h2=>pr _ b k h1 h2)];have a:lX T [] n p i ⟨2,p.getD i 0⟩=some (i+1):=by unfold lX;rw[Vn ⟨rfl,hlt,rfl⟩]
     simp only[vn];rw[Vk (by rintro⟨h1,_⟩;omega),(step_end h hi a).1];exact ze h f (i+1) (by omega)
    |some j=>
     obtain⟨t1,t2,t3,t4⟩:=Ao _ _ b;rw[rG hlt t1 t2 t3 t4];have c:=sF h (show i<=j by omega) t2 t3;have a:lX T [] n p i ⟨1,dB T n (p.take j)⟩=some j:=by
      unfold lX;simp only;rw[Vk (by omega),Vn trivial,c,Vn ⟨rfl,t3⟩]
     simp only[vn];rw[Vk,(step_end h hi a).1]
     ·exact ze h f j t2
     ·rintro⟨_,h2⟩;have:=zu (T:=T) (n:=n) (p:=p) (dB T n (p.take j)) (p.length - i) i i (Vh _) (by omega) h2.symm (λk d e=>by omega);omega
  ·rw[zD f i (by omega)]
   rfl
end
noncomputable def S6(T:aw)(D:List Bool)(l:List eW)(n:Int)(p:List Int):Bool:=if ig T D n p=0 then Sa T n p 0 l else false
open iF
theorem Cj(p:List Int)(u:PV):aD prog 221 [bm p,.ptr 0 0] [some (.cells 49 [u])] (λr σ'=>r= .tuple []/\σ'=[some (.cells 49 [bm p])]):=by
 refine aV func221 I ntmps221 I<|bp<|av 2 I<|aF [] I ?_;exact⟨_,V5 I,rfl,rfl⟩
theorem Et(T:aw)(D:List Bool)(n d:Int):aD prog 177 [bu T,aY D,num n,num d,.func 221 [.ptr 0 0]] [some (.cells 49 [.raw (.slice none 0 0)])] (λr σ'=>r=num (lM T D n d)/\σ'=[some (.cells 49 [if lM T D n d=0 then bm (eT T D n.toNat d.toNat) else .raw (.slice none 0 0)])]):=by
 refine aV func177 I ntmps177 I<|aj (.a 2 I<|.k [1,2,3,4,5] I)<|aj (.a 4 I<|.c rfl (yo T D n d) I<|.a 5 I<|.k [4,11,12] I)<|an<|aj (.a 2 I<|.k [4,11,12,22] I)<|ak I (λh1=>?_) (λh1=>?_)
 ·have he:lM T D n d=0:=tt h1;refine bp<|av 2 I<|br I I (VO (Cj _ _) (λr σ' h=>?_));obtain⟨rfl,rfl⟩:=h;refine aF [12] I<|aj (.a 2 I<|.k [10] I)<|aA ?_;first
   |exact⟨_,V5 rfl,rfl,by rw[Vk he]⟩
   |exact⟨_,V5 rfl,rfl,by simp only[Vn he]⟩
 ·have he:¬lM T D n d=0:=ff h1;refine ao<|aj (.a 2 I<|.k [10] I)<|aA ?_;first
   |exact⟨_,V5 rfl,rfl,by rw[Vk he]⟩
   |exact⟨_,V5 rfl,rfl,by simp only[Vn he]⟩
theorem Eu(T:aw)(D:List Bool)(n d:Int):Can prog 179 [bu T,aY D,num n,num d] (· =fx (lM T D n d) (eT T D n.toNat d.toNat)):=by
 obtain⟨u,hu⟩:∃u:PV,(if lM T D n d=0 then bm (eT T D n.toNat d.toNat) else .raw (.slice none 0 0))=u:=⟨_,rfl⟩;have a:=Et T D n d;rw[hu]at a;refine aR func179 I ntmps179 I<|aj (.a 3 I<|.k [1,2,3,4] I)<|aK<|av 1 I<|aF [1,2,3,4,10] I ?_;refine aK<|av 5 I<|br I I (VO a (λr σ' h=>?_));obtain⟨rfl,rfl⟩:=h;refine av 1 I<|aF [10,11] I ?_;refine aj (.v (aO I ((show some u=some u from rfl))) I<|.a 3 I<|.k [8,9] I)<|aA<|⟨_,_,V5 I,Yi (Vp (y:=bm (if lM T D n d=0 then eT T D n.toNat d.toNat else [])) ?_ (Vp aQ.pure Wg)),rfl⟩;rw[<-hu];by_cases he:lM T D n d=0
 ·rw[Vn he,Vn he];exact aQ.pure
 ·rw[Vk he,Vk he];exact aQ.cg
end
section
open Go.RowKit cm Mem Net
section
variable {T:aw} {D:List Bool}
theorem AW{d:Nat}:∀ {m:Nat} {q:List Int},Ch T D d m q->(q=[]\/cW T m=false)->fA T false m q=0
 |m,[],_,_=>rfl
 |m,a::q,h,ho=>by
  cases h with
  | @cons _ b k _ ha e hu hm c hp=>
   rw[tc (gR.2 ⟨by omega,by omega⟩) (by rw[Vi];exact e) (.inr (by rcases ho with h|h;cases h;rw[Vi];exact h)),Vi,hm];exact AW hp c
theorem Fi{d m:Nat}{q:List Int}(h:Ch T D d m q):fA T true m q=0:=by
 cases h with
 |nil=>rfl
 | @cons _ b k q ha c hu hm a hp=>
  rw[tc (gR.2 ⟨by omega,by omega⟩) (by rw[Vi];exact c) (.inl rfl),Vi,hm];exact AW hp a
theorem Ch.bare{d m:Nat}{q:List Int}(h:Ch T D d m q):Ch T [] d m q:=by
 induction h with
 |nil=>exact .nil
 |cons ha a hu hm ho hp ih=>exact .cons ha a (by simp[bO]) hm ho ih
theorem Ch.mask{d m:Nat}{q:List Int}(h:Ch T [] d m q)(hc:∀a∈q,bO D a.toNat=false):Ch T D d m q:=by
 induction h with
 |nil=>exact .nil
 | @cons n a m p ha c hu hm ho hp ih=>exact .cons ha c (by have:=hc a (by simp);rw[Vi]at this;exact this) hm ho (ih λb hb=>hc b (by simp[hb]))
structure ox (T:aw) (D:List Bool) (x y:Nat) (p:List Int):Prop where
 valid:aH T=true
 fits:cf T D=true
 ne:x≠y
 hx:(x:Int)<T.nodes
 hy:(y:Int)<T.nodes
 uniq:iD T [] x y=true
 sp:SP T [] y x p
 up:∀a∈p,bO D a.toNat=false
theorem Pr{x y:Int}(h:SD T D x y=true):∃a b:Nat,x=(a:Int)/\y=(b:Int)/\ox T D a b (eT T [] a b)/\lM T [] x y=0:=by
 unfold SD at h;simp only[Vx,WG,Xm]at h;obtain⟨⟨⟨⟨hv,f⟩,d⟩,hu⟩,hc⟩:=h;obtain⟨a,b,rfl,rfl,ha,hb,_,c⟩:=s5 (Aq hu);simp only[Vi]at c hc;exact⟨a,b,rfl,rfl,⟨hv,f,λe=>d (by rw[e]),ha,hb,hu,c,sD.1 hc⟩,Aq hu⟩
variable {x y:Nat} {p:List Int}
theorem ox.pos(h:ox T D x y p):0<p.length:=by
 have a:=h.sp;cases a with
 |nil=>exact absurd rfl h.ne
 |cons _ _ _=>simp
theorem ox.Sh(h:ox T D x y p):uz T D x p:=⟨h.valid,h.fits,bY.2 ⟨by omega,h.hx⟩,Fi h.sp.ch,h.up⟩
theorem ox.qk(h:ox T D x y p):eQ T [] y x=1:=(C0 h.valid (oW T) h.hx h.hy).1 h.uniq
theorem ox.Tj(h:ox T D x y p):iH T [] x p 0 p.length=true:=by
 have he:dB T (x:Int) (p.take p.length)=(y:Int):=by rw[VN];exact h.sp.ch.fin
 rw[pB h.Sh.bare (We _) (Vh _) (u:=x) I he];have:kd p 0 p.length=p:=by unfold kd;simp
 rw[this];exact⟨h.sp,h.qk⟩
theorem ox.part(h:ox T D x y p){i k:Nat}(b:i<=k)(hk:k<p.length):SD T D (bI T (p.getD i 0).toNat) (bx T (p.getD k 0).toNat)=true:=by
 have a:=h.Sh;have ha:=a.ec;have hc:=Ns a.bare (i:=0) (j:=p.length) (i':=i) (j':=k+1) (We _) (by omega) (by omega) (Vh _) h.Tj;obtain⟨u,hu,c⟩:=dx h.valid a.node ha i (by omega);obtain⟨v,hv,d⟩:=dx h.valid a.node ha (k+1) (by omega);rw[xS a (by omega) hu,<-kL T x p k hk,hv];rw[<-ET a (by omega) (by omega) hu hv,Vx]at hc;exact hc.1
end
def SC(k:Nat):List mh:=(List.range k).map fun(i:Nat)=>⟨(i:Int),(((i+1) % 4:Nat):Int),1,1,0,1,0⟩
def FQ:aw:=⟨4,[],SC 4⟩
def LL(d:Nat):List Int:=match d with
 |0=>[0,1,2,1]
 |1=>[1,0,1,2]
 |2=>[2,1,0,1]
 |_=>[1,2,1,0]
def SK(T:aw)(n:Nat)(out:List Int)(a:Nat):Bool:=decide (0<=at' out (dF T false a))&&(decide (dF T false a=(n:Int))|| !cW T (dF T false a).toNat)
theorem Ar(n:Nat)(out:List Int)(a:Nat):Net.Way FQ [] n false out a↔SK FQ n out a=true:=by
 unfold Net.Way SK;have:bO [] a=false:=by simp[bO]
 simp[this]
theorem D3(l:List mh)(e:mh):bR l++jt e=bR (l++[e]):=by simp[bR]
theorem C6{P:Program}{σ t}{o:Oper}{ty v0 v1 c0 c1}(ho:o.op= .build ty #[(0,.const v0),(1,.const v1)])(hb:P.built ty [(0,v0),(1,v1)]=some #[c0,c1]):bE P σ t o (.agg [.raw c0,.raw c1]):=by
 intro F base E ρ w c d hT;have b:=run_build (P:=P) w ty #[(0,v0),(1,v1)] #[c0,c1] hb;have h0:ρ (.const v0)=v0:=c.const v0;have h1:ρ (.const v1)=v1:=c.const v1;have hr:(execOp ρ o).run P w= .ok (.value (.agg #[c0,c1])) w:=by
  simp only[execOp,ho,Sem.run_bind,XF,VX,Xw,h0,h1,b,Result.andThen_ok,Sem.run_pure]
 rw[hr];refine bA (.agg #[c0,c1] _ rfl (λi x u k1 a=>?_))
 match i,k1,a with
 |0,k1,a=>simp at k1 a;subst k1;subst a;exact .raw _
 |1,k1,a=>simp at k1 a;subst k1;subst a;exact .raw _
 |_+2,k1,a=>simp at a
section
variable {P:Program} {σ:bH} {t:cd} {o:Oper}
theorem aD.cg{f a l}{R:PV->bH->Prop}(h:aD P f (a::aY []::l) σ R):aD P f (a:: .raw (.slice none 0 0)::l) σ R:=λF base E w vs d b=>by
 refine h F base E w vs d ⟨b.1,λi c u h1 h2=>?_⟩
 match i,h2 with
 |0,h2=>exact b.2 0 c u h1 h2
 |1,h2=>
  simp at h2;subst h2;have:=b.2 1 c _ h1 rfl;cases this;exact .cg
 |i+2,h2=>exact b.2 (i+2) c u h1 h2
end
def oo(T:aw)(D:List Bool)(L:List Int)(m d:Nat):List Int:=if m=d\/L.getD m 0<0 then [] else lT T D L (L.getD m 0) d (cw T m)
def Dw(T:aw)(D:List Bool)(L:List Int)(d:Nat):Nat->Nat->Int
 |0,m=>if m=d then 1 else 0
 |f+1,m=>if m=d then 1 else(oo T D L m d).foldl (λc a=>min 2 (c+Dw T D L d f (bx T a.toNat).toNat)) 0
def GF(y u:Nat)(c:Int):Bool:=decide ((LL y).getD u 0=c)&&(decide (c9 FQ [] (u:Int) (y:Int)=0)&&decide (Dw FQ [] (LL y) y ((LL y).getD u 0).toNat u=1))
section
variable {H:Type} {enc:TypeId×Value->H} {W:World}
end
open Go.WideShapes
section
variable {H:Type} {enc:TypeId×Value->H} {W:World}
end
section
variable {H:Type} {enc:TypeId×Value->H} {W:World}
end
end
section
open Go.RowKit cm Mem Net
theorem Ch.Uw{T D}{d m:Nat}{q:List Int}(h:Ch T D d m q):∀a∈q,bO D a.toNat=false:=by
 induction h with
 |nil=>intro z b;cases b
 | @cons n a m p ha c hu hm ho hp ih=>
  intro z b;rcases V9.1 b with rfl|b
  ·rw[Vi];exact hu
  ·exact ih z b
theorem Og{T D}{n:Int}{p:List Int}(hp:0<p.length):0<(qc T D n p).length:=by
 unfold qc;obtain⟨f,a⟩:∃f,p.length=f+1:=⟨p.length - 1,by omega⟩;rw[a];simp only[lK];rw[Vn (by omega)];cases qi (iH T D n p 0) 0 p.length<;>simp
def A4:List eW->List eW
 | []=>[]
 |s::l=>if s.kind=2 then l else s::l
noncomputable def Be(T:aw)(D:List Bool)(n d:Int):qT:=
 if lM T D n d=0/\n≠d then⟨[(eT T D n.toNat d.toNat).getD 0 0],true,A4 (qc T [] n (eT T D n.toNat d.toNat))⟩ else⟨[],false,[]⟩
structure Da (T:aw) (D:List Bool) (x y:Nat) (p:List Int):Prop where
 valid:aH T=true
 fits:cf T D=true
 ne:x≠y
 hx:(x:Int)<T.nodes
 hy:(y:Int)<T.nodes
 sp:SP T D y x p
theorem Lz{T D}{n d:Int}(h:lM T D n d=0)(g:n≠d):∃a b:Nat,n=(a:Int)/\d=(b:Int)/\Da T D a b (eT T D a b):=by
 have i:cf T D=true:=by
  have f:=h;unfold lM at f;split at f
  ·rename_i h1;exact(iZ h1).2.1
  ·rename_i h1;exact absurd f h1
 obtain⟨a,b,rfl,rfl,ha,hb,hv,c⟩:=s5 h;simp only[Vi]at c;exact⟨a,b,rfl,rfl,hv,i,λe=>g (by rw[e]),ha,hb,c⟩
section
variable {T:aw} {D:List Bool} {x y:Nat} {p:List Int}
theorem Da.pos(h:Da T D x y p):0<p.length:=by
 have a:=h.sp;cases a with
 |nil=>exact absurd rfl h.ne
 |cons _ _ _=>simp
theorem Da.Sh(h:Da T D x y p):uz T D x p:=⟨h.valid,h.fits,bY.2 ⟨by omega,h.hx⟩,Fi h.sp.ch,h.sp.ch.Uw⟩
theorem Da.zero(h:Da T D x y p):ig T D x p=0:=Bo h.Sh
theorem Da.len(h:Da T D x y p):(p.length:Int)<T.nodes:=h.sp.KI h.valid h.hy
theorem Da.Ra(h:Da T D x y p):0<(qc T [] x p).length/\(qc T [] x p).length<=p.length:=⟨Og h.pos,Of _ _⟩
theorem Da.ck(h:Da T D x y p):S6 T D (qc T [] x p) x p=true:=by
 have a:=h.Sh;unfold S6;rw[Vn h.zero,JH a.bare _ 0 (We _),Vx];exact⟨DI a.bare _ 0 (We _) (by omega),ze a.bare _ 0 (We _)⟩
theorem BP{n:Int}(hp:0<p.length):∃s l,qc T [] n p=s::l/\(s.kind=1\/s=⟨2,p.getD 0 0⟩):=by
 unfold qc;obtain⟨f,a⟩:∃f,p.length=f+1:=⟨p.length - 1,by omega⟩;rw[a];simp only[lK];rw[Vn (by omega)];cases qi (iH T [] n p 0) 0 p.length with
 |none=>exact⟨_,_,rfl,.inr rfl⟩
 |some j=>exact⟨_,_,rfl,.inl rfl⟩
theorem Da.whole(h:Da T D x y p):S6 T D (A4 (qc T [] x p)) x p=true\/S6 T D (⟨2,p.getD 0 0⟩::A4 (qc T [] x p)) x p=true:=by
 obtain⟨s,l,hl,hs⟩:=BP (T:=T) (n:=(x:Int)) h.pos;have hc:=h.ck;rw[hl]at hc ⊢;rcases hs with hs|rfl
 ·left;simp only[A4];rw[Vk (by omega)];exact hc
 ·right;exact hc
end
theorem ND{T D}{x y:Nat}(h:Da T D x y (eT T D x y)):Be T D x y=⟨[(eT T D x y).getD 0 0],true,A4 (qc T [] x (eT T D x y))⟩:=by
 unfold Be;rw[Vn]
 ·simp only[Vi]
 ·refine⟨?_,λe=>h.ne (by omega)⟩;rw[sa h.valid h.fits h.hx h.hy,Vk];have:=(h.sp.cost h.valid h.hy).2;omega
theorem J6{T D}{n d:Int}(h:¬(lM T D n d=0/\n≠d)):Be T D n d=⟨[],false,[]⟩:=Vk h
theorem GW{T:aw}{D c}(hv:aH T=true){d:Nat}(hd:(d:Int)<T.nodes)(dir:Bool)(f:∀a,bO D a=bO c a):bN T D d dir=bN T c d dir:=by
 have b:=kX (bz hv) c dir hd;refine mw (bz hv) ⟨b.len,b.root,b.ge,λa ha hw=>b.closed a ha ?_,λx hx h0=>?_⟩
 ·exact⟨(f a).symm.trans hw.1,hw.2⟩
 ·rcases b.qg x hx h0 with h|⟨a,h1,h2,e,g⟩
  ·exact .inl h
  ·exact .inr ⟨a,h1,h2,⟨(f a).trans e.1,e.2⟩,g⟩
theorem HK{T:aw}{D b}(hv:aH T=true){n d:Nat}(hd:(d:Int)<T.nodes)(c:∀a,bO D a=bO b a):cA T D n d=cA T b n d:=by
 unfold cA;rw[GW hv hd false c];congr 1;unfold lT;refine Yc λa _=>?_;unfold iR;rw[c]
theorem CB{T D b}(hv:aH T=true)(n:Nat)(c:∀a,bO D a=bO b a):kJ T D n=kJ T b n:=by
 have hN:=(bz hv).nodes;unfold kJ;have h1:toL T D n T.nodes.toNat=toL T b n T.nodes.toNat:=by
  unfold toL;refine Wh λd hd=>?_;have:=VP.1 hd;rw[HK hv (by omega) c]
 have h2:fR D (cw T n)=fR b (cw T n):=by
  unfold fR;exact Yc λa _=>c _
 rw[h1,h2]
end
end PW
end Go.Proofs.YtfcadpknnbgibaaGreatDoor
