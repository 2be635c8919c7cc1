/- Part 3. -/
import Derived.RangeFuncFrom
import Derived.Test.YtoopjinigmhpcaaGreatDoorCardXFB2
set_option maxRecDepth 100000
set_option maxHeartbeats 4000000
namespace Go.Proofs.YtoopjinigmhpcaaGreatDoor
open Go.Proofs.Tryz
namespace PW
section
open Go.RowKit cG Mem Net
def Nh:Code->Option (Array Oper)
 | .block _ (.region _ ops _)=>some ops
 |_=>none
def uW:Code->Option (Operand×Array Tmp×Code×Code)
 | .rangeFunc g ps a b=>some (g,ps,a,b)
 | .seq x y=>(uW x).orElse λ_=>uW y
 | .cond _ x y=>(uW x).orElse λ_=>uW y
 | .block _ x=>uW x
 | .loop x=>uW x
 |_=>none
def opsOf(f:Func):Array Oper:=(((f.body.bind uW).bind λx=>Nh x.2.2.2).getD #[])
theorem Ng(M:List Bool)(i:Nat)(hi:2*i+1<M.length)(hM:M.length<=1000):WA prog 41 2 (opsOf Tryz.f32) 11 #[false,false,false,false,false,false,false,false,false,false,false] ⟨[(6,.ptr 1 0),(9,num i)],[some (.row 4 1 M.length (bZ M)),some (.cells 22 [.own 0])]⟩ (λs=>s.σ=[some (.row 4 1 M.length (bZ ((M.set (2*i) true).set (2*i+1) true))),some (.cells 22 [.own 0])]):=by
 have aD:(M.set (2*i) true).length=M.length:=by simp
 have b:(2:Int)*(i:Int)=((2*i:Nat):Int):=by omega
 have c:((2*i:Nat):Int)+1=((2*i+1:Nat):Int):=by omega
 refine tH [[(6,.ptr 1 0),(9,num i),(30,.own 0),(31,num i),(32,num ((2*i:Nat):Int)),(33,.own 0),(34,num i),(35,num ((2*i:Nat):Int)),(36,num ((2*i+1:Nat):Int)),(37,.ptr 0 (2*i)),(38,.ptr 0 (2*i+1))]] [[some (.row 4 1 M.length (bZ M)),some (.cells 22 [.own 0])],[some (.row 4 1 M.length (bZ (M.set (2*i) true))),some (.cells 22 [.own 0])],[some (.row 4 1 M.length (bZ ((M.set (2*i) true).set (2*i+1) true))),some (.cells 22 [.own 0])]] [6,9] I (by kernel_rfl) (λM hi a=>?_);have aB:M 0 2047 0 [] 2:=hi<|rb I (by kernel_rfl) (rfl);have aC:M 1 1023 0 [38] 1:=hi<|aa [(10,2047)] I<|pU I I (cA I (Q6 I) I I I (by simp;omega)) I I (a aB) I I ag;have af:M 2 511 0 [33,36] 1:=hi<|aa [(9,1023)] I<|br I I (aM (2*i+1) I) I (a aC) I I ag;have ah:M 3 255 0 [33,36,37] 0:=hi<|aa [(8,511)] I<|pU I I (cA I (Q6 I) I I I (by omega)) I I (a af) I I ag;have A:M 4 127 0 [30,32,33,36] 0:=hi<|aa [(7,255)] I<|br I I (aM (2*i) I) I (a ah) I I ag;have ai:M 3 447 0 [33,35] 1:=hi<|aa [(6,511)] I<|br I I (aW I (hc:=c)) I (a af) I I ag;have aj:M 4 191 0 [33,35,37] 0:=hi<|aa [(6,255),(8,447)] I<|br I I (aW I (hc:=c)) I (a ah) I I<|pU I I (cA I (Q6 I) I I I (by omega)) I I (a ai) I I ag;have B:M 5 63 0 [30,32,33,35] 0:=hi<|aa [(6,127),(7,191)] I<|br I I (aW I (hc:=c)) I (a A) I I<|br I I (aM (2*i) I) I (a aj) I I ag;have ak:M 4 415 0 [33,34] 1:=hi<|aa [(5,447)] I<|br I I (aW I (hc:=b)) I (a ai) I I ag;have al:M 5 159 0 [33,34,37] 0:=hi<|aa [(5,191),(8,415)] I<|br I I (aW I (hc:=b)) I (a aj) I I<|pU I I (cA I (Q6 I) I I I (by omega)) I I (a ak) I I ag;have d:M 6 31 0 [30,32,33,34] 0:=hi<|aa [(5,63),(7,159)] I<|br I I (aW I (hc:=b)) I (a B) I I<|br I I (aM (2*i) I) I (a al) I I ag;have C:M 5 399 0 [9,33] 1:=hi<|aa [(4,415)] I<|an (a ak) I I ag;have D:M 6 143 0 [9,33,37] 0:=hi<|aa [(4,159),(8,399)] I<|an (a al) I I<|pU I I (cA I (Q6 I) I I I (by omega)) I I (a C) I I ag;have h:M 7 15 0 [9,30,32,33] 0:=hi<|aa [(4,31),(7,143)] I<|an (a d) I I<|br I I (aM (2*i) I) I (a D) I I ag;have E:M 3 503 0 [6,36] 1:=hi<|aa [(3,511)] I<|an (a af) I I ag;have F:M 4 247 0 [6,36,37] 0:=hi<|aa [(3,255),(8,503)] I<|an (a ah) I I<|pU I I (cA I (Q6 I) I I I (by omega)) I I (a E) I I ag;have j:M 5 119 0 [6,30,32,36] 0:=hi<|aa [(3,127),(7,247)] I<|an (a A) I I<|br I I (aM (2*i) I) I (a F) I I ag;have G:M 4 439 0 [6,35] 1:=hi<|aa [(3,447),(6,503)] I<|an (a ai) I I<|br I I (aW I (hc:=c)) I (a E) I I ag;have H:M 5 183 0 [6,35,37] 0:=hi<|aa [(3,191),(6,247),(8,439)] I<|an (a aj) I I<|br I I (aW I (hc:=c)) I (a F) I I<|pU I I (cA I (Q6 I) I I I (by omega)) I I (a G) I I ag;have k:M 6 55 0 [6,30,32,35] 0:=hi<|aa [(3,63),(6,119),(7,183)] I<|an (a B) I I<|br I I (aW I (hc:=c)) I (a j) I I<|br I I (aM (2*i) I) I (a H) I I ag;have J:M 5 407 0 [6,34] 1:=hi<|aa [(3,415),(5,439)] I<|an (a ak) I I<|br I I (aW I (hc:=b)) I (a G) I I ag;have K:M 6 151 0 [6,34,37] 0:=hi<|aa [(3,159),(5,183),(8,407)] I<|an (a al) I I<|br I I (aW I (hc:=b)) I (a H) I I<|pU I I (cA I (Q6 I) I I I (by omega)) I I (a J) I I ag;have l:M 7 23 0 [6,30,32,34] 0:=hi<|aa [(3,31),(5,55),(7,151)] I<|an (a d) I I<|br I I (aW I (hc:=b)) I (a k) I I<|br I I (aM (2*i) I) I (a K) I I ag;have ao:M 6 391 0 [6,9] 1:=hi<|aa [(3,399),(4,407)] I<|an (a C) I I<|an (a J) I I ag;have aq:M 7 135 0 [6,9,37] 0:=hi<|aa [(3,143),(4,151),(8,391)] I<|an (a D) I I<|an (a K) I I<|pU I I (cA I (Q6 I) I I I (by omega)) I I (a ao) I I ag;have L:M 8 7 0 [6,9,30,32] 0:=hi<|aa [(3,15),(4,23),(7,135)] I<|an (a h) I I<|an (a l) I I<|br I I (aM (2*i) I) I (a aq) I I ag;have e:M 5 123 0 [30,31,33,36] 0:=hi<|aa [(2,127)] I<|br I I (aW I (hc:=b)) I (a A) I I ag;have f:M 6 59 0 [30,31,33,35] 0:=hi<|aa [(2,63),(6,123)] I<|br I I (aW I (hc:=b)) I (a B) I I<|br I I (aW I (hc:=c)) I (a e) I I ag;have g:M 7 27 0 [30,31,33,34] 0:=hi<|aa [(2,31),(5,59)] I<|br I I (aW I (hc:=b)) I (a d) I I<|br I I (aW I (hc:=b)) I (a f) I I ag;have m:M 8 11 0 [9,30,31,33] 0:=hi<|aa [(2,15),(4,27)] I<|br I I (aW I (hc:=b)) I (a h) I I<|an (a g) I I ag;have n:M 6 115 0 [6,30,31,36] 0:=hi<|aa [(2,119),(3,123)] I<|br I I (aW I (hc:=b)) I (a j) I I<|an (a e) I I ag;have o:M 7 51 0 [6,30,31,35] 0:=hi<|aa [(2,55),(3,59),(6,115)] I<|br I I (aW I (hc:=b)) I (a k) I I<|an (a f) I I<|br I I (aW I (hc:=c)) I (a n) I I ag;have p:M 8 19 0 [6,30,31,34] 0:=hi<|aa [(2,23),(3,27),(5,51)] I<|br I I (aW I (hc:=b)) I (a l) I I<|an (a g) I I<|br I I (aW I (hc:=b)) I (a o) I I ag;have N:M 9 3 0 [6,9,30,31] 0:=hi<|aa [(2,7),(3,11),(4,19)] I<|br I I (aW I (hc:=b)) I (a L) I I<|an (a m) I I<|an (a p) I I ag;have q:M 6 121 0 [9,30,33,36] 0:=hi<|aa [(1,123)] I<|an (a e) I I ag;have r:M 7 57 0 [9,30,33,35] 0:=hi<|aa [(1,59),(6,121)] I<|an (a f) I I<|br I I (aW I (hc:=c)) I (a q) I I ag;have t:M 8 25 0 [9,30,33,34] 0:=hi<|aa [(1,27),(5,57)] I<|an (a g) I I<|br I I (aW I (hc:=b)) I (a r) I I ag;have O:M 9 9 0 [9,30,33] 0:=hi<|aa [(1,11),(4,25)] I<|an (a m) I I<|an (a t) I I ag;have P:M 7 113 0 [6,9,30,36] 0:=hi<|aa [(1,115),(3,121)] I<|an (a n) I I<|an (a q) I I ag;have Q:M 8 49 0 [6,9,30,35] 0:=hi<|aa [(1,51),(3,57),(6,113)] I<|an (a o) I I<|an (a r) I I<|br I I (aW I (hc:=c)) I (a P) I I ag;have R:M 9 17 0 [6,9,30,34] 0:=hi<|aa [(1,19),(3,25),(5,49)] I<|an (a p) I I<|an (a t) I I<|br I I (aW I (hc:=b)) I (a Q) I I ag;have ar:M 10 1 0 [6,9,30] 0:=hi<|aa [(1,3),(3,9),(4,17)] I<|an (a N) I I<|an (a O) I I<|an (a R) I I ag;have u:M 5 126 0 [6,32,33,36] 0:=hi<|aa [(0,127)] I<|an (a A) I I ag;have v:M 6 62 0 [6,32,33,35] 0:=hi<|aa [(0,63),(6,126)] I<|an (a B) I I<|br I I (aW I (hc:=c)) I (a u) I I ag;have w:M 7 30 0 [6,32,33,34] 0:=hi<|aa [(0,31),(5,62)] I<|an (a d) I I<|br I I (aW I (hc:=b)) I (a v) I I ag;have S:M 8 14 0 [6,9,32,33] 0:=hi<|aa [(0,15),(4,30)] I<|an (a h) I I<|an (a w) I I ag;have T:M 6 118 0 [6,32,36] 0:=hi<|aa [(0,119),(3,126)] I<|an (a j) I I<|an (a u) I I ag;have U:M 7 54 0 [6,32,35] 0:=hi<|aa [(0,55),(3,62),(6,118)] I<|an (a k) I I<|an (a v) I I<|br I I (aW I (hc:=c)) I (a T) I I ag;have V:M 8 22 0 [6,32,34] 0:=hi<|aa [(0,23),(3,30),(5,54)] I<|an (a l) I I<|an (a w) I I<|br I I (aW I (hc:=b)) I (a U) I I ag;have au:M 9 6 0 [6,9,32] 0:=hi<|aa [(0,7),(3,14),(4,22)] I<|an (a L) I I<|an (a S) I I<|an (a V) I I ag;have x:M 6 122 0 [6,31,33,36] 0:=hi<|aa [(0,123),(2,126)] I<|an (a e) I I<|br I I (aW I (hc:=b)) I (a u) I I ag;have y:M 7 58 0 [6,31,33,35] 0:=hi<|aa [(0,59),(2,62),(6,122)] I<|an (a f) I I<|br I I (aW I (hc:=b)) I (a v) I I<|br I I (aW I (hc:=c)) I (a x) I I ag;have z:M 8 26 0 [6,31,33,34] 0:=hi<|aa [(0,27),(2,30),(5,58)] I<|an (a g) I I<|br I I (aW I (hc:=b)) I (a w) I I<|br I I (aW I (hc:=b)) I (a y) I I ag;have W:M 9 10 0 [6,9,31,33] 0:=hi<|aa [(0,11),(2,14),(4,26)] I<|an (a m) I I<|br I I (aW I (hc:=b)) I (a S) I I<|an (a z) I I ag;have X:M 7 114 0 [6,31,36] 0:=hi<|aa [(0,115),(2,118),(3,122)] I<|an (a n) I I<|br I I (aW I (hc:=b)) I (a T) I I<|an (a x) I I ag;have Y:M 8 50 0 [6,31,35] 0:=hi<|aa [(0,51),(2,54),(3,58),(6,114)] I<|an (a o) I I<|br I I (aW I (hc:=b)) I (a U) I I<|an (a y) I I<|br I I (aW I (hc:=c)) I (a X) I I ag;have Z:M 9 18 0 [6,31,34] 0:=hi<|aa [(0,19),(2,22),(3,26),(5,50)] I<|an (a p) I I<|br I I (aW I (hc:=b)) I (a V) I I<|an (a z) I I<|br I I (aW I (hc:=b)) I (a Y) I I ag;have av:M 10 2 0 [6,9,31] 0:=hi<|aa [(0,3),(2,6),(3,10),(4,18)] I<|an (a N) I I<|br I I (aW I (hc:=b)) I (a au) I I<|an (a W) I I<|an (a Z) I I ag;have ab:M 7 120 0 [6,9,33,36] 0:=hi<|aa [(0,121),(1,122)] I<|an (a q) I I<|an (a x) I I ag;have ad:M 8 56 0 [6,9,33,35] 0:=hi<|aa [(0,57),(1,58),(6,120)] I<|an (a r) I I<|an (a y) I I<|br I I (aW I (hc:=c)) I (a ab) I I ag;have ae:M 9 24 0 [6,9,33,34] 0:=hi<|aa [(0,25),(1,26),(5,56)] I<|an (a t) I I<|an (a z) I I<|br I I (aW I (hc:=b)) I (a ad) I I ag;have aw:M 10 8 0 [6,9,33] 0:=hi<|aa [(0,9),(1,10),(4,24)] I<|an (a O) I I<|an (a W) I I<|an (a ae) I I ag;have ax:M 8 112 0 [6,9,36] 0:=hi<|aa [(0,113),(1,114),(3,120)] I<|an (a P) I I<|an (a X) I I<|an (a ab) I I ag;have ay:M 9 48 0 [6,9,35] 0:=hi<|aa [(0,49),(1,50),(3,56),(6,112)] I<|an (a Q) I I<|an (a Y) I I<|an (a ad) I I<|br I I (aW I (hc:=c)) I (a ax) I I ag;have az:M 10 16 0 [6,9,34] 0:=hi<|aa [(0,17),(1,18),(3,24),(5,48)] I<|an (a R) I I<|an (a Z) I I<|an (a ae) I I<|br I I (aW I (hc:=b)) I (a ay) I I ag;have aA:M 11 0 0 [6,9] 0:=hi<|aa [(0,1),(1,2),(3,8),(4,16)] I<|an (a ar) I I<|an (a av) I I<|an (a aw) I I<|an (a az) I I ag;exact aA
open Go.Shelf eE
attribute [local go_sem] Oper.semAt_some
def cN(k x:Int):List PV:=[num k,num x]
def bV(k x:Int):PV:=.agg (cN k x)
instance (k x:Int):aP (cN k x):=by unfold cN;infer_instance
instance (k x:Int):IsPure (bV k x):=by unfold bV;infer_instance
def cd(T:ak)(k x:Int):Bool:=if k=1 then decide (0<=x)&&decide (x<(T.ah.length:Int)) else if k=2 then aX T x else if k=3 then decide (1<=x)&&decide (x<=64) else false
theorem ny(T:ak)(k x:Int):Can prog 64 [aL T,bV k x] (· =flag (cd T k x)):=by
 have⟨g,h1⟩:=QQ (decide (0<=x));have⟨l,h2⟩:=QQ (decide (x<(T.ah.length:Int)));have⟨h,i⟩:=QQ (decide (1<=x));have⟨m,j⟩:=QQ (decide (x<=64));have n:cd T k x=if k=1 then(g&&l) else if k=2 then aX T x else if k=3 then(h&&m) else false:=by unfold cd;rw[h1,h2,i,j]
 rw[n];refine aF func64 I ntmps64 I<|ab (.a 3 I<|.k [2,3] I)<|ai<|ab (.a 2 I<|.k [2,3,6] I)<|aw<|ab (.a 2 I<|.k [2,3,6,7] I)<|ae I (λa=>?_) (λa=>?_)
 ·have d:k=1:=tt a;refine bz 4 (.raw (.bool (g&&l))) [] I ?_ ?_
  ·refine .a 2 I<|.v (bW I (h1)) I<|.a 1 I<|?_;cases g
   ·exact .a 8 I<|.k [4] I
   ·exact .a 5 I<|.v (bW I (h2)) I<|.a 2 I<|.k [4] I
  exact ao<|QR I ax.pure (by rw[QY d];rfl)
 ·have d:¬k=1:=ff a;refine ab (.a 2 I<|.k [2,3,6,20] I)<|ae I (λb=>?_) (λb=>?_)
  ·have e:k=2:=tt b;exact ab (.a 3 I<|.c rfl (ej T x) I<|.a 1 I<|.k [4] I)<|ao<|QR I ax.pure (by rw[QZ d,QY e];rfl)
  ·have e:¬k=2:=ff b;refine ab (.a 2 I<|.k [3,26] I)<|ae I (λc=>?_) (λc=>?_)
   ·have f:k=3:=tt c;refine bz 4 (.raw (.bool (h&&m))) [] I ?_ ?_
    ·refine .a 2 I<|.v (bW I (i)) I<|.a 1 I<|?_;cases h
     ·exact .a 5 I<|.k [4] I
     ·exact .a 2 I<|.v (bW I (j)) I<|.a 2 I<|.k [4] I
    exact ao<|QR I ax.pure (by rw[QZ d,QZ e,QY f];rfl)
   ·have f:¬k=3:=ff c;exact aj<|ab (.a 1 I<|.k [4] I)<|ao<|QR I ax.pure (by rw[QZ d,QZ e,QZ f];rfl)
theorem Io(c0 c1 a:Value)(k x:Int)(n:Nat)(w:World):CallsIn Fence.wide n prog 65 #[.agg #[c0,c1,a],.agg #[.int .i64 k,.int .i64 x]] w λe w'=>
  e= .returned (.func (.func 96) #[] #[.pointer (some ⟨w.heap.size,0,none⟩),.pointer (some ⟨w.heap.size+1,0,none⟩)])/\w'=(w.alloc (.cells #[c0,c1,a] 25)).alloc (.cells #[.int .i64 k,.int .i64 x] 27):=by
 refine callsIn_of_wp func65 I trivial ?_ rfl;simp only[ntmps65,Tf,Q8,S7,Nat.reduceAdd,Nat.reduceSub,Tn,To,TM,TD,Sx,RF]
 gi_wp2
 go_ret
 exact⟨rfl,rfl⟩
def Mx(W:World)(b off:Nat)(L:List pM):Prop:=∀i,i<L.length->W.cell? ⟨b,off+i*7,none⟩=some (.int .i64 (cP L i).a)/\W.cell? ⟨b,off+i*7+1,none⟩=some (.int .i64 (cP L i).b)/\W.cell? ⟨b,off+i*7+2,none⟩=some (.int .i64 (cP L i).c0)/\W.cell? ⟨b,off+i*7+3,none⟩=some (.int .i64 (cP L i).c1)/\W.cell? ⟨b,off+i*7+4,none⟩=some (.int .i64 (cP L i).cap)/\W.cell? ⟨b,off+i*7+5,none⟩=some (.int .i64 (cP L i).ga)/\W.cell? ⟨b,off+i*7+6,none⟩=some (.int .i64 (cP L i).wG)
theorem Fo(n l Bt Bc cap:Nat)(ad:Option Addr)(J:List (eE.Ix 0)->World->Prop)(W:World)(hBt:W.cell? ⟨Bt,2,none⟩=some (.slice ad 0 cap))(h0:J [] W):
  CallsIn Fence.wide n prog 96 #[.func (.yield l) #[] #[],.pointer (some ⟨Bt,0,none⟩),.pointer (some ⟨Bc,0,none⟩)] W λe W'=>(∃v,e= .returned v)/\J [] W':=by
 refine callsIn_of_wp func96 I trivial ?_ rfl
 simp only[ntmps96,Tf,Q8,S7,Nat.reduceAdd,Nat.reduceSub,Tn,To,TM,TD,Sx,RF]
 gi_wp2
 gi_loopw [10] (λi wr=>i= .int .i64 0/\J [] wr) (λ_ _=>0)
 case atStart=>exact⟨rfl,h0⟩
 case round=>
  obtain⟨rfl,hJs⟩:=hrel
  gi_wp2
  go_end0
  exact⟨⟨_,rfl⟩,hJs⟩
def Oc(n₁ G:Nat)(W:World)(v:Value)(L:List pM):Prop:=(∃a cap,v= .slice a 0 cap/\L=[])\/∃b off cap,v= .slice (some ⟨b,off,none⟩) L.length cap/\b<n₁/\b≠G/\Mx W b off L
theorem Az(T:ak)(k x:Int)(hk:k=1\/k=2\/k=3)(hl:T.ah.length<=1000)(n g d G:Nat)(hn:1<=n)(v:Value)(w:World)(q:g<w.heap.size)(a:d<w.heap.size)(f:d≠G)
  (t:w.cell? ⟨g,2,none⟩=some v) (s:w.cell? ⟨d,0,none⟩=some (.int .i64 k)) (u:w.cell? ⟨d,1,none⟩=some (.int .i64 x)) (hv:Oc w.heap.size G w v T.ah):SeqStopsK Fence.wide n prog 96 #[.pointer (some ⟨g,0,none⟩),.pointer (some ⟨d,0,none⟩)] (λi:eE.Ix T.ah.length=> #[Value.int .i64 (i.1:Int)]) (Kp G w.heap.size) (λys=>ys=nf (cO k x T.ah) T.ah.length T.ah.length) (λ_=>True) T.ah.length w:=λl J o W c r _ y h0=>by
 have kt:=(c.cell (p:=⟨g,2,none⟩) q).trans t;have z:=(c.cell (p:=⟨d,0,none⟩) a).trans s;have A:=(c.cell (p:=⟨d,1,none⟩) a).trans u;rcases hv with⟨D,cap,rfl,E⟩|⟨b,off,cap,rfl,hb,j,hc⟩
 ·generalize T.ah=L at*;subst E;exact(Fo n l g d cap D J W kt h0).mono λe W' h=>⟨h.1,.inl ⟨_,rfl,h.2⟩⟩
 ·have m:Mx W b off T.ah:=λi hi=>by
   obtain⟨a0,B,a2,a3,a4,a5,C⟩:=hc i hi;exact⟨(c.cell (p:=⟨b,_,none⟩) hb).trans a0,(c.cell (p:=⟨b,_,none⟩) hb).trans B,(c.cell (p:=⟨b,_,none⟩) hb).trans a2,(c.cell (p:=⟨b,_,none⟩) hb).trans a3,(c.cell (p:=⟨b,_,none⟩) hb).trans a4,(c.cell (p:=⟨b,_,none⟩) hb).trans a5,(c.cell (p:=⟨b,_,none⟩) hb).trans C⟩
  have fin:∀ {e:Ending} {W':World},(∃v,e= .returned v)/\((∃ys,ys=nf (cO k x T.ah) T.ah.length T.ah.length/\J ys W')\/(∃pre,o pre W'))->(∃v,e= .returned v)/\((∃xs,xs=nf (cO k x T.ah) T.ah.length T.ah.length/\J xs W')\/(∃pre,True/\o pre W')):=λh=>⟨h.1,h.2.imp id λ⟨pre,h⟩=>⟨pre,trivial,h⟩⟩;rcases hk with rfl|rfl|rfl
  ·exact(Fp Fence.wide n trivial rfl hn l g d G w.heap.size b off cap T.ah x hl hb j a f J o y W kt z A m c.size r h0).mono λe W' h=>fin h
  ·exact(Fq Fence.wide n trivial rfl hn l g d G w.heap.size b off cap T.ah x hl hb j a f J o y W kt z A m c.size r h0).mono λe W' h=>fin h
  ·exact(Fs Fence.wide n trivial rfl hn l g d G w.heap.size b off cap T.ah x hl hb j a f J o y W kt z A m c.size r h0).mono λe W' h=>fin h
theorem xm{E w}:∀ {cs} {M:List Bool},bp E w cs (bZ M)->cs=M.map Value.bool
 | [],[],_=>rfl
 | [],b::M,h=>by have:=h.1;simp[bZ]at this
 |c::cs,[],h=>by have:=h.1;simp[bZ]at this
 |c::cs,b::M,h=>by
  have h0:=fW (h.2 0 c (flag b) I I);have h1:bp E w cs (bZ M):=⟨by have:=h.1;simpa[bZ]using this,λi x u a d=>h.2 (i+1) x u (by simpa using a) (by simpa[bZ]using d)⟩;rw[xm h1,h0]
  rfl
theorem ri{E w}:∀(M:List Bool),bp E w (M.map Value.bool) (bZ M)
 | []=>TQ _ _
 |b::M=>SL (.raw _) (ri M)
def G0{N:Nat}(n:Nat)(l:List (eE.Ix N)):List Bool:=l.foldl (λM i=>(M.set (2*i.1) true).set (2*i.1+1) true) (List.replicate n false)
theorem AE{N n:Nat}(l:List (eE.Ix N))(i:eE.Ix N):G0 n (l++[i])=((G0 n l).set (2*i.1) true).set (2*i.1+1) true:=by unfold G0;rw[TN];rfl
theorem yL{N n:Nat}(l:List (eE.Ix N)):(G0 n l).length=n:=by
 unfold G0
 suffices h:∀M:List Bool,(l.foldl (λM (i:eE.Ix N)=>(M.set (2*i.1) true).set (2*i.1+1) true) M).length=M.length by rw[h];simp
 induction l with
 |nil=>intro M;rfl
 |cons a l b=>intro M;rw[SA,b];simp
def az(T:ak)(k x:Int):List Bool:=(List.range (2*T.ah.length)).map λa=>cO k x T.ah (a / 2)
theorem Aj(p:Nat->Bool)(N:Nat):∀k,k<=N->∀a,a<2*N->(G0 (2*N) (nf p N k))[a]? =some (decide (a / 2<k)&&p (a / 2))
 |0,_,a,b=>by
  show(List.replicate (2*N) false)[a]? =_;rw[Sn,QY b];simp
 |k+1,hk,a,b=>by
  have f:=Aj p N k (by omega) a b;have hl:=yL (n:=2*N) (nf p N k);cases hp:p k with
  |false=>
   rw[yC hp,f];by_cases e:a / 2=k
   ·rw[e,hp];simp
   ·rw[show decide (a / 2<k+1)=decide (a / 2<k) from decide_eq_decide.2 (by omega)]
  |true=>
   rw[qh hp (by omega),AE];simp only;rw[Rh];by_cases c:2*k+1=a
   ·rw[QY c,QY (by simp;omega),show a / 2=k by omega,hp];simp
   ·rw[QZ c,Rh];by_cases d:2*k=a
    ·rw[QY d,QY (by omega),show a / 2=k by omega,hp];simp
    ·rw[QZ d,f,show decide (a / 2<k+1)=decide (a / 2<k) from decide_eq_decide.2 (by omega)]
theorem Lk(T:ak)(k x:Int):G0 (2*T.ah.length) (nf (cO k x T.ah) T.ah.length T.ah.length)=az T k x:=by
 apply Sp;intro a;by_cases b:a<2*T.ah.length
 ·rw[Aj _ _ _ (Rc _) a b];unfold az;rw[RE,Th b];have:a / 2<T.ah.length:=by omega
  simp[this]
 ·rw[RJ (by rw[yL];omega),RJ (by unfold az;simp;omega)]
structure nn (base n B:Nat) (v:Value) (Mm:Nat->Prop) (M:List Bool) (W:World):Prop where
 bl:base<=W.heap.size
 row:W.ownsRow base 4 1 v n (M.map Value.bool)
 box:W.heap[B]? =some (.cells #[v] 22 (0,0))
 gl:jq Mm W
theorem A6{W W':World}{base e n:Nat}{v xs}(h:W.ownsRow base e 1 v n xs)(hs:∀(g:Nat) (o:Array Value),W.heap[g]? =some (Obj.cells o e (0,0))->W'.heap[g]? =W.heap[g]?):W'.ownsRow base e 1 v n xs:=by
 refine⟨h.1,h.2.imp id ?_⟩;rintro⟨g,cap,cur,h1,h2,a,b⟩;exact⟨g,cap,cur,h1,h2,(hs g cur a).trans a,b⟩
theorem nn.same{base n B:Nat}{v}{Mm:Nat->Prop}{M}{W W':World}(h:nn base n B v Mm M W)(d:W.heap.size<=W'.heap.size)(hs:∀(b:Nat) (cs:Array Value) (t:TypeId) (a:Nat×Nat),W.heap[b]? =some (Obj.cells cs t a)->W'.heap[b]? =W.heap[b]?):nn base n B v Mm M W':=
 ⟨Rr h.bl d,A6 h.row (λg o c=>hs g o _ _ c),(hs B _ _ _ h.box).trans h.box,λg cs c=>by
  obtain⟨h1,t,a,h2⟩:=h.gl g cs c;exact⟨h1,t,a,(hs g _ _ _ h2).trans h2⟩⟩
theorem nn.grown{base n B:Nat}{v}{Mm:Nat->Prop}{M}{W W':World}{row:Option Nat}(h:nn base n B v Mm M W)(a:W.grownBy W' row)(hr:∀r,row=some r->∃o:Obj,W.heap[r]? =some o/\o.isCells=false):nn base n B v Mm M W':=
 h.same a.size λb cs t c hb=>a.block b (Rw.1 hb).1 λe=>by
  obtain⟨o,h1,h2⟩:=hr b e.symm;rw[hb]at h1;cases h1;cases h2
theorem nn.sat{base n B:Nat}{E:Env}{M W o bi s0}(k:Sat (λ_=>False) base [some bi,s0] E o)(l:s0=some (.cells 22 [.own 0]))(x:∃e s m ys,bi= .row e s m ys)(v:E.at_ 1= .pointer (some ⟨B,0,none⟩))(g:base<=B)(d:(E.at_ 0).oneCell'=true)(h:nn base n B (E.at_ 0) E.M M W):Sat (λ_=>False) base [some (.row 4 1 n (bZ M)),some (.cells 22 [.own 0])] E W:=by
 subst l;have w:E.L=2:=k.len;have N6:∀(i:Nat) blk,[some (cX.row 4 1 n (bZ M)),some (.cells 22 [.own 0])][i]? =some (some blk)->∃a,[some bi,some (cX.cells 22 [.own 0])][i]? =some (some a):=λi blk h=>by
  match i,h with
  |0,_=>exact⟨_,rfl⟩
  |1,_=>exact⟨_,rfl⟩
  |_+2,h=>simp at h
 have new:∀(i:Nat) blk,[some bi,some (cX.cells 22 [.own 0])][i]? =some (some blk)->∃a,[some (cX.row 4 1 n (bZ M)),some (.cells 22 [.own 0])][i]? =some (some a):=λi blk h=>by
  match i,h with
  |0,_=>exact⟨_,rfl⟩
  |1,_=>exact⟨_,rfl⟩
  |_+2,h=>simp at h
 refine⟨h.bl,λb hb=>hb.elim,w,λb=>?_,λi blk hi=>?_,λi j f bj b h1 h2 c u=>?_,h.gl⟩
 ·rw[k.mm b];constructor
  ·rintro(h|⟨i,blk,h1,h2⟩)
   ·exact .inl h
   ·obtain⟨a,c⟩:=new i blk h1;exact .inr ⟨i,a,c,h2⟩
  ·rintro(h|⟨i,blk,h1,h2⟩)
   ·exact .inl h
   ·obtain⟨a,c⟩:=N6 i blk h1;exact .inr ⟨i,a,c,h2⟩
 ·match i,hi with
  |0,hi=>cases hi;exact⟨_,h.row,ri M⟩
  |1,hi=>cases hi;exact⟨B,_,v,g,h.box,SL (.own 0 (by omega) _ rfl d) (TQ _ _)⟩
  |_+2,hi=>simp at hi
 ·obtain⟨p,r⟩:=N6 i f h1;obtain⟨q,t⟩:=N6 j bj h2;exact k.inj i j p q b r t c u
theorem nn.of{base n B:Nat}{E:Env}{M W}(c:Sat (λ_=>False) base [some (.row 4 1 n (bZ M)),some (.cells 22 [.own 0])] E W)(g:E.at_ 1= .pointer (some ⟨B,0,none⟩)):nn base n B (E.at_ 0) E.M M W/\(E.at_ 0).oneCell'=true:=by
 obtain⟨cs,h1,h2⟩:=c.blk 0 _ rfl;rw[xm h2]at h1;obtain⟨b,d,f,j,i,a⟩:=c.blk 1 _ rfl;have e:b=B:=by rw[g]at f;cases f;rfl
 subst e;obtain⟨cl⟩:=d
 match cl,a with
 | [],a=>have:=a.1;simp at this
 |_::_::_,a=>have:=a.1;simp at this
 | [u],a=>
  have hu:=a.2 0 u _ rfl rfl;cases hu with
  |own _ _ _ hu h=>
   subst hu;exact⟨⟨c.bl,h1,i,c.gl⟩,h⟩
theorem Lt(w:World)(a b:Value)(t:TypeId):(w.alloc (.cells #[a,b] t)).cell? ⟨w.heap.size,0,none⟩=some a/\(w.alloc (.cells #[a,b] t)).cell? ⟨w.heap.size,1,none⟩=some b:=by
 unfold World.cell?;simp only[World.alloc_heap_new];exact⟨rfl,rfl⟩
theorem PS(w:World)(a b c:Value)(t:TypeId):(w.alloc (.cells #[a,b,c] t)).cell? ⟨w.heap.size,2,none⟩=some c:=by
 unfold World.cell?;simp only[World.alloc_heap_new]
 rfl
attribute [local go_sem] Oper.semAt_some
def IN(K:St->Prop):Exit->St->Prop
 | .normal,s=>K s
 |_,_=>False
theorem piece{P}{N L n:Nat}{c:Code}{st}{K:St->Prop}{F:Nat->Prop}{base:Nat}{E₀ E w₀ w a}{Q:Exit->Act->World->Prop}(hc:qY base L E₀ w₀ E w)(hs:dR F base N st E a w)(h:W P N L c st (IN K))(f:∀s E' b w',K s->dR F base N s E' b w'->de E₀ w₀ E' w'->Below base w₀ w'->Q .normal b w'):c.wpIn Fence.wide n P Q a w:=
 wpIn_wide.2 (wp_mono (h F base E₀ w₀ E a w hc hs) λe b w' ⟨s,E',d,g,i,j⟩=>by
  cases e<;>first|exact f s E' b w' d g i j|exact d.elim)
def yF:Op->Bool
 | .defer _=>true
 |_=>false
theorem II{ops:Array Oper}(h:(ops.all λo=> !yF o.op)=true)(i:Nat)(o:Oper)(a:ops[i]? =some o)(c:Call):o.op≠ .defer c:=λe=>by
 have:=UA.1 h o (TJ a);rw[e]at this;cases this
theorem Le{E:Env}{w w':World}{v}{L:List pM}{n₁ G:Nat}(h:cZ E w v (.slice L.length (jy L)))(l:Ext w w')(x:G=n₁\/E.M G)(g:∀b,E.M b->b<w.heap.size)(hn:w'.heap.size=n₁:=by rfl):Oc n₁ G w' v L:=by
 generalize f:L.length=m at h;generalize k:jy L=xs at h;cases h with
 |bH=>exact .inl ⟨none,0,rfl,Rd f⟩
 |empty a c _=>exact .inl ⟨some a,c,rfl,Rd f⟩
 |slice b off _ c cs _ h0 h1 h2 hb hM hc hl hr=>
  subst f;subst k;have z:=l.size;refine .inr ⟨b,off,c,rfl,by omega,λe=>?_,λi hi=>?_⟩
  ·subst e;rcases x with h|h
   ·omega
   ·exact hM h
  ·have key:∀j v,(lS (cP L i))[j]? =some (.raw v)->j<7->w'.cell? ⟨b,off+(i*7+j),none⟩=some v:=λj v y u=>by
    have e:=fq L i j hi u;rw[y]at e;have g:i*7+j<cs.length:=by rw[hl];exact(QT.1 e).1
    have d:cs[i*7+j]? =some cs[i*7+j]:=QX g;have:=fW (hr _ _ _ d e);rw[this]at d;exact l.cell (hc _ _ d)
   have n:=key 0 _ rfl (by omega);have o:=key 1 _ rfl (by omega);have p:=key 2 _ rfl (by omega);have q:=key 3 _ rfl (by omega);have r:=key 4 _ rfl (by omega);have s:=key 5 _ rfl (by omega);have t:=key 6 _ rfl (by omega);simp only[<-S6,Tl]at n o p q r s t;exact⟨n,o,p,q,r,s,t⟩
theorem Iq{P F}{n:Nat}{c:Code}{Q:Exit->Act->World->Prop}{a w}(Fin:Act->World->Prop)(h1:c.wpIn F n P (Exit.then Fin Q) a w)(h2:∀d w',Fin d w'->c.wpIn F n P (Exit.then (λ_ _=>False) Q) d w'):(Code.loop c).wpIn F n P Q a w:=by
 have mono:∀ {K g:Act->World->Prop} {a:Act} {w:World},(∀a w,K a w->g a w)->c.wpIn F n P (Exit.then K Q) a w->c.wpIn F n P (Exit.then g Q) a w:=λhk h b k cs f hb hr=>by
  obtain⟨e,d,w',q,r⟩:=h b k cs f hb hr;exact⟨e,d,w',by cases e<;>first|exact hk _ _ q|exact q,r⟩
 classical
 by_cases i:Fin a w
 ·exact wpIn_loop Fin (λ_ _=>0) i (λa w h=>mono (λ_ _ h=>h.elim) (h2 a w h))
 ·refine wpIn_loop (λd w'=>(d=a/\w'=w)\/Fin d w') (λd w'=>if Fin d w' then 0 else 1) (.inl ⟨rfl,rfl⟩) ?_;rintro d w' (⟨rfl,rfl⟩|h)
  ·exact mono (λj l h=>⟨.inr h,by rw[QY h,QZ i];exact Nat.one_pos⟩) h1
  ·exact mono (λ_ _ h=>h.elim) (h2 d w' h)
theorem cf{α:Type}{l:List α}{n:Nat}(h:l.length=n+1):∃a t,l=a::t/\t.length=n:=by
 cases l with
 |nil=>simp at h
 |cons a t=>exact⟨a,t,rfl,by simpa using h⟩
theorem GJ(T:ak)(k x:Int)(hv:av T=true)(hc:cd T k x=true)(w:World)(vs:Array Value)(hR:bp (EF λ_=>False) w vs.toList [aL T,.slice 1 (cN k x)])(gl:jq (λ_=>False) w):
  Calls prog 32 vs w λe w'=>∃v,e= .returned (.tuple #[v,.int .i64 0])/\Ext w w'/\w'.ownsRow w.heap.size 4 1 v (2*T.ah.length) ((az T k x).map Value.bool):=by
 have ec:=bO hv;have hS:=T1 (λ_=>False) w (λ_ h=>h.elim) gl;refine(callsIn_wide (n:=4)).1 ?_;refine callsIn_of_wp_marks func32 I trivial ?_ rfl;have dG:=ko (N:=41) hS hR (by have:=hR.1;simp at this;omega);have dA:qY w.heap.size 0 (EF λ_=>False) w (EF λ_=>False) w:=⟨rfl,UD _ _,Below.refl _ _⟩;refine wpIn_seq (piece (K:=λs=>s=⟨[(1,.slice 1 (cN k x)),(2,.bq (bn T) 0)],[]⟩) dA dG ?_ ?_)
 ·skip
  refine aC (.a 3 I<|.k [1,2] I)<|rfl
 rintro _ E1 a1 w1 rfl dH g1 b1;refine wpIn_seq (piece (K:=λs=>s=⟨[(1,.slice 1 (cN k x)),(2,.bq (bn T) 0)],[]⟩) ⟨rfl,g1,b1⟩ dH ?_ ?_)
 ·skip
  refine ab (.a 1 I<|.c rfl (fv T) I<|.a 1 I<|.k [1,2,12] I) ?_;rw[hv];refine ae I (λhc=>?_) (λhc=>?_)
  ·cases hc
  ·refine eF [1,2] I (aj ?_);exact rfl
 rintro _ E2 a2 w2 rfl dJ g2 b2;refine wpIn_seq (piece (K:=λs=>s=⟨[(1,.slice 1 (cN k x)),(2,.bq (bn T) 0),(6,.ptr 1 0)],[some (.row 4 1 (2*T.ah.length) (bZ (List.replicate (2*T.ah.length) false))),some (.cells 22 [.own 0])]⟩) ⟨rfl,g2,b2⟩ dJ ?_ ?_)
 ·skip
  refine bx<|au 1 I<|ez I (jw T (by omega)) I<|cb (dc I (Ru I) I I (show 2*(T.ah.length:Int)=((2*T.ah.length:Nat):Int) by omega) (show 2*(T.ah.length:Int)=((2*T.ah.length:Nat):Int) by omega) ⟨by unfold maxLen;omega,by omega⟩) I<|au 2 I<|aE [1,2,6] I ?_;rw[<-jH]
  rfl
 rintro _ f a3 H rfl a g3 b3;have⟨n,hn⟩:=QQ (2*T.ah.length);rw[hn]at a;obtain⟨B,dT,hB,dr,dU,dV⟩:=a.sat.blk 1 _ rfl;obtain⟨dS,dR,dQ⟩:=a.sat.blk 0 _ rfl;have t1:=a.tmp 1 _ rfl;have t2:=a.tmp 2 _ rfl;have t6:=a.tmp 6 _ rfl;have Q:=a.size;have bd:=a.lE;obtain⟨cK,ds⟩:=a3;simp only at bd Q;subst bd;obtain⟨al⟩:=cK;replace Q:al.length=41:=by simpa using Q
 obtain⟨x0,z0,e0,k0⟩:=cf (n:=40) Q;obtain⟨x1,z1,e1,k1⟩:=cf (n:=39) k0;obtain⟨x2,z2,e2,k2⟩:=cf (n:=38) k1;obtain⟨x3,z3,e3,k3⟩:=cf (n:=37) k2;obtain⟨x4,z4,e4,k4⟩:=cf (n:=36) k3;obtain⟨x5,z5,e5,k5⟩:=cf (n:=35) k4;obtain⟨x6,z6,e6,k6⟩:=cf (n:=34) k5;obtain⟨x7,z7,e7,k7⟩:=cf (n:=33) k6;obtain⟨x8,z8,e8,k8⟩:=cf (n:=32) k7;obtain⟨x9,z9,e9,k9⟩:=cf (n:=31) k8;obtain⟨X,ej,cL,br⟩:=cf (n:=30) k9;obtain⟨Y,ek,cM,bs⟩:=cf (n:=29) br;obtain⟨Z,z12,cP,bu⟩:=cf (n:=28) bs;obtain⟨aa,en,cQ,bw⟩:=cf (n:=27) bu;obtain⟨ad,eo,cR,bz⟩:=cf (n:=26) bw;obtain⟨af,ep,cS,bA⟩:=cf (n:=25) bz;obtain⟨aN,er,cT,bB⟩:=cf (n:=24) bA;obtain⟨aO,et,cU,bC⟩:=cf (n:=23) bB;obtain⟨aP,eu,cV,bD⟩:=cf (n:=22) bC;obtain⟨aQ,ev,cW,bE⟩:=cf (n:=21) bD;obtain⟨aR,z20,cX,bF⟩:=cf (n:=20) bE;obtain⟨aS,z21,cY,bG⟩:=cf (n:=19) bF;obtain⟨aT,ew,cZ,bH⟩:=cf (n:=18) bG;obtain⟨aU,ey,c3,bJ⟩:=cf (n:=17) bH;obtain⟨aV,z24,c4,bK⟩:=cf (n:=16) bJ;obtain⟨aW,eA,c5,bM⟩:=cf (n:=15) bK;obtain⟨aX,eB,c6,bN⟩:=cf (n:=14) bM;obtain⟨aY,eC,c7,bP⟩:=cf (n:=13) bN;obtain⟨aZ,z28,c8,bQ⟩:=cf (n:=12) bP;obtain⟨a6,eD,c9,bR⟩:=cf (n:=11) bQ;obtain⟨ag,eG,da,bS⟩:=cf (n:=10) bR;obtain⟨ah,z31,db,bT⟩:=cf (n:=9) bS;obtain⟨ai,eH,dd,bU⟩:=cf (n:=8) bT;obtain⟨an,eJ,de,bV⟩:=cf (n:=7) bU;obtain⟨ao,eK,df,bW⟩:=cf (n:=6) bV;obtain⟨aq,eL,dh,bX⟩:=cf (n:=5) bW;obtain⟨ar,eM,di,bY⟩:=cf (n:=4) bX;obtain⟨aw,z37,dj,b0⟩:=cf (n:=3) bY;obtain⟨ax,eN,dk,b4⟩:=cf (n:=2) b0;obtain⟨ay,eO,dm,b5⟩:=cf (n:=1) b4;obtain⟨aA,z40,dn,b6⟩:=cf (n:=0) b5;have dp:=Rd b6;subst dp;subst dn;subst dm;subst dk;subst dj;subst di;subst dh;subst df;subst de;subst dd;subst db;subst da;subst c9;subst c8;subst c7;subst c6;subst c5;subst c4;subst c3;subst cZ;subst cY;subst cX;subst cW;subst cV;subst cU;subst cT;subst cS;subst cR;subst cQ;subst cP;subst cM;subst cL;subst e9;subst e8;subst e7;subst e6;subst e5;subst e4;subst e3;subst e2;subst e1;subst e0;clear k0 k1 k2 k3 k4 k5 k6 k7 k8 k9 br bs bu bw bz bA bB bC bD bE bF bG bH bJ bK bM bN bP bQ bR bS bT bU bV bW bX bY b0 b4 b5 b6 Q
 skip
 have e1:Act.eval ⟨⟨[x0,x1,x2,x3,x4,x5,x6,x7,x8,x9,X,Y,Z,aa,ad,af,aN,aO,aP,aQ,aR,aS,aT,aU,aV,aW,aX,aY,aZ,a6,ag,ah,ai,an,ao,aq,ar,aw,ax,ay,aA]⟩,[]⟩ (.tmp 1)=x1:=rfl;have e2:Act.eval ⟨⟨[x0,x1,x2,x3,x4,x5,x6,x7,x8,x9,X,Y,Z,aa,ad,af,aN,aO,aP,aQ,aR,aS,aT,aU,aV,aW,aX,aY,aZ,a6,ag,ah,ai,an,ao,aq,ar,aw,ax,ay,aA]⟩,[]⟩ (.tmp 2)=x2:=rfl;have e6:Act.eval ⟨⟨[x0,x1,x2,x3,x4,x5,x6,x7,x8,x9,X,Y,Z,aa,ad,af,aN,aO,aP,aQ,aR,aS,aT,aU,aV,aW,aX,aY,aZ,a6,ag,ah,ai,an,ao,aq,ar,aw,ax,ay,aA]⟩,[]⟩ (.tmp 6)=x6:=rfl;rw[e1]at t1;rw[e2]at t2;rw[e6]at t6;clear e1 e2 e6;cases t1 with
 |slice lb lo _ aF lcs _ _ dY dZ eb ea O bh P=>
  match lcs,bh,O,P with
  | [u0,u1],_,O,P=>
   have dL:=fW (P 0 u0 _ rfl rfl);have dM:=fW (P 1 u1 _ rfl rfl);subst dL;subst dM;have l0:=O 0 _ rfl;have l1:=O 1 _ rfl;clear O P;cases t2 with
   |bq bt bo off dP _ ef ee R dK aM=>
    match dP,dK,R,aM with
    | [c0,c1,p],_,R,aM=>
     have m0:=R 0 _ rfl;have m1:=R 1 _ rfl;have m2:=R 2 _ rfl;have bb:bp f H [c0,c1,p] (bn T):=⟨rfl,aM⟩;cases t6 with
     |ptr _ _ J _ h6=>
      have dq:J=B:=by
       rcases h6 with h6|⟨n',c',h6⟩
       ·rw[hB]at h6;cases h6;rfl
       ·rw[hB]at h6;cases h6
      subst dq;clear h6;simp only[Tl]at l0 l1 m0 m1 m2 ⊢;have bc:=ny T k x;rw[hc]at bc;have aG:Ext H (H.alloc (.cells #[.int .i64 k,.int .i64 x] 27)):=(Tc H).alloc _;have dO:=(callsIn_wide (n:=3)).2 (bc (λ_=>False) (H.alloc (.cells #[.int .i64 k,.int .i64 x] 27)) #[.agg #[c0,c1,p],.agg #[.int .i64 k,.int .i64 x]] (λ_ h=>h.elim) ((a.sat.gl.sub (λ_ h=>h.elim)).goes (E:=EF λ_=>False) (E':=EF λ_=>False) (.ext aG)) (SL (.agg _ _ rfl (λj z u k1 k2=>((bb.pure (λ_ h=>h.elim):bp (EF λ_=>False) H [c0,c1,p] (bn T)).2 j z u (by simpa using k1) k2).goes (.ext aG))) (SL (.agg _ _ rfl (λj z u k1 k2=>(SL (.raw _) (SL (.raw _) (TQ _ _)):bp (EF λ_=>False) _ [.int .i64 k,.int .i64 x] (cN k x)).2 j z u (by simpa using k1) k2)) (TQ _ _))))
      gi_wp2
      refine Iq (λa' w'=>∃(y0 y1 y2 y3 y4 y5 y7 y8 y9 b7 b8 b9 ca cc cg ch cj ck cl cm cn cp cq cr ct cu cv cw cx cy cz cA cB cC cD cE cF cH:Value) (D:Nat),a'=⟨#[y0,y1,y2,y3,y4,y5,Value.pointer (some ⟨J,0,none⟩),y7,y8,y9,b7,b8,b9,ca,cc,cg,ch,Value.int .i64 1,Value.int .i64 1,cj,ck,cl,cm,cn,cp,cq,cr,ct,cu,cv,cw,cx,cy,cz,cA,cB,cC,cD,cE,cF,cH],[⟨.collected D,#[]⟩]⟩/\nn w.heap.size n J (f.at_ 0) f.M (az T k x) w'/\Below w.heap.size w w'/\w.heap.size<=D/\w'.heap[D]? =some (.deferred (some []))) ?_ ?_
      ·gi_wp2
       refine⟨trivial,dO.mono ?_⟩;rintro e d ⟨v5,rfl,A,r,rfl,dN⟩;cases dN;have q0:d.cell? ⟨bt,bo,none⟩=some c0:=A.cell (jk _ m0);have q1:d.cell? ⟨bt,bo+1,none⟩=some c1:=A.cell (jk _ m1);have q2:d.cell? ⟨bt,bo+2,none⟩=some p:=A.cell (jk _ m2);have q3:d.cell? ⟨H.heap.size,0,none⟩=some (.int .i64 k):=A.cell (Lt H _ _ _).1;have q4:d.cell? ⟨H.heap.size,1,none⟩=some (.int .i64 x):=A.cell (Lt H _ _ _).2
       gi_wp2
       refine⟨trivial,(Io c0 c1 p k x 3 d).mono ?_⟩;rintro e S ⟨rfl,rfl⟩
       gi_wp2
       have a7:Ext H d:=aG.trans A;have eg:=a7.size;have cJ:Ext d ((d.alloc (.cells #[c0,c1,p] 25)).alloc (.cells #[.int .i64 k,.int .i64 x] 27)):=((Tc d).alloc _).alloc _;have eh:((d.alloc (.cells #[c0,c1,p] 25)).alloc (.cells #[.int .i64 k,.int .i64 x] 27)).heap.size=d.heap.size+2:=by simp
       have p2:((d.alloc (.cells #[c0,c1,p] 25)).alloc (.cells #[.int .i64 k,.int .i64 x] 27)).cell? ⟨d.heap.size,2,none⟩=some p:=jk _ (PS d _ _ _ _);have p3:((d.alloc (.cells #[c0,c1,p] 25)).alloc (.cells #[.int .i64 k,.int .i64 x] 27)).cell? ⟨d.heap.size+1,0,none⟩=some (.int .i64 k):=by
        have:=(Lt (d.alloc (.cells #[c0,c1,p] 25)) (.int .i64 k) (.int .i64 x) 27).1;rwa [World.size_alloc]at this
       have p4:((d.alloc (.cells #[c0,c1,p] 25)).alloc (.cells #[.int .i64 k,.int .i64 x] 27)).cell? ⟨d.heap.size+1,1,none⟩=some (.int .i64 x):=by
        have:=(Lt (d.alloc (.cells #[c0,c1,p] 25)) (.int .i64 k) (.int .i64 x) 27).2;rwa [World.size_alloc]at this
       generalize (d.alloc (.cells #[c0,c1,p] 25)).alloc (.cells #[.int .i64 k,.int .i64 x] 27)=S at*;have U:Ext H S:=a7.trans cJ;obtain⟨dx,bj⟩:=nn.of a.sat hB;have aJ:nn w.heap.size n J (f.at_ 0) f.M (List.replicate n false) S:=dx.same U.size (λb cs t fz hb=>U.block b (Rw.1 hb).1);have dv:f.L=2:=a.sat.len;obtain⟨G,du,ba⟩:∃G,(∀b,bL (f.at_ 0)=some b->b=G)/\(G=S.heap.size\/f.M G):=by
        cases dz:bL (f.at_ 0)with
        |none=>exact⟨_,λb h=>(by cases h),.inl rfl⟩
        |some g=>exact⟨g,λb h=>(by cases h;rfl),.inr ((a.sat.mm g).2 (.inr ⟨0,_,rfl,dz⟩))⟩
       have dC:=Le (n₁:=S.heap.size) (bb.2 2 p _ rfl rfl) U ba (λb hb=>a.sat.lt hb);have dt:d.heap.size+1≠G:=by
        rcases ba with h|h
        ·omega
        ·have:=a.sat.lt h;omega
       have dB:k=1\/k=2\/k=3:=by
        unfold cd at hc;split at hc
        ·exact .inl ‹_›
        ·split at hc
         ·exact .inr (.inl ‹_›)
         ·split at hc
          ·exact .inr (.inr ‹_›)
          ·cases hc
       refine wpIn_rangeFunc_ownF (α:=eE.Ix T.ah.length) I (by omega) (gf:=96) (lb:= #[.pointer (some ⟨d.heap.size,0,none⟩),.pointer (some ⟨d.heap.size+1,0,none⟩)]) I trivial (enters_of func96 (by kernel_rfl) I)
        (encs:=λi=> #[Value.int .i64 (i.1:Int)]) (Az T k x dB (by omega) 3 d.heap.size (d.heap.size+1) G (by omega) p S (by omega) (by omega) dt p2 p3 p4 dC) (λh1 h2=>h1.trans h2) (λW l o o' hl ho _ _=>⟨(grownBy_putObj' W l o').size,λb h1 _=>(grownBy_putObj' W l o').block b (by have:=(Rw.1 ho).1;omega) (λe=>by cases e;omega)⟩) (Below.refl _ _) (λ_=>rfl)
        (λl W=>nn w.heap.size n J (f.at_ 0) f.M (G0 n l) W/\Kp G S.heap.size S W/\Below w.heap.size w W) (λ_ _ _=>False)
        (λs W W' row hs y hr=>⟨hs.1.grown y (λr e=>(hr r e).2),⟨Rr hs.2.1.size y.size,λb h1 h2=>(y.block b (by have:=hs.2.1.size;omega) (λe=>by have:=(hr b e.symm).1;omega)).trans (hs.2.1.block b h1 h2)⟩,hs.2.2.trans ⟨y.os,y.tape,y.output,y.size,λb h1=>y.block b (by have:=hs.1.bl;omega) (λe=>by have:=(hr b e.symm).1;have:=aJ.bl;omega)⟩⟩)
        (λ_ _ _ _ _ h _ _=>h) ⟨aJ,Kp.refl _ _ _,b3.trans (Ti U a.sat.bl)⟩
        (λi=>⟨#[x0,Value.slice (some ⟨lb,lo,none⟩) 1 aF,Value.pointer (some ⟨bt,bo,none⟩),x3,x4,x5,Value.pointer (some ⟨J,0,none⟩),x7,Value.pointer (some ⟨H.heap.size,0,none⟩),Value.int .i64 (i.1:Int),X,Y,Z,aa,ad,af,Value.slice (some ⟨lb,lo,none⟩) 1 aF,Value.int .i64 1,Value.int .i64 0,Value.bool true,Value.pointer (some ⟨lb,lo,none⟩),Value.agg #[.int .i64 k,.int .i64 x],Value.agg #[c0,c1,p],Value.agg #[.int .i64 k,.int .i64 x],Value.bool true,Value.bool false,Value.agg #[c0,c1,p],Value.agg #[.int .i64 k,.int .i64 x],Value.func (.func 96) #[] #[.pointer (some ⟨d.heap.size,0,none⟩),.pointer (some ⟨d.heap.size+1,0,none⟩)],Value.int .i64 (i.1:Int),ag,ah,ai,an,ao,aq,ar,aw,ax,ay,aA],[]⟩) ?assign ?body ?done ?stop
       case assign=>
        intro l i W K hK
        gi_wp2
        exact hK
       case body=>
        rintro l pre i W ⟨L,hK,hb⟩ ed;have aH:=yL (n:=n) pre;have dX:=i.2;have aB:=Ng (G0 n pre) i.1 (by rw[aH];omega) (by rw[aH];omega);rw[aH,<-AE]at aB;have dy:nn w.heap.size n J (f.at_ 0) f.M (G0 n pre) {W with drawn:=W.drawn+1}:=L.same (Rc _) (λ_ _ _ _ _=>rfl);have bk:=dy.sat a.sat rfl ⟨_,_,_,_,rfl⟩ hB dr bj;refine wpIn_block (wpIn_region_any mixed (lz (λj o ho c=>?_) ?_ _ _ _ _ (aB.any (λ_=>False) w.heap.size f {W with drawn:=W.drawn+1} f _ {W with drawn:=W.drawn+1} ⟨dv,UD _ _,Below.refl _ _⟩ ⟨bk,?_,rfl,rfl⟩ _ ?_)))
        ·exact II (by kernel_rfl) j o ho c
        ·rintro⟨a',w',h⟩;exact h
        ·intro k' p' F;simp only[look,RI]at F;split at F
         ·rename_i he;have:=Rp he;subst this;cases F;exact .ptr 1 0 J (by omega) (.inl hB)
         ·split at F
          ·rename_i he;have:=Rp he;subst this;cases F;exact .raw _
          ·cases F
        ·rintro a' w' ⟨⟨t',σ'⟩,E',bm,aK,q,M⟩;simp only at bm;subst bm;have a8:E'.at_ 1= .pointer (some ⟨J,0,none⟩):=(q.at_ 1 (by omega)).trans hB;have bl:E'.at_ 0=f.at_ 0:=q.at_ 0 (by omega);obtain⟨C,_⟩:=nn.of aK.sat a8;rw[bl]at C;have dw:∀b,f.M b->E'.M b:=λb hb=>by
          rcases(a.sat.mm b).1 hb with h|⟨j,blk,h1,h2⟩
          ·exact h.elim
          ·match j,h1 with
           |0,_=>exact(aK.sat.mm b).2 (.inr ⟨0,_,rfl,by rw[bl];exact h2⟩)
           |1,_=>exact(aK.sat.mm b).2 (.inr ⟨1,_,rfl,by rw[q.at_ 1 (by omega)];exact h2⟩)
           |_+2,h1=>simp at h1
         have aD:∀b,f.M b->bL (f.at_ 0)=some b\/b=J:=λb hb=>by
          rcases(a.sat.mm b).1 hb with h|⟨j,blk,h1,h2⟩
          ·exact h.elim
          ·match j,h1 with
           |0,_=>exact .inl h2
           |1,_=>rw[hB]at h2;cases h2;exact .inr rfl
           |_+2,h1=>simp at h1
         have bf:nn w.heap.size n J (f.at_ 0) f.M (G0 n (pre++[i])) w':=⟨C.bl,C.row,C.box,C.gl.sub dw⟩;have ei:S.heap.size<=W.heap.size:=hK.size;have bg:Kp G S.heap.size W w':=⟨q.size,λb h1 h2=>by
          by_cases hm:f.M b
          ·rcases aD b hm with h|h
           ·exact absurd (du b h) h2
           ·rw[h,C.box,L.box]
          ·exact q.heap b (show b<W.heap.size by omega) hm⟩
         refine⟨⟨q.size,λb o hb ho=>?_⟩,bg,bf,hK.trans bg,hb.trans ⟨M.os,M.tape,M.output,M.size,M.block⟩⟩;have dF:¬f.M b:=λhm=>by
          rcases aD b hm with h|h
          ·rcases L.row.2 with⟨h1,_⟩|⟨g,cap,cur,h1,_,h3,_⟩
           ·rw[h1]at h;cases h
           ·rw[h1]at h;cases h;rw[h3]at hb;cases hb;cases ho
          ·rw[h,L.box]at hb;cases hb;cases ho
         rw[q.heap b (Rw.1 hb).1 dF];exact hb
       case done=>
        rintro D ys W hD rfl ⟨L,hK,hb⟩ V;have dD:G0 n (nf (cO k x T.ah) T.ah.length T.ah.length)=az T k x:=by rw[<-hn];exact Lk T k x
        rw[dD]at L
        gi_wp2
        exact⟨_,_,_,_,_,_,_,_,_,_,_,_,_,_,_,_,_,_,_,_,_,_,_,_,_,_,_,_,_,_,_,_,_,_,_,_,_,_,D,rfl,L,hb,by have:=aJ.bl;omega,V⟩
       case stop=>
        rintro D c pre W _ _ h _;exact h.elim
      ·rintro a' w' ⟨y0,y1,y2,y3,y4,y5,y7,y8,y9,b7,b8,b9,ca,cc,cg,ch,cj,ck,cl,cm,cn,cp,cq,cr,ct,cu,cv,cw,cx,cy,cz,cA,cB,cC,cD,cE,cF,cH,D,rfl,L,hb,hD,V⟩;have dW:w'.cell? ⟨J,0,none⟩=some (f.at_ 0):=by
        unfold World.cell?;simp only[L.box]
        rfl
       gi_wp2
       have m:=grownBy_putObj' w' D (.deferred none);have dE:∀(g:Nat) (o:Array Value) (e:TypeId),w'.heap[g]? =some (Obj.cells o e (0,0))->(w'.putObj D (.deferred none)).heap[g]? =w'.heap[g]? :=λg o e y=>m.block g (Rw.1 y).1 (λh=>by cases h;rw[V]at y;cases y);refine⟨by simp,.inl ⟨_,_,rfl,run_takeDeferred V,?_⟩⟩;rw[hn];exact⟨_,results_tmp2 rfl _ _ _,f.at_ 0,rfl,hb.trans ⟨m.os,m.tape,m.output,m.size,λb h1=>m.block b (by have:=L.bl;omega) (λh=>by cases h;omega)⟩,A6 L.row (λg o y=>dE g o _ y)⟩
end
section
open Go.RowKit cG Mem Net eE
theorem Can.Ql{P f ps}{R:PV->ca->Prop}{S:PV->Prop}(h:bM P f ps [] R)(i:∀r σ',R r σ'->∃q,ax σ' r q/\S q):Can P f ps S:=λF w vs d g hr=>by
 refine(h F w.heap.size (EF F) w vs (T1 F w d g) hr).mono ?_;rintro e w' ⟨v,r,σ',E',rfl,h1,h2,l,a,c⟩;obtain⟨q,j,k⟩:=i r σ' h1;exact⟨v,rfl,a,q,k,j.rep h2 (λb hb=>(h2.mm b).2 (.inl hb)) (λb hb=>(h2.fb b hb).2) v c⟩
theorem Db(T:ak)(k x:Int)(hv:av T=true)(hc:cd T k x=true):bM prog 32 [aL T,.slice 1 (cN k x)] [] (λr σ'=>r= .tuple [.own 0,num 0]/\σ'=[some (.row 4 1 (2*T.ah.length) (bZ (az T k x)))]):=λF base E w vs f p=>by
 refine(GJ T k x hv hc w vs (p.pure (λ_ h=>h.elim)) (f.gl.sub λ_ h=>h.elim)).mono ?_;rintro e w' ⟨v,rfl,n,a⟩;have d:w'.ownsRow base 4 1 v (2*T.ah.length) ((az T k x).map Value.bool):=⟨a.1,a.2.imp id λ⟨g,cap,cur,h1,h2,m⟩=>⟨g,cap,cur,h1,Rr f.bl h2,m⟩⟩;have j:∀b,bL v=some b->w.heap.size<=b/\b<w'.heap.size:=λb hb=>by
  rcases a.2 with⟨h1,_⟩|⟨g,cap,cur,h1,h2,m,_⟩
  ·rw[h1]at hb;cases hb
  ·rw[h1]at hb;cases hb;exact⟨h2,(Rw.1 m).1⟩
 have l:v.oneCell'=true:=by
  rcases a.2 with⟨h1,_⟩|⟨g,cap,cur,h1,h2,m,_⟩<;>rw[h1]<;>rfl
 have o:E.L=0:=f.len;have hp:=f.push n (v:=v) (blk:=.row 4 1 (2*T.ah.length) (bZ (az T k x))) (λb h=>(j b h).1) ⟨_,d,ri _⟩;refine⟨_,_,_,E.push v,rfl,⟨rfl,rfl⟩,hp.1,hp.2,Ti n f.bl,.tuple _ _ rfl (λi c u h1 h2=>?_)⟩
 match i,h1,h2 with
 |0,h1,h2=>
  simp at h1 h2;subst h1;subst h2;exact .own 0 (by show 0<E.L+1;omega) _ (by simp[Env.push,o]) l
 |1,h1,h2=>
  simp at h1 h2;subst h1;subst h2;exact .raw _
 |_+2,h1,h2=>simp at h2
def dy(T:ak)(k x:Int):Int:=if(av T&&cd T k x)=true then 0 else 1
def iZ(e:Int)(L:List Bool):PV:=.tuple [aV (if e=0 then L else []),num e]
theorem fQ(T:ak)(k x:Int):(az T k x).length=2*T.ah.length:=by simp[az]
theorem Da(T:ak)(k x:Int)(b:(av T&&cd T k x)=false):Can prog 32 [aL T,.slice 1 (cN k x)] (· =iZ 1 []):=by
 refine aF func32 I ntmps32 I<|ab (.a 3 I<|.k [1,2] I)<|ai<|ab (.a 1 I<|.c rfl (fv T) I<|.a 1 I<|.k [1,2,12] I)<|ae I (λh1=>?_) (λh1=>?_)
 ·skip
  exact ab (.a 2 I<|.k [4,5] I)<|ao<|QR I (RW (QV ax.bH (QV ax.pure Rl))) rfl
 ·have hv:av T=true:=by simpa using h1
  have hc:cd T k x=false:=by rw[hv,RM]at b;exact b
  have d:=bO hv;have a:=ny T k x;rw[hc]at a;refine aj<|aK<|au 1 I<|ez I (jw T (by omega)) I<|cb (dc I (Ru I) I I (show 2*(T.ah.length:Int)=((2*T.ah.length:Nat):Int) by omega) (show 2*(T.ah.length:Int)=((2*T.ah.length:Nat):Int) by omega) ⟨by unfold maxLen;omega,by omega⟩) I<|au 2 I<|aE [1,2,6] I ?_;refine ai<|ab (.a 3 I<|.k [2,6,16,17,18] I)<|aw<|eF [2,6,16,17,18] I<|bd (λr st=>st=⟨[(2,.bq (bn T) 0),(6,.ptr 1 0),(16,.slice 1 (cN k x)),(17,num 1),(18,num 0)],[some (.row 4 1 (2*T.ah.length) (dQ [.raw (.bool false)] (2*T.ah.length))),some (.cells 22 [.own 0])]⟩) 0 I ?_;rintro r st rfl;refine ab (.a 1 I<|.k [2,6,16,17,18,19] I)<|ai<|ae I (λh2=>?_) (λh2=>?_)
  ·skip
   refine aj<|ai<|aw<|aK<|bm (aM (0) I) I<|bm (gj I ((show((cN k x).drop 0).take 2=cN k x from rfl)) I) I<|au 2 I<|aE [2,6,8,16,17,18] I ?_;refine ai<|ab (.a 2 I<|.c rfl (a) I<|.a 1 I<|.k [2,6,8,16,17,18,25] I)<|ae I (λc=>?_) (λc=>?_)
   ·skip
    exact ab (.a 2 I<|.k [4,5] I)<|ao<|QR I (RW (QV ax.bH (QV ax.pure Rl))) rfl
   ·exact absurd c (by decide)
  ·exact absurd h2 (by decide)
theorem wR(T:ak)(k x:Int)(hv:av T=true)(hc:cd T k x=true):bM prog 19 [aL T,bV k x] [] (λr σ'=>r= .tuple [.own 0,num 0]/\σ'=[some (.row 4 1 (2*T.ah.length) (bZ (az T k x)))]):=by
 refine cF func19 I ntmps19 I<|ab (.a 4 I<|.k [2,3] I)<|aK<|au 3 I<|cD I I (RT (Db T k x hv hc) (λr σ' h=>?_));obtain⟨rfl,rfl⟩:=h;refine au 4 I<|aE [4,5] I ?_;exact ao<|⟨_,RY I,rfl,rfl⟩
theorem nO(T:ak)(k x:Int):Can prog 19 [aL T,bV k x] (· =iZ (dy T k x) (az T k x)):=by
 cases a:(av T&&cd T k x)with
 |true=>
  obtain⟨hv,hc⟩:=Q3.1 a;refine Can.Ql (wR T k x hv hc) ?_;rintro r σ' ⟨rfl,rfl⟩;refine⟨_,RW (QV (Tj rfl Sj) (QV ax.pure Rl)),?_⟩;unfold iZ dy aV;rw[QY a,QY rfl,fQ]
 |false=>
  have he:dy T k x=1:=by unfold dy;rw[QZ (by rw[a];simp)]
  rw[he];exact aF func19 I ntmps19 I<|ab (.a 4 I<|.k [2,3] I)<|ab (.a 3 I<|.c rfl (Da T k x a) I<|.a 4 I<|.k [4,5] I)<|ao<|QR I ax.pure rfl
end
section
open Go.RowKit cG Mem
section
variable {P:Program} {N L:Nat} {ops:Array Oper}
theorem WA.mono:∀ {n:Nat} {ls st} {K a:St->Prop},WA P N L ops n ls st K->(∀s,K s->a s)->WA P N L ops n ls st a
 |0,_,_,_,_,h,hk=>⟨h.1,hk _ h.2⟩
 |_+1,_,_,_,_,h,hk=>⟨h.1,λi hi=>by
   obtain⟨o,h1,h2,b⟩:=h.2 i hi;exact⟨o,h1,h2,b.mono λs hs=>WA.mono hs hk⟩⟩
theorem tG{id:Nat}{l:List Oper}{y st}{Q:Exit->St->Prop}(t':cq)(σ':ca)(hm:P.follows .mixedOrders=true)(h:WA P N L l.toArray l.length (Array.replicate l.length false) st (λs=>s.σ=σ'/\Sub s.t t'))(a:W P N L y ⟨t',σ'⟩ Q):W P N L (.seq (.region id l.toArray true) y) st Q:=
 rf hm (h.mono λs hs=>by
  obtain⟨t,σ⟩:=s;obtain⟨h1,h2⟩:=hs;subst h1;exact iB h2 a)
theorem Sat.seal{F:Nat->Prop}{base:Nat}{σ}{E:Env}{w}(f:Sat F base σ E w){i e s n:Nat}{xs}(hi:σ[i]? =some (some (.row e s n xs))){v}(hv:cZ E w v (.own i)):cZ (E.kill i) w v (.slice n xs):=by
 obtain⟨_,g⟩:=f.kill i hi;cases hv with
 |own _ l _ h _=>
  obtain⟨cs,c,a⟩:=f.blk i _ hi;rw[h]at c;have d:=c;rcases c.2 with⟨rfl,h0⟩|⟨b,cap,cur,rfl,hb,k,hn,hc,m,o⟩
  ·subst h0;have:xs=[]:=by
    have:=d.1;simp at this;subst this;exact Rd a.1.symm
   subst this;exact .bH
  ·by_cases h0:n=0
   ·subst h0;have:xs=[]:=by
     have:=d.1;simp at this;subst this;exact Rd a.1.symm
    subst this;exact .empty _ _ hc
   ·refine .slice b 0 n cap cs xs (by omega) hn hc (Rw.1 k).1 (λhM=>hM.2 (by rw[h];rfl)) (λj x hx=>?_) a.1 (λj x u h1 h2=>(a.2 j x u h1 h2).goes g);have:=d.cells (g:=b) I j x hx;rw[Addr.add_lit]at this;exact this
theorem BM{c t}{σ:ca}{Q:Exit->St->Prop}(k i:Nat){e s n:Nat}{xs}(hk:look k t=some (.own i))(hi:σ[i]? =some (some (.row e s n xs)))(h:W P N L c ⟨(k,.slice n xs)::t,σ.set i none⟩ Q):W P N L c ⟨t,σ⟩ Q:=λF base E₀ w₀ E a w hc hs=>by
 obtain⟨b,a2⟩:=hs.sat.kill i hi;exact h F base E₀ w₀ _ a w (hc.on a2 (Below.refl _ _)) ⟨b,(hs.tmp.goes a2).LJ (hs.sat.seal hi (hs.tmp k _ hk)),hs.lE,hs.size⟩
theorem gr{c t}{σ:ca}{Q:Exit->St->Prop}(k i off:Nat){ty xs}(hk:look k t=some (.ptr i off))(hi:σ[i]? =some (some (.cells ty xs)))(h:W P N L c ⟨(k,.bq xs off)::t,σ.set i none⟩ Q):W P N L c ⟨t,σ⟩ Q:=λF base E₀ w₀ E a w hc hs=>by
 obtain⟨f,a2⟩:=hs.sat.kill i hi;have hv:=hs.tmp k _ hk;obtain⟨b,cs,h1,h2,d,e⟩:=hs.sat.blk i _ hi;have hp:cZ (E.kill i) w (a.eval (.tmp k)) (.bq xs off):=by
  generalize a.eval (.tmp k)=z at hv;cases hv with
  |ptr _ _ b' g h=>
   have hb:b'=b:=by
    rcases h with h|⟨n,c,h⟩<;>rw[h1]at h<;>cases h
    rfl
   subst hb;have:=cZ.bq (E:=E.kill i) (w:=w) b' 0 off cs.toList xs (Rw.1 d).1 (λhM=>hM.2 (by rw[h1];rfl)) (λj x hx=>by rw[Si];unfold World.cell?;simp only[d];simpa using hx) e.1 (λj x u l m=>(e.2 j x u l m).goes a2);rw[Si]at this;exact this
 exact h F base E₀ w₀ _ a w (hc.on a2 (Below.refl _ _)) ⟨f,(hs.tmp.goes a2).LJ hp,hs.lE,hs.size⟩
end
open Net
theorem fC(n lo hi:Int):Can prog 83 [num n,num lo,num hi] (· =flag (bQ n lo hi)):=by
 have⟨c,a⟩:=QQ (decide (lo<=n));have⟨d,b⟩:=QQ (decide (n<=hi));have he:bQ n lo hi=(c&&d):=by rw[<-a,<-b];unfold bQ;exact S8 _ _
 rw[he];refine aF func83 I ntmps83 I<|ab (.a 1 I<|.k [0,1,2] I)<|bz 6 (.raw (.bool (c&&d))) [] I ?_ ?_
 ·refine .a 2 I<|.v (bW I (a)) I<|.a 1 I<|?_;cases c
  ·exact .a 5 I<|.k [6] I
  ·exact .a 2 I<|.v (bW I (b)) I<|.a 2 I<|.k [6] I
 exact ao<|QR I ax.pure rfl
theorem fh(T:ak):Can prog 48 [aL T] (· =flag (av T)):=by
  have⟨p0,g⟩:=QQ (bQ T.nodes 1 64);have⟨J,a⟩:=QQ (decide ((T.over.length:Int)≠0));have⟨K,b⟩:=QQ (decide ((T.over.length:Int)≠T.nodes));have⟨Q,c⟩:=QQ (decide (256<(T.ah.length:Int)));have hw:Can prog 83 [num T.nodes,num 1,num 64] (· =flag p0):=by rw[<-g];exact fC _ _ _
  refine aF func48 I ntmps48 I<|ab (.a 2 I<|.k [1] I)<|ai<|bz 28 (.raw (.bool (((!p0)||(J&&K))||Q))) [1] I ?_ ?_
  · refine .a 2 I<|.c rfl (hw) I<|.a 2 I<|?_;cases p0
    · exact .a 19 I<|.k [28,1] I
    · refine .a 3 I<|.v (bW I (a)) I<|.a 1 I<|?_;cases J
      · exact .a 12 I<|.v (bW I (c)) I<|.a 1 I<|.k [28,1] I
      · refine .a 5 I<|.v (bW I (b)) I<|.a 3 I<|?_;cases K
        · exact .a 3 I<|.v (bW I (c)) I<|.a 1 I<|.k [28,1] I
        · exact .a 5 I<|.k [28,1] I
  refine ae I (λhc=>?_) (λhc=>?_)
  · have hv:av T=false:=by
      rcases Sh.1 hc with h|h
      · rcases Sh.1 h with h|h
        · exact(jg T (.inl (by rw[g];simpa using h))).symm
        · obtain⟨L,a2⟩:=Q3.1 h;rw[L]at a;rw[a2]at b;exact(jg T (.inr (.inr ⟨by have:=tt a;omega,tt b⟩))).symm
      · rw[h]at c;exact(jg T (.inr (.inl (by have:=tt c;omega)))).symm
    rw[hv];exact ab (.a 1 I<|.k [2] I)<|ao<|QR I ax.pure rfl
  · obtain ⟨c1, M⟩ := Rt.1 hc;obtain⟨c1,H⟩:=Rt.1 c1;have h0:p0=true:=by simpa using c1
    rw[h0]at g;rw[M]at c;have hle:T.ah.length<=256:=by have:=ff c;omega
    have A:T.over.length=0\/(T.over.length:Int)=T.nodes:=by
      rcases SE.1 H with h|h
      · rw[h]at a;exact .inl (by have:=ff a;omega)
      · rw[h]at b;exact .inr (by have:=ff b;omega)
    rw[vu T g hle A];have P:=pX g;clear hw hc c1 H a b;refine aj<|ai<|ab (.a 1 I<|.k [1,3] I)<|aw<|eF [1,3] I<|bd (λr s=>∃k,k<=T.ah.length/\r=T.ah.length - k/\(T.ah.take k).all (jO T)=true/\s=⟨[(1,.bq (bn T) 0),(3,num k)],[]⟩) T.ah.length ⟨0,by omega,by omega,by simp,rfl⟩ ?_;rintro r s ⟨k,hk,rfl,d,rfl⟩;refine ai<|ab (.a 5 I<|.k [1,3,33] I)<|ae I (λhc=>?_) (λhc=>?_)
    · have i:k<T.ah.length:=by have:=tt hc;omega
      have⟨q1,g1⟩:=QQ (decide ((cP T.ah k).a=(cP T.ah k).b));have⟨n,g2⟩:=QQ (aX T (cP T.ah k).a);have⟨o,g3⟩:=QQ (aX T (cP T.ah k).b);have⟨p,g4⟩:=QQ (bQ (cP T.ah k).c0 1 65535);have⟨u,g5⟩:=QQ (bQ (cP T.ah k).c1 1 65535);have⟨q,g6⟩:=QQ (bQ (cP T.ah k).cap 0 1048576);have⟨t,g7⟩:=QQ (bQ (cP T.ah k).ga 1 65536);have⟨v,g8⟩:=QQ (bQ (cP T.ah k).wG 0 64);have m:=wN (T:=T) (l:=cP T.ah k) (q1:=q1) (by rw[<-g1];exact SR.2 (by simp)) g2 g3 g4 g5 g6 g7 g8;have e:=zE (jO T) T.ah k i;have j:=zD (jO T) T.ah k i;rw[m]at e j;have n2:=fC (cP T.ah k).a 0 (T.nodes - 1);rw[sI,g2]at n2;have B:=fC (cP T.ah k).b 0 (T.nodes - 1);rw[sI,g3]at B;have C:=fC (cP T.ah k).c0 1 65535;rw[g4]at C;have D:=fC (cP T.ah k).c1 1 65535;rw[g5]at D;have E:=fC (cP T.ah k).cap 0 1048576;rw[g6]at E;have F:=fC (cP T.ah k).ga 1 65536;rw[g7]at F;have G:=fC (cP T.ah k).wG 0 64;rw[g8]at G;clear m g2 g3 g4 g5 g6 g7 g8;refine aj<|ai<|aw<|aK<|au 3 I<|bm (aM (k*7) I) I<|bm (gj I (Ip T.ah k i) I) I<|au 2 I<|aE [1,3,4] I ?_;refine gr 4 0 0 I I<|dS [] (.c 1<|.c 3<|.c 4 .nil) .nil rfl rfl ?_;refine ai<|bz 77 (.raw (.bool (((((!n)|| !o)||q1)|| !p)|| !u))) [1,3,4] I ?_ ?_
      · refine .a 4 I<|.v (aW I) I<|.c rfl (n2) I<|.a 2 I<|?_;cases n
        · exact .a 29 I<|.k [77,1,3,4] I
        · refine .a 4 I<|.v (aW I) I<|.c rfl (B) I<|.a 3 I<|?_;cases o
          · exact .a 20 I<|.k [77,1,3,4] I
          · refine .a 4 I<|.v (bW I (g1)) I<|.a 2 I<|?_;cases q1
            · refine .a 1 I<|.v (aM (0) I) I<|.a 1 I<|.c rfl (C) I<|.a 3 I<|?_;cases p
              · exact .a 6 I<|.k [77,1,3,4] I
              · exact .a 1 I<|.v (aM (1) I) I<|.a 1 I<|.c rfl (D) I<|.a 2 I<|.k [77,1,3,4] I
            · exact .a 13 I<|.k [77,1,3,4] I
      refine ae I (λhx=>?_) (λhx=>?_)
      · have f:=j (by cases q1<;>cases n<;>cases o<;>cases p<;>cases u<;>simp_all);rw[f];exact ab (.a 1 I<|.k [2] I)<|ao<|QR I ax.pure rfl
      · have w:q1=false:=by cases q1<;>simp_all
        have x:n=true:=by cases n<;>simp_all
        have y:o=true:=by cases o<;>simp_all
        have N:p=true:=by cases p<;>simp_all
        have O:u=true:=by cases u<;>simp_all
        subst w x y N O;clear n2 B C D hx;refine aj<|bz 93 (.raw (.bool (((!q)|| !t)|| !v))) [1,3] I ?_ ?_
        · refine .a 2 I<|.c rfl (E) I<|.a 2 I<|?_;cases q
          · exact .a 11 I<|.k [93,1,3] I
          · refine .a 2 I<|.c rfl (F) I<|.a 3 I<|?_;cases t
            · exact .a 5 I<|.k [93,1,3] I
            · exact .a 2 I<|.c rfl (G) I<|.a 2 I<|.k [93,1,3] I
        refine ae I (λhx=>?_) (λhx=>?_)
        · have f:=j (by cases q<;>cases t<;>cases v<;>simp_all);rw[f];exact ab (.a 1 I<|.k [2] I)<|ao<|QR I ax.pure rfl
        · have w:q=true:=by cases q<;>simp_all
          have x:t=true:=by cases t<;>simp_all
          have y:v=true:=by cases v<;>simp_all
          subst w x y;clear E F G hx;refine aj<|aC (.a 1 I<|.v (aW I) I<|.a 1 I<|.k [1,3] I) ?_;exact⟨T.ah.length - (k+1),by omega,k+1,by omega,rfl,by rw[e,d];rfl,rfl⟩
    · have z:k=T.ah.length:=by have:=ff hc;omega
      subst z;rw[RC]at d;rw[d];exact ba<|ab (.a 1 I<|.k [2] I)<|ao<|QR I ax.pure rfl
theorem ky(T:ak)(hv:av T=true):Can prog 85 [aL T] (· =num (2*(T.ah.length:Int))):=by
 have a:=bO hv;have h:=fh T;rw[hv]at h;refine aF func85 I ntmps85 I<|ab (.a 2 I<|.k [1] I)<|ai<|ab (.a 1 I<|.c rfl (h) I<|.a 1 I<|.k [1,5] I)<|ae I (λhc=>?_) (λhc=>?_)
 ·cases hc
 ·exact aj<|ab (.a 3 I<|.v (aW I) I<|.a 1 I<|.k [2] I)<|ao<|QR I ax.pure rfl
theorem qD{T:ak}{a:Int}{p1 d}(b:decide (a<0)=p1)(c:decide (2*(T.ah.length:Int)<=a)=d)(hc:(p1||d)=true):¬(0<=a/\a<2*(T.ah.length:Int)):=by
 rcases Sh.1 hc with h|h
 ·rw[h]at b;have:=tt b;omega
 ·rw[h]at c;have:=tt c;omega
theorem oS{T:ak}{a:Int}{p1 d}(b:decide (a<0)=p1)(c:decide (2*(T.ah.length:Int)<=a)=d)(hc:(p1||d)=false):0<=a/\a<2*(T.ah.length:Int):=by
 obtain⟨h1,h2⟩:=Rt.1 hc;rw[h1]at b;rw[h2]at c;have:=ff b;have:=ff c;omega
theorem oR(T:ak)(hv:av T=true)(a:Int):Can prog 86 [aL T,num a] (· =num (o8 T a)):=by
 have e:=bO hv;have⟨d,b⟩:=QQ (decide (a<0));have⟨f,c⟩:=QQ (decide (2*(T.ah.length:Int)<=a));refine aF func86 I ntmps86 I<|ab (.a 2 I<|.k [1,2] I)<|ai<|aw<|bz 5 (.raw (.bool (d||f))) [1,2] I ?_ ?_
 ·refine .a 1 I<|.v (bW I (b)) I<|.a 1 I<|?_;cases d
  ·exact .a 2 I<|.c rfl (ky T hv) I<|.v (bW I (c)) I<|.a 2 I<|.k [5,1,2] I
  ·exact .a 6 I<|.k [5,1,2] I
 refine ae I (λhc=>?_) (λhc=>?_)
 ·unfold o8;rw[QZ (qD b c hc)];exact ab (.a 1 I<|.k [4] I)<|ao<|QR I ax.pure rfl
 ·have hy:=oS b c hc;unfold o8;rw[QY hy];clear b c hc;obtain⟨a,rfl⟩:=QW hy.1;have hi:a / 2<T.ah.length:=by omega
  unfold aZ;rw[QS];refine ab (.a 1 I<|.v (xK I I I (by decide) (I0 a)) I<|.a 2 I<|.k [1,2,14] I)<|ae I (λhc=>?_) (λhc=>?_)
  ·have h2:a % 2=0:=by have:=tt hc;omega
   rw[QY h2];exact ab (.a 3 I<|.v (jV I I I (by decide) (CQ a) (by unfold In64;omega)) I<|.v (aM (a / 2*7) I) I<|.a 1 I<|.v (aJ I (fq T.ah (a / 2) 0 hi (by omega))) I<|.a 1 I<|.k [4] I)<|ao<|QR I ax.pure rfl
  ·have h2:¬a % 2=0:=by have:=ff hc;omega
   rw[QZ h2];exact aj<|ab (.a 3 I<|.v (jV I I I (by decide) (CQ a) (by unfold In64;omega)) I<|.v (aM (a / 2*7) I) I<|.a 1 I<|.v (aJ I (fq T.ah (a / 2) 1 hi (by omega))) I<|.a 1 I<|.k [4] I)<|ao<|QR I ax.pure rfl
theorem KO(a:Nat):(((a / 2:Nat):Int)*2+1) - ((a % 2:Nat):Int)=((Net.flip a:Nat):Int):=by unfold Net.flip;split<;>omega
theorem F7(T:ak)(hv:av T=true)(a:Int):Can prog 94 [aL T,num a] (· =num (A0 T a)):=by
 have f:=bO hv;have⟨e,b⟩:=QQ (decide (a<0));have⟨g,c⟩:=QQ (decide (2*(T.ah.length:Int)<=a));refine aF func94 I ntmps94 I<|ab (.a 2 I<|.k [1,2] I)<|ai<|bz 12 (.raw (.bool (e||g))) [1,2] I ?_ ?_
 ·refine .a 1 I<|.v (bW I (b)) I<|.a 1 I<|?_;cases e
  ·exact .a 2 I<|.c rfl (ky T hv) I<|.v (bW I (c)) I<|.a 1 I<|.k [12,1,2] I
  ·exact .a 5 I<|.k [12,1,2] I
 refine ae I (λhc=>?_) (λhc=>?_)
 ·unfold A0;rw[QZ (qD b c hc)];exact ab (.a 1 I<|.k [4] I)<|ao<|QR I ax.pure rfl
 ·have hy:=oS b c hc;unfold A0;rw[QY hy];clear b c hc;obtain⟨a,rfl⟩:=QW hy.1;rw[QS];have d:=oR T hv ((Net.flip a:Nat):Int);rw[xA T (Net.flip a) (by unfold Net.flip;split<;>omega)]at d;exact aj<|ab (.a 2 I<|.v (jV I I I (by decide) (CQ a) (by unfold In64;omega)) I<|.v (aW I) I<|.v (aW I) I<|.a 1 I<|.v (xK I I I (by decide) (I0 a)) I<|.v (aW I (hc:=KO a) (hn:=by unfold In64 Net.flip;split<;>omega)) I<|.c rfl (d) I<|.a 1 I<|.k [4] I)<|ao<|QR I ax.pure rfl
theorem FY(T:ak)(hv:av T=true)(a:Int):Can prog 170 [aL T,num a] (· =num (AW T a)):=by
 have e:=bO hv;have⟨d,b⟩:=QQ (decide (a<0));have⟨f,c⟩:=QQ (decide (2*(T.ah.length:Int)<=a));refine aF func170 I ntmps170 I<|ab (.a 2 I<|.k [1,2] I)<|ai<|bz 12 (.raw (.bool (d||f))) [1,2] I ?_ ?_
 ·refine .a 1 I<|.v (bW I (b)) I<|.a 1 I<|?_;cases d
  ·exact .a 2 I<|.c rfl (ky T hv) I<|.v (bW I (c)) I<|.a 1 I<|.k [12,1,2] I
  ·exact .a 5 I<|.k [12,1,2] I
 refine ae I (λhc=>?_) (λhc=>?_)
 ·unfold AW;rw[QZ (qD b c hc)];exact ab (.a 1 I<|.k [4] I)<|ao<|QR I ax.pure rfl
 ·have hy:=oS b c hc;unfold AW;rw[QY hy];clear b c hc;obtain⟨a,rfl⟩:=QW hy.1;rw[QS];exact aj<|ab (.a 3 I<|.v (jV I I I (by decide) (CQ a) (by unfold In64;omega)) I<|.a 1 I<|.v (xK I I I (by decide) (I0 a)) I<|.v (aM (a / 2*7) I) I<|.a 1 I<|.v (aM (a % 2) I) I<|.v (aJ I (zW T a (by omega))) I<|.a 1 I<|.k [4] I)<|ao<|QR I ax.pure rfl
theorem fI(T:ak)(hv:av T=true)(a:Nat)(b:a<2*T.ah.length):Can prog 86 [aL T,num a] (· =num (aZ T a)):=by rw[<-xA T a b];exact oR T hv a
theorem gY(T:ak)(hv:av T=true)(a:Nat)(b:a<2*T.ah.length):Can prog 94 [aL T,num a] (· =num (aN T a)):=by rw[<-F8 T a b];exact F7 T hv a
theorem py(T:ak)(hv:av T=true)(a:Nat)(b:a<2*T.ah.length):Can prog 170 [aL T,num a] (· =num (cz T a)):=by rw[<-FZ T a b];exact FY T hv a
theorem xu(T:ak)(hv:av T=true)(n:Nat):Can prog 187 [aL T,num n] (· =flag (bR T n)):=by
 have h:=fh T;rw[hv]at h;have⟨c,a⟩:=QQ (decide ((n:Int)<(T.over.length:Int)));have⟨d,b⟩:=QQ (T.over.getD n false);have he:bR T n=(c&&d):=by
  unfold bR;cases c
  ·have:=ff a;rw[QU,RJ (by omega)];rfl
  ·exact b
 rw[he];have h0:decide (0<=(n:Int))=true:=Rb (by omega);refine aF func187 I ntmps187 I<|ab (.a 2 I<|.k [1,2] I)<|bz 4 (.raw (.bool (c&&d))) [] I ?_ ?_
 ·refine .a 1 I<|.c rfl (h) I<|.a 2 I<|.v (bW I h0) I<|.a 6 I<|.v (bW I (a)) I<|.a 2 I<|?_;cases c
  ·exact .a 7 I<|.k [4] I
  ·exact .a 3 I<|.v (aM (n) I (by omega) (by have:=tt a;omega)) I<|.v (aJ I (show _=some (flag d) by rw[db _ n (by have:=tt a;omega),b])) I<|.a 2 I<|.k [4] I
 exact ao<|QR I ax.pure rfl
theorem l7(T:ak)(D:List Bool):Can prog 113 [aL T,aV D] (· =flag (av T&&bN T D)):=by
 have⟨p0,a⟩:=QQ (av T);have h:=fh T;rw[a]at h;have⟨d,b⟩:=QQ (decide ((D.length:Int)=0));have⟨e,c⟩:=QQ (decide ((D.length:Int)=2*(T.ah.length:Int)));have he:bN T D=(d||e):=by rw[<-b,<-c];unfold bN;rw[<-TS];exact decide_eq_decide.2 (by omega)
 rw[he,a];refine aF func113 I ntmps113 I<|ab (.a 2 I<|.k [1,2] I)<|bz 4 (.raw (.bool (p0&&(d||e)))) [] I ?_ ?_
 ·refine .a 1 I<|.c rfl (h) I<|.a 1 I<|?_;cases p0
  ·exact .a 14 I<|.k [4] I
  ·refine .a 2 I<|.v (bW I (b)) I<|.a 1 I<|?_;cases d
   ·exact .a 5 I<|.v (aW I (hn:=by have:=bO a;unfold In64;omega)) I<|.v (bW I (c)) I<|.a 3 I<|.k [4] I
   ·exact .a 10 I<|.k [4] I
 exact ao<|QR I ax.pure rfl
theorem tr(D:List Bool)(a:Nat)(e:D.length=0\/a<D.length):Can prog 115 [aV D,num a] (· =flag (!aI D a)):=by
 have⟨p1,b⟩:=QQ (decide ((D.length:Int)=0));have⟨d,c⟩:=QQ (D.getD a false);have he:(!aI D a)=(p1|| !d):=by
  rw[DK (p1:= !p1) (by rw[<-b];rw[<-decide_not];exact decide_eq_decide.2 (by omega)) c];cases p1<;>cases d<;>rfl
 rw[he];refine aF func115 I ntmps115 I<|ab (.a 1 I<|.k [0,1] I)<|bz 4 (.raw (.bool (p1|| !d))) [] I ?_ ?_
 ·refine .a 2 I<|.v (bW I (b)) I<|.a 1 I<|?_;cases p1
  ·exact .a 2 I<|.v (aM (a) I (by omega) (by have:=ff b;omega)) I<|.v (aJ I (show _=some (flag d) by rw[db _ a (by have:=ff b;omega),c])) I<|.a 3 I<|.k [4] I
  ·exact .a 7 I<|.k [4] I
 exact ao<|QR I ax.pure rfl
theorem qE(T:ak)(hv:av T=true)(n d:Nat):Can prog 169 [aL T,num n,num d] (· =flag (decide (n=d)|| !bR T n)):=by
 have⟨c,a⟩:=QQ (decide ((n:Int)=(d:Int)));have⟨e,b⟩:=QQ (bR T n);have he:decide (n=d)=c:=by rw[<-a];exact decide_eq_decide.2 (by omega)
 have h:=xu T hv n;rw[b]at h;rw[he,b];refine aF func169 I ntmps169 I<|ab (.a 2 I<|.k [1,2,3] I)<|bz 6 (.raw (.bool (c|| !e))) [] I ?_ ?_
 ·refine .a 2 I<|.v (bW I (a)) I<|.a 1 I<|?_;cases c
  ·exact .a 2 I<|.c rfl (h) I<|.a 3 I<|.k [6] I
  ·exact .a 6 I<|.k [6] I
 exact ao<|QR I ax.pure rfl
theorem xx(L M:List Int):Can prog 10 [aq L,aq M] (· =flag (o9 L M)):=by
 refine mA λ⟨E,w,vs,e⟩=>?_;obtain⟨v,_,hv⟩:=e.get (i:=0) I;have hm:=ln hv;unfold maxLen at hm;refine aF func10 I ntmps10 I<|ab (.a 1 I<|.k [0,1] I)<|ai<|ab (.a 5 I<|.k [0,1,10] I)<|ae I (λhc=>?_) (λhc=>?_)
 ·rw[<-Jm L M (by have:=tt hc;omega)];exact ab (.a 1 I<|.k [4] I)<|ao<|QR I ax.pure rfl
 ·have b:M.length=L.length:=by have:=ff hc;omega
  refine aj<|ai<|ab (.a 1 I<|.k [0,1,5] I)<|aw<|eF [0,1,5] I<|bd (λr s=>∃k,k<=L.length/\r=L.length - k/\(∀i,i<k->L.getD i 0=M.getD i 0)/\s=⟨[(0,aq L),(1,aq M),(5,num k)],[]⟩) L.length ⟨0,by omega,by omega,λi hi=>by omega,rfl⟩ ?_;rintro r s ⟨k,hk,rfl,a,rfl⟩;refine ai<|ab (.a 4 I<|.k [0,1,5,14] I)<|ae I (λhc=>?_) (λhc=>?_)
  ·have c:k<L.length:=by have:=tt hc;omega
   refine aj<|ai<|aw<|er mixed (by kernel_rfl) (.a 2 I<|.v [17,18] (aM (k) I) I I<|.v [19] (aJ I (aB L k c)) I I<|.a 2 I<|.v [21,22] (aM (k) I) I I<|.v [23] (aJ I (aB M k (by omega))) I I<|.a 1 I<|.k [0,1,5,25] I) ?_;refine ae I (λhx=>?_) (λhx=>?_)
   ·rw[<-L5 L M k (tt hx)];exact ab (.a 1 I<|.k [4] I)<|ao<|QR I ax.pure rfl
   ·have d:L.getD k 0=M.getD k 0:=by have:=ff hx;omega
    refine aj<|aC (.a 1 I<|.v (aW I) I<|.a 1 I<|.k [0,1,5] I) ?_;refine⟨L.length - (k+1),by omega,k+1,by omega,rfl,λi hi=>?_,rfl⟩;by_cases h:i=k
    ·rw[h];exact d
    ·exact a i (by omega)
  ·have f:k=L.length:=by have:=ff hc;omega
   rw[<-Jl L M b (λi hi=>a i (by omega))];exact ba<|ab (.a 1 I<|.k [4] I)<|ao<|QR I ax.pure rfl
end
end PW
namespace Heap
section
def par(q:Nat):Nat:=(q - 1) / 2
theorem gd{q:Nat}(h:0<q):par q<q:=by unfold par;omega
theorem LB{p c:Nat}(h:0<c)(hc:par c=p):c=2*p+1\/c=2*p+2:=by unfold par at hc;omega
def tB(f:Nat->Int)(len:Nat):Prop:=∀q,0<q->q<len->f (par q)<=f q
def Mu(f:Nat->Int)(len p:Nat):Prop:=0<p->∀c,0<c->c<len->par c=p->f (par p)<=f c
def pR(f:Nat->Int)(len p:Nat):Prop:=(∀q,0<q->q<len->q≠p->par q≠p->f (par q)<=f q)/\Mu f len p
def wc(f:Nat->Int)(len p:Nat):Prop:=(∀q,0<q->q<len->par q≠p->f (par q)<=f q)/\Mu f len p
def JZ(f:Nat->Int)(p q x:Nat):Int:=if x=p then f q else if x=q then f p else f x
theorem Ah(f:Nat->Int)(p q:Nat):JZ f p q p=f q:=by simp[JZ]
theorem OC(f:Nat->Int)(p q:Nat):JZ f p q q=f p:=by
 unfold JZ;split
 ·rename_i h;rw[h]
 ·simp
theorem mF(f:Nat->Int){p q x:Nat}(h1:x≠p)(h2:x≠q):JZ f p q x=f x:=by simp[JZ,h1,h2]
theorem Ir{f:Nat->Int}{len p:Nat}(h:pR f len p)(hp:0<p)(hl:p<len)(_:f p<f (par p)):pR (JZ f p (par p)) len (par p):=by
 have l:=gd hp;refine⟨λq h0 g h1 h2=>?_,λd c h0 hc b=>?_⟩
 ·by_cases e:par q=p
  ·have a:=gd h0;rw[e,Ah,mF f (by omega) h1];exact h.2 hp q h0 g e
  ·have a:q≠p:=λi=>h2 (by rw[i]);rw[mF f e h2,mF f a h1];exact h.1 q h0 g a e
 ·have k:=gd d;rw[mF f (by omega) (by omega)];have j:=h.1 (par p) d (by omega) (by omega) (by omega);by_cases e:c=p
  ·rw[e,Ah];exact j
  ·have:=gd h0;rw[mF f e (by omega)];have:=h.1 c h0 hc e (by omega);rw[b]at this;omega
theorem Ct{f:Nat->Int}{len p:Nat}(h:pR f len p)(hp:p=0\/f (par p)<=f p):wc f len p:=
 ⟨λq h0 b h2=>by
  by_cases e:q=p
  ·subst e;rcases hp with a|a
   ·omega
   ·exact a
  ·exact h.1 q h0 b e h2,h.2⟩
theorem B5{f:Nat->Int}{len p:Nat}(h:wc f len p)(hk:∀c,0<c->c<len->par c=p->f p<=f c):tB f len:=λq h0 a=>by
 by_cases e:par q=p
 ·rw[e];exact hk q h0 a e
 ·exact h.1 q h0 a e
theorem B6{f:Nat->Int}{len p c:Nat}(h:wc f len p)(g:0<c)(i:c<len)(a:par c=p)(n:f c<f p)(hk:∀c',0<c'->c'<len->par c'=p->f c<=f c'):wc (JZ f p c) len c:=by
 have o:=gd g;refine⟨λq h0 k h2=>?_,λ_ d h0 hd j=>?_⟩
 ·have r:=gd h0;by_cases e:par q=p
  ·rw[e,Ah];by_cases b:q=c
   ·rw[b,OC];omega
   ·rw[mF f (by omega) b];exact hk q h0 k e
  ·rw[mF f e h2];by_cases b:q=p
   ·rw[b,Ah];exact h.2 (by omega) c g i a
   ·rw[mF f b (λl=>e (by rw[l];exact a))];exact h.1 q h0 k e
 ·have m:=gd h0;rw[a,Ah,mF f (by omega) (by omega)];have:=h.1 d h0 hd (by omega);rw[j]at this;exact this
theorem Ff{f:Nat->Int}{len:Nat}(h:tB f len):∀q,q<len->f 0<=f q:=by
 intro q;induction q using Nat.strongRecOn with
 |_ q b=>
  intro a;by_cases e:q=0
  ·rw[e];exact SI _
  ·have:=gd (q:=q) (by omega);exact Int.le_trans (b (par q) this (by omega)) (h q (by omega) a)
theorem An{f g:Nat->Int}{len p:Nat}(h:tB f len)(he:∀q,q<len->q≠p->g q=f q)(hp:p<len):pR g len p:=by
 refine⟨λq h0 d h1 h2=>?_,λa c h0 hc b=>?_⟩
 ·have:=gd h0;rw[he q d h1,he (par q) (by omega) h2];exact h q h0 d
 ·have:=gd h0;have:=gd a;rw[he (par p) (by omega) (by omega),he c hc (by omega)];have h1:=h c h0 hc;rw[b]at h1;exact Int.le_trans (h p a hp) h1
theorem Ck{f g:Nat->Int}{len:Nat}(h:tB f len)(he:∀q,q<len->g q=f q):pR g (len+1) len:=by
 refine⟨λq h0 d h1 _=>?_,λb c h0 hc a=>?_⟩
 ·have:=gd h0;rw[he q (by omega),he (par q) (by omega)];exact h q h0 (by omega)
 ·have:=gd h0;omega
theorem Cj{f g:Nat->Int}{len:Nat}(h:tB f (len+1))(he:∀q,q<len->q≠0->g q=f q):pR g len 0:=by
 refine⟨λq h0 b h1 h2=>?_,λa=>by omega⟩;have:=gd h0;rw[he q b h1,he (par q) (by omega) h2];exact h q h0 (by omega)
def nU(K:List Int)(i:Int):Int:=K.getD i.toNat 0*65536+i
def rk(K O:List Int)(p:Nat):Int:=nU K (O.getD p 0)
theorem yZ{K:List Int}{i j:Int}(hi:0<=i)(c:i<65536)(hj:0<=j)(d:j<65536):
  decide (nU K i<nU K j)=(if K.getD i.toNat 0=K.getD j.toNat 0 then decide (i<j) else decide (K.getD i.toNat 0<K.getD j.toNat 0)):=by
 unfold nU;generalize K.getD i.toNat 0=a;generalize K.getD j.toNat 0=b;split
 ·simp only[decide_eq_decide];omega
 ·simp only[decide_eq_decide];omega
theorem I1{K:List Int}{i j:Int}(hi:0<=i)(a:j<65536)(h:nU K i<=nU K j):K.getD i.toNat 0<=K.getD j.toNat 0:=by
 unfold nU at h;omega
def eK(O:List Int)(p q:Nat):List Int:=(O.set p (O.getD q 0)).set q (O.getD p 0)
theorem ir(O:List Int)(p q:Nat):(eK O p q).length=O.length:=by simp[eK]
theorem fp(L:List Int)(i j:Nat)(c:Int)(hi:i<L.length):(L.set i c).getD j 0=if j=i then c else L.getD j 0:=by
 simp only[QU,Rh];by_cases h:i=j
 ·subst h;simp[hi]
 ·rw[QZ h,QZ (Ne.symm h)]
theorem eG(O:List Int)(p q x:Nat)(hp:p<O.length)(a:q<O.length):(eK O p q).getD x 0=if x=q then O.getD p 0 else if x=p then O.getD q 0 else O.getD x 0:=by
 unfold eK;rw[fp _ _ _ _ (by simpa using a),fp _ _ _ _ hp]
theorem Ec(K O:List Int)(p q:Nat)(hp:p<O.length)(a:q<O.length):rk K (eK O p q)=JZ (rk K O) p q:=by
 funext x
 unfold rk JZ;rw[eG O p q x hp a];by_cases h1:x=q
 ·subst h1;rw[QY rfl];by_cases h2:x=p
  ·rw[QY h2,h2]
  ·rw[QZ h2,QY rfl]
 ·rw[QZ h1];by_cases h2:x=p
  ·rw[QY h2,QY h2]
  ·rw[QZ h2,QZ h2,QZ h1]
def fx(O:List Int)(i:Int):Prop:=∃p,p<O.length/\O.getD p 0=i
theorem oA(O:List Int)(p q:Nat)(hp:p<O.length)(a:q<O.length)(i:Int):fx (eK O p q) i↔fx O i:=by
 unfold fx;rw[ir];constructor
 ·rintro⟨x,hx,rfl⟩;rw[eG O p q x hp a];split
  ·exact⟨p,hp,rfl⟩
  ·split
   ·exact⟨q,a,rfl⟩
   ·exact⟨x,hx,rfl⟩
 ·rintro⟨x,hx,rfl⟩;by_cases h1:x=p
  ·exact⟨q,a,by rw[eG O p q q hp a,QY rfl,h1]⟩
  ·by_cases h2:x=q
   ·exact⟨p,hp,by
     rw[eG O p q p hp a];by_cases b:p=q
     ·omega
     ·rw[QZ b,QY rfl,h2]⟩
   ·exact⟨x,hx,by rw[eG O p q x hp a,QZ h2,QZ h1]⟩
structure ew (N:Nat) (P O:List Int):Prop where
 len:P.length=N
 item:∀p,p<O.length->0<=O.getD p 0/\O.getD p 0<N/\P.getD (O.getD p 0).toNat 0=(p:Int)+1
 place:∀i,i<N->P.getD i 0=0\/∃p,p<O.length/\O.getD p 0=(i:Int)
theorem ew.inj{N:Nat}{P O:List Int}(h:ew N P O){p q:Nat}(hp:p<O.length)(a:q<O.length)(he:O.getD p 0=O.getD q 0):p=q:=by
 have h1:=(h.item p hp).2.2;have h2:=(h.item q a).2.2;rw[he]at h1;omega
def jd(P O:List Int)(p q:Nat):List Int:=(P.set (O.getD q 0).toNat ((p:Int)+1)).set (O.getD p 0).toNat ((q:Int)+1)
theorem ew.swap{N:Nat}{P O:List Int}(h:ew N P O){p q:Nat}(hp:p<O.length)(a:q<O.length):ew N (jd P O p q) (eK O p q):=by
 have ip:=h.item p hp;have c:=h.item q a;have hl:=h.len;refine⟨by simp[jd,h.len],λx hx=>?_,λi hi=>?_⟩
 ·rw[ir]at hx;have d:=h.item x hx;have e:∀j:Int,0<=j->j<N->(jd P O p q).getD j.toNat 0=if j=O.getD p 0 then(q:Int)+1 else if j=O.getD q 0 then(p:Int)+1 else P.getD j.toNat 0:=λj h0 h1=>by
   unfold jd;rw[fp _ _ _ _ (by rw[Ry];omega),fp _ _ _ _ (by omega)];have f:(j.toNat=(O.getD p 0).toNat)=(j=O.getD p 0):=by apply propext;omega
   have g:(j.toNat=(O.getD q 0).toNat)=(j=O.getD q 0):=by apply propext;omega
   simp only[f,g]
  rw[eG O p q x hp a];by_cases h1:x=q
  ·rw[QY h1,e _ ip.1 ip.2.1,QY rfl];exact⟨ip.1,ip.2.1,by rw[h1]⟩
  ·rw[QZ h1];by_cases h2:x=p
   ·rw[QY h2,e _ c.1 c.2.1,QZ (λe=>by have:=h.inj a hp e;omega),QY rfl];exact⟨c.1,c.2.1,by rw[h2]⟩
   ·rw[QZ h2,e _ d.1 d.2.1,QZ (λe=>h2 (h.inj hx hp e)),QZ (λe=>h1 (h.inj hx a e))];exact d
 ·by_cases b:fx O (i:Int)
  ·exact .inr ((oA O p q hp a (i:Int)).2 b)
  ·rcases h.place i hi with h0|h0
   ·refine .inl ?_;unfold jd;rw[fp _ _ _ _ (by rw[Ry];omega),fp _ _ _ _ (by omega),QZ (λe=>b ⟨p,hp,by omega⟩),QZ (λe=>b ⟨q,a,by omega⟩)];exact h0
   ·exact absurd h0 b
theorem ew.zero{N:Nat}{P O:List Int}(h:ew N P O){i:Nat}(hi:i<N):P.getD i 0=0↔¬fx O (i:Int):=by
 constructor
 ·rintro h0 ⟨p,hp,he⟩;have:=(h.item p hp).2.2;rw[he,QS,h0]at this;omega
 ·intro hn;rcases h.place i hi with h0|h0
  ·exact h0
  ·exact absurd h0 hn
theorem ew.push{N:Nat}{P O:List Int}(h:ew N P O){i:Nat}(hi:i<N)(hn:¬fx O (i:Int)):ew N (P.set i ((O.length:Int)+1)) (O++[(i:Int)]):=by
 have hl:=h.len;refine⟨by simp[h.len],λx hx=>?_,λj b=>?_⟩
 ·rw[fp _ _ _ _ (by omega)];by_cases h1:x<O.length
  ·have c:=h.item x h1;have e:(O++[(i:Int)]).getD x 0=O.getD x 0:=by simp[QU,Q9 h1]
   rw[e,QZ (λe=>hn ⟨x,h1,by omega⟩)];exact c
  ·have:x=O.length:=by simp at hx;omega
   subst this;have e:(O++[(i:Int)]).getD O.length 0=i:=by simp
   rw[e,QS,QY rfl];exact⟨by omega,by omega,rfl⟩
 ·rw[fp _ _ _ _ (by omega)];by_cases a:j=i
  ·exact .inr ⟨O.length,by simp,by simp[a]⟩
  ·rw[QZ a];rcases h.place j b with h0|⟨p,hp,he⟩
   ·exact .inl h0
   ·exact .inr ⟨p,by simp;omega,by simp[QU,Q9 hp]at he ⊢;exact he⟩
theorem Fg(O:List Int)(i j:Int):fx (O++[i]) j↔j=i\/fx O j:=by
 constructor
 ·rintro⟨p,hp,rfl⟩;by_cases h1:p<O.length
  ·exact .inr ⟨p,h1,by simp[QU,Q9 h1]⟩
  ·have:p=O.length:=by simp at hp;omega
   subst this;exact .inl (by simp)
 ·rintro(rfl|⟨p,hp,rfl⟩)
  ·exact⟨O.length,by simp,by simp⟩
  ·exact⟨p,by simp;omega,by simp[QU,Q9 hp]⟩
theorem oc(O:List Int)(m x:Nat)(h:x<m):(O.take m).getD x 0=O.getD x 0:=by
 simp[QU,h]
theorem ew.pop{N:Nat}{P O:List Int}{m:Nat}(h:ew N P O)(hm:O.length=m+1):ew N (P.set (O.getD m 0).toNat 0) (O.take m):=by
 have hl:=h.len;have f:=h.item m (by omega);refine⟨by simp[h.len],λx hx=>?_,λj c=>?_⟩
 ·have b:x<m:=by simp at hx;omega
  rw[oc O m x b,fp _ _ _ _ (by omega)];have d:=h.item x (by omega);rw[QZ (λe=>by have:=h.inj (p:=x) (q:=m) (by omega) (by omega) (by omega);omega)];exact d
 ·rw[fp _ _ _ _ (by omega)];by_cases a:j=(O.getD m 0).toNat
  ·exact .inl (QY a)
  ·rw[QZ a];rcases h.place j c with h0|⟨p,hp,he⟩
   ·exact .inl h0
   ·have:p≠m:=λe=>a (by rw[<-e,he];rfl);exact .inr ⟨p,by simp;omega,by rw[oc O m p (by omega)];exact he⟩
theorem Ib{N:Nat}{P O:List Int}{m:Nat}(h:ew N P O)(hm:O.length=m+1)(j:Int):fx (O.take m) j↔fx O j/\j≠O.getD m 0:=by
 constructor
 ·rintro⟨p,hp,rfl⟩;have b:p<m:=by simp at hp;omega
  rw[oc O m p b];exact⟨⟨p,by omega,rfl⟩,λe=>by have:=h.inj (p:=p) (q:=m) (by omega) (by omega) e;omega⟩
 ·rintro⟨⟨p,hp,rfl⟩,a⟩;have:p≠m:=λe=>a (by rw[e]);exact⟨p,by simp;omega,oc O m p (by omega)⟩
theorem CL:∀(N m:Nat) (f:Nat->Nat),(∀p,p<m->f p<N)->(∀p q,p<m->q<m->f p=f q->p=q)->m<=N
 |0,m,f,h,_=>by
  rcases SS m with h0|h0
  ·omega
  ·have:=h 0 h0;omega
 |N+1,m,f,h,hi=>by
  by_cases hx:∃p,p<m/\f p=N
  ·obtain⟨p0,c,he⟩:=hx;have:=CL N (m - 1) (λp=>if p=p0 then f (m - 1) else f p) (λp hp=>by
    by_cases e:p=p0
    ·simp only[e,Sw];have h1:=h (m - 1) (by omega);have h2:f (m - 1)≠N:=λb=>by have:=hi (m - 1) p0 (by omega) c (by omega);omega
     omega
    ·simp only[e,TW];have h1:=h p (by omega);have h2:f p≠N:=λb=>e (hi p p0 (by omega) c (by omega));omega) (λp q hp d a=>by
    by_cases e:p=p0<;>by_cases b:q=p0
    ·omega
    ·simp only[e,b,Sw,TW]at a;have:=hi (m - 1) q (by omega) (by omega) a;omega
    ·simp only[e,b,Sw,TW]at a;have:=hi p (m - 1) (by omega) (by omega) a;omega
    ·simp only[e,b,TW]at a;exact hi p q (by omega) (by omega) a)
   omega
  ·have:=CL N m f (λp hp=>by
    have h1:=h p hp;have h2:f p≠N:=λe=>hx ⟨p,hp,e⟩;omega) hi
   omega
theorem kT{N:Nat}{P O:List Int}(h:ew N P O):O.length<=N:=
 CL N O.length (λp=>(O.getD p 0).toNat) (λp hp=>by have:=h.item p hp;omega) (λp q hp a e=>by
  have h1:=h.item p hp;have h2:=h.item q a;exact h.inj hp a (by omega))
end
end Heap
namespace PW
section
open Go.RowKit cG Mem Net Heap
def jM(b:Bool)(d:Option cX)(N n:Nat)(K P O:List Int):ca:=
 match b with
 |false=>[d,some (.cells 232 [.own 2,.own 3,.own 4]),some (.row 3 1 N (aU K)),some (.row 3 1 N (aU P)),some (.row 3 1 n (aU O))]
 |true=>[d,some (.cells 232 [.own 2,.own 3,.own 5]),some (.row 3 1 N (aU K)),some (.row 3 1 N (aU P)),none,some (.row 3 1 n (aU O))]
def Od:cX->Prop
 | .cells _ xs=>aP xs
 | .row _ _ _ xs=>aP xs
 | .mp kv=>aP (kv.map (·.2))
def mT(d:Option cX):Prop:=∀b,d=some b->Od b
theorem lI.same{fs:List Nat}{σ σ'}{js:List Nat}{j:Nat}{d}(hd:mT d)(h:σ[j]? =some d)(hs:lI fs σ σ' js):lI fs σ (d::σ') (j::js):=by
 cases d with
 |none=>exact .gone hs
 |some b=>
  have hb:=hd b rfl;cases b with
  |cells ty xs=>haveI:aP xs:=hd _ rfl;exact .kept h (.cells RZ) hs
  |row e s n xs=>haveI:aP xs:=hd _ rfl;exact .kept h (.row RZ) hs
  |mp kv=>haveI:aP (kv.map (·.2)):=hd _ rfl;exact .kept h .mp hs
def Ap(K P O:List Int):PV:=.bq [aq K,aq P,aq O] 0
theorem uN(b:Bool)(d:Option cX){N n:Nat}{K P O:List Int}(a:K.length=N)(e:P.length=N)(c:O.length=n):ax (jM b d N n K P O) (.ptr 1 0) (Ap K P O):=by
 subst a;subst c;unfold Ap aq;rw[e];cases b<;>exact U4 rfl (QV (Tj rfl Sj) (QV (Tj rfl Sj) (QV (Tj rfl Sj) Rl)))
theorem lX{N:Nat}{P O:List Int}(h:ew N P O){p:Nat}(hp:p<O.length):∃i:Nat,O.getD p 0=(i:Int)/\i<N:=by
 obtain⟨h1,h2,_⟩:=h.item p hp;exact⟨(O.getD p 0).toNat,by omega,by omega⟩
theorem tM{N:Nat}(K P O:List Int)(a:ew N P O)(f:K.length=N)(hN:N<=65536)(p q:Nat)(hp:p<O.length)(c:q<O.length):
  Can prog 195 [Ap K P O,num p,num q] (· =flag (decide (rk K O p<rk K O q))):=by
 obtain⟨i,hi,d⟩:=lX a hp;obtain⟨j,b,e⟩:=lX a c;have hr:decide (rk K O p<rk K O q)=if K.getD i 0=K.getD j 0 then decide ((i:Int)<(j:Int)) else decide (K.getD i 0<K.getD j 0):=by
  unfold rk;rw[hi,b,yZ (by omega) (by omega) (by omega) (by omega),QS,QS]
 refine aF func195 I ntmps195 I<|ab (.a 1 I<|.k [0,1,2] I)<|er mixed (by kernel_rfl) (.a 5 I<|.v [12,13] (aM (p) I) I I<|.v [14] (aJ I ((aB O p hp).trans (by rw[hi]))) I I<|.a 5 I<|.v [19,20] (aM (q) I) I I<|.v [21] (aJ I ((aB O q c).trans (by rw[b]))) I I<|.a 2 I<|.k [0,7,8] I) ?_;refine ai<|er mixed (by kernel_rfl) (.a 5 I<|.v [26,27] (aM (i) I) I I<|.v [28] (aJ I (aB K i (by omega))) I I<|.a 5 I<|.v [33,34] (aM (j) I) I I<|.v [35] (aJ I (aB K j (by omega))) I I<|.a 1 I<|.k [0,7,8,37] I) ?_;refine ae I (λhc=>?_) (λhc=>?_)
 ·have:=Q5 hc;rw[QZ this]at hr;refine er mixed (by kernel_rfl) (.a 5 I<|.v [41,42] (aM (i) I) I I<|.v [43] (aJ I (aB K i (by omega))) I I<|.a 5 I<|.v [48,49] (aM (j) I) I I<|.v [50] (aJ I (aB K j (by omega))) I I<|.a 2 I<|.k [6] I)<|ao<|QR I ax.pure (by rw[hr];rfl)
 ·have:=Rf hc;rw[QY (by simpa using this)]at hr;exact aj<|ab (.a 4 I<|.k [6] I)<|ao<|QR I ax.pure (by rw[hr];rfl)
theorem vl{N n:Nat}(b:Bool)(d:Option cX)(K P O:List Int)(e:ew N P O)(s:O.length=n)(hN:N<=65536)(p q:Nat)(hp:p<O.length)(a:q<O.length):
  bM prog 196 [.ptr 1 0,num p,num q] (jM b d N n K P O) (λ_ σ'=>σ'=jM b d N n K (jd P O p q) (eK O p q)):=by
 obtain⟨i,hi,o⟩:=lX e hp;obtain⟨j,f,r⟩:=lX e a;have l:=kT e;have m:=e.len;have g:(eK O p q).getD p 0=j:=by
  rw[eG O p q p hp a];by_cases h:p=q
  ·rw[QY h];subst h;omega
  ·rw[QZ h,QY rfl,f]
 have k:(eK O p q).getD q 0=i:=by rw[eG O p q q hp a,QY rfl,hi]
 have c:eK O p q=(O.set p (j:Int)).set q (i:Int):=by unfold eK;rw[hi,f]
 rw[c]at g k;refine cF func196 I ntmps196 I ?_;cases b
 all_goals
  refine jt 25 20 mixed (.val [0] I (bb I) I I<|.val [6] I (bb I) I I<|.val [7] I (bb I) I I<|.val [8] I (bb I) I I<|.val [1] I (bb I) I I<|.val [0] I (bb I) I I<|.val [11] I (bb I) I I<|.val [12] I (bb I) I I<|.val [13] I (bb I) I I<|.late [2] I (jQ rfl rfl) inferInstance rfl rfl<|.val [0] I (bb I) I I<|.val [16] I (bb I) I I<|.val [17] I (bb I) I I<|.val [18] I (bb I) I I<|.val [2] I (bb I) I I<|.val [19,20] I (aM (q) I) I I<|.val [21] I (aJ I ((aB O q a).trans (by rw[f]))) I I<|.val [0] I (bb I) I I<|.val [23] I (bb I) I I<|.val [24] I (bb I) I I<|.val [25] I (bb I) I I<|.val [1] I (bb I) I I<|.val [26,27] I (aM (p) I) I I<|.val [28] I (aJ I ((aB O p hp).trans (by rw[hi]))) I I<|.val [9,10] I (aM (p) I) I I<|.nil) (by kernel_rfl) I I (aR (ks:=[0,1,2,14,15,22,29,30]) I)<|bc (cp I (Q6 I) I I I (by first|omega|(simp;omega))) I I<|bm (aM (q) I) I<|bc (cp I (Q6 I) I I I (by first|omega|(simp;omega))) I I<|aE [0,1,2] I ?_;refine jt 14 20 mixed (.val [0] I (bb I) I I<|.val [32] I (bb I) I I<|.val [33] I (bb I) I I<|.val [34] I (bb I) I I<|.val [0] I (bb I) I I<|.val [36] I (bb I) I I<|.val [37] I (bb I) I I<|.val [38] I (bb I) I I<|.val [1] I (bb I) I I<|.val [39,40] I (aM (p) I) I I<|.val [41] I (aJ I ((aB ((O.set p (j:Int)).set q (i:Int)) p (by simpa using hp)).trans (by rw[g]))) I I<|.val [1] I (bb I) I I<|.val [43] I (aW I) I I<|.val [35,42] I (aM (j) I) I I<|.nil) (by kernel_rfl) I I (aR (ks:=[0,2,44,45]) I)<|bc (cp I (Q6 I) I I I (by first|omega|(simp;omega))) I I<|aE [0,2] I ?_;refine dh 14 20 mixed (.val [0] I (bb I) I I<|.val [46] I (bb I) I I<|.val [47] I (bb I) I I<|.val [48] I (bb I) I I<|.val [0] I (bb I) I I<|.val [50] I (bb I) I I<|.val [51] I (bb I) I I<|.val [52] I (bb I) I I<|.val [2] I (bb I) I I<|.val [53,54] I (aM (q) I) I I<|.val [55] I (aJ I ((aB ((O.set p (j:Int)).set q (i:Int)) q (by simpa using a)).trans (by rw[k]))) I I<|.val [2] I (bb I) I I<|.val [57] I (aW I) I I<|.val [49,56] I (aM (i) I) I I<|.nil) (by kernel_rfl) I I (aR (ks:=[58,59]) I)<|bc (cp I (Q6 I) I I I (by first|omega|(simp;omega))) I I<|aE [] I ?_;refine⟨_,RY I,?_⟩;unfold jd;rw[hi,f,c]
  rfl
theorem Jz(p:Nat)(h:0<p):((p:Int) - 1).tdiv 2=((par p:Nat):Int):=by
 rw[Sv (by omega)];unfold par;omega
theorem D6{σ}{K P O:List Int}(h:ax σ (.ptr 1 0) (Ap K P O))(p q:Int):af σ ([.ptr 1 0,num p,num q]++[]) [Ap K P O,num p,num q]:=QV h (QV ax.pure (QV ax.pure Rl))
theorem pG{N n:Nat}(b:Bool)(d:Option cX)(K P O:List Int)(V:ew N P O)(Y:O.length=n)(R:K.length=N)(hN:N<=65536)(p:Nat)(hp:p<n)(X:pR (rk K O) n p):
  bM prog 189 [.ptr 1 0,num p] (jM b d N n K P O) (λ_ σ'=>∃m a,σ'=jM b d N n K m a/\ew N m a/\a.length=n/\tB (rk K a) n/\∀i,fx a i↔fx O i):=by
 have W:=kT V;refine cF func189 I ntmps189 I ?_;cases b
 all_goals
  refine ai<|aw<|eF [0,1] I<|bd (λr s=>∃m a p',ew N m a/\a.length=n/\pR (rk K a) n p'/\p'<n/\(∀i,fx a i↔fx O i)/\r=p'/\s=⟨[(0,.ptr 1 0),(1,num p')],jM _ d N n K m a⟩) p ⟨P,O,p,V,Y,X,hp,λ_=>Iff.rfl,rfl,rfl⟩ ?_;rintro r s ⟨m,a,p',j,k,D,y,o,rfl,rfl⟩;refine ai ?_;have⟨F,f⟩:=QQ (decide ((0:Int)<(r:Int)));have⟨U,g⟩:=QQ (decide (rk K a r<rk K a (par r)));refine bz 15 (.raw (.bool (F&&U))) [0,1] I ?_ ?_
  ·refine .a 1 I<|.v (bW I (f)) I<|.a 1 I<|?_;cases F
   ·exact .a 7 I<|.k [15,0,1] I
   ·exact .a 3 I<|.v (aW I) I<|.v (jV I I I (by decide) (Jz r (by have:=Q5 f;omega)) (by unfold In64 par;omega)) I<|.v (Mg I (D6 (uN _ d R j.len k) _ _) (g▸tM K m a j R hN r (par r) (by omega) (by have:=Q5 f;have:=gd (q:=r) (by omega);omega))) I<|.a 1 I<|.k [15,0,1] I
  refine ae I (λhc=>?_) (λhc=>?_)
  ·obtain⟨c1,S⟩:=Q3.1 hc;rw[c1]at f;rw[S]at g;have A:0<r:=by have:=Q5 f;omega
   have T:=Q5 g;have Q:=gd A;refine aj<|aw<|aK<|au 3 I<|bm (aW I) I<|bm (jV I I I (by decide) (Jz r A) (by unfold In64;omega)) I<|cD I I (RT (vl _ d K m a j k hN r (par r) (by omega) (by omega)) (λ_ σ' h=>?_));subst h;refine aE [0,1] I<|aC (.a 1 I<|.v (aW I) I<|.v (jV I I I (by decide) (Jz r A) (by unfold In64;omega)) I<|.a 1 I<|.k [0,1] I) ?_;refine⟨par r,Q,jd m a r (par r),eK a r (par r),par r,j.swap (by omega) (by omega),by rw[ir];exact k,?_,by omega,λi=>(oA a r (par r) (by omega) (by omega) i).trans (o i),rfl,rfl⟩;rw[Ec K a r (par r) (by omega) (by omega)];exact Ir D A y T
  ·have v:wc (rk K a) n r:=Ct D (by
    by_cases h0:r=0
    ·exact .inl h0
    ·refine .inr ?_;have h1:F=true:=by rw[<-f];simp;omega
     rw[h1]at hc;simp only[RM]at hc;rw[hc]at g;have:=Rf g;omega)
   clear D f g hc;refine ba<|aw<|eF [0,1] I<|bd (λr s=>∃m a p',ew N m a/\a.length=n/\wc (rk K a) n p'/\p'<n/\(∀i,fx a i↔fx O i)/\r=n - p'/\s=⟨[(0,.ptr 1 0),(1,num p')],jM _ d N n K m a⟩) (n - r) ⟨m,a,r,j,k,v,y,o,rfl,rfl⟩ ?_;clear j k v o m a y r;rintro r s ⟨m,a,p',j,k,v,y,o,rfl,rfl⟩;refine aw<|ab (.a 2 I<|.k [0,1,4] I)<|ai<|ab (.a 1 I<|.v (aW I) I<|.v (aW I) I<|.a 1 I<|.k [0,1,4,5] I)<|aw<|eF [0,1,4,5] I<|bd (λr s=>∃c l,2*p'+1<=c/\c<=2*p'+3/\r=2*p'+3 - c/\l<n/\(l=p'\/(par l=p'/\0<l/\rk K a l<rk K a p'))/\(∀x,2*p'+1<=x->x<c->x<n->rk K a l<=rk K a x)/\s=⟨[(0,.ptr 1 0),(1,num p'),(4,num l),(5,num c)],jM _ d N n K m a⟩) 2 ⟨2*p'+1,p',by omega,by omega,by omega,y,.inl rfl,λx h1 h2=>by omega,rfl⟩ ?_;rintro r s ⟨c,l,Z,aa,rfl,hl,w,t,rfl⟩;refine ai ?_;have⟨F,f⟩:=QQ (decide ((c:Int)<=2*(p':Int)+2));have⟨U,g⟩:=QQ (decide ((c:Int)<(n:Int)));refine bz 42 (.raw (.bool (F&&U))) [0,1,4,5] I ?_ ?_
   ·refine .a 2 I<|.v (aW I) I<|.v (aW I) I<|.v (bW I (f)) I<|.a 1 I<|?_;cases F
    ·exact .a 8 I<|.k [42,0,1,4,5] I
    ·exact .a 6 I<|.v (bW I (g)) I<|.a 1 I<|.k [42,0,1,4,5] I
   refine ae I (λhc=>?_) (λhc=>?_)
   ·obtain⟨c1,S⟩:=Q3.1 hc;rw[c1]at f;rw[S]at g;have G:c<n:=by have:=Q5 g;omega
    have ad:c<=2*p'+2:=by have:=Q5 f;omega
    have M:par c=p':=by unfold par;omega
    refine aj<|ai<|aw<|ab (.a 3 I<|.v (Mg I (D6 (uN _ d R j.len k) _ _) (tM K m a j R hN c l (by omega) (by omega))) I<|.k [0,1,4,5,48] I)<|ae I (λhb=>?_) (λhb=>?_)
    ·have u:=Q5 hb;refine aC (.a 2 I<|.k [0,1,4,5] I)<|aC (.a 1 I<|.v (aW I) I<|.a 1 I<|.k [0,1,4,5] I) ?_;first
      |exact⟨2*p'+3 - (c+1),by omega,c+1,c,by omega,by omega,rfl,G,.inr ⟨M,by omega,by rcases w with h|h;(rw[h]at u;exact u);omega⟩,λx h1 h2 C=>by by_cases e:x=c;(rw[e];exact SI _);(have:=t x h1 (by omega) C;omega),rfl⟩
      |exact⟨2*p'+3 - (c+1),by omega,c+1,l,by omega,by omega,rfl,hl,w,λx h1 h2 C=>by by_cases e:x=c;(rw[e];omega);exact t x h1 (by omega) C,rfl⟩
    ·have u:=Rf hb;refine aj<|aC (.a 1 I<|.v (aW I) I<|.a 1 I<|.k [0,1,4,5] I) ?_;first
      |exact⟨2*p'+3 - (c+1),by omega,c+1,c,by omega,by omega,rfl,G,.inr ⟨M,by omega,by rcases w with h|h;(rw[h]at u;exact u);omega⟩,λx h1 h2 C=>by by_cases e:x=c;(rw[e];exact SI _);(have:=t x h1 (by omega) C;omega),rfl⟩
      |exact⟨2*p'+3 - (c+1),by omega,c+1,l,by omega,by omega,rfl,hl,w,λx h1 h2 C=>by by_cases e:x=c;(rw[e];omega);exact t x h1 (by omega) C,rfl⟩
   ·have B:∀x,0<x->x<n->par x=p'->rk K a l<=rk K a x:=λx h0 hx z=>by
     refine t x (by unfold par at z;omega) ?_ hx;rcases Sf x c with h|h
     ·exact h
     ·exfalso;have af:=LB h0 z;have h1:F=true:=by rw[<-f];simp;omega
      rw[h1]at hc;simp only[RM]at hc;rw[hc]at g;have:=Rf g;omega
    clear hc f g t;refine ba<|ai<|ab (.a 3 I<|.k [0,1,4,52] I)<|ae I (λhc=>?_) (λhc=>?_)
    ·have E:l=p':=by have:=Q5 hc;omega
     refine ao<|⟨_,RY I,m,a,rfl,j,k,?_,o⟩;refine B5 v λx h0 hx z=>?_;have:=B x h0 hx z;rw[E]at this;exact this
    ·have E:l≠p':=by have:=Rf hc;omega
     obtain⟨L,H,J⟩:=w.resolve_left E;refine aj<|aK<|au 3 I<|cD I I (RT (vl _ d K m a j k hN p' l (by omega) (by omega)) (λ_ σ' h=>?_));subst h;refine aE [0,4] I<|aC (.a 2 I<|.k [0,1] I) ?_;have Q:=gd H;refine⟨n - l,by omega,jd m a p' l,eK a p' l,l,j.swap (by omega) (by omega),by rw[ir];exact k,?_,hl,λi=>(oA a p' l (by omega) (by omega) i).trans (o i),rfl,rfl⟩;rw[Ec K a p' l (by omega) (by omega)];exact B6 v H hl L J B
def GZ(N n:Nat)(K P O:List Int):Prop:=ew N P O/\O.length=n/\K.length=N/\tB (rk K O) n
theorem Jw{N n:Nat}(d:Option cX)(hd:mT d)(K P O:List Int)(h:GZ N (n+1) K P O)(hN:N<=65536)(i:Nat)(hi:O.getD 0 0=(i:Int)):
  bM prog 190 [.ptr 1 0,num 0] (jM false d N (n+1) K P O) (λ_ σ'=>∃o k,σ'=jM true d N n (K.set i 0) o k/\GZ N n (K.set i 0) o k/\∀j,fx k j↔fx O j/\j≠(i:Int)):=by
 obtain⟨l,t,r,D⟩:=h;have C:=kT l;have E:i<N:=by have:=(l.item 0 (by omega)).2.1;rw[hi]at this;omega
 have g:=l.swap (p:=0) (q:=n) (by omega) (by omega);have B:(eK O 0 n).getD n 0=(i:Int):=by rw[eG O 0 n n (by omega) (by omega),QY rfl,hi]
 have b:=g.pop (m:=n) (by rw[ir];exact t);rw[B,QS]at b;have a:∀j,fx ((eK O 0 n).take n) j↔fx O j/\j≠(i:Int):=λj=>by
  rw[Ib g (by rw[ir];exact t) j,B,oA O 0 n (by omega) (by omega)]
 have f:((eK O 0 n).take n).length=n:=by rw[Sg,ir];omega
 have A:(jd P O 0 n).length=N:=g.len;have v:∀x,x<n->x≠0->rk (K.set i 0) ((eK O 0 n).take n) x=rk K O x:=λx hx w=>by
  unfold rk;rw[oc _ _ _ hx,eG O 0 n x (by omega) (by omega),QZ (by omega),QZ w];unfold nU;have u:(O.getD x 0).toNat≠i:=λe=>by
   have h1:=l.item x (by omega);have:=l.inj (p:=x) (q:=0) (by omega) (by omega) (by rw[hi];omega);omega
  rw[fp _ _ _ _ (by omega),QZ u]
 have c:pR (rk (K.set i 0) ((eK O 0 n).take n)) n 0:=Cj D v;refine cF func190 I ntmps190 I<|ab (.a 5 I<|.v (aW I (hc:=(show(((n+1:Nat):Int)) - 1=(n:Int) by omega))) I<|.a 1 I<|.k [0,1,4] I)<|ab (.a 5 I<|.v (aM (0) I) I<|.v (aJ I ((aB O 0 (by omega)).trans (by rw[hi]))) I<|.a 1 I<|.k [0,1,4,5] I)<|aK<|au 3 I<|cD I I (RT (vl false d K P O l t hN 0 n (by omega) (by omega)) (λ_ σ' h=>?_));subst h;refine aE [0,1,4,5] I<|aK<|au 6 I<|cb (ql I (RP I) I I I I (by omega)) I<|au 3 I ?_;refine dL [0,1,2,3,4,5] (.c 0<|.c 1<|.c 4<|.c 5<|.nil) (.same hd rfl<|.kept rfl (.cells (Sr<|Sr<|Sr<|Sy))<|.kept rfl (.row RZ)<|.kept rfl (.row RZ)<|.gone<|.kept rfl (.eY rfl (show(aU (eK O 0 n)).take (n*1)=aU ((eK O 0 n).take n) by rw[Uf];unfold aU;rw[List.map_take]))<|.nil) I I (bg ?_);refine jt 11 20 mixed (.val [0] I (bb I) I I<|.val [32] I (bb I) I I<|.val [33] I (bb I) I I<|.val [34] I (bb I) I I<|.val [5] I (bb I) I I<|.val [0] I (bb I) I I<|.val [37] I (bb I) I I<|.val [38] I (bb I) I I<|.val [39] I (bb I) I I<|.late [5] I (jQ rfl rfl) inferInstance rfl rfl<|.val [35,36] I (aM (i) I) I I<|.nil) (by kernel_rfl) I I (aR (ks:=[0,1,4,40,41,42]) I)<|bc (cp I (Q6 I) I I I (by first|omega|(simp;omega))) I I<|bm (aM (i) I) I<|bc (cp I (Q6 I) I I I (by first|omega|(simp;omega))) I I<|aE [0,1,4] I ?_;refine ab (.a 3 I<|.k [0,1,46] I)<|ae I (λhc=>?_) (λhc=>?_)
 ·have s:0<n:=by have:=Q5 hc;omega
  refine bx<|au 2 I<|cD I I (RT (pG true d (K.set i 0) ((jd P O 0 n).set i 0) ((eK O 0 n).take n) b f (by simpa using r) hN 0 s c) (λ_ σ' h=>?_));obtain⟨o,k,rfl,h1,h2,y,z⟩:=h;refine aE [] I ?_;first
   |exact⟨_,RY rfl,o,k,rfl,⟨h1,h2,by simpa using r,y⟩,λj=>(z j).trans (a j)⟩
   |exact⟨_,RY rfl,(jd P O 0 n).set i 0,(eK O 0 n).take n,rfl,⟨b,f,by simpa using r,λq h0 F=>by omega⟩,a⟩
 ·have s:n=0:=by have:=Rf hc;omega
  refine aj ?_;first
   |exact⟨_,RY rfl,o,k,rfl,⟨h1,h2,by simpa using r,y⟩,λj=>(z j).trans (a j)⟩
   |exact⟨_,RY rfl,(jd P O 0 n).set i 0,(eK O 0 n).take n,rfl,⟨b,f,by simpa using r,λq h0 F=>by omega⟩,a⟩
theorem K7{N:Nat}(K P O:List Int)(j:P.length=N)(h:K.length=N)(hN:N<=65536)(i:Nat)(hi:i<N):
  Can prog 180 [Ap K P O,num i] (· = .tuple [num (if P.getD i 0=0 then 0 else K.getD i 0),flag (!decide (P.getD i 0=0))]):=by
 refine aF func180 I ntmps180 I<|ab (.a 2 I<|.k [0,1] I)<|ai ?_;have⟨e,b⟩:=QQ (decide ((i:Int)<0));have⟨f,c⟩:=QQ (decide ((K.length:Int)<=(i:Int)));have⟨g,a⟩:=QQ (decide (P.getD i 0=0));refine bz 30 (.raw (.bool (e||f||g))) [0,1] I ?_ ?_
 ·refine .a 4 I<|.v (bW I (b)) I<|.a 2 I<|?_;cases e
  ·refine .a 6 I<|.v (bW I (c)) I<|.a 2 I<|?_;cases f
   ·exact .a 5 I<|.v (aM (i) I) I<|.v (aJ I (aB P i (by omega))) I<|.v (bW I (a)) I<|.a 1 I<|.k [30,0,1] I
   ·exact .a 9 I<|.k [30,0,1] I
  ·exact .a 18 I<|.k [30,0,1] I
 refine ae I (λhc=>?_) (λhc=>?_)
 ·have h1:e=false:=by rw[<-b];simp
  have h2:f=false:=by rw[<-c];simp;omega
  rw[h1,h2]at hc;simp only[Td]at hc;rw[hc]at a;refine ab (.a 2 I<|.k [4,5] I)<|ao<|⟨_,_,RY I,ax.pure,?_⟩;rw[a];first
   |(rw[QY (Q5 a)];rfl)
   |(rw[QZ (Rf a)];rfl)
 ·have d:g=false:=by revert hc;cases g<;>simp
  rw[d]at a;refine aj<|ab (.a 5 I<|.v (aM (i) I) I<|.v (aJ I (aB K i (by omega))) I<|.a 2 I<|.k [4,5] I)<|ao<|⟨_,_,RY I,ax.pure,?_⟩;rw[a];first
   |(rw[QY (Q5 a)];rfl)
   |(rw[QZ (Rf a)];rfl)
theorem LH{N n:Nat}(d:Option cX)(hd:mT d)(K P O:List Int)(h:GZ N n K P O)(hN:N<=65536):
  bM prog 179 [.ptr 1 0] (jM false d N n K P O) (λr σ'=>(n=0/\r= .tuple [num 0,num 0,flag false]/\σ'=jM false d N n K P O)\/
   ∃(n' i:Nat) (e c:List Int),n=n'+1/\i<N/\O.getD 0 0=(i:Int)/\r= .tuple [num i,num (K.getD i 0),flag true]/\σ'=jM true d N n' (K.set i 0) e c/\GZ N n' (K.set i 0) e c/\∀j,fx c j↔fx O j/\j≠(i:Int)):=by
 have g:=h;obtain⟨k,q,o,m⟩:=g;refine cF func179 I ntmps179 I<|ab (.a 3 I<|.k [0] I)<|ai ?_;have⟨l,a⟩:=QQ (decide ((n:Int)=0));refine bz 14 (.raw (.bool (l))) [0] I ?_ ?_
 ·exact .a 8 I<|.v (bW I (a)) I<|.a 1 I<|.k [14,0] I
 refine ae I (λhc=>?_) (λhc=>?_)
 ·have b:n=0:=by rw[hc]at a;have:=Q5 a;omega
  refine ab (.a 3 I<|.k [2,3,4] I)<|ao ?_;first
   |exact⟨_,RY rfl,.inl ⟨b,rfl,rfl⟩⟩
   |exact⟨_,RY rfl,.inr ⟨n',i,e,c,rfl,f,hi,rfl,rfl,h1,h2⟩⟩
 ·have b:n≠0:=by rw[hc]at a;have:=Rf a;omega
  obtain⟨n',rfl⟩:∃n',n=n'+1:=⟨n - 1,by omega⟩;obtain⟨i,hi,f⟩:=lX k (p:=0) (by omega);refine aj<|ab (.a 4 I<|.v (aM (0) I) I<|.v (aJ I ((aB O 0 (by omega)).trans (by rw[hi]))) I<|.a 1 I<|.k [0,2] I)<|ab (.a 5 I<|.v (aM (i) I) I<|.v (aJ I (aB K i (by omega))) I<|.a 1 I<|.k [0,2,3] I)<|aK<|au 1 I<|cD I I (RT (Jw d hd K P O h hN i hi) (λ_ σ' h=>?_));obtain⟨e,c,rfl,h1,h2⟩:=h;refine aE [2,3] I<|ab (.a 5 I<|.k [2,3,4] I)<|ao ?_;first
   |exact⟨_,RY rfl,.inl ⟨b,rfl,rfl⟩⟩
   |exact⟨_,RY rfl,.inr ⟨n',i,e,c,rfl,f,hi,rfl,rfl,h1,h2⟩⟩
theorem IY{N:Nat}{P O:List Int}(a:ew N P O){i:Nat}(hi:i<N)(h:P.getD i 0≠0):∃p,p<O.length/\O.getD p 0=(i:Int)/\P.getD i 0=(p:Int)+1:=by
 rcases a.place i hi with h0|⟨p,hp,he⟩
 ·exact absurd h0 h
 ·have:=(a.item p hp).2.2;rw[he,QS]at this;exact⟨p,hp,he,this⟩
theorem Jd{N:Nat}{K P O:List Int}(a:ew N P O)(d:K.length=N){i:Nat}(hi:i<N)(c:Int){x:Nat}(hx:x<O.length)(b:O.getD x 0≠(i:Int)):rk (K.set i c) O x=rk K O x:=by
 unfold rk nU;have h1:=a.item x hx;rw[fp _ _ _ _ (by omega),QZ (by omega)]
theorem Ef{N n:Nat}(d:Option cX)(hd:mT d)(K P O:List Int)(h:GZ N n K P O)(hN:N<=65536)(i:Nat)(hi:i<N)(key:Int):
  bM prog 178 [.ptr 1 0,num i,num key] (jM false d N n K P O) (λr σ'=>∃(b:Bool) (n':Nat) (m k:List Int),σ'=jM b d N n' (K.set i key) m k/\GZ N n' (K.set i key) m k/\∀j,fx k j↔fx O j\/j=(i:Int)):=by
 obtain⟨l,D,o,H⟩:=h;have J:=kT l;have M:=l.len;refine cF func178 I ntmps178 I<|ab (.a 1 I<|.k [0,1,2] I)<|ai<|ab (.a 2 I<|.k [0,1,2,8] I)<|ae I (λhc=>?_) (λhc=>?_)
 ·cases hc
 ·refine aj<|ai ?_;have⟨G,B⟩:=QQ (decide ((i:Int)<0));have⟨L,C⟩:=QQ (decide ((N:Int)<=(i:Int)));refine bz 19 (.raw (.bool (G||L))) [0,1,2] I ?_ ?_
  ·refine .a 1 I<|.v (bW I (B)) I<|.a 1 I<|?_;cases G
   ·exact .a 6 I<|.v (bW I (C)) I<|.a 1 I<|.k [19,0,1,2] I
   ·exact .a 8 I<|.k [19,0,1,2] I
  refine ae I (λhc=>?_) (λhc=>?_)
  ·have h1:G=false:=by rw[<-B];simp
   have h2:L=false:=by rw[<-C];simp;omega
   rw[h1,h2]at hc;cases hc
  ·refine aj<|aK<|au 6 I<|bm (aM (i) I) I<|bc (cp I (Q6 I) I I I (by first|omega|(simp;omega))) I I<|aE [0,1] I ?_;refine ai<|ab (.a 5 I<|.v (aM (i) I) I<|.v (aJ I (aB P i (by omega))) I<|.a 1 I<|.k [0,1,34] I)<|ae I (λhc=>?_) (λhc=>?_)
   ·have t:P.getD i 0=0:=Q5 hc;have y:=(l.zero hi).1 t;have s:=l.push hi y;have E:(O++[(i:Int)]).length=n+1:=by simp[D]
    rw[D]at s;have c:(P.set i ((n:Int)+1)).getD i 0=(n:Int)+1:=by rw[fp _ _ _ _ (by omega),QY rfl]
    have f:i<(P.set i ((n:Int)+1)).length:=by simp;omega
    have u:((n:Int)+1) - 1=(n:Int):=by omega
    have Q:n<N:=by have:=kT s;simp at this;omega
    have g:=pG true d (K.set i key) (P.set i ((n:Int)+1)) (O++[(i:Int)]) s E (by simpa using o) hN n (by omega) (Ck H λq R=>by
     have e:(O++[(i:Int)]).getD q 0=O.getD q 0:=by simp[QU,Q9 (show q<O.length by omega)]
     have:=Jd l o hi key (x:=q) (by omega) (λe=>y ⟨q,by omega,e⟩);unfold rk at this ⊢;rw[e];exact this)
    have a:∀j,fx (O++[(i:Int)]) j↔fx O j\/j=(i:Int):=λj=>(Fg O i j).trans Or.comm;refine aK<|au 7 I<|cb (bF I (Ru I) I I I I (by unfold maxLen;omega)) I<|au 3 I ?_;refine dL [0,1,2,3,4,5] (.c 0<|.c 1<|.nil) (.same hd rfl<|.kept rfl (.cells (Sr<|Sr<|Sr<|Sy))<|.kept rfl (.row RZ)<|.kept rfl (.row RZ)<|.gone<|.kept rfl (.eY rfl (cW _ _))<|.nil) I I (bg ?_);refine dh 11 20 mixed (.val [0] I (bb I) I I<|.val [45] I (bb I) I I<|.val [46] I (bb I) I I<|.val [47] I (bb I) I I<|.val [1] I (bb I) I I<|.val [0] I (bb I) I I<|.val [50] I (bb I) I I<|.val [51] I (bb I) I I<|.val [52] I (bb I) I I<|.val [53] I (bb I) I I<|.val [48,49] I (aM (i) I) I I<|.nil) (by kernel_rfl) I I (aR (ks:=[0,1,54,55]) I)<|bc (cp I (Q6 I) I I I (by first|omega|(simp;omega))) I I<|aE [0,1] I ?_;refine aK<|au 6 I<|bm (aM (i) I) I<|bm (aJ I ((aB _ i f).trans (Sc (λz=>some (PV.raw (.int .i64 z))) c))) I<|bm (aW I (hc:=u)) I<|cD I I (RT g (λ_ σ' h=>?_));obtain⟨m,k,rfl,h1,h2,v,w⟩:=h;refine aE [] I<|ab (.a 1 I<|.k [6] I)<|ao ?_;first
     |exact⟨_,RY rfl,true,_,m,k,rfl,⟨h1,h2,by simpa using o,v⟩,λj=>(w j).trans (a j)⟩
     |exact⟨_,RY rfl,false,_,m,k,rfl,⟨h1,h2,by simpa using o,v⟩,λj=>(w j).trans (a j)⟩
   ·have t:P.getD i 0≠0:=Rf hc;obtain⟨p,hp,A,c⟩:=IY l hi t;have f:i<P.length:=by omega
    have u:((p:Int)+1) - 1=(p:Int):=by omega
    have g:=pG false d (K.set i key) P O l D (by simpa using o) hN p (by omega) (An H (λq R F=>Jd l o hi key (x:=q) (by omega) (λe=>F (l.inj (by omega) hp (by rw[e,A])))) (by omega));have a:∀j,fx O j↔fx O j\/j=(i:Int):=λj=>⟨.inl,λh=>h.elim id λe=>⟨p,hp,by rw[A,e]⟩⟩;refine aj<|aK<|au 6 I<|bm (aM (i) I) I<|bm (aJ I ((aB _ i f).trans (Sc (λz=>some (PV.raw (.int .i64 z))) c))) I<|bm (aW I (hc:=u)) I<|cD I I (RT g (λ_ σ' h=>?_));obtain⟨m,k,rfl,h1,h2,v,w⟩:=h;refine aE [] I<|ab (.a 1 I<|.k [6] I)<|ao ?_;first
     |exact⟨_,RY rfl,true,_,m,k,rfl,⟨h1,h2,by simpa using o,v⟩,λj=>(w j).trans (a j)⟩
     |exact⟨_,RY rfl,false,_,m,k,rfl,⟨h1,h2,by simpa using o,v⟩,λj=>(w j).trans (a j)⟩
theorem Lu(N:Nat)(d:Option cX)(hd:mT d)(hN:N<=65536):
  bM prog 177 [num N] [d] (λr σ'=>r= .tuple [.ptr 1 0,num 0]/\σ'=jM false d N 0 (List.replicate N 0) (List.replicate N 0) []):=by
 refine cF func177 I ntmps177 I<|ab (.a 2 I<|.k [0] I) ?_;have⟨f,c⟩:=QQ (decide ((N:Int)<0));have⟨g,e⟩:=QQ (decide ((65536:Int)<(N:Int)));refine ai<|bz 9 (.raw (.bool (f||g))) [0] I ?_ ?_
 ·refine .a 1 I<|.v (bW I (c)) I<|.a 1 I<|?_;cases f
  ·exact .a 1 I<|.v (bW I (e)) I<|.a 1 I<|.k [9,0] I
  ·exact .a 3 I<|.k [9,0] I
 have h1:f=false:=by rw[<-c];simp
 have h2:g=false:=by rw[<-e];simp;omega
 refine ae (b:=f||g) I (λhc=>?_) (λhc=>?_)
 ·rw[h1,h2]at hc;cases hc
 ·clear hc c e h1 h2;refine aj<|rf mixed ?_;have a:W prog 16 1 .ret ⟨[(2,.ptr 1 0),(3,num 0)],jM false d N 0 (List.replicate N 0) (List.replicate N 0) []⟩ (Oe prog Tryz.f177 (λr σ'=>r= .tuple [.ptr 1 0,num 0]/\σ'=jM false d N 0 (List.replicate N 0) (List.replicate N 0) [])):=
   ao ⟨_,.cons (.tmp rfl) (.cons (.tmp rfl) .nil),rfl,rfl⟩
  refine bT 0 [2] (by kernel_rfl)<|bC I I (bP (gF I I) I I I (bg ?_)) ?_
  ·refine bT 1 [2] (by kernel_rfl)<|bC I I (ep (dc I (Ru I) I I I I ⟨by unfold maxLen;omega,by omega⟩) I I I (bg ?_)) ?_
   ·refine bT 2 [] (by kernel_rfl)<|bC I I (bP (gF I I) I I I (bg ?_)) bU;refine bT 3 [] (by kernel_rfl)<|bC I I (ep (dc I (Ru I) I I I I ⟨by unfold maxLen;omega,by omega⟩) I I I (bg ?_)) bU;refine bT 4 [] (by kernel_rfl)<|bC I I (bP (gT (xs:=[_,_,_]) I (TT I) I I) I I I (bg ?_)) bU;refine bT 5 [] (by kernel_rfl)<|bC I I (ep (fV I I I) I I I (bg ?_)) bU;refine bT 6 [] (by kernel_rfl)<|bC I I (bP (fw I I) I I I (bg ?_)) bU;refine bT 7 [] (by kernel_rfl)<|bC I I (bP (fw I I) I I I (bg ?_)) bU;refine lB (by kernel_rfl)<|cm 3 2 3 1 I I ?_;exact dS [0,3,1,2,4] (.cons 2 I (Ren.ptr (i:=1) I)<|.cons 3 I Ren.pure<|.nil) (.same hd rfl<|.kept rfl (.cells (S2 (Ren.own (i:=2) I)<|S2 (Ren.own (i:=3) I)<|S2 (Ren.own (i:=4) I) Sy))<|.kept rfl (.eY rfl (dj N))<|.kept rfl (.eY rfl (dj N))<|.kept rfl (.row RZ)<|.nil) I I a
   refine bC I I (bP (gF I I) I I I (bg ?_)) bU;refine bT 1 [3] (by kernel_rfl)<|bC I I (ep (dc I (Ru I) I I I I ⟨by unfold maxLen;omega,by omega⟩) I I I (bg ?_)) ?_
   ·refine bT 3 [] (by kernel_rfl)<|bC I I (ep (dc I (Ru I) I I I I ⟨by unfold maxLen;omega,by omega⟩) I I I (bg ?_)) bU;refine bT 4 [] (by kernel_rfl)<|bC I I (bP (gT (xs:=[_,_,_]) I (TT I) I I) I I I (bg ?_)) bU;refine bT 5 [] (by kernel_rfl)<|bC I I (ep (fV I I I) I I I (bg ?_)) bU;refine bT 6 [] (by kernel_rfl)<|bC I I (bP (fw I I) I I I (bg ?_)) bU;refine bT 7 [] (by kernel_rfl)<|bC I I (bP (fw I I) I I I (bg ?_)) bU;refine lB (by kernel_rfl)<|cm 3 2 3 1 I I ?_;exact dS [0,3,1,2,4] (.cons 2 I (Ren.ptr (i:=1) I)<|.cons 3 I Ren.pure<|.nil) (.same hd rfl<|.kept rfl (.cells (S2 (Ren.own (i:=2) I)<|S2 (Ren.own (i:=3) I)<|S2 (Ren.own (i:=4) I) Sy))<|.kept rfl (.eY rfl (dj N))<|.kept rfl (.eY rfl (dj N))<|.kept rfl (.row RZ)<|.nil) I I a
   refine bC I I (ep (dc I (Ru I) I I I I ⟨by unfold maxLen;omega,by omega⟩) I I I (bg ?_)) bU;refine bT 1 [] (by kernel_rfl)<|bC I I (ep (dc I (Ru I) I I I I ⟨by unfold maxLen;omega,by omega⟩) I I I (bg ?_)) bU;refine bT 4 [] (by kernel_rfl)<|bC I I (bP (gT (xs:=[_,_,_]) I (TT I) I I) I I I (bg ?_)) bU;refine bT 5 [] (by kernel_rfl)<|bC I I (ep (fV I I I) I I I (bg ?_)) bU;refine bT 6 [] (by kernel_rfl)<|bC I I (bP (fw I I) I I I (bg ?_)) bU;refine bT 7 [] (by kernel_rfl)<|bC I I (bP (fw I I) I I I (bg ?_)) bU;refine lB (by kernel_rfl)<|cm 3 2 3 1 I I ?_;exact dS [0,3,2,1,4] (.cons 2 I (Ren.ptr (i:=1) I)<|.cons 3 I Ren.pure<|.nil) (.same hd rfl<|.kept rfl (.cells (S2 (Ren.own (i:=2) I)<|S2 (Ren.own (i:=3) I)<|S2 (Ren.own (i:=4) I) Sy))<|.kept rfl (.eY rfl (dj N))<|.kept rfl (.eY rfl (dj N))<|.kept rfl (.row RZ)<|.nil) I I a
  refine bC I I (bP (gF I I) I I I (bg ?_)) bU;refine bT 0 [3] (by kernel_rfl)<|bC I I (bP (gF I I) I I I (bg ?_)) ?_
  ·refine bT 1 [3] (by kernel_rfl)<|bC I I (ep (dc I (Ru I) I I I I ⟨by unfold maxLen;omega,by omega⟩) I I I (bg ?_)) ?_
   ·refine bT 3 [] (by kernel_rfl)<|bC I I (ep (dc I (Ru I) I I I I ⟨by unfold maxLen;omega,by omega⟩) I I I (bg ?_)) bU;refine bT 4 [] (by kernel_rfl)<|bC I I (bP (gT (xs:=[_,_,_]) I (TT I) I I) I I I (bg ?_)) bU;refine bT 5 [] (by kernel_rfl)<|bC I I (ep (fV I I I) I I I (bg ?_)) bU;refine bT 6 [] (by kernel_rfl)<|bC I I (bP (fw I I) I I I (bg ?_)) bU;refine bT 7 [] (by kernel_rfl)<|bC I I (bP (fw I I) I I I (bg ?_)) bU;refine lB (by kernel_rfl)<|cm 3 2 3 1 I I ?_;exact dS [0,3,1,2,4] (.cons 2 I (Ren.ptr (i:=1) I)<|.cons 3 I Ren.pure<|.nil) (.same hd rfl<|.kept rfl (.cells (S2 (Ren.own (i:=2) I)<|S2 (Ren.own (i:=3) I)<|S2 (Ren.own (i:=4) I) Sy))<|.kept rfl (.eY rfl (dj N))<|.kept rfl (.eY rfl (dj N))<|.kept rfl (.row RZ)<|.nil) I I a
   refine bC I I (ep (dc I (Ru I) I I I I ⟨by unfold maxLen;omega,by omega⟩) I I I (bg ?_)) bU;refine bT 1 [] (by kernel_rfl)<|bC I I (ep (dc I (Ru I) I I I I ⟨by unfold maxLen;omega,by omega⟩) I I I (bg ?_)) bU;refine bT 4 [] (by kernel_rfl)<|bC I I (bP (gT (xs:=[_,_,_]) I (TT I) I I) I I I (bg ?_)) bU;refine bT 5 [] (by kernel_rfl)<|bC I I (ep (fV I I I) I I I (bg ?_)) bU;refine bT 6 [] (by kernel_rfl)<|bC I I (bP (fw I I) I I I (bg ?_)) bU;refine bT 7 [] (by kernel_rfl)<|bC I I (bP (fw I I) I I I (bg ?_)) bU;refine lB (by kernel_rfl)<|cm 3 2 3 1 I I ?_;exact dS [0,3,2,1,4] (.cons 2 I (Ren.ptr (i:=1) I)<|.cons 3 I Ren.pure<|.nil) (.same hd rfl<|.kept rfl (.cells (S2 (Ren.own (i:=2) I)<|S2 (Ren.own (i:=3) I)<|S2 (Ren.own (i:=4) I) Sy))<|.kept rfl (.eY rfl (dj N))<|.kept rfl (.eY rfl (dj N))<|.kept rfl (.row RZ)<|.nil) I I a
  refine bC I I (ep (dc I (Ru I) I I I I ⟨by unfold maxLen;omega,by omega⟩) I I I (bg ?_)) bU;refine bT 0 [] (by kernel_rfl)<|bC I I (bP (gF I I) I I I (bg ?_)) bU;refine bT 1 [] (by kernel_rfl)<|bC I I (ep (dc I (Ru I) I I I I ⟨by unfold maxLen;omega,by omega⟩) I I I (bg ?_)) bU;refine bT 4 [] (by kernel_rfl)<|bC I I (bP (gT (xs:=[_,_,_]) I (TT I) I I) I I I (bg ?_)) bU;refine bT 5 [] (by kernel_rfl)<|bC I I (ep (fV I I I) I I I (bg ?_)) bU;refine bT 6 [] (by kernel_rfl)<|bC I I (bP (fw I I) I I I (bg ?_)) bU;refine bT 7 [] (by kernel_rfl)<|bC I I (bP (fw I I) I I I (bg ?_)) bU;refine lB (by kernel_rfl)<|cm 3 2 3 1 I I ?_;exact dS [0,3,2,1,4] (.cons 2 I (Ren.ptr (i:=1) I)<|.cons 3 I Ren.pure<|.nil) (.same hd rfl<|.kept rfl (.cells (S2 (Ren.own (i:=2) I)<|S2 (Ren.own (i:=3) I)<|S2 (Ren.own (i:=4) I) Sy))<|.kept rfl (.eY rfl (dj N))<|.kept rfl (.eY rfl (dj N))<|.kept rfl (.row RZ)<|.nil) I I a
end
end PW
namespace Net
def fY(T:ak)(dir:Bool)(a:Nat):Int:=if dir then aN T a else aZ T a
def du(T:ak)(dir:Bool)(a:Nat):Int:=if dir then aZ T a else aN T a
def at'(l:List Int)(x:Int):Int:=l.getD x.toNat (-1)
def Way(T:ak)(D:List Bool)(n:Nat)(dir:Bool)(out:List Int)(a:Nat):Prop:=
 aI D a=false/\0<=at' out (du T dir a)/\(du T dir a=(n:Int)\/bR T (du T dir a).toNat=false)
structure jJ (T:ak) (D:List Bool) (n:Nat) (dir:Bool) (out:List Int):Prop where
 len:(out.length:Int)=T.nodes
 root:at' out (n:Int)=0
 ge:∀x:Nat,(x:Int)<T.nodes-> -1<=at' out (x:Int)
 closed:∀a,a<2*T.ah.length->Way T D n dir out a->0<=at' out (fY T dir a)/\at' out (fY T dir a)<=at' out (du T dir a)+cz T a
 o7:∀x:Nat,(x:Int)<T.nodes->0<=at' out (x:Int)->x=n\/∃a,a<2*T.ah.length/\fY T dir a=(x:Int)/\Way T D n dir out a/\at' out (x:Int)=at' out (du T dir a)+cz T a
structure Sound (T:ak):Prop where
 cost:∀a,a<2*T.ah.length->1<=cz T a/\cz T a<=65535
 tail:∀a,a<2*T.ah.length->0<=aZ T a/\aZ T a<T.nodes
 head:∀a,a<2*T.ah.length->0<=aN T a/\aN T a<T.nodes
 nodes:1<=T.nodes/\T.nodes<=64
theorem Sound.x{T:ak}(h:Sound T)(dir:Bool)(a:Nat)(b:a<2*T.ah.length):0<=fY T dir a/\fY T dir a<T.nodes:=by
 unfold fY;cases dir
 ·exact h.tail a b
 ·exact h.head a b
theorem Sound.y{T:ak}(h:Sound T)(dir:Bool)(a:Nat)(b:a<2*T.ah.length):0<=du T dir a/\du T dir a<T.nodes:=by
 unfold du;cases dir
 ·exact h.head a b
 ·exact h.tail a b
theorem yr{T:ak}(e:Sound T){D}{n:Nat}{dir}{out b:List Int}(h:jJ T D n dir out)(i:jJ T D n dir b):
  ∀(k:Nat) (x:Nat),(x:Int)<T.nodes->at' out (x:Int)=(k:Int)->0<=at' b (x:Int)/\at' b (x:Int)<=at' out (x:Int):=by
 intro k;induction k using Nat.strongRecOn with
 |_ k p=>
  intro x hx hk;rcases h.o7 x hx (by omega)with rfl|⟨a,d,f,⟨q,l,m⟩,he⟩
  ·rw[i.root];omega
  ·have hc:=e.cost a d;obtain⟨y,hy⟩:=QW (e.y dir a d).1;have c:=(e.y dir a d).2;rw[hy]at l m he c;obtain⟨j,o⟩:=QW l;have g:j<k:=by omega
   have h1:=p j g y c o;have h2:=i.closed a d ⟨q,by rw[hy];exact h1.1,by rw[hy];exact m⟩;rw[f,hy]at h2;exact⟨h2.1,by omega⟩
theorem Ht(out:List Int)(x:Nat)(hx:x<out.length):at' out (x:Int)=out[x]:=by
 simp[at',hx]
theorem zY{T}(c:Sound T){D}{n:Nat}{dir}{out a:List Int}(h:jJ T D n dir out)(b:jJ T D n dir a):out=a:=by
 have hl:out.length=a.length:=by have:=h.len;have:=b.len;omega
 refine Sl hl λx h1 h2=>?_;have hx:(x:Int)<T.nodes:=by have:=h.len;omega
 rw[<-Ht out x h1,<-Ht a x h2];have g1:=h.ge x hx;have g2:=b.ge x hx;by_cases c1:0<=at' out (x:Int)
 ·obtain⟨k,hk⟩:=QW c1;have e:=yr c h b k x hx hk;obtain⟨k',d⟩:=QW e.1;have a2:=yr c b h k' x hx d;omega
 ·by_cases f:0<=at' a (x:Int)
  ·obtain⟨k,hk⟩:=QW f;have e:=yr c b h k x hx hk;omega
  ·omega
open Classical in
noncomputable def bJ(T:ak)(D:List Bool)(n:Nat)(dir:Bool):List Int:=if h:∃out,jJ T D n dir out then h.choose else []
theorem lK{T}(a:Sound T){D}{n:Nat}{dir}{out:List Int}(h:jJ T D n dir out):bJ T D n dir=out:=by
 unfold bJ;rw[dif_pos ⟨out,h⟩];exact zY a (Exists.choose_spec (⟨out,h⟩:∃out,jJ T D n dir out)) h
end Net
namespace Net
section
def mn:List Int->Nat
 | []=>0
 |v::l=>(if 0<=v then 1 else 0)+mn l
theorem rq(l:List Int):mn l<=l.length:=by
 induction l with
 |nil=>exact Rc _
 |cons v l a=>simp only[mn,Q8];split<;>omega
theorem s8:∀(l:List Int) (i:Nat) (c:Int),i<l.length->0<=c->mn (l.set i c)=mn l+(if 0<=l.getD i (-1) then 0 else 1)
 | [],i,c,h,_=>by simp at h
 |v::l,0,c,_,hc=>by
  simp only[SW,mn,Sa];rw[QY hc];by_cases h:0<=v
  ·rw[QY h,QY h];omega
  ·rw[QZ h,QZ h];omega
 |v::l,i+1,c,h,hc=>by
  simp only[T5,mn,Uu];rw[s8 l i c (by simpa using h) hc];omega
def N9(v:Int):Nat:=if v<0 then 4194241 else v.toNat
def mu:List Int->Nat
 | []=>0
 |v::l=>N9 v+mu l
theorem Iz:∀(l:List Int) (i:Nat) (c:Int),i<l.length->mu (l.set i c)+N9 (l.getD i (-1))=mu l+N9 c
 | [],i,c,h=>by simp at h
 |v::l,0,c,_=>by simp only[SW,mu,Sa];omega
 |v::l,i+1,c,h=>by
  have:=Iz l i c (by simpa using h);simp only[T5,mu,Uu];omega
structure Inv (T:ak) (D:List Bool) (n:Nat) (dir:Bool) (out:List Int):Prop where
 len:(out.length:Int)=T.nodes
 root:at' out (n:Int)=0
 ge:∀x:Nat,(x:Int)<T.nodes-> -1<=at' out (x:Int)
 On:∀x:Nat,(x:Int)<T.nodes->at' out (x:Int)<=65535*(mn out:Int)
 o7:∀x:Nat,(x:Int)<T.nodes->0<=at' out (x:Int)->x=n\/∃a,a<2*T.ah.length/\fY T dir a=(x:Int)/\Way T D n dir out a/\at' out (du T dir a)+cz T a<=at' out (x:Int)
def pQ(T:ak)(D:List Bool)(n:Nat)(dir:Bool)(out:List Int)(a:Nat):Prop:=
 Way T D n dir out a/\(at' out (fY T dir a)<0\/at' out (du T dir a)+cz T a<at' out (fY T dir a))
def H4(T:ak)(dir:Bool)(out:List Int)(a:Nat):List Int:=out.set (fY T dir a).toNat (at' out (du T dir a)+cz T a)
theorem BS(out:List Int)(x y:Nat)(c:Int)(hx:x<out.length):at' (out.set x c) (y:Int)=if y=x then c else at' out (y:Int):=by
 simp only[at',QS,QU,Rh];by_cases h:x=y
 ·subst h;simp[hx]
 ·rw[QZ h,QZ (Ne.symm h)]
theorem Ai{T:ak}(g:Sound T){D}{n:Nat}{dir}{out:List Int}(h:Inv T D n dir out)(a:Nat)(l:a<2*T.ah.length)(N:pQ T D n dir out a):
  Inv T D n dir (H4 T dir out a)/\mu (H4 T dir out a)<mu out:=by
 obtain⟨⟨Q,E,F⟩,hb⟩:=N;have hc:=g.cost a l;obtain⟨x,hx⟩:=QW (g.x dir a l).1;obtain⟨y,hy⟩:=QW (g.y dir a l).1;have t:=(g.x dir a l).2;have o:=(g.y dir a l).2;unfold H4;rw[hx,hy,QS];rw[hx,hy]at hb;rw[hy]at E F;rw[hx]at t;rw[hy]at o;have r:=h.len;have m:x<out.length:=by omega
 generalize L:at' out (y:Int)+cz T a=c at*;have H:=h.On y o;have C:x≠n:=λe=>by
  rw[e,h.root]at hb;omega
 have i:=s8 out x c m (by omega);have q:out.getD x (-1)=at' out (x:Int):=by simp[at']
 rw[q]at i;have d:=λz=>BS out x z c m;have reach:∀z:Nat,(z:Int)<T.nodes->0<=at' out (z:Int)->0<=at' (out.set x c) (z:Int):=λz _ k=>by
  rw[d z];split<;>omega
 have less:∀z:Nat,(z:Int)<T.nodes->0<=at' out (z:Int)->at' (out.set x c) (z:Int)<=at' out (z:Int):=λz _ k=>by
  rw[d z];split
  ·rename_i e;subst e;omega
  ·omega
 have N0:∀b,b<2*T.ah.length->Way T D n dir out b->Way T D n dir (out.set x c) b:=λb f ⟨v1,v2,v3⟩=>by
  obtain⟨z,k⟩:=QW (g.y dir b f).1;have v:=(g.y dir b f).2;refine⟨v1,?_,v3⟩;rw[k]at v2 v ⊢;exact reach z v v2
 refine⟨⟨by rw[Ry];exact r,?_,λz k=>?_,λz k=>?_,λz k h0=>?_⟩,?_⟩
 ·rw[d n,QZ (Ne.symm C)];exact h.root
 ·rw[d z];split
  ·omega
  ·exact h.ge z k
 ·rw[d z];have J:=h.On z k;have:(mn out:Int)<=(mn (out.set x c):Int):=by rw[i];split<;>omega
  split
  ·rw[i];rename_i e;subst e;by_cases hr:0<=at' out (z:Int)
   ·rw[QY hr];omega
   ·rw[QZ hr];omega
  ·omega
 ·by_cases e:z=x
  ·subst e;refine .inr ⟨a,l,hx,N0 a l ⟨Q,by rw[hy];exact E,by rw[hy];exact F⟩,?_⟩;rw[hy,d z,QY rfl];have:=less y o E;omega
  ·rw[d z,QZ e]at h0;rcases h.o7 z k h0 with G|⟨b,f,A,p,w⟩
   ·exact .inl G
   ·refine .inr ⟨b,f,A,N0 b f p,?_⟩;rw[d z,QZ e];obtain⟨u,hu⟩:=QW (g.y dir b f).1;have s:=(g.y dir b f).2;have j:=p.2.1;rw[hu]at s w j ⊢;have:=less u s j;omega
 ·have hm:=Iz out x c m;rw[q]at hm;have M:=rq out;have P:=g.nodes;have K:c<=4194240:=by
   rcases hb with hb|hb
   ·have O:mn out<out.length:=by
     have:=rq (out.set x c);rw[Ry,i,QZ (by omega)]at this;omega
    omega
   ·have:=h.On x t;omega
  have B:N9 c=c.toNat:=by unfold N9;rw[QZ (by omega)]
  have j:N9 (at' out (x:Int))=if at' out (x:Int)<0 then 4194241 else(at' out (x:Int)).toNat:=rfl;rw[B,j]at hm;rcases hb with hb|hb
  ·rw[QY hb]at hm;omega
  ·by_cases hr:at' out (x:Int)<0
   ·rw[QY hr]at hm;omega
   ·rw[QZ hr]at hm;omega
theorem Aw{T:ak}{D}{n:Nat}{dir}{out:List Int}(h:Inv T D n dir out)(hn:∀a,a<2*T.ah.length->¬pQ T D n dir out a):jJ T D n dir out:=by
 have closed:∀a,a<2*T.ah.length->Way T D n dir out a->0<=at' out (fY T dir a)/\at' out (fY T dir a)<=at' out (du T dir a)+cz T a:=λa c hw=>by
  have:=hn a c;unfold pQ at this;have h2:¬(at' out (fY T dir a)<0\/at' out (du T dir a)+cz T a<at' out (fY T dir a)):=λe=>this ⟨hw,e⟩;omega
 refine⟨h.len,h.root,h.ge,closed,λx hx h0=>?_⟩;rcases h.o7 x hx h0 with e|⟨a,c,b,hw,he⟩
 ·exact .inl e
 ·refine .inr ⟨a,c,b,hw,?_⟩;have:=closed a c hw;rw[b]at this;omega
def start(N n:Nat):List Int:=(List.replicate N (-1)).set n 0
theorem pW(N n:Nat)(hn:n<N)(x:Nat)(hx:x<N):at' (start N n) (x:Int)=if x=n then 0 else -1:=by
 unfold start;rw[BS _ n x 0 (by simpa using hn)];split
 ·rfl
 ·simp[at',hx]
theorem rT{T:ak}{D}{N n:Nat}{dir}(hN:(N:Int)=T.nodes)(hn:n<N):Inv T D n dir (start N n):=by
 have hc:1<=mn (start N n):=by
  unfold start;rw[s8 _ n 0 (by simpa using hn) (by omega)];have:(List.replicate N (-1:Int)).getD n (-1)= -1:=by simp[hn]
  rw[this];simp
 refine⟨by simp[start];exact hN,by rw[pW N n hn n hn,QY rfl],λx hx=>?_,λx hx=>?_,λx hx h0=>?_⟩
 ·rw[pW N n hn x (by omega)];split<;>omega
 ·rw[pW N n hn x (by omega)];split<;>omega
 ·rw[pW N n hn x (by omega)]at h0;by_cases e:x=n
  ·exact .inl e
  ·rw[QZ e]at h0;omega
theorem nz{T}(e:Sound T){D}{n:Nat}{dir}:∀(k:Nat) (out:List Int),mu out=k->Inv T D n dir out->∃b,jJ T D n dir b/\Inv T D n dir b:=by
 intro k;induction k using Nat.strongRecOn with
 |_ k f=>
  intro out hk hi;by_cases h:∃a,a<2*T.ah.length/\pQ T D n dir out a
  ·obtain⟨a,c,d⟩:=h;obtain⟨h1,h2⟩:=Ai e hi a c d;exact f _ (by omega) _ rfl h1
  ·exact⟨out,Aw hi λa c d=>h ⟨a,c,d⟩,hi⟩
theorem kH{T:ak}(a:Sound T)(D:List Bool){n:Nat}(dir:Bool)(hn:(n:Int)<T.nodes):jJ T D n dir (bJ T D n dir):=by
 obtain⟨N,hN⟩:=QW (by have:=a.nodes.1;omega:0<=T.nodes);obtain⟨out,b,_⟩:=nz a _ (start N n) I (rT (D:=D) (dir:=dir) hN.symm (by omega));rw[lK a b];exact b
theorem ER{T:ak}(a:Sound T)(D:List Bool){n:Nat}(dir:Bool)(hn:(n:Int)<T.nodes):Inv T D n dir (bJ T D n dir):=by
 obtain⟨N,hN⟩:=QW (by have:=a.nodes.1;omega:0<=T.nodes);obtain⟨out,b,hi⟩:=nz a _ (start N n) I (rT (D:=D) (dir:=dir) hN.symm (by omega));rw[lK a b];exact hi
theorem aS{T}(h:av T=true):Sound T:=by
 have hb:=gQ h;have c:∀i,i<T.ah.length->(0<=(cP T.ah i).a/\(cP T.ah i).a<T.nodes)/\(0<=(cP T.ah i).b/\(cP T.ah i).b<T.nodes)/\(1<=(cP T.ah i).c0/\(cP T.ah i).c0<=65535)/\(1<=(cP T.ah i).c1/\(cP T.ah i).c1<=65535):=λi hi=>by
  have:=vt h i hi;simp only[jO,aX,bQ,Q7,Ra]at this;obtain⟨⟨⟨⟨⟨⟨⟨_,h1⟩,h2⟩,e⟩,f⟩,_⟩,_⟩,_⟩:=this;exact⟨h1,h2,e,f⟩
 have fl:∀a,a<2*T.ah.length->flip a<2*T.ah.length:=λa b=>by unfold flip;split<;>omega
 have d:∀a,a<2*T.ah.length->0<=aZ T a/\aZ T a<T.nodes:=λa b=>by
  have:=c (a / 2) (by omega);unfold aZ;split
  ·exact this.1
  ·exact this.2.1
 refine⟨λa b=>?_,d,λa b=>d _ (fl a b),⟨hb.1,hb.2.1⟩⟩;have:=c (a / 2) (by omega);unfold cz;split
 ·exact this.2.2.1
 ·exact this.2.2.2
def jN(N k:Nat):List Int:=List.replicate k (-1)++List.replicate (N - k) 0
theorem Av(N k:Nat)(h:k<N):(jN N k).set k (-1)=jN N (k+1):=by
 unfold jN;rw[Tk _ _ (by simp)];rw[R6,Nat.sub_self,show N - k=(N - (k+1))+1 by omega,SC,SW,Ur,RO]
 rfl
theorem Cm(N n:Nat):(jN N N).set n 0=start N n:=by simp[jN,start]
theorem Inv.ub{T:ak}{D}{n:Nat}{dir}{out:List Int}(h:Inv T D n dir out)(x:Nat)(hx:(x:Int)<T.nodes)(hN:T.nodes<=64):at' out (x:Int)<=4194240:=by
 have h1:=h.On x hx;have h2:=rq out;have a:=h.len;omega
end
end Net
namespace PW
section
open Go.RowKit cG Mem Net
theorem yw(T:ak)(hv:av T=true):Can prog 174 [aL T] (· =mc (ek (aN T) T.nodes.toNat (2*T.ah.length))):=by
 have f:=gQ hv;have e:=aS hv;obtain⟨n,hn⟩:∃n:Nat,T.nodes=(n:Int):=⟨T.nodes.toNat,by omega⟩;rw[show T.nodes.toNat=n by omega];refine aF func174 I ntmps174 I<|ab (.a 2 I<|.k [1] I)<|aK<|au 2 I<|cb (dc I (Ru I) I I hn hn ⟨by unfold maxLen;omega,by omega⟩) I<|au 1 I<|aE [1,3] I ?_;refine sb 28 3 n<|ai<|ab (.a 1 I<|.c rfl (jw T (by omega)) I<|.a 1 I<|.k [1,3,10,11] I)<|aw<|eF [1,3,10,11] I<|bd (λr s=>∃k,k<=2*T.ah.length/\r=2*T.ah.length - k/\s=⟨[(1,.bq (bn T) 0),(3,.own 0),(10,num (2*(T.ah.length:Int))),(11,num k)],nc 28 3 (ek (aN T) n k)⟩) (2*T.ah.length) ⟨0,by omega,by omega,by rw[u5];rfl⟩ ?_;rintro r s ⟨k,hk,rfl,rfl⟩;refine ab (.a 1 I<|.k [1,3,10,11,12] I)<|ai<|ae I (λhc=>?_) (λhc=>?_)
 ·have a:k<2*T.ah.length:=by have:=Q5 hc;omega
  obtain⟨c,h⟩:=e.head k a;obtain⟨m,hm⟩:=QW c;have b:m<n:=by omega
  have j:=fR (aN T) n k;have g:((ek (aN T) n k).getD m []).length<=k:=by
   rw[kA _ _ _ _ b];simp only[RN];exact Rr (RG _ _) (by simp)
  refine aj<|ai<|aw<|ab (.a 2 I<|.k [1,3,4,10,11] I)<|ab (.a 2 I<|.c rfl (hm▸iH T k a (by omega)) I<|.a 1 I<|.k [1,3,4,5,10,11] I)<|bx<|au 4 I<|bm (aM (m) I) I<|bm (aJ I (nT _ m (by omega))) I<|au 2 I<|cb (bF I (Ru I) I (nY _ _ _ m (by omega)) I I ⟨by unfold maxLen;omega,by omega⟩) I<|bm (aM (m) I) I<|bc (b9 I (Q6 I) I I I (by show m<(gP _).length;simp[gP];omega)) I I<|aE [1,3,10,11] I ?_;refine dS (J0 (ek (aN T) n k).length m) (.cons 1 I Ren.pure<|.cons 3 I (Ren.own (i:=0) I)<|.cons 10 I Ren.pure<|.cons 11 I Ren.pure<|.nil) (Bb 28 3 (ek (aN T) n k) m (by omega) (k:Int)) (xo _ _) I ?_;rw[<-u4 (aN T) n k m hm b];refine aC (.v (aW I) I<|.a 1 I<|.k [1,3,10,11] I)<|⟨2*T.ah.length - (k+1),by omega,k+1,by omega,rfl,rfl⟩
 ·have d:k=2*T.ah.length:=by have:=Rf hc;omega
  subst d;exact ba<|ab (.a 2 I<|.k [2] I)<|ao<|QR I (Ba _ _ _) rfl
end
end PW
namespace Net
section
structure BG (T:ak) (D:List Bool) (n:Nat) (dir:Bool) (out K:List Int) (H:Nat->Prop) (S:Nat->Prop):Prop where
 len:(out.length:Int)=T.nodes
 ge:∀x:Nat,(x:Int)<T.nodes-> -1<=at' out (x:Int)
 root:at' out (n:Int)=0\/(H n/\K.getD n 0=0)
 vV:∀y,H y->(y:Int)<T.nodes/\at' out (y:Int)= -1
 mono:∀x y:Nat,(x:Int)<T.nodes->H y->at' out (x:Int)<=K.getD y 0
 sE:∀y,H y->(y=n/\K.getD y 0=0)\/∃a,a<2*T.ah.length/\fY T dir a=(y:Int)/\Way T D n dir out a/\K.getD y 0=at' out (du T dir a)+cz T a
 o7:∀x:Nat,(x:Int)<T.nodes->0<=at' out (x:Int)->x=n\/∃a,a<2*T.ah.length/\fY T dir a=(x:Int)/\Way T D n dir out a/\at' out (x:Int)=at' out (du T dir a)+cz T a
 closed:∀a,a<2*T.ah.length->¬S a->Way T D n dir out a->(0<=at' out (fY T dir a)/\at' out (fY T dir a)<=at' out (du T dir a)+cz T a)\/(H (fY T dir a).toNat/\K.getD (fY T dir a).toNat 0<=at' out (du T dir a)+cz T a)
 ub:∀x:Nat,(x:Int)<T.nodes->at' out (x:Int)<=65535*(mn out:Int)
 NY:∀y,H y->K.getD y 0<=65535*(mn out:Int)
theorem BG.key{T}(b:Sound T){D}{n:Nat}{dir}{out K:List Int}{H S:Nat->Prop}(h:BG T D n dir out K H S){y:Nat}(hy:H y):0<=K.getD y 0:=by
 rcases h.sE y hy with⟨_,h0⟩|⟨a,c,_,hw,he⟩
 ·omega
 ·have:=b.cost a c;have:=hw.2.1;omega
theorem Nx(L:List Int)(i j:Nat)(c:Int)(hi:i<L.length):(L.set i c).getD j 0=if j=i then c else L.getD j 0:=by
 by_cases h:j=i
 ·subst h;simp[QU,hi]
 ·simp[QU,Rh,Ne.symm h,h]
theorem DB(N:Nat):mn (List.replicate N (-1))=0:=by
 induction N with
 |zero=>rfl
 |succ N a=>rw[SC];simp[mn,a]
theorem tK(N x:Nat):at' (List.replicate N (-1)) (x:Int)= -1:=by
 unfold at';rw[QU,Sn];split<;>rfl
theorem EM{T:ak}{D}{N n:Nat}{dir}(hN:(N:Int)=T.nodes)(hn:n<N){K:List Int}{H:Nat->Prop}(hK:K.getD n 0=0)(hH:∀y,H y↔y=n):BG T D n dir (List.replicate N (-1)) K H (λ_=>False) where
 len:=by simpa using hN
 ge x _:=by rw[tK];omega
 root:=.inr ⟨(hH n).2 rfl,hK⟩
 vV y hy:=by have:=(hH y).1 hy;subst this;exact⟨by omega,tK N y⟩
 mono x y _ hy:=by have:=(hH y).1 hy;subst this;rw[tK,hK];omega
 sE y hy:=by have:=(hH y).1 hy;subst this;exact .inl ⟨rfl,hK⟩
 o7 x _ h:=by rw[tK]at h;omega
 closed a _ _ hw:=by
  have:=hw.2.1;have h2:at' (List.replicate N (-1)) (du T dir a)= -1:=by
   unfold at';rw[QU,Sn];split<;>rfl
  rw[h2]at this;omega
 ub x _:=by rw[tK,DB];omega
 NY y hy:=by have:=(hH y).1 hy;subst this;rw[hK,DB];omega
theorem KD{T:ak}(w:Sound T){D}{n:Nat}{dir}{out K:List Int}{H:Nat->Prop}(h:BG T D n dir out K H (λ_=>False)){i:Nat}(hi:H i)(s:∀j,H j->K.getD i 0<=K.getD j 0)(z:i<K.length){H':Nat->Prop}(k:∀j,H' j↔H j/\j≠i):
  BG T D n dir (out.set i (K.getD i 0)) (K.set i 0) H' (λa=>du T dir a=(i:Int))/\mn (out.set i (K.getD i 0))=mn out+1/\(∀x:Nat,(x:Int)<T.nodes->at' (out.set i (K.getD i 0)) (x:Int)<=K.getD i 0)/\at' (out.set i (K.getD i 0)) (i:Int)=K.getD i 0/\0<=K.getD i 0/\K.getD i 0<=65535*(mn out:Int):=by
 obtain⟨F,c⟩:=h.vV i hi;have r:i<out.length:=by have:=h.len;omega
 have hd:=h.key w hi;have A:=h.NY i hi;have b:=λx:Nat=>BS out i x (K.getD i 0) r;have q:∀j,j≠i->(K.set i 0).getD j 0=K.getD j 0:=λj G=>by rw[Nx _ _ _ _ z,QZ G]
 have l:mn (out.set i (K.getD i 0))=mn out+1:=by
  rw[s8 out i _ r hd,QZ];have:out.getD i (-1)=at' out (i:Int):=by simp[at']
  rw[this,c];omega
 have hy:∀a,a<2*T.ah.length->Way T D n dir out a->Way T D n dir (out.set i (K.getD i 0)) a/\at' (out.set i (K.getD i 0)) (du T dir a)=at' out (du T dir a):=λa g hw=>by
  obtain⟨y,hy⟩:=QW (w.y dir a g).1;have o:y≠i:=λe=>by
   have:=hw.2.1;rw[hy,e,c]at this;omega
  have p:at' (out.set i (K.getD i 0)) (du T dir a)=at' out (du T dir a):=by rw[hy,b y,QZ o]
  exact⟨⟨hw.1,by rw[p];exact hw.2.1,hw.2.2⟩,p⟩
 refine⟨⟨by simpa using h.len,λx hx=>?_,?_,λy d=>?_,λx y hx d=>?_,λy d=>?_,λx hx h0=>?_,λa g hs hw=>?_,λx hx=>?_,λy d=>?_⟩,l,λx hx=>?_,by rw[b i,QY rfl],hd,A⟩
 ·rw[b x];split
  ·omega
  ·exact h.ge x hx
 ·by_cases e:n=i
  ·subst e;left;rw[b n,QY rfl];rcases h.root with h0|⟨_,h0⟩
   ·omega
   ·exact h0
  ·rcases h.root with h0|⟨h1,h0⟩
   ·left;rw[b n,QZ e];exact h0
   ·right;exact⟨(k n).2 ⟨h1,e⟩,by rw[q n e];exact h0⟩
 ·obtain⟨h1,h2⟩:=(k y).1 d;obtain⟨m,E⟩:=h.vV y h1;exact⟨m,by rw[b y,QZ h2];exact E⟩
 ·obtain⟨h1,h2⟩:=(k y).1 d;rw[b x,q y h2];split
  ·exact s y h1
  ·exact h.mono x y hx h1
 ·obtain⟨h1,h2⟩:=(k y).1 d;rw[q y h2];rcases h.sE y h1 with m|⟨a,g,hx,hw,he⟩
  ·exact .inl m
  ·obtain⟨u,v⟩:=hy a g hw;exact .inr ⟨a,g,hx,u,by rw[v];exact he⟩
 ·rw[b x]at h0 ⊢;by_cases e:x=i
  ·subst e;rw[QY rfl];rcases h.sE x hi with⟨m,_⟩|⟨a,g,hx,hw,he⟩
   ·exact .inl m
   ·obtain⟨u,v⟩:=hy a g hw;exact .inr ⟨a,g,hx,u,by rw[v];exact he⟩
  ·rw[QZ e]at h0 ⊢;rcases h.o7 x hx h0 with m|⟨a,g,hx,hw,he⟩
   ·exact .inl m
   ·obtain⟨u,v⟩:=hy a g hw;exact .inr ⟨a,g,hx,u,by rw[v];exact he⟩
 ·obtain⟨y,t⟩:=QW (w.y dir a g).1;have o:y≠i:=λe=>hs (by rw[t,e]);have p:at' (out.set i (K.getD i 0)) (du T dir a)=at' out (du T dir a):=by rw[t,b y,QZ o]
  have B:Way T D n dir out a:=⟨hw.1,by rw[<-p];exact hw.2.1,hw.2.2⟩;obtain⟨x,C⟩:=QW (w.x dir a g).1;have hc:=h.closed a g (λf=>f) B;rw[p];rw[C]at hc ⊢;rw[QS]at hc ⊢;rw[b x];by_cases e:x=i
  ·subst e;left;rw[QY rfl];rcases hc with⟨h1,_⟩|⟨_,h2⟩
   ·rw[c]at h1;omega
   ·exact⟨hd,h2⟩
  ·rw[QZ e];rcases hc with h1|⟨h1,h2⟩
   ·exact .inl h1
   ·exact .inr ⟨(k x).2 ⟨h1,e⟩,by rw[q x e];exact h2⟩
 ·rw[b x,l];split
  ·omega
  ·have:=h.ub x hx;omega
 ·obtain⟨h1,h2⟩:=(k y).1 d;rw[q y h2,l];have:=h.NY y h1;omega
 ·rw[b x];split
  ·omega
  ·exact h.mono x i hx hi
theorem HR{T D}{n:Nat}{dir}{out K:List Int}{H:Nat->Prop}{i:Nat}(h:BG T D n dir out K H (λa=>du T dir a=(i:Int)))(hi:i≠n)(c:bR T i=true):BG T D n dir out K H (λ_=>False):=
 {h with closed:=λa b _ hw=>h.closed a b (λe=>by
   rcases hw.2.2 with h1|h1
   ·rw[h1]at e;exact hi (by omega)
   ·rw[e,QS,c]at h1;cases h1) hw}
theorem DJ{T:ak}{D}{n:Nat}{dir}{out K:List Int}{H S S':Nat->Prop}(h:BG T D n dir out K H S){a:Nat}(d:∀b,b<2*T.ah.length->S b->S' b\/b=a)
  (hc:Way T D n dir out a->(0<=at' out (fY T dir a)/\at' out (fY T dir a)<=at' out (du T dir a)+cz T a)\/(H (fY T dir a).toNat/\K.getD (fY T dir a).toNat 0<=at' out (du T dir a)+cz T a)):BG T D n dir out K H S':=
 ⟨h.len,h.ge,h.root,h.vV,h.mono,h.sE,h.o7,λb hb hs hw=>by
   by_cases e:b=a
   ·subst e;exact hc hw
   ·exact h.closed b hb (λc=>(d b hb c).elim hs e) hw,h.ub,h.NY⟩
theorem KE{T:ak}(k:Sound T){D}{n:Nat}{dir}{out K:List Int}{H H' S S':Nat->Prop}(h:BG T D n dir out K H S){a m:Nat}(l:a<2*T.ah.length)(t:∀b,b<2*T.ah.length->S b->S' b\/b=a)
  (hw:Way T D n dir out a) (hm:fY T dir a=(m:Int)) (vV:at' out (m:Int)<0) (i:∀x:Nat,(x:Int)<T.nodes->at' out (x:Int)<=at' out (du T dir a)) (u:at' out (du T dir a)+65535<=65535*(mn out:Int))
  (d:¬H m\/at' out (du T dir a)+cz T a<K.getD m 0) (p:m<K.length) (c:∀j,H' j↔H j\/j=m):
  BG T D n dir out (K.set m (at' out (du T dir a)+cz T a)) H' S':=by
 have hc:=k.cost a l;have g:(m:Int)<T.nodes:=by have:=(k.x dir a l).2;omega
 have f:∀j,(K.set m (at' out (du T dir a)+cz T a)).getD j 0=if j=m then at' out (du T dir a)+cz T a else K.getD j 0:=λj=>Nx _ _ _ _ p;have v:=hw.2.1;refine⟨h.len,h.ge,?_,λy hy=>?_,λx y hx hy=>?_,λy hy=>?_,h.o7,λb hb hs q=>?_,h.ub,λy hy=>?_⟩
 ·rcases h.root with h0|⟨h1,h0⟩
  ·exact .inl h0
  ·right;refine⟨(c n).2 (.inl h1),?_⟩;rw[f n,QZ,h0];intro e;subst e;rcases d with h2|h2
   ·exact h2 h1
   ·omega
 ·rcases(c y).1 hy with h1|rfl
  ·exact h.vV y h1
  ·have:=h.ge y g;exact⟨g,by omega⟩
 ·rw[f y];have:=i x hx;split
  ·omega
  ·rename_i e;exact h.mono x y hx (((c y).1 hy).resolve_right e)
 ·rw[f y];by_cases e:y=m
  ·subst e;rw[QY rfl];exact .inr ⟨a,l,hm,hw,rfl⟩
  ·rw[QZ e];exact h.sE y (((c y).1 hy).resolve_right e)
 ·obtain⟨x,hx⟩:=QW (k.x dir b hb).1;by_cases e:b=a
  ·subst e;right;rw[hm,QS];exact⟨(c m).2 (.inr rfl),by rw[f m,QY rfl];exact SI _⟩
  ·have h1:=h.closed b hb (λo=>(t b hb o).elim hs e) q;rw[hx,QS]at h1 ⊢;rcases h1 with h1|⟨h1,h2⟩
   ·exact .inl h1
   ·right;refine⟨(c x).2 (.inl h1),?_⟩;rw[f x];split
    ·rename_i s;subst s;rcases d with r|r
     ·exact absurd h1 r
     ·omega
    ·exact h2
 ·rw[f y];split
  ·omega
  ·rename_i e;exact h.NY y (((c y).1 hy).resolve_right e)
theorem KC{T D}{n:Nat}{dir}{out K:List Int}{H:Nat->Prop}(h:BG T D n dir out K H (λ_=>False))(b:∀y,¬H y):jJ T D n dir out:=
 ⟨h.len,h.root.resolve_right (λk=>b n k.1),h.ge,λa c hw=>(h.closed a c (λf=>f) hw).resolve_right (λk=>b _ k.1),h.o7⟩
end
end Net
namespace PW
section
open Go.RowKit cG Mem Net Heap
theorem KW{N n:Nat}{K P O:List Int}(h:GZ N n K P O)(hN:N<=65536){i:Nat}(hi:O.getD 0 0=(i:Int))(j:Nat)(hj:fx O (j:Int)):K.getD i 0<=K.getD j 0:=by
 obtain⟨b,d,c,a⟩:=h;obtain⟨p,hp,he⟩:=hj;have h1:=Ff a p (by omega);unfold rk at h1;rw[hi,he]at h1;have h2:=b.item p hp;have:=I1 (by omega) (by omega) h1;simpa using this
theorem KX(N:Nat):GZ N 0 (List.replicate N 0) (List.replicate N 0) []:=
 ⟨⟨by simp,λp hp=>by simp at hp,λi hi=>.inl (by simp[QU,Sn,hi])⟩,rfl,by simp,λq _ a=>by omega⟩
theorem BL{P}{M:Nat}{c t}{Q:Exit->St->Prop}{b d}{N n:Nat}{K a O:List Int}(hd:mT d)(e:pj [0,1,2,3,5] t t)(h:W P M 0 c ⟨t,jM false d N n K a O⟩ Q):W P M 0 c ⟨t,jM b d N n K a O⟩ Q:=by
 cases b
 ·exact h
 ·exact dS [0,1,2,3,5] e (.same hd rfl<|.kept rfl (.cells (S2 (Ren.own (i:=2) I)<|S2 (Ren.own (i:=3) I)<|S2 (Ren.own (i:=4) I) Sy))<|.kept rfl (.row RZ)<|.kept rfl (.row RZ)<|.kept rfl (.row RZ)<|.nil) I I h
theorem eO{P}{M L:Nat}{c t}{Q:Exit->St->Prop}{σ σ'}(he:σ=σ')(h:W P M L c ⟨t,σ'⟩ Q):W P M L c ⟨t,σ⟩ Q:=by subst he;exact h
theorem LI{N n:Nat}(d:Option cX)(hd:mT d)(K P O:List Int)(h:GZ N n K P O)(hN:N<=65536):
  bM prog 179 [.ptr 1 0] (jM false d N n K P O) (λr σ'=>∃(b ok:Bool) (i n':Nat) (key:Int) (f e c:List Int),r= .tuple [num i,num key,flag ok]/\σ'=jM b d N n' f e c/\
   ((ok=false/\n=0)\/(ok=true/\i<N/\fx O (i:Int)/\(∀j:Nat,fx O (j:Int)->K.getD i 0<=K.getD j 0)/\key=K.getD i 0/\f=K.set i 0/\GZ N n' f e c/\∀j:Nat,fx c (j:Int)↔fx O (j:Int)/\j≠i))):=by
 refine(LH d hd K P O h hN).mono λr σ' hr=>?_;rcases hr with⟨h1,rfl,rfl⟩|⟨n',i,e,c,h1,h2,g,rfl,rfl,k,l⟩
 ·exact⟨false,false,0,n,0,K,P,O,rfl,rfl,.inl ⟨rfl,h1⟩⟩
 ·refine⟨true,true,i,n',K.getD i 0,K.set i 0,e,c,rfl,rfl,.inr ⟨rfl,h2,⟨0,by have:=h.2.1;omega,g⟩,KW h hN g,rfl,rfl,k,λj=>(l j).trans ?_⟩⟩;constructor<;>rintro⟨a,b⟩<;>exact⟨a,by omega⟩
def oU(T:ak)(D:List Bool)(n:Nat)(f1 f2:FuncId)(a b:List PV):List PV:=[.raw (.int .i64 T.nodes),aV T.over,.slice T.ah.length (jy T.ah),aV D,num n,.func f1 a,.func f2 b]
instance (T:ak) (D:List Bool) (n:Nat) (f1 f2:FuncId) (cap1 cap2:List PV) [aP cap1] [aP cap2]:aP (oU T D n f1 f2 cap1 cap2):=by unfold oU;infer_instance
def dA(T:ak)(dir:Bool)(i:Nat):List Int:=((List.range (2*T.ah.length)).filter λa=>decide (du T dir a=(i:Int))).map Int.ofNat
theorem tJ(T:ak)(dir:Bool)(i:Nat)(a:Nat):(a:Int)∈dA T dir i↔a<2*T.ah.length/\du T dir a=(i:Int):=by
 unfold dA;simp only[RB,RK,Ri,Ra];constructor
 ·rintro⟨b,h,e⟩;have:b=a:=Int.ofNat.inj e;subst this;exact h
 ·intro h;exact⟨a,h,rfl⟩
theorem BP(T:ak)(dir:Bool)(i k:Nat)(h:k<(dA T dir i).length):∃a:Nat,(dA T dir i).getD k 0=(a:Int)/\a<2*T.ah.length/\du T dir a=(i:Int):=by
 have hm:(dA T dir i).getD k 0∈dA T dir i:=bX h;have:∃a:Nat,(dA T dir i).getD k 0=(a:Int):=by
  unfold dA at hm ⊢;obtain⟨b,_,e⟩:=RB.1 hm;exact⟨b,e.symm⟩
 obtain⟨a,c⟩:=this;rw[c]at hm;exact⟨a,c,(tJ T dir i a).1 hm⟩
theorem BQ(T:ak)(dir:Bool)(i:Nat):(dA T dir i).length<=2*T.ah.length:=by
 unfold dA;rw[RN];exact Rr (RG _ _) (by simp)
theorem I6(N k:Nat)(h:k<N):(List.replicate k (-1:Int)++List.replicate (N - k) 0).set k (-1)=List.replicate (k+1) (-1)++List.replicate (N - (k+1)) 0:=by
 rw[Tk _ _ (by simp),R6,Nat.sub_self,show N - k=(N - (k+1))+1 by omega,SC,SW,Ur,RO]
 rfl
theorem vI(N:Nat):dQ [.raw (.int .i64 0)] N=aU (List.replicate 0 (-1)++List.replicate (N - 0) 0):=by simpa using dj N
theorem mK(n:Nat)(L:List Int):mT (some (.row 3 1 n (aU L))):=λb h=>by
 cases h;exact inferInstanceAs (aP (aU L))
theorem NJ{σ}{K P O:List Int}(h:ax σ (.ptr 1 0) (Ap K P O))(p:Int):af σ ([.ptr 1 0,num p]++[]) [Ap K P O,num p]:=QV h (QV ax.pure Rl)
theorem Ee(T:ak)(D:List Bool)(n:Nat)(dir:Bool)(f1 f2:FuncId)(u v:List PV)[aP u][aP v](hv:av T=true)(hf:bN T D=true)(hn:(n:Int)<T.nodes)(a6:enters prog f1=true)(a7:enters prog f2=true)
  (h1:∀i:Nat,(i:Int)<T.nodes->Can prog f1 ([num i]++u) (· =aq (dA T dir i))) (h2:∀a:Nat,a<2*T.ah.length->Can prog f2 ([num a]++v) (· =num (fY T dir a))):
  Can prog 158 [.agg (oU T D n f1 f2 u v)] (· =aq (bJ T D n dir)):=by
 have a1:=gQ hv;have hS:=aS hv;obtain⟨N,hN⟩:∃N:Nat,T.nodes=(N:Int):=⟨T.nodes.toNat,by omega⟩;have bl:N<=64:=by have:=hS.nodes;omega
 have ay:n<N:=by omega
 refine aF func158 I ntmps158 I<|ab (.a 2 I<|.k [1] I)<|aK<|au 3 I<|cb (dc I (Ru I) I I hN hN ⟨by unfold maxLen;omega,by omega⟩) I<|au 1 I<|aE [1,3] I ?_;refine ai<|ab (.a 3 I<|.k [1,3,21,22] I)<|aw<|eF [1,3,21,22] I<|bd (λr s=>∃k,k<=N/\r=N - k/\s=⟨[(1,.bq (oU T D n f1 f2 u v) 0),(3,.own 0),(21,num N),(22,num k)],[some (.row 3 1 N (aU (List.replicate k (-1)++List.replicate (N - k) 0)))]⟩) N ⟨0,by omega,by omega,by rw[<-vI N];rfl⟩ ?_;rintro r s ⟨k,hk,rfl,rfl⟩;refine ab (.a 1 I<|.k [1,3,21,22,23] I)<|ai<|ae I (λhc=>?_) (λhc=>?_)
 ·have M:k<N:=by have:=Q5 hc;omega
  refine aj<|ai<|aw<|ab (.a 2 I<|.k [1,3,4,21,22] I)<|bx<|au 2 I<|bm (aM (k) I) I<|bc (cp I (Q6 I) I I I (by first|omega|(simp;omega))) I I<|aE [1,3,21,22] I ?_;refine eO (σ':=[some (.row 3 1 N (aU (List.replicate (k+1) (-1)++List.replicate (N - (k+1)) 0)))]) (by rw[<-I6 N k M];rfl)<|aC (.v (aW I) I<|.a 1 I<|.k [1,3,21,22] I) ?_;exact⟨N - (k+1),by omega,k+1,by omega,rfl,rfl⟩
 ·have bg:k=N:=by have:=Rf hc;omega
  subst bg;refine eO (σ':=[some (.row 3 1 k (aU (List.replicate k (-1))))]) (by simp)<|ba<|aK<|au 2 I<|bm (aJ I ((show some (num T.nodes)=some (num (k:Int)) by rw[hN]))) I<|cD I I (RT (Lu k (some (.row 3 1 k (aU (List.replicate k (-1))))) (mK _ _) (by omega)) (λ_ σ' h=>?_));obtain⟨rfl,rfl⟩:=h;refine au 5 I<|aE [1,3,5] I ?_;refine aK<|au 3 I<|cD I I (RT (Ef (some (.row 3 1 k (aU (List.replicate k (-1))))) (mK _ _) _ _ _ (KX k) (by omega) n ay 0) (λ_ σ' h=>?_));obtain⟨b,n1,P1,Z,rfl,z,L⟩:=h;refine aE [1,3,5] I<|BL (mK _ _) (.cons 1 I Ren.pure<|.cons 3 I (Ren.own (i:=0) I)<|.cons 5 I (Ren.ptr (i:=1) I)<|.nil) ?_;have aa:=EM (T:=T) (D:=D) (N:=k) (n:=n) (dir:=dir) hN.symm ay (K:=(List.replicate k (0:Int)).set n 0) (H:=λy=>fx Z (y:Int)) (by rw[Nx _ _ _ _ (by simpa using ay),QY rfl]) (λy=>(L y).trans ⟨λh=>h.elim (λ⟨p,hp,_⟩=>by simp at hp) (λe=>by omega),λe=>.inr (by omega)⟩);generalize (List.replicate k (0:Int)).set n 0=K1 at z aa;generalize List.replicate k (-1:Int)=c at aa;clear L;refine aw<|eF [1,3,5] I<|bd (λr s=>∃out K P O q,BG T D n dir out K (λy=>fx O (y:Int)) (λ_=>False)/\GZ k q K P O/\r=k+1 - mn out/\s=⟨[(1,.bq (oU T D n f1 f2 u v) 0),(3,.own 0),(5,.ptr 1 0)],jM false (some (.row 3 1 k (aU out))) k q K P O⟩) (k+1 - mn c) ⟨c,K1,P1,Z,n1,aa,z,rfl,rfl⟩ ?_;clear aa z c K1 P1 Z n1 b;rintro r s ⟨out,K,P,O,q,hD,z,rfl,rfl⟩;refine aw<|aK<|au 1 I<|cD I I (RT (LI (some (.row 3 1 k (aU out))) (mK _ _) K P O z (by omega)) (λ_ σ' h=>?_));obtain⟨b,ok,i,n1,key,K1,P1,Z,rfl,rfl,ag⟩:=h;refine au 7 I<|aE [1,3,5,7,8,9] I ?_;refine BL (mK _ _) (.cons 1 I Ren.pure<|.cons 3 I (Ren.own (i:=0) I)<|.cons 5 I (Ren.ptr (i:=1) I)<|.cons 7 I Ren.pure<|.cons 8 I Ren.pure<|.cons 9 I Ren.pure<|.nil)<|ai<|ab (.a 2 I<|.k [1,3,5,7,8,47] I)<|ae I (λhc=>?_) (λhc=>?_)
  ·have aT:ok=false:=by cases ok;rfl;cases hc
   have bp:q=0:=by
    rcases ag with⟨_,h⟩|⟨h,_⟩
    ·exact h
    ·rw[aT]at h;cases h
   have al:bJ T D n dir=out:=lK hS (KC hD (λy ⟨p,hp,_⟩=>by have:=z.2.1;omega));exact ab (.a 2 I<|.k [2] I)<|ao<|QR I (Tj rfl Sj) (by rw[al];unfold aq;rw[show out.length=k by have:=hD.len;omega])
  ·have aV:ok=true:=by cases ok;cases hc;rfl
   rcases ag with⟨h,_⟩|⟨_,a8,aA,af,rfl,rfl,A,az⟩
   ·rw[aV]at h;cases h
   obtain⟨l,ad,B,J,aL,bh⟩:=KD hS hD aA af (by rw[z.2.2.1];exact a8) az;have bj:out.length=k:=by have:=hD.len;omega
   have aG:=rq (out.set i (K.getD i 0));have bb:(i:Int)<T.nodes:=by omega
   refine aj<|aK<|au 3 I<|bm (aM (i) I) I<|bc (cp I (Q6 I) I I I (by first|omega|(simp;omega))) I I<|aE [1,3,5,7,8] I ?_;refine eO (σ':=jM false (some (.row 3 1 k (aU (out.set i (K.getD i 0))))) k n1 (K.set i 0) P1 Z) I ?_;have aR:(out.set i (K.getD i 0)).length=k:=by simpa using bj
   have o:k+1 - mn (out.set i (K.getD i 0))<k+1 - mn out:=by have:=rq (out.set i (K.getD i 0));omega
   generalize K.getD i 0=d at l ad B J aL bh aR aG o;generalize out.set i d=c at l ad B J aR aG o;generalize K.set i 0=K1 at l A;refine ai ?_;have⟨q1,W⟩:=QQ (decide ((i:Int)≠(n:Int)));have⟨q2,X⟩:=QQ (bR T i);have bk:T.over.length=0\/i<T.over.length:=by have:=a1.2.2.2;omega
   refine bz 62 (.raw (.bool (q1&&q2))) [1,3,5,7,8] I ?_ ?_
   ·refine .a 3 I<|.v (bW I (W)) I<|.a 1 I<|?_;cases q1
    ·exact .a 5 I<|.k [62,1,3,5,7,8] I
    ·exact .a 3 I<|.c rfl (X▸qv T i bk) I<|.a 1 I<|.k [62,1,3,5,7,8] I
   refine ae I (λhc=>?_) (λhc=>?_)
   ·obtain⟨c1,c2⟩:=Q3.1 hc;rw[c1]at W;rw[c2]at X;have G:=HR l (by have:=Q5 W;omega) X;refine iB (.cons (k:=1) I<|.cons (k:=3) I<|.cons (k:=5) I<|Sub.nil _)<|ba ?_;first
     |exact⟨_,o,c,Y,F,O2,q2,G,f,rfl,rfl⟩
     |exact⟨_,o,c,K1,P1,Z,n1,G,A,rfl,rfl⟩
   ·have an:i=n\/bR T i=false:=by
     by_cases e:i=n
     ·exact .inl e
     ·right;have:q1=true:=by rw[<-W];simp;omega
      rw[this,RM]at hc;rw[X,hc]
    clear W X hc;refine aj<|ab (.a 3 I<|.v (vB I a6 rfl rfl (h1 i bb)) I<|.a 2 I<|.k [1,3,5,8,66,67,68] I) ?_;have bo:=BQ T dir i;have g:BG T D n dir c K1 (λy=>fx Z (y:Int)) (λa=>du T dir a=(i:Int)/\(a:Int)∉(dA T dir i).take 0):=⟨l.len,l.ge,l.root,l.vV,l.mono,l.sE,l.o7,λa ha hs=>l.closed a ha (λe=>hs ⟨e,by simp⟩),l.ub,l.NY⟩;refine aw<|eF [1,3,5,8,66,67,68] I<|bd (λr s=>∃j K P O q,j<=(dA T dir i).length/\BG T D n dir c K (λy=>fx O (y:Int)) (λa=>du T dir a=(i:Int)/\(a:Int)∉(dA T dir i).take j)/\GZ k q K P O/\r=(dA T dir i).length - j/\s=⟨[(1,.bq (oU T D n f1 f2 u v) 0),(3,.own 0),(5,.ptr 1 0),(8,num d),(66,aq (dA T dir i)),(67,num (dA T dir i).length),(68,num j)],jM false (some (.row 3 1 k (aU c))) k q K P O⟩) (dA T dir i).length ⟨0,K1,P1,Z,n1,by omega,g,A,rfl,rfl⟩ ?_;clear g A l K1 P1 Z n1 az af aA hD z;rintro r s ⟨j,Y,F,O2,q2,hj,g,f,rfl,rfl⟩;refine ab (.a 1 I<|.k [1,3,5,8,66,67,68,69] I)<|ai<|ae I (λhc=>?_) (λhc=>?_)
    ·have M:j<(dA T dir i).length:=by have:=Q5 hc;omega
     obtain⟨a,ha,C,aD⟩:=BP T dir i j M;obtain⟨m,hm⟩:=QW (hS.x dir a C).1;have Q:m<k:=by have:=(hS.x dir a C).2;omega
     have bn:=hS.cost a C;have aY:D.length=0\/a<D.length:=by simp only[bN,Ra]at hf;omega
     have ah:∀b,b<2*T.ah.length->(du T dir b=(i:Int)/\(b:Int)∉(dA T dir i).take j)->(du T dir b=(i:Int)/\(b:Int)∉(dA T dir i).take (j+1))\/b=a:=λb _ ⟨e1,e2⟩=>by
      by_cases e:b=a
      ·exact .inr e
      ·left;refine⟨e1,λaO=>?_⟩;rw[dE _ j 0 M,ha]at aO;rcases RR.1 aO with h|h
       ·exact e2 h
       ·simp at h;exact e (by omega)
     have t:at' c (du T dir a)=d:=by rw[aD];exact J
     have aH:c.getD m 0=at' c (m:Int):=by simp[at',QU,show m<c.length by omega]
     refine aj<|ai<|aw<|ab (.v (aM (j) I) I<|.v (aJ I ((aB _ j M).trans (by rw[ha]))) I<|.a 1 I<|.k [1,3,5,8,11,66,67,68] I)<|ab (.a 3 I<|.v (vB I a7 rfl rfl (hm▸h2 a C)) I<|.a 1 I<|.k [1,3,5,8,11,12,66,67,68] I)<|ai ?_;have⟨p1,E⟩:=QQ (aI D a);have⟨p2,S⟩:=QQ (decide (0<=c.getD m 0));refine bz 86 (.raw (.bool (p1||p2))) [1,3,5,8,11,12,66,67,68] I ?_ ?_
     ·refine .a 3 I<|.c rfl (E▸kI D a aY) I<|.a 1 I<|?_;cases p1
      ·exact .a 2 I<|.v (aM (m) I) I<|.v (aJ I (aB c m (by omega))) I<|.v (bW I (S)) I<|.a 1 I<|.k [86,1,3,5,8,11,12,66,67,68] I
      ·exact .a 6 I<|.k [86,1,3,5,8,11,12,66,67,68] I
     refine ae I (λhc=>?_) (λhc=>?_)
     ·have w:=DJ (S':=λb=>du T dir b=(i:Int)/\(b:Int)∉(dA T dir i).take (j+1)) g ah (λhw=>.inl (by
       rcases Sh.1 hc with h|h
       ·rw[hw.1]at E;rw[h]at E;cases E
       ·rw[h]at S;have h3:=Q5 S;rw[aH]at h3;rw[hm,t];have:=B m (by omega);exact⟨h3,by omega⟩))
      refine ba<|aC (.v (aW I) I<|.a 1 I<|.k [1,3,5,8,66,67,68] I) ?_;first
       |exact⟨(dA T dir i).length - (j+1),by omega,j+1,_,P3,O3,n3,by omega,w,R,rfl,rfl⟩
       |exact⟨(dA T dir i).length - (j+1),by omega,j+1,Y,F,O2,q2,by omega,w,f,rfl,rfl⟩
     ·obtain⟨c1,c2⟩:=Rt.1 hc;rw[c1]at E;rw[c2]at S;have ax:at' c (m:Int)<0:=by have:=Rf S;rw[aH]at this;omega
      have aX:Net.Way T D n dir c a:=⟨E,by rw[t];exact aL,by rw[aD,QS];rcases an with h|h;(exact .inl (by rw[h]));exact .inr h⟩;refine aj<|ab (.a 4 I<|.c rfl (nv T a C) I<|.v (aW I) I<|.a 1 I<|.k [1,3,5,8,12,13,66,67,68] I) ?_;have⟨p3,U⟩:=QQ (!decide (F.getD m 0=0));have⟨kv,ar⟩:=QQ (if F.getD m 0=0 then 0 else Y.getD m 0);have aN:=K7 Y F O2 f.1.len f.2.2.1 (by omega) m Q;rw[U,ar]at aN;refine ab (.a 2 I<|.v (Mg I (NJ (uN false _ f.2.2.1 f.1.len f.2.1) _) (aN)) I<|.a 5 I<|.k [1,3,5,8,12,13,14,15,66,67,68] I) ?_;have⟨p4,V⟩:=QQ (decide (d+cz T a<kv));refine bz 105 (.raw (.bool ((!p3)||p4))) [1,3,5,8,12,13,66,67,68] I ?_ ?_
      ·refine .a 3 I<|?_;cases p3
       ·exact .a 4 I<|.k [105,1,3,5,8,12,13,66,67,68] I
       ·exact .a 2 I<|.v (bW I (V)) I<|.a 1 I<|.k [105,1,3,5,8,12,13,66,67,68] I
      refine ae I (λhc=>?_) (λhc=>?_)
      ·have aQ:¬fx O2 (m:Int)\/at' c (du T dir a)+cz T a<Y.getD m 0:=by
        rw[t];by_cases e:F.getD m 0=0
        ·exact .inl ((f.1.zero Q).1 e)
        ·right;have h3:p3=true:=by rw[<-U];simp only[e];rfl
         rw[h3]at hc;have h4:p4=true:=by simpa using hc
         rw[h4]at V;have:=Q5 V;rw[QZ e]at ar;omega
       refine bx<|au 3 I<|cD I I (RT (Ef (some (.row 3 1 k (aU c))) (mK _ _) Y F O2 f (by omega) m Q (d+cz T a)) (λ_ σ' h=>?_));obtain⟨b3,n3,P3,O3,rfl,R,aZ⟩:=h;refine aE [1,3,5,8,66,67,68] I<|BL (mK _ _) (.cons 1 I Ren.pure<|.cons 3 I (Ren.own (i:=0) I)<|.cons 5 I (Ren.ptr (i:=1) I)<|.cons 8 I Ren.pure<|.cons 66 I Ren.pure<|.cons 67 I Ren.pure<|.cons 68 I Ren.pure<|.nil) ?_;have w:=KE (S':=λb=>du T dir b=(i:Int)/\(b:Int)∉(dA T dir i).take (j+1)) (H':=λy=>fx O3 (y:Int)) hS g C ah aX hm ax (λx hx=>by rw[t];exact B x hx) (by rw[t];omega) aQ (by rw[f.2.2.1];exact Q) (λy=>(aZ y).trans ⟨λh=>h.imp id (λe=>by omega),λh=>h.imp id (λe=>by omega)⟩);rw[t]at w;refine aC (.v (aW I) I<|.a 1 I<|.k [1,3,5,8,66,67,68] I) ?_;first
        |exact⟨(dA T dir i).length - (j+1),by omega,j+1,_,P3,O3,n3,by omega,w,R,rfl,rfl⟩
        |exact⟨(dA T dir i).length - (j+1),by omega,j+1,Y,F,O2,q2,by omega,w,f,rfl,rfl⟩
      ·obtain⟨c3,c4⟩:=Rt.1 hc;have h3:p3=true:=by cases p3;cases c3;rfl
       rw[h3]at U;rw[c4]at V;have e:F.getD m 0≠0:=λe=>by rw[e]at U;cases U
       have w:=DJ (S':=λb=>du T dir b=(i:Int)/\(b:Int)∉(dA T dir i).take (j+1)) g ah (λhw=>.inr (by
        rw[hm,QS,t];refine⟨Q4 λhh=>e ((f.1.zero Q).2 hh),?_⟩;rw[QZ e]at ar;have:=Rf V;omega))
       refine aj<|aC (.v (aW I) I<|.a 1 I<|.k [1,3,5,8,66,67,68] I) ?_;first
        |exact⟨(dA T dir i).length - (j+1),by omega,j+1,_,P3,O3,n3,by omega,w,R,rfl,rfl⟩
        |exact⟨(dA T dir i).length - (j+1),by omega,j+1,Y,F,O2,q2,by omega,w,f,rfl,rfl⟩
    ·have bf:j=(dA T dir i).length:=by have:=Rf hc;omega
     have G:BG T D n dir c Y (λy=>fx O2 (y:Int)) (λ_=>False):=⟨g.len,g.ge,g.root,g.vV,g.mono,g.sE,g.o7,λa ha _=>g.closed a ha (λ⟨e1,e2⟩=>e2 (by rw[bf,RC];exact(tJ T dir i a).2 ⟨ha,e1⟩)),g.ub,g.NY⟩;refine iB (.cons (k:=1) I<|.cons (k:=3) I<|.cons (k:=5) I<|Sub.nil _)<|ba ?_;first
      |exact⟨_,o,c,Y,F,O2,q2,G,f,rfl,rfl⟩
      |exact⟨_,o,c,K1,P1,Z,n1,G,A,rfl,rfl⟩
end
section
open Go.RowKit cG Mem Net eE
theorem iQ(T:ak)(k x:Int):Can prog 25 [aL T,bV k x] (· =flag (av T&&cd T k x)):=by
 have⟨e,h1⟩:=QQ (decide (0<=x));have⟨p,h2⟩:=QQ (decide (x<(T.ah.length:Int)));have⟨l,o⟩:=QQ (decide (x<T.nodes));have⟨j,m⟩:=QQ (decide (1<=x));have⟨q,n⟩:=QQ (decide (x<=64));have h:aX T x=(e&&l):=by rw[<-h1,<-o,<-S8];rfl
 have r:cd T k x=if k=1 then(e&&p) else if k=2 then(e&&l) else if k=3 then(j&&q) else false:=by unfold cd;rw[h1,h2,m,n,h]
 rw[r];refine aF func25 I ntmps25 I<|ab (.a 3 I<|.k [2,3] I)<|ai<|ab (.a 1 I<|.c rfl (fh T) I<|.a 1 I<|.k [2,3,7] I)<|ae I (λd=>?_) (λd=>?_)
 ·have hv:av T=false:=by simpa using d
  exact ab (.a 1 I<|.k [4] I)<|ao<|QR I ax.pure (by rw[hv];rfl)
 ·have hv:av T=true:=by simpa using d
  rw[hv,RM];refine aj<|ai<|ab (.a 2 I<|.k [2,3,9] I)<|aw<|ab (.a 2 I<|.k [2,3,9,10] I)<|ae I (λa=>?_) (λa=>?_)
  ·have f:k=1:=tt a;refine bz 4 (.raw (.bool (e&&p))) [] I ?_ ?_
   ·refine .a 2 I<|.v (bW I (h1)) I<|.a 1 I<|?_;cases e
    ·exact .a 8 I<|.k [4] I
    ·exact .a 5 I<|.v (bW I (h2)) I<|.a 2 I<|.k [4] I
   exact ao<|QR I ax.pure (by rw[QY f];rfl)
  ·have f:¬k=1:=ff a;refine ab (.a 2 I<|.k [2,3,9,23] I)<|ae I (λb=>?_) (λb=>?_)
   ·have g:k=2:=tt b;refine bz 4 (.raw (.bool (e&&l))) [] I ?_ ?_
    ·refine .a 2 I<|.v (bW I (h1)) I<|.a 1 I<|?_;cases e
     ·exact .a 7 I<|.k [4] I
     ·exact .a 4 I<|.v (bW I (o)) I<|.a 2 I<|.k [4] I
    exact ao<|QR I ax.pure (by rw[QZ f,QY g];rfl)
   ·have g:¬k=2:=ff b;refine ab (.a 2 I<|.k [3,35] I)<|ae I (λc=>?_) (λc=>?_)
    ·have i:k=3:=tt c;refine bz 4 (.raw (.bool (j&&q))) [] I ?_ ?_
     ·refine .a 2 I<|.v (bW I (m)) I<|.a 1 I<|?_;cases j
      ·exact .a 5 I<|.k [4] I
      ·exact .a 2 I<|.v (bW I (n)) I<|.a 2 I<|.k [4] I
     exact ao<|QR I ax.pure (by rw[QZ f,QZ g,QY i];rfl)
    ·have i:¬k=3:=ff c;exact aj<|ab (.a 1 I<|.k [4] I)<|ao<|QR I ax.pure (by rw[QZ f,QZ g,QZ i];rfl)
theorem Cr(L:List pM)(i:Nat)(hi:i<L.length):((jy L).drop (i*7)).take 7=lS (cP L i):=by
 apply Sp;intro j;by_cases a:j<7
 ·rw[RV,QY a,Su,fq L i j hi a]
 ·rw[RV,QZ a,RJ (by simp[lS];omega)]
theorem LY(T:ak)(k x:Int)(a:Nat)(p:a<2*T.ah.length)(hl:T.ah.length<=256):Can prog 146 [aL T,bV k x,num a] (· =flag (cO k x T.ah (a / 2))):=by
 have hi:a / 2<T.ah.length:=by omega
 have⟨e,he⟩:=QQ (cP T.ah (a / 2));have d:=Cr T.ah (a / 2) hi;rw[he]at d;have⟨n,h1⟩:=QQ (decide (((a / 2:Nat):Int)=x));have⟨h,h2⟩:=QQ (decide (e.a=x));have⟨l,i⟩:=QQ (decide (e.b=x));have⟨o,j⟩:=QQ (decide (e.wG=x));have m:cO k x T.ah (a / 2)=if k=1 then n else if k=2 then(h||l) else o:=by unfold cO;rw[he,h1,h2,i,j]
 rw[m];refine aF func146 I ntmps146 I<|ab (.a 3 I<|.k [2,3,4] I)<|aK<|au 3 I<|bm (jV I I I (by decide) ((show(a:Int).tdiv 2=((a / 2:Nat):Int) by rw[Sv (by omega)];omega)) (by unfold In64;omega)) I<|bm (aM ((a / 2*7)) I) I<|bm (gj I (d) I) I<|au 2 I<|aE [2,4,7] I ?_;refine eO (σ':=[some (.cells 61 (lS e))]) I<|ai<|ab (.a 2 I<|.k [2,4,7,15] I)<|aw<|ab (.a 2 I<|.k [2,4,7,15,16] I)<|ae I (λb=>?_) (λb=>?_)
 ·have f:k=1:=tt b;exact ab (.a 1 I<|.v (jV I I I (by decide) ((show(a:Int).tdiv 2=((a / 2:Nat):Int) by rw[Sv (by omega)];omega)) (by unfold In64;omega)) I<|.a 2 I<|.v (bW I (h1)) I<|.a 1 I<|.k [6] I)<|ao<|QR I ax.pure (by rw[QY f];rfl)
 ·have f:¬k=1:=ff b;refine ab (.a 2 I<|.k [4,7,23] I)<|ae I (λc=>?_) (λc=>?_)
  ·have g:k=2:=tt c;refine bz 6 (.raw (.bool (h||l))) [] I ?_ ?_
   ·refine .a 4 I<|.v (bW I (h2)) I<|.a 1 I<|?_;cases h
    ·exact .a 4 I<|.v (bW I (i)) I<|.a 2 I<|.k [6] I
    ·exact .a 7 I<|.k [6] I
   exact ao<|QR I ax.pure (by rw[QZ f,QY g];rfl)
  ·have g:¬k=2:=ff c;exact aj<|ab (.a 4 I<|.v (bW I (j)) I<|.a 1 I<|.k [6] I)<|ao<|QR I ax.pure (by rw[QZ f,QZ g];rfl)
def jz(T:ak)(k x:Int)(m:Nat):List Bool:=(List.range (2*T.ah.length)).map λa=>decide (a<m)&&cO k x T.ah (a / 2)
theorem Cy(T:ak)(k x:Int):jz T k x 0=List.replicate (2*T.ah.length) false:=by
 unfold jz;apply Sl (by simp);intro i h1 h2;simp
theorem lV(T:ak)(k x:Int)(m:Nat):(jz T k x m).length=2*T.ah.length:=by simp[jz]
theorem FC{T:ak}{k x:Int}{m:Nat}(h:cO k x T.ah (m / 2)=true):(jz T k x m).set m true=jz T k x (m+1):=by
 apply Sl (by simp[jz]);intro i h1 h2;rw[TG];by_cases e:m=i
 ·subst e;simp[jz,h]
 ·rw[QZ e];simp only[jz,Un,T6];rw[show decide (i<m+1)=decide (i<m) from decide_eq_decide.2 (by omega)]
theorem Iy{T:ak}{k x:Int}{m:Nat}(h:cO k x T.ah (m / 2)=false):jz T k x (m+1)=jz T k x m:=by
 unfold jz;refine Se λa _=>?_;by_cases e:a=m
 ·subst e;rw[h];simp
 ·rw[show decide (a<m+1)=decide (a<m) from decide_eq_decide.2 (by omega)]
theorem FB(T:ak)(k x:Int):jz T k x (2*T.ah.length)=az T k x:=by
 unfold jz az;refine Se λa b=>?_;rw[Rb (Ri.1 b),RM]
def jX(L:List Bool):Option cX:=some (.row 4 1 L.length (bZ L))
theorem Bf(T:ak)(k x:Int):bM prog 119 [aL T,.slice 1 (cN k x)] [] (λr σ'=>((av T&&cd T k x)=false/\r= .tuple [.raw (.slice none 0 0),num 1])\/((av T&&cd T k x)=true/\r= .tuple [.own 0,num 0]/\σ'=[jX (az T k x)])):=by
 refine cF func119 I ntmps119 I<|ab (.a 3 I<|.k [1,2] I)<|ai<|ab (.a 1 I<|.c rfl (fh T) I<|.a 1 I<|.k [1,2,11] I)<|ae I (λh1=>?_) (λh1=>?_)
 ·have hv:av T=false:=by simpa using h1
  exact ab (.a 2 I<|.k [4,5] I)<|ao<|⟨_,RY I,.inl ⟨by rw[hv];rfl,rfl⟩⟩
 ·have hv:av T=true:=by simpa using h1
  have p:=bO hv;refine aj<|aK<|au 3 I<|bm (aW I) I<|cb (dc I (Ru I) I I (show 2*(T.ah.length:Int)=((2*T.ah.length:Nat):Int) by omega) (show 2*(T.ah.length:Int)=((2*T.ah.length:Nat):Int) by omega) ⟨by unfold maxLen;omega,by omega⟩) I<|au 1 I<|aE [1,2,6] I ?_;refine eO (σ':=[jX (jz T k x 0)]) (by unfold jX;rw[Cy,R6,<-jH];rfl)<|ai<|ab (.a 1 I<|.k [1,2,6,7] I)<|aw<|eF [1,2,6,7] I<|bd (λr st=>∃(i:Nat) (M:List Bool),i<=1/\r=1 - i/\(i=0->M=jz T k x 0)/\(i=1->cd T k x=true/\M=az T k x)/\st=⟨[(1,.slice 1 (cN k x)),(2,.bq (bn T) 0),(6,.own 0),(7,num i)],[jX M]⟩) 1 ⟨0,_,by omega,rfl,λ_=>rfl,λh=>by omega,rfl⟩ ?_;rintro r st ⟨i,M,hi,rfl,e,f,rfl⟩;refine ai<|ab (.a 4 I<|.k [1,2,6,7,20] I)<|ae I (λh2=>?_) (λh2=>?_)
  ·have g:i=0:=by have:=tt h2;omega
   subst g;obtain rfl:=e rfl;refine aj<|ai<|aw<|ai<|er mixed (by kernel_rfl) (.a 3 I<|.v [24,25] (aM (0) I) I I<|.v [26] (gj I ((show((cN k x).drop 0).take 2=cN k x from rfl)) I) I I<|.v [23,27] (dX I (iQ T k x)) I I<|.a 1 I<|.k [1,2,6,7,29] I) ?_;refine ae I (λb=>?_) (λb=>?_)
   ·have hc:(av T&&cd T k x)=false:=(R4 _).mp b;exact ab (.a 2 I<|.k [4,5] I)<|ao<|⟨_,RY I,.inl ⟨hc,rfl⟩⟩
   ·have o:(av T&&cd T k x)=true:=by simpa using b
    have hc:cd T k x=true:=(Q3.1 o).2;refine aj<|ab (.a 1 I<|.k [1,2,6,7,8] I)<|aw<|eF [1,2,6,7,8] I<|bd (λr st=>∃m:Nat,m<=2*T.ah.length/\r=2*T.ah.length - m/\st=⟨[(1,.slice 1 (cN k x)),(2,.bq (bn T) 0),(6,.own 0),(7,num 0),(8,num m)],[jX (jz T k x m)]⟩) (2*T.ah.length) ⟨0,by omega,by omega,rfl⟩ ?_;rintro r st ⟨m,hm,rfl,rfl⟩;have q:=lV T k x m;refine ai<|ab (.a 4 I<|.k [1,2,6,7,8,33] I)<|ae I (λc=>?_) (λc=>?_)
    ·have l:m<2*T.ah.length:=by have:=tt c;omega
     refine aj<|ai<|aw<|er mixed (by kernel_rfl) (.a 3 I<|.v [37,38] (aM (0) I) I I<|.v [39] (gj I ((show((cN k x).drop 0).take 2=cN k x from rfl)) I) I I<|.a 1 I<|.v [36,40,41] (dX I (LY T k x m l (by omega))) I I<|.k [1,2,6,7,8,42] I) ?_;refine ae I (λd=>?_) (λd=>?_)
     ·have a:=FC d;refine bx<|au 2 I<|bm (aM (m) I) I<|bc (cA I (Q6 I) I I I (by first|omega|(simp;omega))) I I<|aE [1,2,6,7,8] I ?_;refine aC (.a 1 I<|.v (aW I) I<|.a 1 I<|.k [1,2,6,7,8] I)<|⟨2*T.ah.length - (m+1),by omega,m+1,by omega,rfl,?_⟩;first
       |(rw[a];rfl)
       |(rw[a];unfold jX;rw[lV,lV];rfl)
     ·have a:=Iy d;refine aj<|aC (.a 1 I<|.v (aW I) I<|.a 1 I<|.k [1,2,6,7,8] I) ?_;refine⟨2*T.ah.length - (m+1),by omega,m+1,by omega,rfl,?_⟩;first
       |(rw[a];rfl)
       |(rw[a];unfold jX;rw[lV,lV];rfl)
    ·have n:m=2*T.ah.length:=by have:=ff c;omega
     subst n;refine ba<|aC (.a 1 I<|.v (aW I) I<|.a 1 I<|.k [1,2,6,7] I) ?_;exact⟨0,by omega,1,_,by omega,rfl,λh=>by omega,λ_=>⟨hc,rfl⟩,by rw[FB];rfl⟩
  ·have j:i=1:=by have:=ff h2;omega
   subst j;obtain⟨hc,rfl⟩:=f rfl;exact ba<|ab (.a 3 I<|.k [4,5] I)<|ao<|⟨_,RY I,.inr ⟨by rw[hv,hc];rfl,rfl,rfl⟩⟩
theorem uU(T:ak)(k x:Int):bM prog 89 [aL T,bV k x] [] (λr σ'=>((av T&&cd T k x)=false/\r= .tuple [.raw (.slice none 0 0),num 1])\/((av T&&cd T k x)=true/\r= .tuple [.own 0,num 0]/\σ'=[jX (az T k x)])):=by
 refine cF func89 I ntmps89 I<|ab (.a 4 I<|.k [2,3] I)<|ab (.a 3 I<|.k [2,6] I)<|aK<|au 2 I<|cD I I (RT (RT (Bf T k x) (λr σ' h=>(show ∃y z,r= .tuple [y,z]/\(((av T&&cd T k x)=false/\y= .raw (.slice none 0 0)/\z=num 1)\/((av T&&cd T k x)=true/\y= .own 0/\z=num 0/\σ'=[jX (az T k x)])) from by rcases h with⟨h1,rfl⟩|⟨h1,rfl,h2⟩;exact⟨_,_,rfl,.inl ⟨h1,rfl,rfl⟩⟩;exact⟨_,_,rfl,.inr ⟨h1,rfl,rfl,h2⟩⟩))) (λr σ' h=>?_));obtain⟨y,z,rfl,a⟩:=h;refine au 4 I<|aE [4,5] I ?_;refine ao<|⟨_,RY I,?_⟩;rcases a with⟨h1,rfl,rfl⟩|⟨h1,rfl,rfl,rfl⟩
 ·exact .inl ⟨h1,rfl⟩
 ·exact .inr ⟨h1,rfl,rfl⟩
theorem oP(T:ak)(k x:Int):Can prog 89 [aL T,bV k x] (· =iZ (dy T k x) (az T k x)):=by
 refine Can.Ql (uU T k x) ?_;rintro r σ' (⟨h1,rfl⟩|⟨h1,rfl,rfl⟩)
 ·refine⟨_,RW (QV ax.bH (QV ax.pure Rl)),?_⟩;have he:dy T k x=1:=by unfold dy;rw[QZ (by rw[h1];simp)]
  rw[he]
  rfl
 ·refine⟨_,RW (QV (Tj rfl Sj) (QV ax.pure Rl)),?_⟩;unfold iZ dy aV;rw[QY h1,QY rfl]
end
end PW
end Go.Proofs.YtoopjinigmhpcaaGreatDoor
