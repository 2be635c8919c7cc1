/- Part 2. -/
import Derived.Test.YtfcadpknnbgibaaGreatDoorProg
import Derived.Deep.Slices
import Derived.Lib.SmallJoins
import Derived.OpenShut
import Derived.Test.YtfcadpknnbgibaaGreatDoorRows
import Derived.Test.YtfcadpknnbgibaaGreatDoorCards
import Derived.Test.YtfcadpknnbgibaaGreatDoorTie
import Derived.ShutString
import Derived.ChangeOld
import Derived.LaidMore
import Derived.Stop.Joined
import Derived.SevenTiedAt
import Derived.Lib.LaidTab
import Derived.Test.YtfcadpknnbgibaaGreatDoorCardWVB1
set_option maxRecDepth 100000
set_option maxHeartbeats 4000000
namespace Go.Proofs.YtfcadpknnbgibaaGreatDoor
open Go.Proofs.Tryz
namespace PW
section
open Go.RowKit cm Mem
def oH(ops:Array Oper)(i:Nat):List Nat:=
 match ops[i]? with
 |some o=>(o.after.toList.filter (Region.binds .any)).map (·.on)
 |none=>[]
def fL(ops:Array Oper):Nat->Nat->Nat->Bool
 |0,_,_=>false
 |f+1,i,j=>(oH ops i).contains j||(oH ops i).any λk=>fL ops f k j
def Du(ops:Array Oper)(f m:Nat):Bool:=
 (List.range ops.size).all λi=>((oH ops i).all λk=>decide (k<i))&&(((ops[i]?).all λo=>o.guard.all λg=>decide (g.1<i))&&(decide (i<m)||(List.range i).all λj=>fL ops f i j))
section
variable {P:Program} {ops:Array Oper}
def Down(ops:Array Oper)(ls:Array Bool):Prop:=∀i,ls.getD i true=true->i<ops.size->∀k∈oH ops i,ls.getD k false=true
theorem eK{ls:Array Bool}(hs:ls.size=ops.size)(hd:Down ops ls)(ha:∀i,i<ops.size->∀k∈oH ops i,k<i):∀(f i j:Nat),i<ops.size->fL ops f i j=true->(∀k∈oH ops i,ls.getD k false=true)->ls.getD j false=true
 |0,_,_,_,h,_=>by cases h
 |f+1,i,j,hi,h,hk=>by
  simp only[fL,Xf]at h;rcases h with h|h
  ·exact hk j (by simpa using h)
  ·obtain⟨k,h1,h2⟩:=Xo.1 h;have c:=ha i hi k h1;have a:=hk k h1;have b:k<ls.size:=by rw[hs];omega
   refine eK hs hd ha f k j (by omega) h2 (hd k ?_ (by omega));simp only[Vz]at a ⊢;simp[b]at a ⊢;exact a
theorem dh{ls:Array Bool}{i:Nat}:i∈Region.ready .any ops ls↔i<ops.size/\ls.getD i true=false/\∀k∈oH ops i,ls.getD k false=true:=by
 unfold Region.ready;rw[Wk,VP];constructor
 ·rintro⟨h1,h2⟩;simp only[Vx,WG]at h2;refine⟨h1,h2.1,λk hk=>?_⟩;have a:=h2.2;unfold oH at hk;cases ho:ops[i]? with
  |none=>rw[ho]at hk;simp at hk
  |some o=>
   rw[ho]at a hk;simp only[Wj,WH]at a;obtain⟨e,he,rfl⟩:=Vv.1 hk;obtain⟨b,c⟩:=Wk.1 he;have:=Ze.1 a e (by simpa using b);simpa[c]using this
 ·rintro⟨h1,h2,a⟩;refine⟨h1,?_⟩;simp only[Vx,WG];refine⟨h2,?_⟩;have ho:ops[i]? =some ops[i]:=by simp[h1]
  rw[ho];simp only[Wj,WH];apply Ze.2;intro e he;cases hb:Region.binds .any e with
  |false=>rfl
  |true=>
   simp only[Bool.not_true,Bool.false_or];refine a e.on ?_;unfold oH;rw[ho];exact Vv.2 ⟨e,Wk.2 ⟨by simpa using he,hb⟩,rfl⟩
def upto(n k:Nat):Array Bool:=((List.range n).map λi=>decide (i<k)).toArray
theorem jC(n k i:Nat)(hi:i<n)(b:Bool):(upto n k).getD i b=decide (i<k):=by simp[upto,hi]
theorem C1(n k:Nat):(upto n k).setIfInBounds k true=upto n (k+1):=by
 apply ZE
 ·simp[upto]
 ·intro i h1 h2;simp[upto]at h2;by_cases e:k=i
  ·subst e;simp[upto]
  ·rw[Array.getElem_setIfInBounds (by simpa[upto]using h2),Vk e];simp[upto];omega
section
variable {f m:Nat} (hB:Du ops f m=true)
include hB
theorem jm:∀i,i<ops.size->∀k∈oH ops i,k<i:=λi hi k hk=>by
 have:=VG.1 hB i (VP.2 hi);simp only[Vx]at this;have:=VG.1 this.1 k hk;simpa using this
theorem sz:∀i,i<ops.size->m<=i->∀j,j<i->fL ops f i j=true:=λi hi hm j hj=>by
 have:=VG.1 hB i (VP.2 hi);simp only[Vx,Xf,VH]at this;rcases this.2.2 with h|h
 ·omega
 ·exact VG.1 h j (VP.2 hj)
theorem wT:∀(i:Nat) (o:Oper) (j:Nat) (b:Bool),ops[i]? =some o->o.guard=some (j,b)->j<i:=λi o j b ho hg=>by
 have hi:i<ops.size:=(Vs.1 ho).1;have:=VG.1 hB i (VP.2 hi);simp only[Vx]at this;have h1:=this.2.1;rw[ho]at h1;simp only[Option.all_some,hg,VH]at h1;exact h1
theorem vC(k:Nat)(hk:k<ops.size)(hm:m<=k):Region.ready .any ops (upto ops.size k)=[k]:=by
 have hd:Down ops (upto ops.size k):=λi hi b j hj=>by
  have:=jm hB i b j hj;rw[jC _ _ _ b]at hi;rw[jC _ _ _ (by omega)];simp at hi ⊢;omega
 have key:∀i,i∈Region.ready .any ops (upto ops.size k)↔i=k:=λi=>by
  rw[dh];constructor
  ·rintro⟨h1,h2,c⟩;rw[jC _ _ _ h1]at h2;simp at h2;rcases Ww k i with h|h
   ·have:=eK (by simp[upto]) hd (jm hB) f i k h1 (sz hB i h1 (by omega) k h) c;rw[jC _ _ _ hk]at this;simp at this
   ·omega
  ·rintro rfl;exact⟨hk,by rw[jC _ _ _ hk];simp,λj hj=>by
    have:=jm hB i hk j hj;rw[jC _ _ _ (by omega)];simpa using this⟩
 have a:(Region.ready .any ops (upto ops.size k)).Nodup:=List.Pairwise.filter _ XR;generalize Region.ready .any ops (upto ops.size k)=l at*
 match l,key,a with
 | [],key,_=>exact absurd ((key k).2 rfl) (by simp)
 | [x],key,_=>rw[(key x).1 (by simp)]
 |x::y::l,key,a=>
  have h1:=(key x).1 (by simp);have h2:=(key y).1 (by simp);subst h1;subst h2;simp at a
omit hB in
theorem xX:Region.ready .any ops (upto ops.size ops.size)=[]:=by
 apply XM.2;intro i hi;obtain⟨h1,h2,_⟩:=dh.1 hi;rw[jC _ _ _ h1]at h2;simp at h2;omega
theorem wb{Q:Exit->Act->World->Prop}:∀(r k:Nat) (a:Act) (w:World),k+r=ops.size->m<=k->wpOps P ops Q (List.range' k r) a w->wpAny P .any ops Q r (upto ops.size k) a w
 |0,k,a,w,hk,_,h=>by
  obtain rfl:k=ops.size:=by omega
  exact⟨xX,h⟩
 |r+1,k,a,w,hk,hm,h=>by
  have hr:=vC hB k (by omega) hm;refine⟨λh0=>absurd (hr.symm.trans h0) (by simp),λi hi=>?_⟩;rw[hr]at hi;simp at hi;subst hi;rw[XQ,wpOps_cons]at h;rw[C1];exact wpOp_mono (λa w h=>wb r (i+1) a w (by omega) (by omega) h) h
end
def AB(P:Program)(ops:Array Oper)(Q:Exit->Act->World->Prop)(m r:Nat):Exit->Act->World->Prop
 | .normal,a,w=>wpOps P ops Q (List.range' m r) a w
 |e,a,w=>Q e a w
theorem zK{o:Oper}{a w}{K c:Act->World->Prop}{Q:Exit->Act->World->Prop}{m r:Nat}(h:∀a w,K a w->c a w)(b:o.wp P a w K (AB P ops Q m r)):o.wp P a w c Q:=by
 unfold Oper.wp at*;generalize (execOp a.eval o).run P w=x at*;cases x with
 |ok n w'=>
  cases n<;>simp only[Oper.upon]at b ⊢ <;>
   first
    |exact h _ _ b
    |exact Calls.mono b (λe d he=>by cases e<;>first|exact h _ _ he|exact he)
    |exact Rows.mono b (λ_ _ he=>h _ _ he)
 |halt x w'=>cases x<;>simp only[Oper.upon]at b ⊢ <;>exact b
def bX(ls:Array Bool):Nat->Nat
 |0=>0
 |m+1=>bX ls m+if ls.getD m true then 0 else 1
theorem dO{ls:Array Bool}:∀ {m:Nat},bX ls m=0->∀i,i<m->ls.getD i true=true
 |0,_,i,hi=>by omega
 |m+1,h,i,hi=>by
  simp only[bX]at h;by_cases e:i=m
  ·subst e;cases hb:ls.getD i true with
   |true=>rfl
   |false=>rw[hb]at h;simp at h
  ·exact dO (m:=m) (by omega) i (by omega)
theorem iw{ls:Array Bool}:∀ {m:Nat},0<bX ls m->∃i,i<m/\ls.getD i true=false/\∀j,j<i->ls.getD j true=true
 |0,h=>by simp[bX]at h
 |m+1,h=>by
  simp only[bX]at h;by_cases hp:0<bX ls m
  ·obtain⟨i,h1,h2,a⟩:=iw hp;exact⟨i,by omega,h2,a⟩
  ·refine⟨m,by omega,?_,dO (m:=m) (by omega)⟩;cases hb:ls.getD m true with
   |true=>rw[hb]at h;simp at h;omega
   |false=>rfl
theorem iy{ls:Array Bool}{i:Nat}(hi:ls.getD i true=false):∀ {m:Nat},i<m->m<=ls.size->bX (ls.setIfInBounds i true) m+1=bX ls m
 |0,h,_=>by omega
 |m+1,h,hs=>by
  simp only[bX];by_cases e:i=m
  ·subst e;have h1:(ls.setIfInBounds i true).getD i true=true:=by simp[show i<ls.size by omega]
   have h2:bX (ls.setIfInBounds i true) i=bX ls i:=by
    have:∀k,k<=i->bX (ls.setIfInBounds i true) k=bX ls k:=by
     intro k;induction k with
     |zero=>intro _;rfl
     |succ k ih=>
      intro hk;simp only[bX];rw[ih (by omega),Vz,Vz,VD (by omega)]
    exact this i (Vh _)
   rw[h1,hi,h2];simp
  ·have h1:(ls.setIfInBounds i true).getD m true=ls.getD m true:=by
    rw[Vz,Vz,VD e]
   rw[h1];have:=iy hi (m:=m) (by omega) (by omega);omega
theorem C3{f m:Nat}(r:Du ops f m=true)(hm:m<=ops.size){Q:Exit->Act->World->Prop}:∀(fuel:Nat) (l₁ ls:Array Bool) (a:Act) (w:World),l₁.size=m->ls.size=ops.size->(∀i,i<m->ls.getD i true=l₁.getD i true)->(∀i,m<=i->i<ops.size->ls.getD i true=false)->Down ops ls->bX ls m=fuel->
  wpAny P .any (ops.extract 0 m) (AB P ops Q m (ops.size - m)) fuel l₁ a w->wpAny P .any ops Q (fuel+(ops.size - m)) ls a w:=by
 have L:(ops.extract 0 m).size=m:=by simp;omega
 have p:∀i,i<m->(ops.extract 0 m)[i]? =ops[i]? :=λi hi=>by rw[YT];simp;omega
 have u:∀i,i<m->oH (ops.extract 0 m) i=oH ops i:=λi hi=>by unfold oH;rw[p i hi]
 intro fuel;induction fuel with
 |zero=>
  intro l₁ ls a w A q n o hd hu h;have:ls=upto ops.size m:=by
   apply ZE
   ·simp[upto,q]
   ·intro i h1 h2;have hi:i<ops.size:=by omega
    have e:ls.getD i true=(upto ops.size m).getD i true:=by
     rw[jC _ _ _ hi];by_cases l:i<m
     ·rw[dO hu i l];simp[l]
     ·rw[o i (by omega) hi];simp[l]
    simpa[h1,h2]using e
  rw[this];simpa using wb r (ops.size - m) m a w (by omega) (Vh _) h.2
 |succ fuel ih=>
  intro l₁ ls a w A q n o hd hu h;have C:∀b c (i:Nat),i<ops.size->ls.getD i b=ls.getD i c:=λb c i hi=>by simp[show i<ls.size by omega]
  obtain⟨i0,J,y,D⟩:=iw (ls:=ls) (m:=m) (by omega);have z:∀i,i∈Region.ready .any ops ls->i<m:=λi hi=>by
   obtain⟨h1,h2,t⟩:=dh.1 hi;rcases Ww i m with B|B
   ·exact B
   ·have:=eK q hd (jm r) f i i0 h1 (sz r i h1 B i0 (by omega)) t;rw[C false true i0 (by omega),y]at this;cases this
  have E:∀i,i∈Region.ready .any ops ls->i∈Region.ready .any (ops.extract 0 m) l₁:=λi hi=>by
   have l:=z i hi;obtain⟨h1,h2,t⟩:=dh.1 hi;refine dh.2 ⟨by omega,by rw[<-n i l];exact h2,λk hk=>?_⟩;rw[u i l]at hk;have G:=jm r i h1 k hk;have:=t k hk;rw[C false true k (by omega),n k (by omega)]at this;simpa[show k<l₁.size by omega]using this
  have x:i0∈Region.ready .any ops ls:=dh.2 ⟨by omega,y,λk hk=>by
   have:=jm r i0 (by omega) k hk;rw[C false true k (by omega)];exact D k this⟩
  rw[show fuel+1+(ops.size - m)=(fuel+(ops.size - m))+1 by omega];refine⟨λh0=>absurd x (by rw[h0];simp),λi hi=>?_⟩;have l:=z i hi;obtain⟨h1,h2,t⟩:=dh.1 hi;have d:=h.2 i (E i hi);have next:∀a w,wpAny P .any (ops.extract 0 m) (AB P ops Q m (ops.size - m)) fuel (l₁.setIfInBounds i true) a w->wpAny P .any ops Q (fuel+(ops.size - m)) (ls.setIfInBounds i true) a w:=λa w v=>by
   refine ih _ _ a w (by simpa using A) (by simpa using q) (λj hj=>?_) (λj hj s=>?_) (λj hj s k hk=>?_) (by have:=iy h2 l (by omega);omega) v
   ·by_cases e:i=j
    ·subst e;simp[show i<ls.size by omega,show i<l₁.size by omega]
    ·have:=n j hj;simp only[Vz,VD e]at this ⊢;exact this
   ·have:=o j hj s;simp only[Vz,VD (show i≠j by omega)]at this ⊢;exact this
   ·by_cases e:i=j
    ·subst e;have G:=jm r i h1 k hk;have:=t k hk;simp only[Vz,VD (show i≠k by omega)]at this ⊢;exact this
    ·have F:ls.getD j true=true:=by
      simp only[Vz,VD e]at hj ⊢;exact hj
     have:=hd j F s k hk;by_cases H:i=k
     ·subst H;simp[show i<ls.size by omega]
     ·simp only[Vz,VD H]at this ⊢;exact this
  unfold wpOp at d ⊢;rw[p i l]at d;have ho:ops[i]? =some ops[i]:=by simp[h1]
  rw[ho]at d ⊢;simp only at d ⊢;have hy:Region.wanted ops[i] (yielded (ops.extract 0 m) a.tmps)=Region.wanted ops[i] (yielded ops a.tmps):=by
   unfold Region.wanted;cases hg:(ops[i]).guard with
   |none=>rfl
   |some g=>
    obtain⟨j,wt⟩:=g;have:=wT r i ops[i] j wt ho hg;simp only[yielded];rw[p j (by omega)]
  rw[hy]at d;split
  ·rename_i hw;rw[Vn hw]at d;rcases d with v|⟨v,a0,M,K⟩
   ·exact .inl (zK next v)
   ·exact .inr ⟨v,a0,M,K⟩
  ·rename_i hw;rw[Vk hw]at d;exact next _ _ d
theorem gI(n i:Nat)(h:i<n)(b:Bool):(Array.replicate n false).getD i b=false:=by simp[h]
theorem wX{N:Nat}{l:List Oper}{t t' σ}{F:Nat->Prop}{base:Nat}{E c ds}{w:World}{Q:Exit->Act->World->Prop}(hs:dT F base N ⟨t,σ⟩ E ⟨c,ds⟩ w)(D:List Nat)(A:Region.lexB .any l.toArray=true)
  (hn:(l.all λo=>o.dst.all λe=>decide (e<N)&&D.contains e)=true) (h:eP P N l.toArray σ l t t') (R:∀b w',Ext w w'->dT F base N ⟨t',σ⟩ E ⟨b,ds⟩ w'->Q .normal ⟨b,ds⟩ w'):
  wpAny P .any l.toArray Q l.length (Array.replicate l.length false) ⟨c,ds⟩ {w with drawn:=w.drawn+1}:=by
 have s:c.size=N:=hs.size;have m:∀o∈l,∀e,o.dst=some e->e<c.size/\e∈D:=λo ho e he=>by
  have:=VG.1 hn o ho;rw[he]at this;simp at this;rw[s];exact this
 have h1:=h.abs (E:=E) (w:=w) (F:=F) (base:=base) (C:=λw'=>Ext w w'/\Sat F base σ E w') (λw' f=>f) (G:=λβ=>uD E w β t') (λβ z=>z) (λt v _=>v=c.getD t undef) (λk p hk v w' u hv=>by
  subst hv;have:=hs.tmp k p hk;simpa[Act.eval]using this.ext u)
 have h2:=pZ (D:=D) l _ (λt v _=>v=c.getD t undef) (λ_ _=>rfl) (λo ho e he=>(m o ho e he).2) h1;simp only[Region.lexB,Vx]at A;have K:=qQ (md:=.any) (ops:=l.toArray) l 0 (Array.replicate l.toArray.size false) _ (by simp) (by simpa using A.2) h2;have u:Ext w {w with drawn:=w.drawn+1}:=⟨rfl,rfl,rfl,Vh _,λ_ _=>rfl⟩;have L:=nW (P:=P) (ops:=l.toArray) (md:=.any) (n:=c.size) (d:=ds) (Q:=Q) (C:=λw'=>Ext w w'/\Sat F base σ E w') (λH J g j=>⟨g.1.trans j,g.2.ext j⟩)
  (λi o ho e he=>(m o (by simpa using Yp ho) e he).1) (λβ a w' f x M=>?_) l.length _ _ ⟨c,ds⟩ {w with drawn:=w.drawn+1} (λt=>BZ _) ⟨u,hs.sat.ext u⟩ ⟨λt=>rfl,rfl,rfl⟩ K
 ·simpa using L
 ·obtain⟨O,B⟩:=M;obtain⟨y,q,r⟩:=x;obtain⟨b,dd⟩:=a;simp only at q r;subst q;exact R b w' f.1 ⟨f.2,λk p hk=>O k p hk _ w' f.1 (y k),hs.lO,by rw[<-s];exact r⟩
theorem Gq{N L:Nat}{id:Nat}{l:List Oper}{t t' σ}{Q:Exit->St->Prop}(m f:Nat)(D:List Nat)(hm:P.follows .mixedOrders=true)(y:Region.lexB .any (l.take m).toArray=true)
    (hn:((l.take m).all λo=>o.dst.all λe=>decide (e<N)&&D.contains e)=true) (g:Du l.toArray f m=true) (r:Nat.ble m l.length=true)
    (h:eP P N (l.take m).toArray σ (l.take m) t t') (hw:WR P N L l.toArray (l.drop m) ⟨t',σ⟩ (λs=>Q .normal s)):W P N L (.region id l.toArray true) ⟨t,σ⟩ Q:=λF base E₀ w₀ E a w hc hs=>by
  obtain⟨p,v⟩:=a;have c:m<=l.length:=Nat.ble_eq.mp r;have hlt:(l.take m).length=m:=by simp;omega
  refine wp_region_any hm ?_;have n:=wX (Q:=AB P l.toArray (λe d w'=>qo F base N E₀ w₀ (Q e) d w') m (l.toArray.size - m)) hs D y hn h (λb w' x u=>by
    have:=hw F base E₀ w₀ E ⟨b,v⟩ w' (hc.on (.ext x) (Zz x hs.sat)) u (λe d w'=>qo F base N E₀ w₀ (Q e) d w') m (λd w' hp=>hp) (λj=>by simp);simpa[AB]using this)
  have he:l.toArray.extract 0 m=(l.take m).toArray:=by simp
  have := C3 (P := P) g (by simpa using c) (Q := λe d w' => qo F base N E₀ w₀ (Q e) d w') m (Array.replicate m false) (Array.replicate l.toArray.size false) ⟨p, v⟩ { w with drawn := w.drawn + 1 } (by simp) (by simp) (λi hi => by rw [gI _ _ hi, gI _ _ (by simp; omega)]) (λi _ hi => gI _ _ hi _) (λi hi q => by
      have:(Array.replicate l.toArray.size false).getD i true=false:=gI _ _ q _;rw[this]at hi;cases hi) (by
      have:∀k,k<=l.length->bX (Array.replicate l.toArray.size false) k=k:=by
        intro k;induction k with
        |zero=>intro _;rfl
        |succ k ih=>
          intro hk;simp only[bX];rw[ih (by omega)];have:(Array.replicate l.toArray.size false).getD k true=false:=gI _ _ (by simp;omega) _;rw[this];simp
      exact this m c) (by rw[he];rw[hlt]at n;exact n)
  rw[show m+(l.toArray.size - m)=l.toArray.size by simp;omega]at this;exact this
theorem PT{N L:Nat}{id:Nat}{l:List Oper}{y t t' σ}{Q:Exit->St->Prop}(m f:Nat)(D:List Nat)(hm:P.follows .mixedOrders=true)(c:Region.lexB .any (l.take m).toArray=true)
  (hn:((l.take m).all λo=>o.dst.all λe=>decide (e<N)&&D.contains e)=true) (a:Du l.toArray f m=true) (b:Nat.ble m l.length=true)
  (h:eP P N (l.take m).toArray σ (l.take m) t t') (hw:WR P N L l.toArray (l.drop m) ⟨t',σ⟩ (λs=>W P N L y s Q)):W P N L (.seq (.region id l.toArray true) y) ⟨t,σ⟩ Q:=an (Gq m f D hm c hn a b h hw)
end
section
variable {P:Program} {σ:bH} {t:cd} {o:Oper}
theorem zz{ty e s j n h i:Nat}{x d}{xs:List PV}{k}{m:Int}(ho:o.op= .slice ty x none (some d) none)(he:uX P ty=some (e,s))(hx:aI t x=some (.own i))(hi:σ[i]? =some (some (.row j s n xs)))(B:aI t d=some (.raw (.int k m)))(C:m=(h:Int))(hl:h<=n):
  de P σ t o (.own σ.length) (σ.set i none++[some (.row j s h (xs.take (h*s)))]):=by
 intro F base E ρ w q r hT;have h1:=aB q hT hx;have h2:=aB q hT B;obtain⟨hu,inf,a,hs⟩:=gj he;generalize J:ρ x=v at h1;generalize p:ρ d=u at h2;cases h2;subst C;cases h1 with
 |own _ L _ l H=>
  obtain⟨cs,k1,O⟩:=r.blk i _ hi;rw[l]at k1;have D:bg (E.at_ i)=v.ownBlock:=by rw[l];exact kN k1
  have key:∀v',(execOp ρ o).run P w= .ok (.value v') w->w.ownsRow base j s v' h (cs.take (h*s))->v'.ownBlock=v.ownBlock->v'.oneCell'=true->
    ∃v w' E',((execOp ρ o).run P w= .ok (.value v) w'\/(v=undef/\(execOp ρ o).run P w= .ok .skip w'))/\Sat F base (σ.set i none++[some (.row j s h (xs.take (h*s)))]) E' w'/\c8 E w E' w'/\iE F base w w'/\dj E' w' v (.own σ.length):=by
   intro v' hr c hw f;obtain⟨K,a2⟩:=r.swap (w':=w) (blk:=.row j s h (xs.take (h*s))) hi (Vh _) (λk hk N=>rfl) (v:=v') (λb hb=>by
    rw[kN c]at hb;rw[D,<-hw];exact .inl hb) (λE' g=>⟨_,c,(O.take (h*s)).goes g⟩)
   exact⟨v',w,_,.inl hr,K,a2,Yh _ _ _,.own σ.length (by simp[Env.push,Env.kill,r.len]) v' (by simp[Env.push,Env.kill,r.len]) f⟩
  have y:=k1.1;rcases k1.2 with⟨rfl,h0⟩|⟨g,cap,cur,rfl,hb,hg,M,z,A,G⟩
  ·subst h0;obtain rfl:h=0:=by omega
   have hr:(execOp ρ o).run P w= .ok (.value (.slice none 0 0)) w:=by
    simp[execOp,ho,J,p,Instr.sliceAt,run_underlying hu,Instr.slice,Instr.sliceBounds,Instr.sliceBound,asIntOf,sizeOf,typeInfo,a]
   exact key _ hr (by simpa using World.ownsRow_nil w base j s) I I
  ·have hr:(execOp ρ o).run P w= .ok (.value (.slice (some ⟨g,0,none⟩) h cap)) w:=by
    have:h<=cap:=by omega
    simp[execOp,ho,J,p,Instr.sliceAt,run_underlying hu,Instr.slice,Instr.sliceBounds,Instr.sliceBound,asIntOf,this,sizeOf,typeInfo,a,Addr.add]
   refine key _ hr ⟨?_,.inr ⟨g,cap,cur,rfl,hb,hg,by omega,z,A,?_⟩⟩ rfl rfl
   ·rw[V8,y];exact Xe (XD _ hl)
   ·rw[<-G,XU,Xe (XD _ hl)]
theorem ga{ty e s:Nat}{z}(ho:o.op= .buildSlice ty 0 #[])(hk:Qf P ty=some (e,s,z)):de P σ t o (.own σ.length) (σ++[some (.row e s 0 [])]):=by
 intro F base E ρ w k c hT;obtain⟨hu,i,m,hi,hs,l,j,g,d⟩:=r9 hk;have a:(Instr.buildSlice ty 0 #[]).run P w= .ok (.slice (some ⟨w.heap.size,0,none⟩) 0 0) (w.alloc (.cells #[] e)):=by
  have:Array.map (λ_:Nat=>(default:Value)) (Array.range 0)= #[]:=by simp[Array.range]
  simp[Instr.buildSlice,run_underlying hu,sizeOf,typeInfo,hi,Instr.fill,newRow,this]
 have hr:(execOp ρ o).run P w= .ok (.value (.slice (some ⟨w.heap.size,0,none⟩) 0 0)) (w.alloc (.cells #[] e)):=by
  simp only[execOp,ho,Sem.run_bind,XF,Xw,a,Result.andThen_ok,Sem.run_pure]
 obtain⟨f,a2,a3,a4⟩:=rD c ((XH w).alloc (.cells #[] e)) (λb h=>by simp[bg]at h;omega) (World.ownsRow_lit (base:=base) (e:=e) (size:=s) w #[] 0 c.bl (We _) (by simp)) (Yn E w);exact⟨_,_,_,.inl hr,f,a2,a3,a4⟩
end
section
variable {P:Program} {σ:bH} {t:cd} {o:Oper}
def Ex(P:Program)(ty:TypeId):Bool:=match P.underlying ty with|some (.pointer _)=>true|_=>false
theorem sV{ty}(h:Ex P ty=true)(a:Addr)(w:World):(Op.equal ty (.pointer (some a)) (.pointer none)).run P w= .ok false w:=by
 unfold Ex at h;split at h
 ·rename_i e hu;have key:∀d,(Op.equalIn (d+1) ty (.pointer (some a)) (.pointer none)).run P w= .ok false w:=λd=>by
   simp only[Op.equalIn,Sem.run_bind,run_underlying hu,Result.andThen_ok,Sem.run_pure]
  exact key 9999
 ·cases h
theorem MJ{x y ty e}{i k:Nat}(ho:o.op= .binOp .eql ty x y e)(hk:Ex P ty=true)(hx:aI t x=some (.ptr i k))(hy:aI t y=some (.raw (.pointer none))):bE P σ t o (.raw (.bool false)):=by
 intro F base E ρ w a _ hT;have h1:=aB a hT hx;have h2:=aB a hT hy;generalize d:ρ x=z at h1;generalize c:ρ y=f at h2;cases h2;cases h1 with
 |ptr _ _ b hi h=>
  simp only[execOp,ho,d,c,Sem.run_bind,eqGuard,binOp,sV hk,Result.andThen_ok,Sem.run_pure];exact bA (.raw _)
theorem MI{x y ty e xs}{k:Nat}(ho:o.op= .binOp .eql ty x y e)(hk:Ex P ty=true)(hx:aI t x=some (.cH xs k))(hy:aI t y=some (.raw (.pointer none))):bE P σ t o (.raw (.bool false)):=by
 intro F base E ρ w a _ hT;have h1:=aB a hT hx;have h2:=aB a hT hy;generalize d:ρ x=z at h1;generalize c:ρ y=g at h2;cases h2;cases h1 with
 |cH b f _ cs _ hb hM hc hl hr=>
  simp only[execOp,ho,d,c,Sem.run_bind,eqGuard,binOp,sV hk,Result.andThen_ok,Sem.run_pure];exact bA (.raw _)
theorem MK{x y ty e}{i k:Nat}(ho:o.op= .binOp .neq ty x y e)(hk:Ex P ty=true)(hx:aI t x=some (.ptr i k))(hy:aI t y=some (.raw (.pointer none))):bE P σ t o (.raw (.bool true)):=by
 intro F base E ρ w a _ hT;have h1:=aB a hT hx;have h2:=aB a hT hy;generalize d:ρ x=z at h1;generalize c:ρ y=f at h2;cases h2;cases h1 with
 |ptr _ _ b hi h=>
  simp only[execOp,ho,d,c,Sem.run_bind,eqGuard,binOp,sV hk,Result.andThen_ok,Sem.run_pure];exact bA (.raw _)
def wW(P:Program)(ty:TypeId):Bool:=match P.underlying ty with|some .bool=>true|_=>false
theorem vL{ty}(h:wW P ty=true)(a b:Bool)(w:World):(Op.equal ty (.bool a) (.bool b)).run P w= .ok (a==b) w:=by
 unfold wW at h;split at h
 ·rename_i hu;have key:∀d,(Op.equalIn (d+1) ty (.bool a) (.bool b)).run P w= .ok (a==b) w:=λd=>by
   simp only[Op.equalIn,Sem.run_bind,run_underlying hu,Result.andThen_ok,Sem.run_pure]
  exact key 9999
 ·cases h
theorem yC{x y ty d a b q}(ho:o.op= .binOp .eql ty x y d)(hk:wW P ty=true)(hx:aI t x=some (.raw (.bool a)))(hy:aI t y=some (.raw (.bool b)))(c:(a==b)=q):bE P σ t o (.raw (.bool q)):=by
 refine yB ho hx hy λw=>?_;simp[eqGuard,binOp,vL hk,c]
theorem IV{x y ty d a b q}(ho:o.op= .binOp .neq ty x y d)(hk:wW P ty=true)(hx:aI t x=some (.raw (.bool a)))(hy:aI t y=some (.raw (.bool b)))(c:(!(a==b))=q):bE P σ t o (.raw (.bool q)):=by
 refine yB ho hx hy λw=>?_;simp[eqGuard,binOp,vL hk,c]
theorem MN{x y ty d}{a b:ByteArray}{q}(ho:o.op= .binOp .eql ty x y d)(hx:aI t x=some (.raw (.string a)))(hy:aI t y=some (.raw (.string b)))(c:(a.toList==b.toList)=q):bE P σ t o (.raw (.bool q)):=
 yB ho hx hy λw=>by simp[eqGuard,binOp,Op.stringOp,c]
end
def Env.fD(E:Env)(vs:List Value):Env:=⟨E.L+vs.length,λi=>if i<E.L then E.at_ i else vs.getD (i - E.L) undef,λb=>E.M b\/∃v∈vs,bg v=some b⟩
theorem Sat.fD{F:Nat->Prop}{base:Nat}{σ}{E:Env}{w w':World}(f:Sat F base σ E w)(p:Ext w w')(vs:List Value)(bs:List cj)(hl:vs.length=bs.length)(hv:∀v∈vs,∀b,bg v=some b->w.heap.size<=b)
  (hd:∀(i j:Nat) u v b,vs[i]? =some u->vs[j]? =some v->bg u=some b->bg v=some b->i=j) (hb:∀(i:Nat) v blk,vs[i]? =some v->bs[i]? =some blk->fV base (E.fD vs) w' v blk):
  Sat F base (σ++bs.map some) (E.fD vs) w'/\c8 E w (E.fD vs) w':=by
 have g:c8 E w (E.fD vs) w':=⟨Nat.le_add_right _ _,λi hi=>by simp[Env.fD,hi],λb hb hM h=>by
  rcases h with h|⟨v,h1,h2⟩
  ·exact hM h
  ·have:=hv v h1 b h2;omega,p.size,λb h _=>p.block b h⟩
 have c:∀i,i<σ.length->(E.fD vs).at_ i=E.at_ i:=λi hi=>g.at_ i (by rw[f.len];exact hi);have a:∀(j:Nat) v,vs[j]? =some v->(E.fD vs).at_ (σ.length+j)=v:=λj v hj=>by
  simp only[Env.fD,f.len];rw[Vk (by omega),XT,Qo,hj]
  rfl
 have split:∀i (b:cj),(σ++bs.map some)[i]? =some (some b)->(i<σ.length/\σ[i]? =some (some b))\/(∃j v,i=σ.length+j/\bs[j]? =some b/\vs[j]? =some v):=λi b h=>by
  by_cases hi:i<σ.length
  ·rw[Vl hi]at h;exact .inl ⟨hi,h⟩
  ·rw[Vq (by omega),Vt,Vr]at h;obtain⟨b',h1,h2⟩:=h;cases h2;have hj:i - σ.length<vs.length:=by rw[hl];exact(Vf.1 h1).1
   exact .inr ⟨i - σ.length,vs[i - σ.length],by omega,h1,by simp[hj]⟩
 refine⟨⟨VL f.bl p.size,λb m=>⟨VS (f.fb b m).1 p.size,λi bl hi=>?_⟩,by simp[Env.fD,f.len,hl],λb=>?_,λi bl hi=>?_,λi j bi bj b hi hj d e=>?_,f.gl.goes g⟩,g⟩
 ·rcases split i bl hi with⟨h1,h2⟩|⟨j,v,rfl,h2,l⟩
  ·rw[c i h1];exact(f.fb b m).2 i bl h2
  ·rw[a j v l];intro h;have:=hv v (VE l) b h;have:=(f.fb b m).1;omega
 ·constructor
  ·rintro(h|⟨v,h1,h2⟩)
   ·rcases(f.mm b).1 h with h|⟨i,bl,h1,h2⟩
    ·exact .inl h
    ·have hi:i<σ.length:=(Vf.1 h1).1;exact .inr ⟨i,bl,by rw[Vl hi];exact h1,by rw[c i hi];exact h2⟩
   ·obtain⟨j,hj⟩:=W8 h1;have r:j<bs.length:=by rw[<-hl];exact(Vf.1 hj).1
    exact .inr ⟨σ.length+j,bs[j],by rw[Vq (by omega)];simp[r],by rw[a j v hj];exact h2⟩
  ·rintro(h|⟨i,bl,h1,h2⟩)
   ·exact .inl ((f.mm b).2 (.inl h))
   ·rcases split i bl h1 with⟨l,o⟩|⟨j,v,rfl,o,n⟩
    ·rw[c i l]at h2;exact .inl ((f.mm b).2 (.inr ⟨i,bl,o,h2⟩))
    ·rw[a j v n]at h2;exact .inr ⟨v,VE n,h2⟩
 ·rcases split i bl hi with⟨h1,h2⟩|⟨j,v,rfl,h2,l⟩
  ·rw[c i h1];exact(f.blk i bl h2).goes g (λb hb=>p.block b ((f.blk i bl h2).lt hb).2)
  ·rw[a j v l];exact hb j v bl l h2
 ·rcases split i bi hi with⟨h1,h2⟩|⟨k,v,rfl,h2,l⟩<;>rcases split j bj hj with⟨o,n⟩|⟨s,v',rfl,n,q⟩
  ·rw[c i h1]at d;rw[c j o]at e;exact f.inj i j bi bj b h2 n d e
  ·rw[c i h1]at d;rw[a s v' q]at e;have:=((f.blk i bi h2).lt d).2;have:=hv v' (VE q) b e;omega
  ·rw[a k v l]at d;rw[c j o]at e;have:=((f.blk j bj n).lt e).2;have:=hv v (VE l) b d;omega
  ·rw[a k v l]at d;rw[a s v' q]at e;rw[hd k s v v' b l q d e]
class AA (p:PV):Prop where
 out:∀(E:Env) (w w':World) (v:Value),dj E w v p->dj E w' v p
 Uj:∀(E:Env) (w:World) (v v':Value),dj E w v p->dj E w v' p->v=v'
instance (v:Value):AA (.raw v):=⟨λ_ _ _ _ h=>by cases h;exact .raw _,λ_ _ _ _ h h'=>by cases h;cases h';rfl⟩
instance (i:Nat):AA (.own i):=⟨λ_ _ _ _ h=>by cases h with|own _ hi _ h hs=>exact .own i hi _ h hs,λ_ _ _ _ h h'=>by
 cases h with
 |own _ _ _ h _=>cases h' with
  |own _ _ _ h' _=>rw[<-h,<-h']⟩
instance (i k:Nat):AA (.ptr i k):=⟨λ_ _ _ _ h=>by cases h with|ptr _ _ b hi h=>exact .ptr i k b hi h,λE w v v' h h'=>by
 cases h with
 |ptr _ _ b _ h=>cases h' with
  |ptr _ _ b' _ h'=>
   have:b=b':=by
    rcases h with h|⟨n,c,h⟩<;>rcases h' with h'|⟨n',c',h'⟩<;>rw[h]at h'<;>simp at h'<;>first|exact h'|exact h'.1
   rw[this]⟩
section
variable {P:Program} {ops:Array Oper} {N L:Nat}
def oM(P:Program)(t:cd)(o:Oper)(p:PV):Prop:=∀E ρ w,nj ρ->eF E w ρ t->∃v,(∀w',(execOp ρ o).run P w'= .ok (.value v) w')/\dj E w v p
theorem o9{t}{o:Oper}{x p}(ho:o.op= .move x)(hx:aI t x=some p):oM P t o p:=λE ρ w a hT=>
 ⟨ρ x,λw'=>by simp only[execOp,ho,Sem.run_pure],aB a hT hx⟩
theorem Sy{t}{o:Oper}{op x y ty f k}{a b:Int}{v}(ho:o.op= .binOp op ty x y f)(hx:aI t x=some (.raw (.int k a)))(hy:aI t y=some (.raw (.int k b)))
  (hv:∀w,(binOp op ty (.int k a) (.int k b)).run P w= .ok v w):oM P t o (.raw v):=λE ρ w c hT=>by
 have h1:=aB c hT hx;have h2:=aB c hT hy;generalize e:ρ x=z at h1;generalize d:ρ y=g at h2;cases h1;cases h2;have hg:∀w,(eqGuard op ty x y (.int k a) (.int k b)).run P w= .ok () w:=by
  intro w;unfold eqGuard;split<;>rfl
 exact⟨v,λw'=>by simp only[execOp,ho,e,d,Sem.run_bind,Sem.run_pure,Result.andThen_ok,hg,hv],.raw _⟩
theorem Sz{t}{o:Oper}{x y ty d}{a b c:Int}(ho:o.op= .binOp .sub ty x y d)(hx:aI t x=some (.raw (.int .i64 a)))(hy:aI t y=some (.raw (.int .i64 b)))(hc:a - b=c)(hn:In64 c):oM P t o (.raw (.int .i64 c)):=
 Sy ho hx hy λw=>by simp[binOp,Op.intArith,hc,l3 hn]
theorem oM.y{t o p σ}(h:oM P t o p):bE P σ t o p:=λF base E ρ w a _ hT=>by
 obtain⟨v,h1,h2⟩:=h E ρ w a hT;rw[h1];exact bA h2
def qt:List Oper->List PV->cd->cd
 |o::l,p::ps,t=>qt l ps (match o.dst with|some d=>(d,p)::t|none=>t)
 |_,_,t=>t
inductive kS (P:Program) (N:Nat) (ops:Array Oper) (σ:bH):List Oper->List PV->List Bool->cd->Prop
 |nil {t:cd}:kS P N ops σ [] [] [] t
 |val {o:Oper} {rest:List Oper} {t:cd} {d:Nat} {p:PV} {ps:List PV} {fs:List Bool} (ks:List Nat):(ks.all λk=>(o.looksAt ops).contains k)=true->bE P σ (jx t ks) o p->o.dst=some d->Nat.blt d N=true->kS P N ops σ rest ps fs ((d,p)::t)->kS P N ops σ (o::rest) (p::ps) (false::fs) t
 |late {o:Oper} {rest:List Oper} {t:cd} {d:Nat} {p:PV} {ps:List PV} {fs:List Bool} (ks:List Nat):(ks.all λk=>(o.looksAt ops).contains k)=true->oM P (jx t ks) o p->AA p->o.dst=some d->Nat.blt d N=true->kS P N ops σ rest ps fs ((d,p)::t)->kS P N ops σ (o::rest) (p::ps) (true::fs) t
structure Datum (P:Program) (N:Nat) (ops:Array Oper) (σ:bH) (o:Oper) (p:PV) (fl:Bool) (t:cd):Prop where
 dst:∃d,o.dst=some d/\d<N
 y:∃ks,(∀k∈ks,k∈o.looksAt ops)/\bE P σ (jx t ks) o p
 r:fl=true->AA p/\∃ks,(∀k∈ks,k∈o.looksAt ops)/\oM P (jx t ks) o p
theorem kS.data{σ}{l:List Oper}{ps:List PV}{fs:List Bool}{t}(h:kS P N ops σ l ps fs t):ps.length=l.length/\fs.length=l.length/\∀(i:Nat) o p f,l[i]? =some o->ps[i]? =some p->fs[i]? =some f->Datum P N ops σ o p f (qt (l.take i) (ps.take i) t):=by
 have mem:∀ {ks:List Nat} {o:Oper},(ks.all λk=>(o.looksAt ops).contains k)=true->∀k∈ks,k∈o.looksAt ops:=λh k hk=>by
  have:=VG.1 h k hk;simpa using this
 induction h with
 |nil=>exact⟨rfl,rfl,λi o p f h=>by simp at h⟩
 | @val o rest t d p ps fs ks hks hy hd hN _ ih=>
  refine⟨by simp[ih.1],by simp[ih.2.1],λi c p' f h1 h2 a=>?_⟩;cases i with
  |zero=>
   simp at h1 h2 a;subst h1;subst h2;subst a;exact⟨⟨d,hd,Nat.blt_eq.mp hN⟩,⟨ks,mem hks,hy⟩,λe=>by cases e⟩
  |succ i=>
   have:=ih.2.2 i c p' f (by simpa using h1) (by simpa using h2) (by simpa using a);simpa[qt,hd]using this
 | @late o rest t d p ps fs ks hks hy b hd hN _ ih=>
  refine⟨by simp[ih.1],by simp[ih.2.1],λi c p' f h1 h2 a=>?_⟩;cases i with
  |zero=>
   simp at h1 h2 a;subst h1;subst h2;subst a;exact⟨⟨d,hd,Nat.blt_eq.mp hN⟩,⟨ks,mem hks,hy.y⟩,λ_=>⟨b,ks,mem hks,hy⟩⟩
  |succ i=>
   have:=ih.2.2 i c p' f (by simpa using h1) (by simpa using h2) (by simpa using a);simpa[qt,hd]using this
def cY(ops:Array Oper)(i:Nat):Option Nat:=(ops[i]?).bind (·.dst)
def fk(ops:Array Oper)(i:Nat):List Nat:=match ops[i]? with|some o=>o.looksAt ops|none=>[]
def NM(ops:Array Oper)(f m:Nat)(fl:List Bool):Bool:=
 decide (m<=ops.size)&&Nat.beq fl.length m&&
 ((List.range ops.size).all λi=>(oH ops i).all λk=>decide (k<i))&&
 ((List.range ops.size).all λi=>((ops[i]?).all λo=>o.guard.isNone))&&
 ((List.range m).all λi=>(List.range i).all λj=>cY ops i !=cY ops j)&&
 ((List.range m).all λj=>(fk ops j).all λk=>(List.range m).all λi=>cY ops i !=some k||(decide (i<j)&&(oH ops j).contains i))&&
 ((List.range ops.size).all λi=>decide (i<m)||(List.range i).all λj=>fl.getD j false||fL ops f i j)&&
 ((List.range ops.size).all λi=>decide (i<m)||(List.range m).all λj=> !fl.getD j false||((cY ops j).all λd=> !(fk ops i).contains d||fL ops f i j))&&
 ((List.range ops.size).all λi=>decide (i<m)||(List.range m).all λj=> !fl.getD j false||((cY ops i).all λd=>cY ops j !=some d&& !(fk ops j).contains d||fL ops f i j))
structure Form (ops:Array Oper) (f m:Nat) (fl:List Bool):Prop where
 le:m<=ops.size
 Tn:fl.length=m
 oH:∀i,i<ops.size->∀k∈oH ops i,k<i
 ng:∀(i:Nat) (o:Oper),ops[i]? =some o->o.guard=none
 ss:∀i j,i<m->j<i->cY ops i≠cY ops j
 rd:∀j,j<m->∀k∈fk ops j,∀i,i<m->cY ops i=some k->i<j/\i∈PW.oH ops j
 TM:∀i,i<ops.size->m<=i->∀j,j<i->fl.getD j false=false->fL ops f i j=true
 use:∀i,i<ops.size->m<=i->∀j,j<m->fl.getD j false=true->∀d,cY ops j=some d->d∈fk ops i->fL ops f i j=true
 wr:∀i,i<ops.size->m<=i->∀j,j<m->fl.getD j false=true->∀d,cY ops i=some d->(cY ops j≠some d/\d∉fk ops j)\/fL ops f i j=true
theorem Ha{f m:Nat}{fl}(h:NM ops f m fl=true):Form ops f m fl:=by
 unfold NM at h;simp only[Vx]at h;obtain⟨⟨⟨⟨⟨⟨⟨⟨h1,h2⟩,b⟩,c⟩,e⟩,g⟩,l⟩,h8⟩,q⟩:=h;have all:∀ {n:Nat} {p:Nat->Bool},(List.range n).all p=true->∀i,i<n->p i=true:=λh i hi=>VG.1 h i (VP.2 hi);refine⟨by simpa using h1,VF h2,λi hi k hk=>?_,λi o ho=>?_,λi j hi hj=>?_,λj hj k hk i hi hd=>?_,λi hi hm j hj a=>?_,λi hi hm j hj a d hd hl=>?_,λi hi hm j hj a d hd=>?_⟩
 ·have:=VG.1 (all b i hi) k hk;simpa using this
 ·have hi:i<ops.size:=(Vs.1 ho).1;have:=all c i hi;rw[ho]at this;simpa using this
 ·have:=all (all e i hi) j hj;simpa using this
 ·have:=all (VG.1 (all g j hj) k hk) i hi;rw[hd]at this;simpa using this
 ·have:=all l i hi;simp only[Xf,VH]at this;rcases this with h|h
  ·omega
  ·have:=all h j hj;rw[a]at this;simpa using this
 ·have:=all h8 i hi;simp only[Xf,VH]at this;rcases this with h|h
  ·omega
  ·have:=all h j hj;rw[a,hd]at this;simpa[hl]using this
 ·have:=all q i hi;simp only[Xf,VH]at this;rcases this with h|h
  ·omega
  ·have:=all h j hj;rw[a,hd]at this;simpa using this
structure I6 (ops:Array Oper) (m:Nat) (fl:List Bool) (ls:Array Bool) (a a₁:Act):Prop where
 lO:a.defers=a₁.defers
 size:a.tmps.size=a₁.tmps.size
 tmp:∀k,(∀j,j<m->fl.getD j false=true->ls.getD j true=false->cY ops j≠some k)->a.eval (.tmp k)=a₁.eval (.tmp k)
def PK(P:Program)(ops:Array Oper)(m:Nat)(fl:List Bool)(ls:Array Bool)(a₁:Act):Prop:=
 ∀j o d,j<m->fl.getD j false=true->ls.getD j true=false->ops[j]? =some o->o.dst=some d->∀w,(execOp a₁.eval o).run P w= .ok (.value (a₁.eval (.tmp d))) w
theorem HC{i:Nat}{o:Oper}(ho:ops[i]? =some o){k:Nat}(hk:Operand.tmp k∈o.op.operands):k∈fk ops i:=by
 unfold fk;rw[ho];exact Wr _ (XZ.2 ⟨.tmp k,by simpa using hk,rfl⟩)
theorem qC{i:Nat}{o:Oper}{a a₁:Act}(ho:ops[i]? =some o)(hs:∀cs b,o.op≠ .select cs b)(h:∀k∈fk ops i,a.eval (.tmp k)=a₁.eval (.tmp k)):execOp a.eval o=execOp a₁.eval o:=by
 refine execOp_congr o hs λx hx=>?_
 match x,hx with
 | .tmp k,hx=>exact h k (HC ho hx)
 | .const v,_=>rfl
 | .global g,_=>rfl
 | .func g,_=>rfl
theorem QM{a a₁:Act}(hd:a.defers=a₁.defers)(hs:a.tmps.size=a₁.tmps.size)(h:∀k,a.eval (.tmp k)=a₁.eval (.tmp k)):a=a₁:=by
 obtain⟨t,d⟩:=a;obtain⟨t',b⟩:=a₁;simp only at hd hs;subst hd;congr;apply ZE hs;intro i h1 h2;have:=h i;simpa[Act.eval,h1,h2]using this
theorem lz(a:Act){d:Nat}(hd:d<a.tmps.size)(v:Value)(k:Nat):(a.put (some d) v).eval (.tmp k)=if k=d then v else a.eval (.tmp k):=by
 split
 ·rename_i e;subst e;simp[Act.put,Act.eval,hd]
 ·rename_i e;exact Act.eval_put (λc b heq=>by cases b;cases heq;exact e rfl)
def Jb(b:Act->World->Prop):Exit->Act->World->Prop
 | .normal,a,w=>b a w
 |_,_,_=>False
theorem Mt{o:Oper}{a a₁:Act}{w}{K g:Act->World->Prop}{i:Act->World->Prop}{Q:Exit->Act->World->Prop}(he:execOp a.eval o=execOp a₁.eval o)(hd:a.defers=a₁.defers)(b:o.wp P a₁ w K (Jb i))(h:∀ds v w',K (({a₁ with defers:=ds}:Act).put o.dst v) w'->g (({a with defers:=ds}:Act).put o.dst v) w'):o.wp P a w g Q:=by
 have h1:∀v w',K (a₁.put o.dst v) w'->g (a.put o.dst v) w':=λv w' hk=>by
  have:=h a₁.defers v w' hk;rw[<-hd]at this;exact this
 unfold Oper.wp at*;rw[he];generalize (execOp a₁.eval o).run P w=x at*;cases x with
 |ok n w'=>
  cases n<;>simp only[Oper.upon]at b ⊢
  case value v=>exact h1 _ _ b
  case skip=>exact h1 _ _ b
  case defer d=>rw[hd];exact h _ _ _ b
  case enter f c=>exact Calls.mono b (λe j he=>by cases e<;>first|exact h1 _ _ he|exact he.elim|exact(he.elim λ_ h=>h.elim λ_ h=>h.elim))
  case row r c=>exact Rows.mono b (λ_ _ he=>h1 _ _ he)
  all_goals exact b.elim
 |halt x w'=>cases x<;>simp only[Oper.upon]at b ⊢ <;>exact b.elim
theorem KF{f m:Nat}{fl:List Bool}(y:Form ops f m fl)(G:∀(i:Nat) (o:Oper),ops[i]? =some o->∀cs b,o.op≠ .select cs b)(aj:∀j,j<m->∃d,cY ops j=some d){Qn:Act->World->Prop}{Q:Exit->Act->World->Prop}(hQ:∀a w,Qn a w->Q .normal a w):
  ∀(fuel k r:Nat) (ls:Array Bool) (a a₁:Act) (w:World),k+r=ops.size->m<=k->ls.size=ops.size->(∀i,k<=i->i<ops.size->ls.getD i true=false)->(∀i,m<=i->i<k->ls.getD i true=true)->(∀i,i<m->fl.getD i false=false->ls.getD i true=true)->Down ops ls->fuel=bX ls m+r->
   I6 ops m fl ls a a₁->PK P ops m fl ls a₁->(∀j d,j<m->cY ops j=some d->d<a₁.tmps.size)->wpOps P ops (Jb Qn) (List.range' k r) a₁ w->wpAny P .any ops Q fuel ls a w:=by
 intro fuel;induction fuel with
 |zero=>
  intro k r ls a a₁ w hk hm D Y V hC Z an l K J h;have hr:r=0:=by omega
  subst hr;have hu:bX ls m=0:=by omega
  have aa:∀i,i<ops.size->ls.getD i true=true:=λi hi=>by
   rcases Ww i m with H|H
   ·exact dO hu i H
   ·exact V i H (by omega)
  have au:Region.ready .any ops ls=[]:=by
   apply XM.2;intro i hi;obtain⟨h1,h2,_⟩:=dh.1 hi;rw[aa i h1]at h2;cases h2
  have:a=a₁:=QM l.lO l.size λk=>l.tmp k λj hj _ hl=>by
   rw[dO hu j hj]at hl;cases hl
  subst this;exact⟨au,hQ a w h⟩
 |succ fuel ih=>
  intro k r ls a a₁ w hk hm D Y V hC Z an l K J h;have W:∀b c (i:Nat),i<ops.size->ls.getD i b=ls.getD i c:=λb c i hi=>by simp[show i<ls.size by omega]
  have ar:Region.ready .any ops ls≠[]:=by
   rcases Xz (bX ls m)with hu|hu
   ·have S:k<ops.size:=by omega
    have:k∈Region.ready .any ops ls:=dh.2 ⟨S,Y k (Vh _) S,λj hj=>by
     have:=y.oH k S j hj;rw[W false true j (by omega)];rcases Ww j m with H|H
     ·exact dO hu j H
     ·exact V j H this⟩
    intro h0;rw[h0]at this;cases this
   ·obtain⟨i,h1,h2,h3⟩:=iw hu;have hle:=y.le;have:i∈Region.ready .any ops ls:=dh.2 ⟨by omega,h2,λj hj=>by
     have:=y.oH i (by omega) j hj;rw[W false true j (by omega)];exact h3 j this⟩
    intro h0;rw[h0]at this;cases this
  refine⟨λh0=>absurd h0 ar,λi hi=>?_⟩;obtain⟨z,B,F⟩:=dh.1 hi;have ho:ops[i]? =some ops[i]:=by simp[z]
  have U:Region.wanted ops[i] (yielded ops a.tmps)=true:=by unfold Region.wanted;rw[y.ng i _ ho]
  have g:∀(j:Nat) b,(ls.setIfInBounds i true).getD j b=if j=i then true else ls.getD j b:=λj b=>by
   by_cases e:i=j
   ·subst e;simp[show i<ls.size by omega]
   ·rw[Vk (λh=>e h.symm),Vz,Vz,VD e]
  have E:Down ops (ls.setIfInBounds i true):=λj hj s q x=>by
   rw[g];split
   ·rfl
   ·rw[g]at hj;split at hj
    ·rename_i e;subst e;exact F q x
    ·exact Z j hj s q x
  unfold wpOp;rw[ho];simp only[U,Xr];rcases Ww i m with t|t
  ·
   have al:fl.getD i false=true:=by
    cases hb:fl.getD i false with
    |true=>rfl
    |false=>rw[hC i t hb]at B;cases B
   cases hd:(ops[i]).dst with
   |none=>
    obtain⟨d,ab⟩:=aj i t;simp only[cY,ho,Wq]at ab;have:=hd.symm.trans ab;cases this
   |some d=>
    have ad:cY ops i=some d:=by simp only[cY,ho,Wq];exact hd
    have af:=K i ops[i] d t al B ho hd w;have hex:execOp a.eval ops[i]=execOp a₁.eval ops[i]:=qC ho (G i _ ho) λq x=>l.tmp q λj hj _ n p=>by
     have:=(y.rd i t q x j hj p).2;have:=F j this;rw[W false true j (by omega),n]at this;cases this
    left;unfold Oper.wp;rw[hex,af];simp only[Oper.upon];rw[hd];have ag:=J i d t ad;refine ih k r _ _ a₁ w hk hm (by simpa using D) (λj hj s=>by rw[g,Vk (by omega)];exact Y j hj s) (λj hj s=>by rw[g,Vk (by omega)];exact V j hj s) (λj hj s=>?_) E ?_ ⟨by simpa[Act.put]using l.lO,by simpa[Act.put]using l.size,λq x=>?_⟩ (λj o d' hj u n C p w2=>K j o d' hj u (by rw[g]at n;split at n<;>first|(cases n;done)|exact n) C p w2) J h
    ·rw[g];split
     ·rfl
     ·exact hC j hj s
    ·have:=iy B t (by have:=y.le;omega);omega
    ·rw[lz a (by rw[l.size];exact ag)];split
     ·rename_i e;rw[e]
     ·rename_i e;refine l.tmp q λj hj u n p=>?_;by_cases e2:j=i
      ·subst e2;rw[ad]at p;cases p;exact e rfl
      ·exact x j hj u (by rw[g,Vk e2];exact n) p
  ·
   have ao:i=k:=by
    rcases Ww i k with H|H
    ·rw[V i t H]at B;cases B
    ·rcases Ww k i with X|X
     ·have ak:fl.getD k false=false:=by
       have:=y.Tn;simp[Qo,V4 (show fl.length<=k by omega)]
      have:=eK D Z y.oH f i k z (y.TM i z t k X ak) F;rw[W false true k (by omega),Y k (Vh _) (by omega)]at this;cases this
     ·omega
   subst ao;obtain⟨r',rfl⟩:∃r',r=r'+1:=⟨r - 1,by omega⟩;rw[XQ,wpOps_cons]at h;unfold wpOp at h;rw[ho]at h;have M:Region.wanted ops[i] (yielded ops a₁.tmps)=true:=by unfold Region.wanted;rw[y.ng i _ ho]
   simp only[M,Xr]at h;have hh:=h.resolve_right (λ⟨_,_,_,x⟩=>x);have hex:execOp a.eval ops[i]=execOp a₁.eval ops[i]:=qC ho (G i _ ho) λq x=>l.tmp q λj hj u n p=>by
    have:=eK D Z y.oH f i j z (y.use i z t j hj u q p x) F;rw[W false true j (by have:=y.le;omega),n]at this;cases this
   left;refine Mt hex l.lO hh λR v w' hK=>?_;have ah:∀d,(ops[i]).dst=some d->cY ops i=some d:=λd hd=>by simp only[cY,ho,Wq];exact hd
   refine ih (i+1) r' _ _ _ w' (by omega) (by omega) (by simpa using D) (λj hj s=>by rw[g,Vk (by omega)];exact Y j (by omega) s) (λj hj s=>?_) (λj hj s=>by rw[g,Vk (by omega)];exact hC j hj s) E ?_ ⟨?_,?_,λq x=>?_⟩ (λj o d hj u n C p aw=>?_) (λj d hj p=>?_) hK
   ·rw[g];split
    ·rfl
    ·exact V j hj (by omega)
   ·have:bX (ls.setIfInBounds i true) m=bX ls m:=by
     have:∀q,q<=m->bX (ls.setIfInBounds i true) q=bX ls q:=by
      intro q;induction q with
      |zero=>intro _;rfl
      |succ q av=>
       intro x;simp only[bX];rw[av (by omega),g q true,Vk (show ¬q=i by omega)]
     exact this m (Vh _)
    omega
   ·cases(ops[i]).dst<;>rfl
   ·cases(ops[i]).dst<;>simpa[Act.put]using l.size
   ·have T:∀j,j<m->fl.getD j false=true->ls.getD j true=false->cY ops j≠some q:=λj hj u n=>x j hj u (by rw[g,Vk (by omega)];exact n);cases hd:(ops[i]).dst with
    |none=>exact l.tmp q T
    |some d=>
     by_cases A:d<a.tmps.size
     ·rw[lz _ (by simpa using A),lz _ (by rw[<-l.size];exact A)];split
      ·rfl
      ·exact l.tmp q T
     ·have e1:({a with defers:=R}:Act).put (some d) v= {a with defers:=R}:=by simp[Act.put,Array.setIfInBounds,A]
      have e2:({a₁ with defers:=R}:Act).put (some d) v= {a₁ with defers:=R}:=by simp[Act.put,Array.setIfInBounds,<-l.size,A]
      rw[e1,e2];exact l.tmp q T
   ·have O:ls.getD j true=false:=by rw[g,Vk (by omega)]at n;exact n
    have aq:=K j o d hj u O C p aw;have ae:cY ops j=some d:=by simp only[cY,C,Wq];exact p
    have key:∀q,(q∈fk ops j\/q=d)->(({a₁ with defers:=R}:Act).put (ops[i]).dst v).eval (.tmp q)=a₁.eval (.tmp q):=λq x=>by
     refine Act.eval_put (a:= {a₁ with defers:=R}) λe he heq=>?_;cases heq;rcases y.wr i z t j hj u q (ah q he)with this|hr
     case inr=>
      have:=eK D Z y.oH f i j z hr F;rw[W false true j (by have:=y.le;omega),O]at this;cases this
     rcases x with x|rfl
     ·exact this.2 x
     ·exact this.1 ae
    have ai:execOp (({a₁ with defers:=R}:Act).put (ops[i]).dst v).eval o=execOp a₁.eval o:=qC C (G j o C) λq x=>key q (.inl x);rw[ai,aq,key d (.inr rfl)]
   ·have:=J j d hj p;cases(ops[i]).dst<;>simpa[Act.put]using this
theorem o4:∀(l:List Oper) (ps:List PV) (t:cd) (k:Nat) (p:PV),look k (qt l ps t)=some p->(∃(j:Nat) (o:Oper),l[j]? =some o/\o.dst=some k/\ps[j]? =some p)\/look k t=some p
 | [],_,t,k,p,h=>.inr (by simpa[qt]using h)
 |_::_,[],t,k,p,h=>.inr (by simpa[qt]using h)
 |o::l,q::ps,t,k,p,h=>by
  simp only[qt]at h;rcases o4 l ps _ k p h with⟨j,c,h1,h2,b⟩|a
  ·exact .inl ⟨j+1,c,by simpa using h1,h2,by simpa using b⟩
  ·cases hd:o.dst with
   |none=>rw[hd]at a;exact .inr a
   |some d=>
    rw[hd]at a;simp only[look]at a;rw[VZ]at a;split at a
    ·rename_i he;have:=VF he;subst this;cases a;exact .inl ⟨0,o,rfl,hd,rfl⟩
    ·exact .inr a
section
variable {F:Nat->Prop} {base:Nat} {E:Env} {σ:bH} {t:cd} {l:List Oper} {ps:List PV} {fl:List Bool} {f m:Nat}
structure nX (N m:Nat) (l:List Oper) (ps:List PV) (E:Env) (t:cd) (w:World) (dn:Nat->Prop) (a:Act) (w':World):Prop where
 ext:Ext w w'
 lO:a.defers=[]
 size:a.tmps.size=N
 t0:eF E w' a.eval t
 mg:∀j,j<m->dn j->∀d p,cY l.toArray j=some d->ps[j]? =some p->dj E w' (a.eval (.tmp d)) p
theorem kY{i:Nat}{o:Oper}(h:(l.take m)[i]? =some o):i<m/\l.toArray[i]? =some o/\cY l.toArray i=o.dst:=by
 rw[Wn]at h;split at h
 ·rename_i hi;refine⟨hi,by simpa using h,?_⟩;simp only[cY];have:l.toArray[i]? =some o:=by simpa using h
  rw[this];rfl
 ·cases h
theorem sJ{dn:Nat->Prop}{a:Act}{w w'}(hg:nX N m l ps E t w dn a w'){i:Nat}(hi:i<=m){ks:List Nat}(c:∀j k,j<i->k∈ks->cY l.toArray j=some k->dn j):eF E w' a.eval (jx (qt ((l.take m).take i) (ps.take i) t) ks):=λk p hk=>by
 obtain⟨h1,h2⟩:=kM ks k p hk;rcases o4 _ _ _ k p h2 with⟨j,o,b,d,e⟩|h
 ·rw[Wn]at b;split at b
  ·rename_i hj;obtain⟨n,q,g⟩:=kY b;rw[Wn,Vn hj]at e;exact hg.mg j (by omega) (c j k hj h1 (by rw[g];exact d)) k p (by rw[g];exact d) e
  ·cases b
 ·exact hg.t0 k p h
theorem xp{dn:Nat->Prop}{a:Act}{w w' g}(y:Form l.toArray f m fl)(r:∀i d,i<m->cY l.toArray i=some d->look d t=none)(hg:nX N m l ps E t w dn a w')(n:Ext w' g){i d:Nat}{p}(hi:i<m)(hd:cY l.toArray i=some d)(h:d<N)(hp:ps[i]? =some p){v}(hv:dj E g v p):
  nX N m l ps E t w (λj=>dn j\/j=i) (a.put (some d) v) g:=by
 refine⟨hg.ext.trans n,by simpa[Act.put]using hg.lO,by simpa[Act.put]using hg.size,λk q hk=>?_,λj hj o u q b s=>?_⟩
 ·have c:k≠d:=λe=>by subst e;rw[r i k hi hd]at hk;cases hk
  rw[lz a (by rw[hg.size];exact h),Vk c];exact(hg.t0 k q hk).ext n
 ·rw[lz a (by rw[hg.size];exact h)];by_cases e:j=i
  ·subst e;rw[hd]at b;cases b;rw[hp]at s;cases s;rw[Vn rfl];exact hv
  ·have c:u≠d:=λz=>by
    subst z;rcases Ww i j with x|x
    ·exact y.ss j i hj x (by rw[hd,b])
    ·exact y.ss i j hi (by omega) (by rw[hd,b])
   rw[Vk c];exact(hg.mg j hj (o.resolve_right e) u q b s).ext n
theorem nX.mono{dn b:Nat->Prop}{a w w'}(h:nX N m l ps E t w dn a w')(hd:∀j,j<m->b j->dn j):nX N m l ps E t w b a w':=⟨h.ext,h.lO,h.size,h.t0,λj hj c=>h.mg j hj (hd j hj c)⟩
theorem Ks(H:Form l.toArray f m fl)(O:m<=l.length)(B:∀i d,i<m->cY l.toArray i=some d->look d t=none)(hc:kS P N l.toArray σ (l.take m) ps fl t){ls:Array Bool}{a w w'}(hg:nX N m l ps E t w (λj=>ls.getD j true=true) a w')(o:∀i,i<m->fl.getD i false=false->ls.getD i true=true):
  ∃a₁,I6 l.toArray m fl ls a a₁/\nX N m l ps E t w (λ_=>True) a₁ w':=by
 obtain⟨M,C,r⟩:=hc.data;have u:(l.take m).length=m:=by simp;omega
 have key:∀q,q<=m->∃b,I6 l.toArray m fl ls a b/\nX N m l ps E t w (λj=>ls.getD j true=true\/j<q) b w':=by
  intro q;induction q with
  |zero=>intro _;exact⟨a,⟨rfl,rfl,λ_ _=>rfl⟩,hg.mono λj _ h=>h.resolve_right (by omega)⟩
  |succ q ih=>
   intro R;obtain⟨b,c,g⟩:=ih (by omega);cases hb:ls.getD q true with
   |true=>exact⟨b,c,g.mono λj _ h=>by
     rcases h with h|h
     ·exact .inl h
     ·by_cases e:j=q
      ·subst e;exact .inl hb
      ·exact .inr (by omega)⟩
   |false=>
    have n:fl.getD q false=true:=by
     cases K:fl.getD q false with
     |true=>rfl
     |false=>rw[o q (by omega) K]at hb;cases hb
    have ho:(l.take m)[q]? =some ((l.take m)[q]'(by omega)):=Vm (by omega);obtain⟨_,Q,z⟩:=kY ho;have x:ps[q]? =some (ps[q]'(by omega)):=by simp
    have A:fl[q]? =some true:=by
     have:q<fl.length:=by rw[C,u];omega
     simp[this]at n ⊢;exact n
    have D:=r q _ _ _ ho x A;obtain⟨d,hd,p⟩:=D.dst;obtain⟨_,ks,hks,J⟩:=D.r rfl;have y:=sJ g (i:=q) (by omega) (ks:=ks) (λj k hj _ _=>.inr hj);obtain⟨v,_,hv⟩:=J E b.eval w' (fZ b) y;have s:cY l.toArray q=some d:=by rw[z];exact hd
    refine⟨b.put (some d) v,⟨by simpa[Act.put]using c.lO,by simpa[Act.put]using c.size,λk hk=>?_⟩,(xp H B g (XH _) (by omega) s p x hv).mono λj _ h=>?_⟩
    ·have G:k≠d:=λe=>hk q (by omega) n hb (by rw[s,e]);rw[lz b (by rw[g.size];exact p),Vk G];exact c.tmp k hk
    ·rcases h with h|h
     ·exact .inl (.inl h)
     ·by_cases e:j=q
      ·exact .inr e
      ·exact .inl (.inr (by omega))
 obtain⟨b,h1,h2⟩:=key m (Vh _);exact⟨b,h1,h2.mono λj hj _=>.inr hj⟩
theorem J8(z:m<=l.length)(hc:kS P N l.toArray σ (l.take m) ps fl t){a w w'}(hg:nX N m l ps E t w (λ_=>True) a w')(ls:Array Bool):PK P l.toArray m fl ls a:=λj o d hj u _ ho hd s=>by
 obtain⟨y,r,b⟩:=hc.data;have e:(l.take m).length=m:=by simp;omega
 have g:(l.take m)[j]? =some o:=by rw[Wn,Vn hj];simpa using ho
 have h:ps[j]? =some (ps[j]'(by omega)):=by simp
 have q:fl[j]? =some true:=by
  have:j<fl.length:=by rw[r,e];omega
  simp[this]at u ⊢;exact u
 have D:=b j _ _ _ g h q;obtain⟨c,ks,hks,x⟩:=D.r rfl;have k:=sJ hg (i:=j) (by omega) (ks:=ks) (λ_ _ _ _ _=>trivial);obtain⟨v,n,hv⟩:=x E a.eval w' (fZ a) k;have p:cY l.toArray j=some d:=by rw[(kY g).2.2];exact hd
 have:=c.Uj E w' _ _ (hg.mg j hj trivial d _ p h) hv;rw[this];exact n s
end
theorem dE{id:Nat}{l:List Oper}{t t' σ}{Q:Exit->St->Prop}(m f:Nat){fl ps}(hm:P.follows .mixedOrders=true)(hc:kS P N l.toArray σ (l.take m) ps fl t)(hB:(NM l.toArray f m fl&&Region.noSelect l.toArray)=true)(aA:Nat.ble m l.length=true)
  (aq:((l.take m).all λo=>o.dst.all λd=>(look d t).isNone)=true) (ag:Sub (qt (l.take m) ps t) t') (hw:WR P N L l.toArray (l.drop m) ⟨t',σ⟩ (λs=>Q .normal s)):W P N L (.region id l.toArray true) ⟨t,σ⟩ Q:=λF base E₀ w₀ E a w aj hs=>by
 simp only[Vx]at hB;have C:=Ha hB.1;have B:m<=l.length:=Nat.ble_eq.mp aA;obtain⟨aH,aJ,G⟩:=hc.data;have aF:(l.take m).length=m:=by simp;omega
 have J:∀i d,i<m->cY l.toArray i=some d->look d t=none:=λi d hi hd=>by
  have ho:(l.take m)[i]? =some ((l.take m)[i]'(by omega)):=Vm (by omega);have:=VG.1 aq _ (VE ho);rw[(kY ho).2.2]at hd;rw[hd]at this;simpa using this
 have H:∀i,i<m->∃d,cY l.toArray i=some d/\d<N:=λi hi=>by
  have ho:(l.take m)[i]? =some ((l.take m)[i]'(by omega)):=Vm (by omega);have hp:ps[i]? =some (ps[i]'(by omega)):=by simp
  have M:fl[i]? =some (fl[i]'(by omega)):=by simp
  obtain⟨d,h1,h2⟩:=(G i _ _ _ ho hp M).dst;exact⟨d,by rw[(kY ho).2.2];exact h1,h2⟩
 have af:∀(i:Nat) (o:Oper),l.toArray[i]? =some o->∀cs b,o.op≠ .select cs b:=λi o ho cs b=>Region.noSelect_spec hB.2 i o cs b ho;have main:∀(g:Nat) (ls:Array Bool) (a:Act) (w':World),ls.size=l.toArray.size->(∀i,m<=i->i<l.toArray.size->ls.getD i true=false)->Down l.toArray ls->g=bX ls m+(l.toArray.size - m)->nX N m l ps E t w (λj=>ls.getD j true=true) a w'->
   wpAny P .any l.toArray (λe X w'=>qo F base N E₀ w₀ (Q e) X w') g ls a w':=by
  have xR:∀(g:Nat) (ls:Array Bool) (a:Act) (w':World),ls.size=l.toArray.size->(∀i,m<=i->i<l.toArray.size->ls.getD i true=false)->Down l.toArray ls->g=bX ls m+(l.toArray.size - m)->nX N m l ps E t w (λj=>ls.getD j true=true) a w'->
    (∀i,i<m->fl.getD i false=false->ls.getD i true=true)->wpAny P .any l.toArray (λe X w'=>qo F base N E₀ w₀ (Q e) X w') g ls a w':=by
   intro g ls a w' y n x A hg u;obtain⟨a₁,ai,r⟩:=Ks C B J hc hg u;have ae:dT F base N ⟨t',σ⟩ E a₁ w':=by
    refine⟨hs.sat.ext r.ext,eF.sub (λk p hk=>?_) ag,r.lO,r.size⟩;rcases o4 _ _ _ k p hk with⟨j,o,h1,h2,Z⟩|Y
    ·obtain⟨hj,_,h4⟩:=kY h1;exact r.mg j hj trivial k p (by rw[h4];exact h2) Z
    ·exact r.t0 k p Y
   have DW:=hw F base E₀ w₀ E a₁ w' (aj.on (.ext r.ext) (Zz r.ext hs.sat)) ae (Jb λX w'=>qo F base N E₀ w₀ (Q .normal) X w') m (λX w' hp=>hp) (λj=>by simp);refine KF C af (λj hj=>(H j hj).imp λ_ h=>h.1) (λa w h=>h) g m (l.toArray.size - m) ls a a₁ w' (by have:=C.le;omega) (Vh _) y n (λi h1 h2=>by omega) u x A ai (J8 B hc r ls) (λj d hj hd=>?_) (by simpa using DW);obtain⟨d',h1,h2⟩:=H j hj;rw[hd]at h1;cases h1;rw[r.size];exact h2
  intro g;induction g with
  |zero=>
   intro ls a w' y n x A hg;exact xR 0 ls a w' y n x A hg (λi hi _=>dO (m:=m) (by omega) i hi)
  |succ g ih=>
   intro ls a w' y n x A hg;by_cases u:∀i,i<m->fl.getD i false=false->ls.getD i true=true
   ·exact xR (g+1) ls a w' y n x A hg u
   ·have hle:=C.le;obtain⟨K,aw,ax,S⟩:∃K,K<m/\fl.getD K false=false/\ls.getD K true=false:=by
     apply VQ;intro aC;refine u λi hi M=>?_;cases hb:ls.getD i true with
     |true=>rfl
     |false=>exact absurd ⟨i,hi,M,hb⟩ aC
    have M:∀b c (i:Nat),i<l.toArray.size->ls.getD i b=ls.getD i c:=λb c i hi=>by simp only[Vz];simp[show i<ls.size by omega]
    have ab:0<bX ls m:=by
     rcases Xz (bX ls m)with h|h
     ·rw[dO h K aw]at S;cases S
     ·exact h
    obtain⟨i0,aG,au,av⟩:=iw ab;have aB:i0∈Region.ready .any l.toArray ls:=dh.2 ⟨by omega,au,λk hk=>by
     have:=C.oH i0 (by omega) k hk;rw[M false true k (by omega)];exact av k this⟩
    refine⟨λh0=>absurd aB (by rw[h0];simp),λi hi=>?_⟩;obtain⟨h1,h2,Z⟩:=dh.1 hi;have O:i<m:=by
     rcases Ww i m with Y|Y
     ·exact Y
     ·have:=eK y x C.oH f i K h1 (C.TM i h1 Y K (by omega) ax) Z;rw[M false true K (by omega),S]at this;cases this
    have ho:(l.take m)[i]? =some ((l.take m)[i]'(by omega)):=Vm (by omega);obtain⟨_,U,an⟩:=kY ho;have hp:ps[i]? =some (ps[i]'(by omega)):=by simp
    have ao:fl[i]? =some (fl[i]'(by omega)):=by simp
    have D:=G i _ _ _ ho hp ao;obtain⟨d,hd,ak⟩:=D.dst;obtain⟨ks,hks,hY⟩:=D.y;have al:cY l.toArray i=some d:=by rw[an];exact hd
    have ad:=sJ hg (i:=i) (by omega) (ks:=ks) (λj k hj hk ay=>by
     have az:k∈fk l.toArray i:=by
      unfold fk;rw[U];exact hks k hk
     have:=Z j (C.rd i O k az j (by omega) ay).2;rw[M false true j (by omega)]at this;exact this)
    unfold wpOp;rw[U];have V:Region.wanted ((l.take m)[i]'(by omega)) (yielded l.toArray a.tmps)=true:=by unfold Region.wanted;rw[C.ng i _ U]
    simp only[V,Xr];left;refine sj (hY F base E a.eval w' (fZ a) (hs.sat.ext hg.ext) ad) λv aE hE hv=>?_;rw[hd];have z:∀(j:Nat) b,(ls.setIfInBounds i true).getD j b=if j=i then true else ls.getD j b:=λj b=>by
     by_cases e:i=j
     ·subst e;simp[show i<ls.size by omega]
     ·rw[Vk (λh=>e h.symm),Vz,Vz,VD e]
    refine ih _ _ aE (by simpa using y) (λj hj R=>by rw[z j true,Vk (show ¬j=i by omega)];exact n j hj R) (λj hj R q hq=>?_) (by have:=iy h2 O (by omega);omega) ((xp C J hg hE O al ak hp hv).mono λj hj T=>?_)
    ·rw[z];split
     ·rfl
     ·rw[z]at hj;split at hj
      ·rename_i e;subst e;exact Z q hq
      ·exact x j hj R q hq
    ·rw[z]at T;split at T
     ·rename_i e;exact .inr e
     ·exact .inl T
 obtain⟨ah,ds⟩:=a;refine wp_region_any hm ?_;have hE:Ext w {w with drawn:=w.drawn+1}:=⟨rfl,rfl,rfl,Vh _,λ_ _=>rfl⟩;have aD:∀k,k<=l.length->bX (Array.replicate l.toArray.size false) k=k:=by
  intro k;induction k with
  |zero=>intro _;rfl
  |succ k ih=>
   intro hk;simp only[bX];rw[ih (by omega),gI _ _ (by simp;omega)];simp
 refine main l.toArray.size (Array.replicate l.toArray.size false) ⟨ah,ds⟩ _ (by simp) (λi _ hi=>gI _ _ hi _) (λi hi ar=>?_) (by rw[aD m B];simp;omega) ⟨hE,hs.lO,hs.size,hs.tmp.goes (.ext hE),λj hj aa=>?_⟩
 ·rw[gI _ _ ar]at hi;cases hi
 ·rw[gI _ _ (by simp;omega)]at aa;cases aa
theorem lN{id:Nat}{l:List Oper}{y t t' σ}{Q:Exit->St->Prop}(m f:Nat){fl ps}(hm:P.follows .mixedOrders=true)(hc:kS P N l.toArray σ (l.take m) ps fl t)(e:(NM l.toArray f m fl&&Region.noSelect l.toArray)=true)(c:Nat.ble m l.length=true)
  (b:((l.take m).all λo=>o.dst.all λd=>(look d t).isNone)=true) (a:Sub (qt (l.take m) ps t) t') (hw:WR P N L l.toArray (l.drop m) ⟨t',σ⟩ (λs=>W P N L y s Q)):W P N L (.seq (.region id l.toArray true) y) ⟨t,σ⟩ Q:=an (dE m f hm hc e c b a hw)
end
inductive Tr (α:Type) where
 |l
 |n (a:Tr α) (k:Nat) (v:α) (b:Tr α)
def Tr.get{α:Type}:Tr α->Nat->Option α
 | .l,_=>none
 | .n a k v b,j=>bif Nat.beq j k then some v else bif Nat.blt j k then a.get j else b.get j
inductive Tr.yK {α:Type} (R:Nat->α->Prop):Tr α->Prop
 |l:Tr.yK R .l
 |n {a b:Tr α} {k:Nat} {v:α}:Tr.yK R a->R k v->Tr.yK R b->Tr.yK R (.n a k v b)
theorem Tr.yK.get{α:Type}{R:Nat->α->Prop}{t:Tr α}(h:Tr.yK R t){j:Nat}{v}:t.get j=some v->R j v:=by
 induction h with
 |l=>intro h;cases h
 | @n a b k u _ hr _ c d=>
  intro h;simp only[Tr.get,VZ]at h;split at h
  ·rename_i he;cases VF he;cases h;exact hr
  ·split at h
   ·exact c h
   ·exact d h
structure ux where
 tk:Tr (Option Nat)
 fo:Tr Nat
 el:Tr (Nat×Nat)
 st:Tr (List (Nat×Nat)×List Value)
 sl:Tr (Nat×Nat×List Value)
 rk:Tr (Nat×Nat×Nat×List Value)
 zk:Tr (List Value)
 bk:Tr Unit
 pk:Tr Unit
 ar:Tr (Nat×Nat)
 en:Tr Unit
structure ux.Ok (P:Program) (Φ:ux):Prop where
 tk:Φ.tk.yK λk v=>qU P k=some v
 fo:Φ.fo.yK λk v=>mB P (k / 100) (k % 100)=some v
 el:Φ.el.yK λk v=>uX P k=some v
 st:Φ.st.yK λk v=>Tb P k=some v
 sl:Φ.sl.yK λk v=>Qf P k=some v
 rk:Φ.rk.yK λk v=>Ae P k=some v
 zk:Φ.zk.yK λk v=>Gi P k=some v
 bk:Φ.bk.yK λk _=>wW P k=true
 pk:Φ.pk.yK λk _=>Ex P k=true
 ar:Φ.ar.yK λk v=>RL P k=some v
 en:Φ.en.yK λk _=>enters P k=true
class Has (P:Program) (Φ:outParam ux):Prop where
 ok:ux.Ok P Φ
def force{α:Type}:List α->Option (List α)
 | []=>some []
 |x::l=>match force l with
  |some r=>some (x::r)
  |none=>none
theorem force_eq{α:Type}:∀ {l r:List α},force l=some r->l=r
 | [],r,h=>by cases h;rfl
 |x::l,r,h=>by
  simp only[force]at h;split at h
  ·rename_i r' hr;cases h;rw[force_eq hr]
  ·cases h
def NR(xs:List PV)(k:Nat):Nat->Option (List PV)
 |0=>some []
 |n+1=>match xs[k]? with
  |some p=>match NR xs (k+1) n with
   |some r=>some (p::r)
   |none=>none
  |none=>none
theorem FC{xs:List PV}:∀ {n k:Nat} {ys:List PV},NR xs k n=some ys->(xs.drop k).take n=ys/\ys.length=n
 |0,k,ys,h=>by cases h;simp
 |n+1,k,ys,h=>by
  simp only[NR]at h;split at h
  ·rename_i p hp;split at h
   ·rename_i r hr;cases h;obtain⟨h1,h2⟩:=FC hr;have hlt:=(Vf.1 hp).1;have hx:xs[k]=p:=by rw[Vm hlt]at hp;exact XA hp
    refine⟨?_,by simp[h2]⟩;rw[YB hlt,List.take_succ_cons,h1,hx]
   ·cases h
  ·cases h
def part(xs:List PV)(k n:Nat):Option PV:=bif Nat.beq k 0&&Nat.beq xs.length n then some (.agg xs) else match NR xs k n with
 |some ys=>some (.agg ys)
 |none=>none
def Sb(op:BinOp)(a b:Int):Option PV:=
 match op with
 | .lss=>some (.raw (.bool (decide (a<b))))
 | .leq=>some (.raw (.bool (decide (a<=b))))
 | .gtr=>some (.raw (.bool (decide (b<a))))
 | .geq=>some (.raw (.bool (decide (b<=a))))
 | .eql=>some (.raw (.bool (decide (a=b))))
 | .neq=>some (.raw (.bool (decide (a≠b))))
 |_=>none
def QP(Φ:ux)(op:BinOp)(ty:TypeId):PV->PV->Option PV
 | .raw (.int .i64 a),.raw (.int .i64 b)=>Sb op a b
 | .raw (.bool a),.raw (.bool b)=>match Φ.bk.get ty with
  |some _=>match op with
   | .eql=>some (.raw (.bool (a==b)))
   | .neq=>some (.raw (.bool (!(a==b))))
   |_=>none
  |none=>none
 | .ptr _ _,.raw (.pointer none)=>match Φ.pk.get ty with
  |some _=>match op with
   | .eql=>some (.raw (.bool false))
   | .neq=>some (.raw (.bool true))
   |_=>none
  |none=>none
 | .cH _ _,.raw (.pointer none)=>match Φ.pk.get ty with
  |some _=>match op with
   | .eql=>some (.raw (.bool false))
   |_=>none
  |none=>none
 |_,_=>none
def iM(Φ:ux)(σ:bH)(t:cd):Op->Option PV
  | .move x=>aI t x
  | .assign x=>aI t x
  | .pick c a b=>match aI t c with
    |some (.raw (.bool true))=>aI t a
    |some (.raw (.bool false))=>aI t b
    |_=>none
  | .unOp .not _ x=>match aI t x with
    |some (.raw (.bool q))=>some (.raw (.bool (!q)))
    |_=>none
  | .binOp op ty x y _=>match aI t x with
    |some p=>match aI t y with
      |some q=>QP Φ op ty p q
      |none=>none
    |none=>none
  | .nilCheck x=>match aI t x with
    |some (.cH xs k)=>some (.cH xs k)
    |some (.ptr i k)=>some (.ptr i k)
    |some (.func f c)=>some (.func f c)
    |_=>none
  | .fieldAddr s x f=>bif Nat.blt f 100 then match Φ.fo.get (s*100+f)with
      |some off=>match aI t x with
        |some (.cH xs k)=>some (.cH xs (k+off))
        |some (.ptr i k)=>some (.ptr i (k+off))
        |_=>none
      |none=>none
    else none
  | .load ty x=>match Φ.tk.get ty with
    |some none=>match aI t x with
      |some (.cH xs k)=>xs[k]?
      |some (.ptr i k)=>match σ[i]? with
        |some (some blk)=>blk.xs[k]?
        |_=>none
      |_=>none
    |some (some n)=>match aI t x with
      |some (.cH xs k)=>part xs k n
      |some (.ptr i k)=>match σ[i]? with
        |some (some blk)=>part blk.xs k n
        |_=>none
      |_=>none
    |none=>none
  | .extract x k=>match aI t x with
    |some (.tuple xs)=>xs[k]?
    |_=>none
  | .makeFunc fn fs cs=>match fn with
    | .func f=>match fs.toList with
      | []=>match j6 t cs.toList with
        |some xs=>some (.func f xs)
        |none=>none
      |_=>none
    |_=>none
  | .box _ x=>match aI t x with
    |some p=>match nx p with
      |some xs=>some (.cH xs 0)
      |none=>none
    |none=>none
  | .build ty parts=>match Φ.st.get ty with
    |some (pl,z)=>match j7 t parts.toList with
      |some ps=>match mC (pl[·]?) (z.map .raw) ps with
        |some xs=>match force xs with
          |some ys=>some (.agg ys)
          |none=>none
        |none=>none
      |none=>none
    |none=>none
  | .buildSlice ty n parts=>match Φ.sl.get ty with
    | some (_, s, z) => bif Nat.blt 0 n && Nat.ble (n * s) 16777216 then match j7 t parts.toList with
        |some ps=>match mC (λi=>some (i*s,s)) (fN (z.map .raw) n) ps with
          |some xs=>match force xs with
            |some ys=>some (.slice n ys)
            |none=>none
          |none=>none
        |none=>none
      else bif Nat.beq n 0&&Nat.beq parts.size 0 then some (.slice 0 []) else none
    |none=>none
  | .call c=>match c.callee with
    | .builtin .len=>match c.args.toList,c.argTypes.toList with
      | [x],[ty]=>match Φ.el.get ty with
        |some _=>match aI t x with
          |some (.slice n _)=>some (.raw (.int .i64 n))
          |some (.raw (.slice none 0 0))=>some (.raw (.int .i64 0))
          |some (.own m)=>match σ[m]? with
            |some (some (.row _ _ n _))=>some (.raw (.int .i64 n))
            |_=>none
          |_=>none
        |none=>none
      |_,_=>none
    |_=>none
  |_=>none
section
variable {P:Program} {σ:bH} {t:cd} {o:Oper} {Φ:ux}
theorem zM{xs:List PV}{k n:Nat}{p}(h:part xs k n=some p):∃ys,p= .agg ys/\(xs.drop k).take n=ys/\ys.length=n:=by
 unfold part at h;rw[VZ]at h;split at h
 ·rename_i hc;simp only[Vx]at hc;have h1:=VF hc.1;have h2:=VF hc.2;subst h1;cases h;exact⟨xs,rfl,by rw[List.drop_zero,<-h2,VN],h2⟩
 ·split at h
  ·rename_i ys hy;cases h;exact⟨ys,rfl,FC hy⟩
  ·cases h
theorem RH(a:Φ.Ok P){op x y ty b p q r}(ho:o.op= .binOp op ty x y b)(hx:aI t x=some p)(hy:aI t y=some q)(h:QP Φ op ty p q=some r):bE P σ t o r:=by
 unfold QP at h;split at h
 ·unfold Sb at h;split at h<;>first|(cases h;done)|skip
  ·cases h;exact MD ho hx hy rfl
  ·cases h;exact SS ho hx hy rfl
  ·cases h;exact Qu ho hx hy rfl
  ·cases h;exact Gh ho hx hy rfl
  ·cases h;exact yD ho hx hy rfl
  ·cases h;exact Qv ho hx hy rfl
 ·split at h
  ·rename_i u hu;have hb:=a.bk.get hu;split at h
   ·cases h;exact yC ho hb hx hy rfl
   ·cases h;exact IV ho hb hx hy rfl
   ·cases h
  ·cases h
 ·split at h
  ·rename_i u hu;have hb:=a.pk.get hu;split at h
   ·cases h;exact MJ ho hb hx hy
   ·cases h;exact MK ho hb hx hy
   ·cases h
  ·cases h
 ·split at h
  ·rename_i u hu;have hb:=a.pk.get hu;split at h
   ·cases h;exact MI ho hb hx hy
   ·cases h
  ·cases h
 ·cases h
theorem yU{α:Type}{a:Array α}{l:List α}(h:a.toList=l):a=l.toArray:=by rw[<-h]
theorem Kg(s f:Nat):(s*100+f) / 100=s+f / 100/\(s*100+f) % 100=f % 100:=by omega
theorem oO(b:Φ.Ok P){op p}(ho:o.op=op)(h:iM Φ σ t op=some p):bE P σ t o p:=by
 unfold iM at h;split at h
 ·exact qS ho h
 ·exact fM ho h
 ·split at h
  ·rename_i hc;exact PG ho hc h
  ·rename_i hc;exact PF ho hc h
  ·cases h
 ·split at h
  ·rename_i hc;cases h;exact SW ho hc
  ·cases h
 ·split at h
  ·rename_i p' hp;split at h
   ·rename_i D A;exact RH b ho hp A h
   ·cases h
  ·cases h
 ·split at h
  ·rename_i hc;cases h;exact MF ho hc
  ·rename_i hc;cases h;exact MG ho hc
  ·rename_i hc;cases h;exact IW ho hc
  ·cases h
 ·rename_i s x f;rw[VZ]at h;split at h
  ·rename_i a;have a:=Nat.blt_eq.mp a;split at h
   ·rename_i off r;have e:=b.fo.get r;obtain⟨w,y⟩:=Kg s f;rw[w,y,Nat.div_eq_of_lt a,Yk a,Yf]at e;split at h
    ·rename_i hc;cases h;exact EY ho e hc
    ·rename_i hc;cases h;exact EZ ho e hc
    ·cases h
   ·cases h
  ·cases h
 ·split at h
  ·rename_i k;have hk:=b.tk.get k;split at h
   ·rename_i hc;exact yF ho hk hc h
   ·rename_i hc;split at h
    ·rename_i hi;exact aq ho hk hc hi h
    ·cases h
   ·cases h
  ·rename_i n k;have hk:=b.tk.get k;split at h
   ·rename_i hc;obtain⟨ys,rfl,h1,h2⟩:=zM h;exact iA ho hk hc h1 h2
   ·rename_i hc;split at h
    ·rename_i hi;obtain⟨ys,rfl,h1,h2⟩:=zM h;exact jD ho hk hc hi h1 h2
    ·cases h
   ·cases h
  ·cases h
 ·split at h
  ·rename_i hc;exact yE ho hc h
  ·cases h
 ·split at h
  ·split at h
   ·rename_i q;split at h
    ·rename_i hc;cases h;rw[yU q]at ho;exact ia ho hc
    ·cases h
   ·cases h
  ·cases h
 ·split at h
  ·rename_i hc;split at h
   ·rename_i hx;cases h;exact Mz ho hc hx
   ·cases h
  ·cases h
 ·split at h
  ·rename_i v;have hk:=b.st.get v;split at h
   ·rename_i j;split at h
    ·rename_i e;split at h
     ·rename_i g;cases h;cases force_eq g;exact gg ho hk j e
     ·cases h
    ·cases h
   ·cases h
  ·cases h
 ·split at h
  ·rename_i u;have hk:=b.sl.get u;rw[VZ]at h;split at h
   ·rename_i hn;simp only[Vx,XC,Xu]at hn;split at h
    ·rename_i j;split at h
     ·rename_i e;split at h
      ·rename_i g;cases h;cases force_eq g;exact so ho hk hn j e
      ·cases h
     ·cases h
    ·cases h
   ·rw[VZ]at h;split at h
    ·rename_i hn;simp only[Vx]at hn;have h1:=VF hn.1;have h2:=VF hn.2;subst h1;have z:=Array.eq_empty_of_size_eq_zero h2;rw[z]at ho;cases h;exact Aw ho hk
    ·cases h
  ·cases h
 ·rename_i c;split at h
  ·rename_i d;split at h
   ·rename_i x ty m l;split at h
    ·rename_i vf;have hk:=b.el.get vf;have i:o.op= .call {callee:=.builtin .len,args:= #[x],argTypes:= #[ty]}:=by
      rw[ho];obtain⟨c1,B,C⟩:=c;simp only at d m l;rw[d,yU m,yU l]
     split at h
     ·rename_i hc;cases h;exact E0 i hk hc
     ·rename_i hc;cases h;exact MB i hk hc
     ·rename_i hc;split at h
      ·rename_i hi;cases h;exact we i hk hc hi
      ·cases h
     ·cases h
    ·cases h
   ·cases h
  ·cases h
 ·cases h
theorem tu{t'}:∀ {l},(∀x∈l,aI t' x=aI t x)->j6 t' l=j6 t l
 | [],_=>rfl
 |x::l,h=>by simp only[j6,h x (VC ..),tu (λy hy=>h y (VB _ hy))]
theorem oU{t'}:∀ {l:List (Nat×Operand)},(∀x∈l,aI t' x.2=aI t x.2)->j7 t' l=j7 t l
 | [],_=>rfl
 |(i,x)::l,h=>by simp only[j7,h (i,x) (VC ..),oU (λy hy=>h y (VB _ hy))]
theorem AR{t'}(op:Op)(h:∀x∈op.operands,aI t' x=aI t x):iM Φ σ t' op=iM Φ σ t op:=by
 cases op with
 |move x=>exact h x (by simp[Op.operands])
 |assign x=>exact h x (by simp[Op.operands])
 |pick c a b=>simp only[iM,h c (by simp[Op.operands]),h a (by simp[Op.operands]),h b (by simp[Op.operands])]
 |unOp u ty x=>cases u<;>simp only[iM,h x (by simp[Op.operands])]
 |binOp b ty x y e=>simp only[iM,h x (by simp[Op.operands]),h y (by simp[Op.operands])]
 |nilCheck x=>simp only[iM,h x (by simp[Op.operands])]
 |fieldAddr s x f=>simp only[iM,h x (by simp[Op.operands])]
 |load ty x=>simp only[iM,h x (by simp[Op.operands])]
 |extract x k=>simp only[iM,h x (by simp[Op.operands])]
 |box ty x=>simp only[iM,h x (by simp[Op.operands])]
 |makeFunc fn fs cs=>
  have:j6 t' cs.toList=j6 t cs.toList:=tu λx hx=>h x (by simp only[Op.operands];exact Array.mem_append_right _ (by simpa using hx));simp only[iM,this]
 |build ty ps=>
  have:j7 t' ps.toList=j7 t ps.toList:=oU λx hx=>h x.2 (by simp only[Op.operands,List.mem_toArray,Vv];exact⟨x,hx,rfl⟩);simp only[iM,this]
 |buildSlice ty n ps=>
  have:j7 t' ps.toList=j7 t ps.toList:=oU λx hx=>h x.2 (by simp only[Op.operands,List.mem_toArray,Vv];exact⟨x,hx,rfl⟩);simp only[iM,this]
 |call c=>
  simp only[iM];split
  ·split
   ·rename_i x ty d _;rw[h x (by simp only[Op.operands,Call.operands];exact Array.mem_append_right _ (by rw[yU d];simp))]
   ·rfl
  ·rfl
 |_=>rfl
theorem BO{ks:List Nat}{k:Nat}(h:k∈ks):look k (jx t ks)=look k t:=by
 cases e:look k (jx t ks)with
 |some p=>exact((kM ks k p e).2).symm
 |none=>
  induction ks with
  |nil=>cases h
  |cons j ks ih=>
   simp only[jx]at e;by_cases a:k=j
   ·subst a;cases hl:look k t with
    |none=>rfl
    |some p=>rw[hl]at e;simp[look,Yg]at e
   ·have hm:k∈ks:=by cases h with|head=>exact absurd rfl a|tail _ b=>exact b
    split at e
    ·have hb:Nat.beq k j=false:=by rw[YX];exact λb=>a (VF b)
     simp only[look,hb,cond_false]at e;exact ih hm e
    ·exact ih hm e
theorem zh{ks:List Nat}{x}(h:∀k,x= .tmp k->k∈ks):aI (jx t ks) x=aI t x:=by
 cases x with
 |tmp k=>exact BO (h k rfl)
 |_=>rfl
def Mb(Φ:ux)(N:Nat)(ops:Array Oper)(σ:bH)(t:cd)(o:Oper):Option (Nat×PV):=
 match o.dst with
 |some d=>bif Nat.blt d N then match eL ops t o with
   |some true=>match iM Φ σ t o.op with
    |some p=>some (d,p)
    |none=>none
   |some false=>some (d,.raw undef)
   |none=>none
  else none
 |none=>none
def LR(Φ:ux)(N:Nat)(ops:Array Oper)(σ:bH):Nat->List Oper->cd->Option (List Oper×cd)
 |0,l,t=>some (l,t)
 |_+1,[],_=>none
 |n+1,o::l,t=>match Mb Φ N ops σ t o with
  |some x=>LR Φ N ops σ n l (x::t)
  |none=>none
variable {N L:Nat} {ops:Array Oper}
theorem fQ.a[b:Has P Φ](n:Nat){l a u t'}(h:LR Φ N ops σ n l t=some (a,u))(k:fQ P N ops σ a u t'):fQ P N ops σ l t t':=by
 induction n generalizing l t with
 |zero=>cases h;exact k
 |succ n ih=>
  cases l with
  |nil=>cases h
  |cons o l=>
   simp only[LR]at h;split at h
   ·rename_i x hx;have kk:=ih h;unfold Mb at hx;split at hx
    ·rename_i d hd;rw[VZ]at hx;split at hx
     ·rename_i hN;split at hx
      ·rename_i hw;split at hx
       ·rename_i p hp;cases hx;exact .val (oO b.ok rfl hp) hd hw hN kk
       ·cases hx
      ·rename_i hw;cases hx;exact .skip hd hw hN kk
      ·cases hx
     ·cases hx
    ·cases hx
   ·cases h
theorem eP.a[b:Has P Φ](n:Nat){l a u t'}(h:LR Φ N ops σ n l t=some (a,u))(k:eP P N ops σ a u t'):eP P N ops σ l t t':=by
 induction n generalizing l t with
 |zero=>cases h;exact k
 |succ n ih=>
  cases l with
  |nil=>cases h
  |cons o l=>
   simp only[LR]at h;split at h
   ·rename_i x hx;have kk:=ih h;unfold Mb at hx;split at hx
    ·rename_i d hd;rw[VZ]at hx;split at hx
     ·rename_i hN;split at hx
      ·rename_i hw;split at hx
       ·rename_i p hp;cases hx;refine .val (o.looksAt ops) (by simp) (oO b.ok rfl (op:=o.op) ?_) hd hw hN kk;rw[AR,hp];intro x hx;refine zh λk hk=>?_;subst hk;exact Wr _ (XZ.2 ⟨.tmp k,by simpa using hx,rfl⟩)
       ·cases hx
      ·rename_i hw;cases hx;exact .skip hd hw hN kk
      ·cases hx
     ·cases hx
    ·cases hx
   ·cases h
def dk(N:Nat)(ops:Array Oper)(t:cd)(o:Oper):Option Nat:=
 match o.dst with
 |some d=>bif Nat.blt d N then match eL ops t o with
   |some true=>some d
   |_=>none
  else none
 |none=>none
theorem fY{d:Nat}(h:dk N ops t o=some d):o.dst=some d/\eL ops t o=some true/\Nat.blt d N=true:=by
 unfold dk at h;split at h
 ·rename_i a hd;rw[VZ]at h;split at h
  ·rename_i hN;split at h
   ·rename_i hw;cases h;exact⟨hd,hw,hN⟩
   ·cases h
  ·cases h
 ·cases h
theorem fQ.v{rest t'}{d:Nat}{p}(hy:bE P σ t o p)(h:dk N ops t o=some d)(k:fQ P N ops σ rest ((d,p)::t) t'):fQ P N ops σ (o::rest) t t':=.val hy (fY h).1 (fY h).2.1 (fY h).2.2 k
theorem eP.v{rest t'}{d:Nat}{p}(ks:List Nat)(hy:bE P σ (jx t ks) o p)(hk:(ks.all λk=>(o.looksAt ops).contains k)=true)(h:dk N ops t o=some d)(k:eP P N ops σ rest ((d,p)::t) t'):eP P N ops σ (o::rest) t t':=.val ks hk hy (fY h).1 (fY h).2.1 (fY h).2.2 k
theorem aZ{rest}{K:St->Prop}{d:Nat}{p}(hy:bE P σ t o p)(h:dk N ops t o=some d)(k:WR P N L ops rest ⟨(d,p)::t,σ⟩ K):WR P N L ops (o::rest) ⟨t,σ⟩ K:=dA hy (fY h).1 (fY h).2.1 (fY h).2.2 k
theorem bW{rest σ'}{K:St->Prop}{d:Nat}{p}(hy:de P σ t o p σ')(h:dk N ops t o=some d)(k:WR P N L ops rest ⟨(d,p)::t,σ'⟩ K):WR P N L ops (o::rest) ⟨t,σ⟩ K:=eu hy (fY h).1 (fY h).2.1 (fY h).2.2 k
def lj(t:cd):List Nat->Option cd
 | []=>some []
 |k::ks=>match look k t with
  |some p=>match lj t ks with
   |some r=>some ((k,p)::r)
   |none=>none
  |none=>none
theorem aJ:∀ {ks:List Nat} {u},lj t ks=some u->Sub t u
 | [],u,h=>by cases h;exact Sub.nil _
 |k::ks,u,h=>by
  simp only[lj]at h;split at h
  ·rename_i p hp;split at h
   ·rename_i r hr;cases h;exact .cons hp (aJ hr)
   ·cases h
  ·cases h
theorem fQ.k(ks:List Nat){u}(h:lj t ks=some u):fQ P N ops σ [] t u:=.nil (aJ h)
theorem eP.k(ks:List Nat){u}(h:lj t ks=some u):eP P N ops σ [] t u:=.nil (aJ h)
theorem eX{c}{Q:Exit->St->Prop}(ks:List Nat){u}(h:lj t ks=some u)(k:W P N L c ⟨u,σ⟩ Q):W P N L c ⟨t,σ⟩ Q:=gQ (aJ h) k
theorem aF{K:St->Prop}(ks:List Nat){u}(h:lj t ks=some u)(k:K ⟨u,σ⟩):WR P N L ops [] ⟨t,σ⟩ K:=Dj (aJ h) (bM k)
def Oa:bH->Option Nat
 | []=>some 0
 |_::l=>match Oa l with
  |some n=>some (n+1)
  |none=>none
theorem FF:∀ {s:bH} {n:Nat},Oa s=some n->s.length=n
 | [],n,h=>by cases h;rfl
 |_::l,n,h=>by
  simp only[Oa]at h;split at h
  ·rename_i m hm;cases h;simp[FF hm]
  ·cases h
def OD:PV->Bool
 | .raw (.int _ _)=>true
 | .raw (.bool _)=>true
 | .raw (.string _)=>true
 | .raw (.slice _ _ _)=>true
 | .raw (.pointer _)=>true
 | .slice _ _=>true
 | .cH _ _=>true
 | .func _ _=>true
 | .ptr _ _=>true
 | .own _=>true
 |_=>false
theorem Le{p}(h:OD p=true):gN p:=by
 unfold OD at h;split at h<;>first|infer_instance|cases h
theorem Ld{xs:List PV}(h:xs.all OD=true):di xs:=⟨λi u hu=>Le (VG.1 h u (VE hu))⟩
def CV(Φ:ux)(t:cd)(σ:bH):Op->Option (PV×bH)
  | .alloc ty=>match Φ.zk.get ty with
    |some z=>match force (z.map PV.raw)with
      |some a=>match Oa σ with
        |some n=>match force (σ++[some (.cells ty a)])with
          |some s=>some (.ptr n 0,s)
          |none=>none
        |none=>none
      |none=>none
    |none=>none
  | .store ty x y=>match Φ.tk.get ty with
    | some k => match aI t x with
      | some (.ptr i off) => match aI t y with
        | some p => match σ[i]? with
          | some (some blk) => match nx p with
            |some ys=>match force ys with
              |some ys=>bif Nat.beq ys.length (k.getD 1)&&(Nat.ble (off+ys.length) blk.xs.length&&ys.all OD) then match force (over blk.xs off ys)with
                  |some b=>match force (σ.set i (some (blk.tG b)))with
                    |some s=>some (.raw undef,s)
                    |none=>none
                  |none=>none
                else none
              |none=>none
            |none=>none
          |_=>none
        |none=>none
      |_=>none
    |none=>none
  |_=>none
theorem vS(a : Φ.Ok P){op  p  σ' }(ho : o.op = op)(h : CV Φ t σ op = some (p, σ')) : de P σ t o p σ' := by
  unfold CV at h;split at h
  · split at h
    · rename_i b;split at h
      · rename_i c;cases force_eq c;split at h
        · rename_i hl;cases FF hl;split at h
          · rename_i hs;cases force_eq hs;cases h;exact nE ho (a.zk.get b)
          · cases h
        · cases h
      · cases h
    · cases h
  · split at h
    · rename_i hk;split at h
      · rename_i hx;split at h
        · rename_i hy;split at h
          · rename_i hi;split at h
            · rename_i hc;split at h
              · rename_i d;cases force_eq d;rw[VZ]at h;split at h
                · rename_i hb;simp only[Vx,Xu]at hb;have h1:=VF hb.1;haveI:=Ld hb.2.2;split at h
                  · rename_i b;cases force_eq b;split at h
                    · rename_i hs;cases force_eq hs;cases h;exact jr ho (a.tk.get hk) hx hy hc h1 hi hb.2.1
                    · cases h
                  · cases h
                · cases h
              · cases h
            · cases h
          · cases h
        · cases h
      · cases h
    · cases h
  · cases h
def Qm(Φ:ux)(N:Nat)(ops:Array Oper)(t:cd)(σ:bH)(o:Oper):Option (cd×bH):=
 match eL ops t o with
 |some true=>match o.dst with
  |some d=>bif Nat.blt d N then match iM Φ σ t o.op with
    |some p=>some ((d,p)::t,σ)
    |none=>match CV Φ t σ o.op with
     |some (p,s)=>some ((d,p)::t,s)
     |none=>none
   else none
  |none=>match CV Φ t σ o.op with
   |some (_,s)=>some (t,s)
   |none=>none
 |some false=>match o.dst with
  |some d=>bif Nat.blt d N then some ((d,.raw undef)::t,σ) else none
  |none=>none
 |none=>none
def Rv(Φ:ux)(N:Nat)(ops:Array Oper):Nat->List Oper->cd->bH->Option (List Oper×cd×bH)
 |0,l,t,σ=>some (l,t,σ)
 |_+1,[],_,_=>none
 |n+1,o::l,t,σ=>match Qm Φ N ops t σ o with
  |some (t',σ')=>Rv Φ N ops n l t' σ'
  |none=>none
theorem av[a:Has P Φ](n:Nat){l b u σ'}{K:St->Prop}(h:Rv Φ N ops n l t σ=some (b,u,σ'))(k:WR P N L ops b ⟨u,σ'⟩ K):WR P N L ops l ⟨t,σ⟩ K:=by
 induction n generalizing l t σ with
 |zero=>cases h;exact k
 |succ n ih=>
  cases l with
  |nil=>cases h
  |cons o l=>
   simp only[Rv]at h;split at h
   ·rename_i t' s' hx;have kk:=ih h;unfold Qm at hx;split at hx
    ·rename_i hw;split at hx
     ·rename_i d hd;rw[VZ]at hx;split at hx
      ·rename_i hN;split at hx
       ·rename_i p hp;cases hx;exact dA (oO a.ok rfl hp) hd hw hN kk
       ·split at hx
        ·rename_i hs;cases hx;exact eu (vS a.ok rfl hs) hd hw hN kk
        ·cases hx
      ·cases hx
     ·rename_i hd;split at hx
      ·rename_i hs;cases hx;exact bw (vS a.ok rfl hs) hd hw kk
      ·cases hx
    ·rename_i hw;split at hx
     ·rename_i d hd;rw[VZ]at hx;split at hx
      ·rename_i hN;cases hx;exact E9 hd hw hN kk
      ·cases hx
     ·cases hx
    ·cases hx
   ·cases h
def oQ(Φ:ux)(t:cd):Op->Option (Nat×List PV)
  | .call c=>match c.callee with
    | .value x=>match aI t x with
      | some (.func f cap) => match Φ.en.get f with
        |some _=>match j6 t c.args.toList with
          |some ps=>match cap with
            | []=>some (f,ps)
            |q::cap=>match force (ps++(q::cap))with
              |some a=>some (f,a)
              |none=>none
          |none=>none
        |none=>none
      |_=>none
    |_=>none
  |_=>none
theorem kV(b:Φ.Ok P){op:Op}{f:Nat}{ps:List PV}(h:oQ Φ t op=some (f,ps)):∃x args d cap g,op= .call {callee:=.value x,args:=args,argTypes:=d}/\enters P f=true/\aI t x=some (.func f cap)/\j6 t args.toList=some g/\g++cap=ps:=by
 unfold oQ at h;split at h
 ·rename_i c;obtain⟨c1,k,l⟩:=c;split at h
  ·rename_i x hx;simp only at hx;subst hx;split at h
   ·rename_i i;split at h
    ·rename_i a;split at h
     ·rename_i g j;split at h
      ·cases h;exact⟨_,_,_,_,_,rfl,b.en.get a,i,j,by simp⟩
      ·split at h
       ·rename_i e;cases h;exact⟨_,_,_,_,_,rfl,b.en.get a,i,j,force_eq e⟩
       ·cases h
     ·cases h
    ·cases h
   ·cases h
  ·cases h
 ·cases h
theorem dW[d:Has P Φ]{f:Nat}{ps r}(h:oQ Φ t o.op=some (f,ps))(hc:Can P f ps (· =r))[hp:aM ps]:bE P σ t o r:=by
 obtain⟨x,b,c,cap,g,ho,a,hx,e,rfl⟩:=kV d.ok h;exact Av ho a hx e hc
theorem tY[e:Has P Φ]{f:Nat}{ps c r}(h:oQ Φ t o.op=some (f,ps))(g:aE σ ps c)(hc:Can P f c (· =r))[hp:nm r]:bE P σ t o r:=by
 obtain⟨x,b,d,cap,i,ho,a,hx,he,rfl⟩:=kV e.ok h;exact Pz ho a hx he g hc
theorem EX[e:Has P Φ]{f:Nat}{ps c r}(h:oQ Φ t o.op=some (f,ps))(g:aE [] ps c)(hc:Can P f c (· =r)):bE P σ t o r:=by
 obtain⟨x,b,d,cap,i,ho,a,hx,he,rfl⟩:=kV e.ok h;exact Py ho a hx he g hc
theorem fQ.c[Has P Φ]{rest t'}{d f:Nat}{ps r}(h:oQ Φ t o.op=some (f,ps))(hc:Can P f ps (· =r))(hd:dk N ops t o=some d)(k:fQ P N ops σ rest ((d,r)::t) t')[aM ps]:fQ P N ops σ (o::rest) t t':=.v (dW h hc) hd k
theorem fW[Has P Φ]{rest}{K:St->Prop}{d f:Nat}{ps r}(h:oQ Φ t o.op=some (f,ps))(hc:Can P f ps (· =r))(hd:dk N ops t o=some d)(k:WR P N L ops rest ⟨(d,r)::t,σ⟩ K)[aM ps]:WR P N L ops (o::rest) ⟨t,σ⟩ K:=aZ (dW h hc) hd k
theorem br[e:Has P Φ]{rest}{K:St->Prop}{d f:Nat}{ps}(h:oQ Φ t o.op=some (f,ps))(hd:dk N ops t o=some d)(hc:aD P f ps σ (λr σ'=>WR P N L ops rest ⟨(d,r)::t,σ'⟩ K)):WR P N L ops (o::rest) ⟨t,σ⟩ K:=by
 obtain⟨x,b,c,cap,g,ho,a,hx,he,rfl⟩:=kV e.ok h;exact Jg ho a hx he (fY hd).1 (fY hd).2.1 (fY hd).2.2 hc
theorem cT[a:Has P Φ]{b q}(h:iM Φ σ t o.op=some (.raw (.bool b)))(c:b=q):bE P σ t o (.raw (.bool q)):=by subst c;exact oO a.ok rfl h
def TL(t:cd):Op->Option Int
 | .binOp op _ x y _=>match aI t x with
  |some (.raw (.int .i64 a))=>match aI t y with
   |some (.raw (.int .i64 b))=>match op with
    | .add=>some (a+b)
    | .sub=>some (a - b)
    | .mul=>some (a*b)
    |_=>none
   |_=>none
  |_=>none
 |_=>none
theorem aU{a:Int}(h:TL t o.op=some a){c:Int}(hc:a=c:=by exact rfl)(hn:In64 c:=by unfold In64;omega):bE P σ t o (.raw (.int .i64 c)):=by
 subst hc;unfold TL at h;split at h
 ·rename_i ho;split at h
  ·rename_i hx;split at h
   ·rename_i hy;split at h
    ·cases h;exact SO ho hx hy rfl hn
    ·cases h;exact SY ho hx hy rfl hn
    ·cases h;exact SU ho hx hy rfl hn
    ·cases h
   ·cases h
  ·cases h
 ·cases h
def TU(Φ:ux)(σ:bH)(t:cd):Op->Option (Int×Nat×Nat×(Nat->PV))
 | .indexAddr ty x a=>match aI t a with
  |some (.raw (.int _ i))=>match Φ.el.get ty with
   |some (_,s)=>match aI t x with
    |some (.slice n xs)=>some (i,n,s,λj=>.cH xs j)
    |some (.own m)=>match σ[m]? with
     |some (some (.row _ _ n _))=>some (i,n,s,λj=>.ptr m j)
     |_=>none
    |_=>none
   |none=>match Φ.ar.get ty with
    |some (n,s)=>match aI t x with
     |some (.cH xs off)=>some (i,n,s,λj=>.cH xs (off+j))
     |_=>none
    |none=>none
  |_=>none
 |_=>none
theorem aX[c:Has P Φ]{i:Int}{n s:Nat}{g:Nat->PV}(j:Nat)(h:TU Φ σ t o.op=some (i,n,s,g))(h0:0<=i:=by omega)(h1:i<n:=by omega)(hj:i.toNat*s=j:=by omega):bE P σ t o (g j):=by
 unfold TU at h;split at h
 ·rename_i ho;split at h
  ·rename_i a;split at h
   ·rename_i vf;have hk:=c.ok.el.get vf;split at h
    ·rename_i hx;cases h;exact Ax ho hk hx a h0 h1 hj
    ·rename_i hx;split at h
     ·rename_i hi;cases h;exact dc ho hk hx hi a h0 h1 hj
     ·cases h
    ·cases h
   ·split at h
    ·rename_i b;have hk:=c.ok.ar.get b;split at h
     ·rename_i hx;cases h;exact wP ho hk hx a h0 h1 hj
     ·cases h
    ·cases h
  ·cases h
 ·cases h
def S8(Φ:ux)(σ:bH)(t:cd):Op->Option (List PV×Nat×Option Nat)
 | .load ty x=>match Φ.tk.get ty with
  |some k=>match aI t x with
   |some (.cH xs o)=>some (xs,o,k)
   |some (.ptr i o)=>match σ[i]? with
    |some (some blk)=>some (blk.xs,o,k)
    |_=>none
   |_=>none
  |none=>none
 |_=>none
theorem aO[b:Has P Φ]{xs}{k:Nat}{p}(h:S8 Φ σ t o.op=some (xs,k,none))(hp:xs[k]? =some p):bE P σ t o p:=by
 unfold S8 at h;split at h
 ·rename_i ho;split at h
  ·rename_i a;have hk:=b.ok.tk.get a;split at h
   ·rename_i hx;cases h;exact yF ho hk hx hp
   ·rename_i hx;split at h
    ·rename_i hi;cases h;exact aq ho hk hx hi hp
    ·cases h
   ·cases h
  ·cases h
 ·cases h
theorem gr[b:Has P Φ]{xs ys:List PV}{k n:Nat}(h:S8 Φ σ t o.op=some (xs,k,some n))(hp:(xs.drop k).take n=ys)(hn:ys.length=n):bE P σ t o (.agg ys):=by
 unfold S8 at h;split at h
 ·rename_i ho;split at h
  ·rename_i a;have hk:=b.ok.tk.get a;split at h
   ·rename_i hx;cases h;exact iA ho hk hx hp hn
   ·rename_i hx;split at h
    ·rename_i hi;cases h;exact jD ho hk hx hi hp hn
    ·cases h
   ·cases h
  ·cases h
 ·cases h
def SB(Φ:ux)(st:St):ResultVar->Option PV
 | .tmp k=>look k st.t
 | .cell k ty=>match look k st.t with
  |some (.ptr i off)=>match st.σ[i]? with
   |some (some blk)=>match Φ.tk.get ty with
    |some none=>blk.xs[off]?
    |some (some n)=>part blk.xs off n
    |none=>none
   |_=>none
  |_=>none
def Rt(Φ:ux)(st:St):List ResultVar->Option (List PV)
 | []=>some []
 |r::rs=>match SB Φ st r with
  |some p=>match Rt Φ st rs with
   |some ps=>some (p::ps)
   |none=>none
  |none=>none
theorem aG.of[c:Has P Φ]{st}:∀ {rs ps},Rt Φ st rs=some ps->aG P st rs ps
 | [],ps,h=>by cases h;exact .nil
 |r::rs,ps,h=>by
  simp only[Rt]at h;split at h
  ·rename_i p hp;split at h
   ·rename_i d b;cases h;refine .cons ?_ (aG.of b);unfold SB at hp;split at hp
    ·exact .tmp hp
    ·split at hp
     ·rename_i hl;split at hp
      ·rename_i hi;split at hp
       ·rename_i a;exact .PX hl hi (c.ok.tk.get a) hp
       ·rename_i a;obtain⟨ys,rfl,h1,h2⟩:=zM hp;exact .PY hl hi (c.ok.tk.get a) h1 h2
       ·cases hp
      ·cases hp
     ·cases hp
   ·cases h
  ·cases h
abbrev V5:=@aG.of
theorem jF{P  fn R Φ } [a : Has P Φ] {st : St} {ps q}(h:Rt Φ st fn.results.toList=some ps)(h0:aQ st.σ (IN ps) q)(h1:R q):Tf P fn R .ret st:=⟨_,_,V5 h,h0,h1⟩
def Kw:List Nat->Nat->Option Nat
 | [],_=>none
 |x::l,j=>bif Nat.beq x j then some 0 else match Kw l j with
  |some n=>some (n+1)
  |none=>none
theorem zw:∀ {fs:List Nat} {j i:Nat},Kw fs j=some i->fs[i]? =some j
 | [],_,_,h=>by cases h
 |x::l,j,i,h=>by
  simp only[Kw,VZ]at h;split at h
  ·rename_i he;cases h;cases VF he;rfl
  ·split at h
   ·rename_i n hn;cases h;simpa using zw hn
   ·cases h
theorem Ren.Sv{fs:List Nat}{i j:Nat}(h:Kw fs j=some i):Ren fs (.own i) (.own j):=.own (zw h)
theorem Ren.Sw{fs:List Nat}{i j k:Nat}(h:Kw fs j=some i):Ren fs (.ptr i k) (.ptr j k):=.ptr (zw h)
theorem oy.c{fs:List Nat}{t t' p p'}(k:Nat)(rest:oy fs t t')(h:look k t=some p:=by exact rfl)(hr:Ren fs p' p:=by first|exact Ren.pure|exact Ren.Sv rfl|exact Ren.Sw rfl):oy fs t ((k,p')::t'):=.cons k h hr rest
theorem ax.c{fs:List Nat}{x y xs ys}(rest:ax fs xs ys)(hr:Ren fs x y:=by first|exact Ren.pure|exact Ren.Sv rfl|exact Ren.Sw rfl):ax fs (x::xs) (y::ys):=V0 hr rest
abbrev WU:=@ax.c
theorem aP[a:Has P Φ]{p}(h:iM Φ σ t o.op=some p):bE P σ t o p:=oO a.ok rfl h
theorem cG[a:Has P Φ]{p σ'}(h:CV Φ t σ o.op=some (p,σ')):de P σ t o p σ':=vS a.ok rfl h
def uV(N:Nat)(l:List Oper):Bool:=Region.lexB .any l.toArray&&l.all λo=>o.dst.all λe=>decide (e<N)
theorem oS{l:List Oper}(h:uV N l=true):Region.lexB .any l.toArray=true/\(l.all λo=>o.dst.all λe=>decide (e<N)&&(l.filterMap (·.dst)).contains e)=true/\((l.filterMap (·.dst)).all λe=>decide (e<N))=true:=by
 unfold uV at h;simp only[Vx,VG]at h;refine⟨h.1,VG.2 λo ho=>?_,VG.2 λe he=>?_⟩
 ·have h2:=h.2 o ho;cases hd:o.dst with
  |none=>rfl
  |some e=>
   rw[hd]at h2;simp only[Option.all_some,Vx,Yr,XZ]at h2 ⊢;exact⟨h2,o,ho,hd⟩
 ·obtain⟨o,ho,hd⟩:=XZ.1 he;have h2:=h.2 o ho;rw[hd]at h2;exact h2
theorem QE{id:Nat}{l:List Oper}{t'}{Q:Exit->St->Prop}(hm:P.follows .mixedOrders=true)(a:uV N l=true)(h:eP P N l.toArray σ l t t')(b:Q .normal ⟨t',σ⟩):W P N L (.region id l.toArray true) ⟨t,σ⟩ Q:=QF _ hm (oS a).1 (oS a).2.1 (oS a).2.2 h b
theorem ev{id:Nat}{l:List Oper}{y t'}{Q:Exit->St->Prop}(hm:P.follows .mixedOrders=true)(a:uV N l=true)(h:eP P N l.toArray σ l t t')(b:W P N L y ⟨t',σ⟩ Q):W P N L (.seq (.region id l.toArray true) y) ⟨t,σ⟩ Q:=an (QE hm a h b)
theorem cD{id:Nat}{l:List Oper}{y u}{Q:Exit->St->Prop}(k:Nat)(p:PV)(ks:List Nat)(_:lj t ks=some u)(h:fQ P N l.toArray σ l t ((k,p)::u))(a:W P N L y ⟨(k,p)::u,σ⟩ Q):W P N L (.seq (.region id l.toArray false) y) ⟨t,σ⟩ Q:=aj h a
theorem uG{id:Nat}{l:List Oper}{y u}{Q:Exit->St->Prop}(hm:P.follows .mixedOrders=true)(a:uV N l=true)(k:Nat)(p:PV)(ks:List Nat)(_:lj t ks=some u)(h:eP P N l.toArray σ l t ((k,p)::u))(b:W P N L y ⟨(k,p)::u,σ⟩ Q):W P N L (.seq (.region id l.toArray true) y) ⟨t,σ⟩ Q:=ev hm a h b
def Tr.keys{α:Type}:Tr α->List Nat
 | .l=>[]
 | .n a k _ b=>a.keys++k::b.keys
def Tr.IT{α:Type}:Tr α->List α
 | .l=>[]
 | .n a _ v b=>a.IT++v::b.IT
theorem Tr.fj{α:Type}:∀(t:Tr α),t.keys.length=t.IT.length
 | .l=>rfl
 | .n a _ _ b=>by simp[Tr.keys,Tr.IT,Tr.fj a,Tr.fj b]
theorem Tr.of{α:Type}(f:Nat->Option α):∀ {t:Tr α},t.keys.map f=t.IT.map some->t.yK λk v=>f k=some v
 | .l,_=>.l
 | .n a k v b,h=>by
  simp only[Tr.keys,Tr.IT,Wu,VX]at h;obtain⟨h1,h2⟩:=List.append_inj h (by simp[Tr.fj]);simp only[Ys]at h2;exact .n (Tr.of f h1) h2.1 (Tr.of f h2.2)
theorem Tr.Sp{α:Type}(f:Nat->Bool):∀ {t:Tr α},t.keys.all f=true->t.yK λk _=>f k=true
 | .l,_=>.l
 | .n a k v b,h=>by
  simp only[Tr.keys,Zv,List.all_cons,Vx]at h;exact .n (Tr.Sp f h.1) h.2.1 (Tr.Sp f h.2.2)
end
end
section
set_option maxRecDepth 100000
abbrev tq{α:Type}(k:Nat)(v:α):Tr α:=.n .l k v .l
def Uc:Tr (Option Nat):=.n (.n (.n (.n (.n (tq 3 none) 4 none (tq 5 none)) 22 none (.n (tq 23 none) 25 (some 3) (tq 33 (some 3)))) 34 none (.n (.n (tq 35 none) 36 none (tq 40 (some 2))) 42 (some 7) (.n (tq 48 none) 49 none (tq 51 (some 3))))) 63 (some 3) (.n (.n (.n (tq 64 none) 65 none (tq 67 (some 2))) 69 (some 3) (.n (tq 71 none) 72 none (tq 73 none))) 74 none (.n (.n (tq 82 (some 2)) 84 (some 6) (tq 89 none)) 91 (some 3) (.n (tq 100 none) 102 (some 3) .l)))) 112 (some 2) (.n (.n (.n (.n (tq 115 none) 117 (some 6) (tq 127 none)) 129 (some 3) (.n (tq 131 (some 3)) 134 (some 2) (tq 139 none))) 141 (some 6) (.n (.n (tq 147 (some 10)) 155 (some 7) (tq 156 none)) 170 none (.n (tq 171 none) 174 (some 2) (tq 178 none)))) 179 none (.n (.n (.n (tq 188 none) 208 (some 7) (tq 210 none)) 215 (some 7) (.n (tq 216 none) 220 (some 2) (tq 250 none))) 251 none (.n (.n (tq 274 none) 281 none (tq 284 (some 7))) 289 none (.n (tq 290 none) 364 none .l))))
def T7:Tr (Nat):=.n (.n (.n (.n (.n (.n (tq 2500 0) 2501 1 (tq 2502 2)) 3300 0 (.n (tq 3301 1) 3302 2 .l)) 3800 0 (.n (.n (tq 3801 3) 4200 0 .l) 4201 1 (.n (tq 4202 2) 4203 4 .l))) 4204 5 (.n (.n (.n (tq 4205 6) 5100 0 (tq 5101 1)) 5102 2 (.n (tq 6300 0) 6301 1 .l)) 6302 2 (.n (.n (tq 6700 0) 6701 1 .l) 6900 0 (.n (tq 6901 2) 7600 0 .l)))) 7601 3 (.n (.n (.n (.n (tq 7602 4) 7603 5 (tq 7604 8)) 7605 9 (.n (tq 7606 10) 7607 11 .l)) 7608 12 (.n (.n (tq 7609 13) 7610 14 .l) 8200 0 (.n (tq 8201 1) 8400 0 .l))) 8401 1 (.n (.n (.n (tq 8402 2) 8403 3 (tq 8404 5)) 9100 0 (.n (tq 9101 1) 9102 2 .l)) 10200 0 (.n (.n (tq 10201 1) 10202 2 .l) 11200 0 (.n (tq 11201 1) 12900 0 .l))))) 12901 1 (.n (.n (.n (.n (.n (tq 12902 2) 13100 0 (tq 13101 1)) 13102 2 (.n (tq 13400 0) 13401 1 .l)) 14100 0 (.n (.n (tq 14101 1) 14102 2 .l) 14103 3 (.n (tq 14104 4) 14105 5 .l))) 14700 0 (.n (.n (.n (tq 14701 1) 14702 2 (tq 14703 3)) 14704 4 (.n (tq 15500 0) 15501 6 .l)) 15800 0 (.n (.n (tq 17300 0) 17301 3 .l) 17303 5 (.n (tq 17304 6) 17305 7 .l)))) 17306 8 (.n (.n (.n (.n (tq 17400 0) 18301 1 (tq 18302 2)) 19000 0 (.n (tq 19001 1) 19200 0 .l)) 19201 3 (.n (.n (tq 19202 4) 19203 5 .l) 19204 6 (.n (tq 20800 0) 20801 6 .l))) 21500 0 (.n (.n (.n (tq 21501 1) 22000 0 .l) 22001 1 (.n (tq 28400 0) 28401 3 .l)) 28402 4 (.n (.n (tq 28403 5) 28404 6 .l) 34100 0 (.n (tq 34101 1) 34102 2 .l)))))
def T5:Tr (Nat×Nat):=.n (.n (.n (.n (tq 22 (4,1)) 23 (42,7) .l) 26 (33,3) (.n (tq 36 (35,1)) 48 (102,3) .l)) 49 (3,1) (.n (.n (tq 56 (141,6)) 59 (69,3) .l) 64 (67,2) (.n (tq 71 (84,6)) 85 (91,3) .l))) 87 (134,2) (.n (.n (.n (tq 89 (5,1)) 100 (174,2) .l) 115 (51,3) (.n (tq 127 (131,3)) 179 (178,1) .l)) 212 (215,7) (.n (.n (tq 216 (220,2)) 243 (112,2) .l) 281 (49,1) (tq 290 (289,1))))
def Ub:Tr (List (Nat×Nat)×List Value):=.n (.n (.n (.n (tq 25 ([(0,1),(1,1),(2,1)],[.int .i64 0,.slice none 0 0,.slice none 0 0])) 38 ([(0,3),(3,1)],[.int .i64 0,.slice none 0 0,.slice none 0 0,.slice none 0 0]) (tq 42 ([(0,1),(1,1),(2,2),(4,1),(5,1),(6,1)],[.int .i64 0,.int .i64 0,.int .i64 0,.int .i64 0,.int .i64 0,.int .i64 0,.int .i64 0]))) 51 ([(0,1),(1,1),(2,1)],[.int .i64 0,.slice none 0 0,.slice none 0 0]) (.n (tq 63 ([(0,1),(1,1),(2,1)],[.int .i64 0,.int .i64 0,.int .i64 0])) 67 ([(0,1),(1,1)],[.int .u32 0,.int .i64 0]) (tq 76 ([(0,3),(3,1),(4,1),(5,3),(8,1),(9,1),(10,1),(11,1),(12,1),(13,1),(14,1)],[.int .i64 0,.slice none 0 0,.slice none 0 0,.int .i64 0,.int .i64 0,.int .i64 0,.int .i64 0,.int .i64 0,.int .i64 0,.slice none 0 0,.bool false,.slice none 0 0,.pointer none,.pointer none,.pointer none])))) 82 ([(0,1),(1,1)],[.int .i64 0,.int .i64 0]) (.n (.n (tq 84 ([(0,1),(1,1),(2,1),(3,2),(5,1)],[.int .i64 0,.int .i64 0,.int .i64 0,.int .i64 0,.int .i64 0,.int .i64 0])) 91 ([(0,1),(1,1),(2,1)],[.int .i64 0,.int .i64 0,.slice none 0 0]) (tq 102 ([(0,1),(1,1),(2,1)],[.slice none 0 0,.bool false,.slice none 0 0]))) 112 ([(0,1),(1,1)],[.int .i64 0,.int .i64 0]) (.n (tq 117 ([(0,1),(1,1),(2,1),(3,1),(4,1),(5,1)],[.int .i64 0,.int .i64 0,.int .i64 0,.int .i64 0,.slice none 0 0,.int .i64 0])) 129 ([(0,1),(1,1),(2,1)],[.bool false,.slice none 0 0,.slice none 0 0]) .l))) 131 ([(0,1),(1,1),(2,1)],[.int .i64 0,.int .i64 0,.int .i64 0]) (.n (.n (.n (tq 134 ([(0,1),(1,1)],[.int .i64 0,.slice none 0 0])) 141 ([(0,1),(1,1),(2,1),(3,1),(4,1),(5,1)],[.int .i64 0,.int .i64 0,.int .i64 0,.bool false,.slice none 0 0,.slice none 0 0]) (tq 147 ([(0,1),(1,1),(2,1),(3,1),(4,6)],[.int .i64 0,.int .i64 0,.int .i64 0,.int .i64 0,.int .i64 0,.int .i64 0,.int .i64 0,.bool false,.slice none 0 0,.slice none 0 0]))) 155 ([(0,6),(6,1)],[.int .i64 0,.int .i64 0,.int .i64 0,.bool false,.slice none 0 0,.slice none 0 0,.int .i64 0]) (.n (tq 158 ([(0,1)],[.map none])) 173 ([(0,3),(3,1),(4,1),(5,1),(6,1),(7,1),(8,1)],[.int .i64 0,.slice none 0 0,.slice none 0 0,.slice none 0 0,.slice none 0 0,.slice none 0 0,.slice none 0 0,.map none,.map none]) (tq 174 ([(0,1),(1,1)],[.int .i64 0,.int .i64 0])))) 190 ([(0,1),(1,1)],[.int .i64 0,.map none]) (.n (.n (tq 192 ([(0,3),(3,1),(4,1),(5,1),(6,1)],[.bool false,.slice none 0 0,.slice none 0 0,.int .i64 0,.int .i64 0,.bool false,.int .i64 0])) 208 ([(0,6),(6,1)],[.int .i64 0,.int .i64 0,.int .i64 0,.bool false,.slice none 0 0,.slice none 0 0,.int .i64 0]) (tq 215 ([(0,1),(1,6)],[.int .i64 0,.int .i64 0,.int .i64 0,.int .i64 0,.bool false,.slice none 0 0,.slice none 0 0]))) 220 ([(0,1),(1,1)],[.int .i64 0,.slice none 0 0]) (.n (tq 284 ([(0,3),(3,1),(4,1),(5,1),(6,1)],[.int .i64 0,.slice none 0 0,.slice none 0 0,.slice none 0 0,.int .i64 0,.nilFunc,.nilFunc])) 341 ([(0,1),(1,1),(2,1)],[.slice none 0 0,.slice none 0 0,.slice none 0 0]) .l)))
def Ua:Tr (Nat×Nat×List Value):=.n (.n (.n (.n (tq 22 (4,1,[.bool false])) 23 (42,7,[.int .i64 0,.int .i64 0,.int .i64 0,.int .i64 0,.int .i64 0,.int .i64 0,.int .i64 0]) .l) 36 (35,1,[.pointer none]) (tq 48 (102,3,[.slice none 0 0,.bool false,.slice none 0 0]))) 49 (3,1,[.int .i64 0]) (.n (.n (tq 56 (141,6,[.int .i64 0,.int .i64 0,.int .i64 0,.bool false,.slice none 0 0,.slice none 0 0])) 64 (67,2,[.int .u32 0,.int .i64 0]) .l) 71 (84,6,[.int .i64 0,.int .i64 0,.int .i64 0,.int .i64 0,.int .i64 0,.int .i64 0]) (tq 85 (91,3,[.int .i64 0,.int .i64 0,.slice none 0 0])))) 87 (134,2,[.int .i64 0,.slice none 0 0]) (.n (.n (.n (tq 89 (5,1,[.int .u8 0])) 100 (174,2,[.int .i64 0,.int .i64 0]) .l) 115 (51,3,[.int .i64 0,.slice none 0 0,.slice none 0 0]) (tq 127 (131,3,[.int .i64 0,.int .i64 0,.int .i64 0]))) 212 (215,7,[.int .i64 0,.int .i64 0,.int .i64 0,.int .i64 0,.bool false,.slice none 0 0,.slice none 0 0]) (.n (.n (tq 216 (220,2,[.int .i64 0,.slice none 0 0])) 243 (112,2,[.int .i64 0,.int .i64 0]) .l) 290 (289,1,[.nilFunc]) (tq 339 (34,1,[.int .i64 0]))))
def T9:Tr (Nat×Nat×Nat×List Value):=.n (.n (.n (.n (tq 22 (4,1,1,[.bool false])) 23 (42,7,56,[.int .i64 0,.int .i64 0,.int .i64 0,.int .i64 0,.int .i64 0,.int .i64 0,.int .i64 0]) .l) 36 (35,1,8,[.pointer none]) (tq 48 (102,3,56,[.slice none 0 0,.bool false,.slice none 0 0]))) 49 (3,1,8,[.int .i64 0]) (.n (tq 56 (141,6,80,[.int .i64 0,.int .i64 0,.int .i64 0,.bool false,.slice none 0 0,.slice none 0 0])) 64 (67,2,16,[.int .u32 0,.int .i64 0]) (tq 71 (84,6,48,[.int .i64 0,.int .i64 0,.int .i64 0,.int .i64 0,.int .i64 0,.int .i64 0])))) 85 (91,3,40,[.int .i64 0,.int .i64 0,.slice none 0 0]) (.n (.n (tq 87 (134,2,32,[.int .i64 0,.slice none 0 0])) 89 (5,1,1,[.int .u8 0]) (tq 100 (174,2,16,[.int .i64 0,.int .i64 0]))) 127 (131,3,24,[.int .i64 0,.int .i64 0,.int .i64 0]) (.n (tq 212 (215,7,88,[.int .i64 0,.int .i64 0,.int .i64 0,.int .i64 0,.bool false,.slice none 0 0,.slice none 0 0])) 216 (220,2,32,[.int .i64 0,.slice none 0 0]) (tq 281 (49,1,24,[.slice none 0 0]))))
def Ud:Tr (List Value):=.n (.n (.n (.n (.n (tq 3 [.int .i64 0]) 4 [.bool false] .l) 22 [.slice none 0 0] (tq 25 [.int .i64 0,.slice none 0 0,.slice none 0 0])) 33 [.int .u8 0,.int .u8 0,.int .u8 0] (.n (tq 34 [.int .i64 0]) 40 [.int .i64 0,.int .i64 0] (tq 42 [.int .i64 0,.int .i64 0,.int .i64 0,.int .i64 0,.int .i64 0,.int .i64 0,.int .i64 0]))) 49 [.slice none 0 0] (.n (.n (.n (tq 51 [.int .i64 0,.slice none 0 0,.slice none 0 0]) 67 [.int .u32 0,.int .i64 0] .l) 69 [.int .u32 0,.int .i64 0,.int .i64 0] (tq 82 [.int .i64 0,.int .i64 0])) 84 [.int .i64 0,.int .i64 0,.int .i64 0,.int .i64 0,.int .i64 0,.int .i64 0] (.n (tq 89 [.slice none 0 0]) 91 [.int .i64 0,.int .i64 0,.slice none 0 0] (tq 102 [.slice none 0 0,.bool false,.slice none 0 0])))) 112 [.int .i64 0,.int .i64 0] (.n (.n (.n (.n (tq 129 [.bool false,.slice none 0 0,.slice none 0 0]) 131 [.int .i64 0,.int .i64 0,.int .i64 0] .l) 134 [.int .i64 0,.slice none 0 0] (tq 141 [.int .i64 0,.int .i64 0,.int .i64 0,.bool false,.slice none 0 0,.slice none 0 0])) 147 [.int .i64 0,.int .i64 0,.int .i64 0,.int .i64 0,.int .i64 0,.int .i64 0,.int .i64 0,.bool false,.slice none 0 0,.slice none 0 0] (.n (tq 155 [.int .i64 0,.int .i64 0,.int .i64 0,.bool false,.slice none 0 0,.slice none 0 0,.int .i64 0]) 179 [.slice none 0 0] (tq 208 [.int .i64 0,.int .i64 0,.int .i64 0,.bool false,.slice none 0 0,.slice none 0 0,.int .i64 0]))) 215 [.int .i64 0,.int .i64 0,.int .i64 0,.int .i64 0,.bool false,.slice none 0 0,.slice none 0 0] (.n (.n (tq 216 [.slice none 0 0]) 220 [.int .i64 0,.slice none 0 0] (tq 250 [.map none])) 281 [.slice none 0 0] (.n (tq 284 [.int .i64 0,.slice none 0 0,.slice none 0 0,.slice none 0 0,.int .i64 0,.nilFunc,.nilFunc]) 290 [.slice none 0 0] (tq 364 [.int .u64 0]))))
def T4:Tr (Unit):=tq 4 ()
def T8:Tr (Unit):=.n (.n (tq 35 ()) 72 () (tq 73 ())) 74 () (.n (tq 78 ()) 178 () (tq 322 ()))
def T3:Tr (Nat×Nat):=.n (tq 40 (2,1)) 118 (3,1) (tq 314 (2,1))
def T6:Tr (Unit):=.n (.n (.n (.n (.n (.n (.n (tq 3 ()) 4 () (tq 5 ())) 6 () (.n (tq 7 ()) 8 () (tq 9 ()))) 10 () (.n (.n (tq 11 ()) 12 () (tq 13 ())) 14 () (.n (tq 15 ()) 16 () (tq 17 ())))) 18 () (.n (.n (.n (tq 19 ()) 20 () (tq 21 ())) 22 () (.n (tq 23 ()) 24 () (tq 25 ()))) 26 () (.n (.n (tq 27 ()) 28 () (tq 29 ())) 30 () (.n (tq 31 ()) 32 () .l)))) 33 () (.n (.n (.n (.n (tq 34 ()) 35 () (tq 36 ())) 37 () (.n (tq 38 ()) 39 () (tq 40 ()))) 41 () (.n (.n (tq 42 ()) 43 () (tq 44 ())) 45 () (.n (tq 46 ()) 47 () .l))) 48 () (.n (.n (.n (tq 49 ()) 50 () (tq 51 ())) 52 () (.n (tq 53 ()) 54 () (tq 55 ()))) 56 () (.n (.n (tq 57 ()) 58 () (tq 59 ())) 60 () (.n (tq 61 ()) 62 () .l))))) 63 () (.n (.n (.n (.n (.n (tq 64 ()) 65 () (tq 66 ())) 67 () (.n (tq 68 ()) 69 () (tq 70 ()))) 71 () (.n (.n (tq 72 ()) 73 () (tq 74 ())) 75 () (.n (tq 76 ()) 77 () (tq 78 ())))) 79 () (.n (.n (.n (tq 80 ()) 81 () (tq 82 ())) 83 () (.n (tq 84 ()) 85 () (tq 86 ()))) 87 () (.n (.n (tq 88 ()) 89 () (tq 90 ())) 91 () (.n (tq 92 ()) 93 () .l)))) 94 () (.n (.n (.n (.n (tq 95 ()) 96 () (tq 97 ())) 98 () (.n (tq 99 ()) 100 () (tq 101 ()))) 102 () (.n (.n (tq 103 ()) 104 () (tq 105 ())) 106 () (.n (tq 107 ()) 108 () .l))) 109 () (.n (.n (.n (tq 110 ()) 111 () (tq 112 ())) 113 () (.n (tq 114 ()) 115 () (tq 116 ()))) 117 () (.n (.n (tq 118 ()) 119 () (tq 120 ())) 121 () (.n (tq 122 ()) 123 () .l)))))) 124 () (.n (.n (.n (.n (.n (.n (tq 125 ()) 126 () (tq 127 ())) 128 () (.n (tq 129 ()) 130 () (tq 131 ()))) 132 () (.n (.n (tq 133 ()) 136 () (tq 137 ())) 138 () (.n (tq 139 ()) 140 () (tq 141 ())))) 142 () (.n (.n (.n (tq 143 ()) 144 () (tq 145 ())) 146 () (.n (tq 147 ()) 148 () (tq 149 ()))) 150 () (.n (.n (tq 151 ()) 152 () (tq 153 ())) 154 () (.n (tq 155 ()) 156 () .l)))) 157 () (.n (.n (.n (.n (tq 158 ()) 159 () (tq 160 ())) 161 () (.n (tq 162 ()) 163 () (tq 164 ()))) 165 () (.n (.n (tq 166 ()) 167 () (tq 168 ())) 169 () (.n (tq 170 ()) 171 () .l))) 172 () (.n (.n (.n (tq 173 ()) 174 () (tq 175 ())) 176 () (.n (tq 177 ()) 178 () (tq 179 ()))) 180 () (.n (.n (tq 181 ()) 182 () (tq 192 ())) 193 () (.n (tq 194 ()) 196 () .l))))) 198 () (.n (.n (.n (.n (.n (tq 199 ()) 200 () (tq 201 ())) 202 () (.n (tq 203 ()) 205 () (tq 206 ()))) 207 () (.n (.n (tq 208 ()) 209 () (tq 210 ())) 211 () (.n (tq 212 ()) 213 () (tq 214 ())))) 215 () (.n (.n (.n (tq 216 ()) 217 () (tq 218 ())) 219 () (.n (tq 220 ()) 221 () (tq 222 ()))) 230 () (.n (.n (tq 231 ()) 232 () (tq 234 ())) 235 () (.n (tq 236 ()) 237 () .l)))) 238 () (.n (.n (.n (.n (tq 239 ()) 244 () (tq 245 ())) 246 () (.n (tq 247 ()) 248 () (tq 249 ()))) 250 () (.n (.n (tq 251 ()) 252 () (tq 253 ())) 254 () (.n (tq 255 ()) 256 () .l))) 257 () (.n (.n (.n (tq 262 ()) 263 () (tq 264 ())) 265 () (.n (tq 266 ()) 267 () (tq 268 ()))) 269 () (.n (.n (tq 270 ()) 271 () (tq 272 ())) 273 () (.n (tq 274 ()) 279 () .l))))))
def facts:ux:=⟨Uc,T7,T5,Ub,Ua,T9,Ud,T4,T8,T3,T6⟩
theorem ba:ux.Ok prog facts:=⟨Tr.of (qU prog) (by kernel_rfl),Tr.of (λk=>mB prog (k / 100) (k % 100)) (by kernel_rfl),Tr.of (uX prog) (by kernel_rfl),Tr.of (Tb prog) (by kernel_rfl),Tr.of (Qf prog) (by kernel_rfl),Tr.of (Ae prog) (by kernel_rfl),Tr.of (Gi prog) (by kernel_rfl),Tr.Sp (wW prog) (by kernel_rfl),Tr.Sp (Ex prog) (by kernel_rfl),Tr.of (RL prog) (by kernel_rfl),Tr.Sp (enters prog) (by kernel_rfl)⟩
abbrev VJ:=@ba.tk.get
abbrev VW:=@ba.rk.get
abbrev WN:=@ba.el.get
abbrev X8:=@ba.st.get
abbrev YC:=@ba.sl.get
abbrev Zy:=@ba.zk.get
instance:Has prog facts:=⟨ba⟩
theorem mixed:prog.follows .mixedOrders=true:=by kernel_rfl
end
end PW
namespace Net
section
open Go
structure mh where
 a:Int
 b:Int
 c0:Int
 c1:Int
 cap:Int
 fH:Int
 wC:Int
def mh.zero:mh:=⟨0,0,0,0,0,0,0⟩
structure aw where
 nodes:Int
 over:List Bool
 ah:List mh
def bV(L:List mh)(i:Nat):mh:=L.getD i mh.zero
def bI(T:aw)(a:Nat):Int:=if a % 2=0 then(bV T.ah (a / 2)).a else(bV T.ah (a / 2)).b
def flip(a:Nat):Nat:=if a % 2=0 then a+1 else a - 1
def bx(T:aw)(a:Nat):Int:=bI T (flip a)
def cr(T:aw)(a:Nat):Int:=if a % 2=0 then(bV T.ah (a / 2)).c0 else(bV T.ah (a / 2)).c1
def cW(T:aw)(n:Nat):Bool:=T.over.getD n false
def bZ(T:aw)(n:Int):Bool:=decide (0<=n/\n<T.nodes)
def jE(T:aw)(a:Int):Bool:=decide (0<=a/\a<2*(T.ah.length:Int))
def cf(T:aw)(down:List Bool):Bool:=decide (down.length=0\/down.length=2*T.ah.length)
def bO(down:List Bool)(a:Nat):Bool:=down.getD a false
def cB(n lo hi:Int):Bool:=decide (lo<=n/\n<=hi)
def iY(T:aw)(l:mh):Bool:=
 !(l.a==l.b)&&bZ T l.a&&bZ T l.b&&cB l.c0 1 65535&&cB l.c1 1 65535&&cB l.cap 0 1048576&&cB l.fH 1 65536&&cB l.wC 0 64
def aH(T:aw):Bool:=
 cB T.nodes 1 64&&decide (T.ah.length<=256)&&(decide (T.over.length=0)||decide ((T.over.length:Int)=T.nodes))&&T.ah.all (iY T)
theorem AN(p:mh->Bool)(L:List mh)(k:Nat)(hk:k<L.length):(L.take (k+1)).all p=((L.take k).all p&&p (bV L k)):=by
 rw[List.take_succ_eq_append_getElem hk,Zv];simp[bV,hk]
theorem AM(p:mh->Bool)(L:List mh)(k:Nat)(hk:k<L.length)(h:p (bV L k)=false):L.all p=false:=by
 rw[YX];intro ha;have:=VG.1 ha (bV L k) (by simp[bV,hk]);rw[h]at this;cases this
theorem jW(T:aw)(h:cB T.nodes 1 64=false\/256<T.ah.length\/(T.over.length≠0/\(T.over.length:Int)≠T.nodes)):false=aH T:=by
 unfold aH;rcases h with h|h|⟨h1,h2⟩
 ·simp[h]
 ·have:decide (T.ah.length<=256)=false:=by simp;omega
  simp[this]
 ·simp[h1,h2]
theorem v7(T:aw)(h1:cB T.nodes 1 64=true)(h2:T.ah.length<=256)(a:T.over.length=0\/(T.over.length:Int)=T.nodes):aH T=T.ah.all (iY T):=by
 unfold aH;rcases a with a|a<;>simp[h1,h2,a]
theorem xy{T}{l:mh}{q1 a b c d e f g}(g1:(l.a==l.b)=q1)(g2:bZ T l.a=a)(g3:bZ T l.b=b)(g4:cB l.c0 1 65535=c)(g5:cB l.c1 1 65535=d)(g6:cB l.cap 0 1048576=e)(g7:cB l.fH 1 65536=f)(g8:cB l.wC 0 64=g):iY T l=(!q1 &&a&&b&&c&&d&&e&&f&&g):=by subst g1 g2 g3 g4 g5 g6 g7 g8;rfl
theorem tO(T:aw)(n:Int):cB n 0 (T.nodes - 1)=bZ T n:=by
 unfold cB bZ;exact decide_eq_decide.2 (by omega)
theorem kD{n lo hi:Int}(h:cB n lo hi=true):lo<=n/\n<=hi:=by simpa[cB]using h
theorem fr{T:aw}(h:aH T=true):1<=T.nodes/\T.nodes<=64/\T.ah.length<=256/\(T.over.length=0\/(T.over.length:Int)=T.nodes):=by
 unfold aH at h;simp only[Vx,Xf,VH]at h;obtain⟨⟨⟨h1,h2⟩,a⟩,_⟩:=h;have:=kD h1;exact⟨this.1,this.2,h2,a⟩
theorem nT{T:aw}(h:aH T=true)(i:Nat)(hi:i<T.ah.length):iY T (bV T.ah i)=true:=by
 unfold aH at h;simp only[Vx]at h;exact VG.1 h.2 _ (by simp[bV,hi])
def CJ(T:aw)(a:Int):Int:=if 0<=a/\a<2*(T.ah.length:Int) then bI T a.toNat else -1
def Cx(T:aw)(a:Int):Int:=if 0<=a/\a<2*(T.ah.length:Int) then bx T a.toNat else -1
def Cs(T:aw)(a:Int):Int:=if 0<=a/\a<2*(T.ah.length:Int) then cr T a.toNat else -1
def jI(T:aw)(n:Int)(k:Nat):List Int:=((List.range k).filter λa=>bI T a==n).map Int.ofNat
def cw(T:aw)(n:Int):List Int:=jI T n (2*T.ah.length)
theorem xN(T:aw)(n:Int)(k:Nat)(h:(bI T k==n)=true):jI T n (k+1)=jI T n k++[(k:Int)]:=by
 simp[jI,WM,WI,h]
theorem Cc(T:aw)(n:Int)(k:Nat)(h:(bI T k==n)=false):jI T n (k+1)=jI T n k:=by
 simp[jI,WM,WI,h]
theorem fK(T:aw)(n:Int)(k:Nat):(jI T n k).length<=k:=by
 simp only[jI,Wf];exact VL (Wl _ _) (by simp)
def iC(L M:List Int):Bool:=decide (L=M)
theorem LX(L M:List Int)(h:L.length≠M.length):false=iC L M:=by
 unfold iC;symm;exact VA λe=>h (by rw[e])
theorem Pb(L M:List Int)(k:Nat)(h:L.getD k 0≠M.getD k 0):false=iC L M:=by
 unfold iC;symm;exact VA λe=>h (by rw[e])
theorem LV(L M:List Int)(hM:M.length=L.length)(h:∀i,i<L.length->L.getD i 0=M.getD i 0):true=iC L M:=by
 unfold iC;symm;refine VM (XG hM.symm λi h1 h2=>?_);have:=h i h1;simpa[h1,h2]using this
theorem ye(T:aw)(k:Nat)(hk:k<2*T.ah.length):CJ T (k:Int)=bI T k:=by
 unfold CJ;rw[Vn ⟨by omega,by omega⟩];rfl
theorem Ik(T:aw)(k:Nat)(hk:k<2*T.ah.length):Cx T (k:Int)=bx T k:=by
 unfold Cx;rw[Vn ⟨by omega,by omega⟩];rfl
theorem Ib(T:aw)(k:Nat)(hk:k<2*T.ah.length):Cs T (k:Int)=cr T k:=by
 unfold Cs;rw[Vn ⟨by omega,by omega⟩];rfl
theorem Px(a:Nat)(ha:a<9223372036854775806):bits .xor .i64 (a:Int) 1=(flip a:Int):=by
 have h1:(a ^^^ 1) / 2=a / 2:=by rw[Nat.xor_div_two];simp
 have h2:((a ^^^ 1) % 2=1)↔¬((a % 2=1)↔(1 % 2=1)):=Nat.xor_mod_two_eq_one;have d:a ^^^ 1=flip a:=by unfold flip;split<;>omega
 have b:(BitVec.ofInt 64 (a:Int)).toNat=a:=by rw[BitVec.ofInt_natCast,BitVec.toNat_ofNat];exact Yk (by omega)
 have c:(BitVec.ofInt 64 (1:Int)).toNat=1:=by decide
 show IntKind.i64.wrap ((BitVec.ofInt 64 (a:Int) ^^^ BitVec.ofInt 64 (1:Int)).toNat:Int)=_;rw[BitVec.toNat_xor,b,c,d];exact IntWalk.i64_in _ (by unfold flip;split<;>omega)
end
end Net
namespace PW
section
open Go.RowKit cm Mem Net
abbrev num(n:Int):PV:=.raw (.int .i64 n)
abbrev flag(b:Bool):PV:=.raw (.bool b)
theorem b9{α:Type}{L:List α}{i:Nat}{d}(h:i<L.length):L.getD i d∈L:=by
 have:L.getD i d=L[i]:=by simp[h]
 rw[this];exact Yl h
theorem cL{α:Type}(L:List α)(i:Nat)(d:α)(h:i<L.length):L.take (i+1)=L.take i++[L.getD i d]:=by
 rw[XJ];simp[h]
def cb(L:List Int):List PV:=L.map λn=>.raw (.int .i64 n)
def aT(L:List Bool):List PV:=L.map λb=>.raw (.bool b)
def bm(L:List Int):PV:=.slice L.length (cb L)
def aY(L:List Bool):PV:=.slice L.length (aT L)
def jt(l:mh):List PV:=[.raw (.int .i64 l.a),.raw (.int .i64 l.b),.raw (.int .i64 l.c0),.raw (.int .i64 l.c1),.raw (.int .i64 l.cap),.raw (.int .i64 l.fH),.raw (.int .i64 l.wC)]
def bR(L:List mh):List PV:=L.flatMap jt
def bJ(T:aw):List PV:=[.raw (.int .i64 T.nodes),aY T.over,.slice T.ah.length (bR T.ah)]
def bu(T:aw):PV:=.agg (bJ T)
instance (L:List Int):aM (cb L):=aM.map _ _ λ_=>inferInstance
instance (L:List Bool):aM (aT L):=aM.map _ _ λ_=>inferInstance
instance (L:List Bool):di (aT L):=di.map _ _ λ_=>inferInstance
instance (l:mh):aM (jt l):=by unfold jt;infer_instance
instance (l:mh):di (jt l):=by unfold jt;infer_instance
instance (L:List mh):aM (bR L):=Ym _ _ λ_=>inferInstance
instance (L:List mh):di (bR L):=di.flatMap _ _ λ_=>inferInstance
instance (L:List Int):IsPure (bm L):=by unfold bm;infer_instance
instance (L:List Bool):IsPure (aY L):=by unfold aY;infer_instance
instance (T:aw):aM (bJ T):=by unfold bJ;infer_instance
instance (T:aw):IsPure (bu T):=by unfold bu;infer_instance
instance (L:List Int):gN (bm L):=by unfold bm;infer_instance
instance (L:List Bool):gN (aY L):=by unfold aY;infer_instance
theorem mG(L:List mh):(bR L).length=L.length*7:=by
 induction L with
 |nil=>rfl
 |cons l L ih=>simp only[bR,Wm,Vu,VI]at*;rw[ih];simp[jt];omega
theorem aS(L:List Int)(i:Nat)(h:i<L.length):(cb L)[i]? =some (.raw (.int .i64 (L.getD i 0))):=by simp[cb,h]
theorem eD(L:List Bool)(i:Nat)(h:i<L.length):(aT L)[i]? =some (.raw (.bool (L.getD i false))):=by simp[aT,h]
theorem ed(L:List Int)(n:Int):cb L++[.raw (.int .i64 n)]=cb (L++[n]):=by simp[cb]
theorem HZ(L:List Int)(i:Nat)(n:Int)(h:i<L.length):over (cb L) i [.raw (.int .i64 n)]=cb (L.set i n):=by
 unfold over cb;rw[Yt,Xc,Vn (by simpa using h)];simp
theorem Eo(L:List Bool)(i:Nat)(n:Bool)(h:i<L.length):over (aT L) i [.raw (.bool n)]=aT (L.set i n):=by
 unfold over aT;rw[Yt,Xc,Vn (by simpa using h)];simp
theorem aD.mono{P f ps σ}{R a:PV->bH->Prop}(h:aD P f ps σ R)(hr:∀r σ',R r σ'->a r σ'):aD P f ps σ a:=λF base E w vs d c=>
 (h F base E w vs d c).mono λ_ _ ⟨v,r,σ',E',h1,h2,b⟩=>⟨v,r,σ',E',h1,hr r σ' h2,b⟩
abbrev VO:=@aD.mono
theorem cK{P}{σ:bH}{t}{o:Oper}{ty e n:Nat}{x y}{i j:Nat}{c:Int}{L:List Int}(ho:o.op= .store ty x y)(hk:qU P ty=some none)(hx:aI t x=some (.ptr i j))(hy:aI t y=some (num c))(hi:σ[i]? =some (some (.row e 1 n (cb L))))(hj:j<L.length):
  de P σ t o (.raw undef) (σ.set i (some (.row e 1 n (cb (L.set j c))))):=by
 have:=eh ho hk hx hy hi (by show j<(cb L).length;simpa[cb]using hj);have he:cj.tG (.row e 1 n (cb L)) (over (cj.xs (.row e 1 n (cb L))) j [num c])= .row e 1 n (cb (L.set j c)):=by
  show cj.row e 1 n (over (cb L) j [num c])=_;rw[HZ L j c hj]
 rw[he]at this;exact this
theorem cP{P}{σ:bH}{t}{o:Oper}{ty e n:Nat}{x y}{i j:Nat}{c}{L:List Bool}(ho:o.op= .store ty x y)(hk:qU P ty=some none)(hx:aI t x=some (.ptr i j))(hy:aI t y=some (flag c))(hi:σ[i]? =some (some (.row e 1 n (aT L))))(hj:j<L.length):
  de P σ t o (.raw undef) (σ.set i (some (.row e 1 n (aT (L.set j c))))):=by
 have:=eh ho hk hx hy hi (by show j<(aT L).length;simpa[aT]using hj);have he:cj.tG (.row e 1 n (aT L)) (over (cj.xs (.row e 1 n (aT L))) j [flag c])= .row e 1 n (aT (L.set j c)):=by
  show cj.row e 1 n (over (aT L) j [flag c])=_;rw[Eo L j c hj]
 rw[he]at this;exact this
theorem dJ(n:Nat):fN [.raw (.int .i64 0)] n=cb (List.replicate n 0):=by
 induction n with
 |zero=>rfl
 |succ n ih=>simp only[fN,ih,Xs,cb];rfl
theorem jd(n:Nat):fN [.raw (.bool false)] n=aT (List.replicate n false):=by
 induction n with
 |zero=>rfl
 |succ n ih=>simp only[fN,ih,Xs,aT];rfl
theorem eM(L:List mh)(i j:Nat)(hi:i<L.length)(hj:j<7):(bR L)[i*7+j]? =(jt (bV L i))[j]? :=by
 induction L generalizing i with
 |nil=>simp at hi
 |cons l L ih=>
  cases i with
  |zero=>
   simp only[bR,Wm,Zf,Ws];rw[Vl (by simp[jt];omega)]
   rfl
  |succ i=>
   have:=ih i (by simpa using hi);simp only[bR,Wm]at*;rw[Vq (by simp[jt];omega)];rw[show(i+1)*7+j - (jt l).length=i*7+j by simp[jt];omega];rw[this]
   rfl
theorem dt{E w v u}(h:dj E w v (.raw u)):v=u:=by cases h;rfl
theorem R7{E w}{vs:Array Value}{p}(h:bn E w vs.toList [p]):∃v,vs= #[v]/\dj E w v p:=by
 obtain⟨l⟩:=vs
 match l,h with
 | [v],h=>exact⟨v,rfl,h.Mn.1⟩
 | [],h=>simp[bn]at h
 |_::_::_,h=>simp[bn]at h
theorem BM(L:List mh)(i:Nat)(hi:i<L.length):((bR L).drop (i*7)).take 7=jt (bV L i):=by
 refine Wz λj=>?_;by_cases hj:j<7
 ·rw[Wn,Vn hj,WV,eM L i j hi hj]
 ·rw[V4 (by simp;omega),V4 (by simp[jt];omega)]
end
end PW
namespace PW
open Go.RowKit cm Mem
open Go.Deep
section
variable {P:Program} {H:Type} {enc:TypeId×Value->H} {W:World}
abbrev EN:Env:=EF λ_=>False
theorem rW{α:Type}{f:α->List PV}{s:Nat}{t e}{fuel:Nat}{v x}(G:P.underlying t=some (.slice e))(hc:P.cellsOf e=s)(A:0<s)
  (vf:∀n cs y,DataW.trod enc P W 0 (λ_=>true) true n e cs=some y->cs.length=s->∃a,bn EN W cs (f a))
  (h:DataW.trod enc P W 0 (λ_=>true) true fuel t [v]=some x):∃L:List α,dj EN W v (.slice L.length (L.flatMap f)):=by
 rcases open_slice G h with⟨c,_⟩|⟨a,len,cap,m,n,D,J,c,_,hl,hm,q,_,hx⟩
 ·simp at c;subst c;exact⟨[],.cg⟩
 ·simp at c;subst c;rw[hc]at hx;simp only[Xr]at q;subst q;have o:∀k,k<=len->∃(L:List α) (cs:List Value),L.length=k/\cs.length=k*s/\bn EN W cs (L.flatMap f)/\∀(i:Nat) u,cs[i]? =some u->W.cell? (a.add i)=some u:=by
   intro k;induction k with
   |zero=>intro _;exact⟨[],[],rfl,by simp,Yn _ _,λi u h=>by simp at h⟩
   |succ k ih=>
    intro hk;obtain⟨L,cs,h1,h2,r,w⟩:=ih (by omega);obtain⟨l,B,C⟩:=hx k (by omega);obtain⟨_,g,p⟩:=World.cells?_some B;obtain⟨b,hb⟩:=vf n l _ C g;refine⟨L++[b],cs++l,by simp[h1],by rw[Vu,h2,g,XL],by rw[List.flatMap_append];simpa using r.append hb,λi u hu=>?_⟩;by_cases hi:i<cs.length
    ·rw[Vl hi]at hu;exact w i u hu
    ·rw[Vq (by omega)]at hu;have hj:i - cs.length<s:=by have:=(Vf.1 hu).1;omega
     have:=p (i - cs.length) hj;rw[hu]at this;rw[<-this];rw[Addr.add_add];congr 2;omega
  obtain⟨L,cs,h1,h2,r,w⟩:=o len (Vh _);by_cases h0:len=0
  ·subst h0;have:L=[]:=Vy h1;subst this;exact⟨[],.empty _ _ hm⟩
  ·obtain⟨b,off,spot⟩:=a;have hlt:0<cs.length:=by rw[h2];exact Nat.mul_pos (by omega) A
   have d:=w 0 cs[0] (by simp[hlt]);have j:spot=none:=by simpa[Addr.add]using World.cell?_spot d
   subst j;have z:b<W.heap.size:=by
    unfold World.cell? at d;split at d
    ·rename_i F;exact(Vs.1 F).1
    ·cases d
   refine⟨L,?_⟩;rw[h1];exact .slice b off len _ cs _ (by omega) hl hm z (λE=>E) (λi u hu=>by have:=w i u hu;rw[Addr.add_lit]at this;exact this) r.1 r.2
end
end PW
namespace PW
section
open Go.RowKit cm Mem Net
section
variable {H:Type} {enc:TypeId×Value->H} {W:World}
theorem nR{n:Nat}{cs y}(h:DataW.trod enc prog W 0 (λ_=>true) true n 3 cs=some y):∃a:Int,cs=[.int .i64 a]:=by
 obtain⟨a,h1,_⟩:=DataW.trod_int Tryz.underlying3 h;exact⟨a,h1⟩
theorem tw{α:Type}(f:α->PV)(l:List α):l.flatMap (λa=>[f a])=l.map f:=by induction l with
 |nil=>rfl
 |cons a l ih=>simp[ih]
theorem S9{n:Nat}{v y}(h:DataW.trod enc prog W 0 (λ_=>true) true n 49 [v]=some y):∃L,dj EN W v (bm L):=by
 obtain⟨L,b⟩:=rW (f:=λa:Int=>[PV.raw (.int .i64 a)]) (s:=1) Tryz.underlying49 (by kernel_rfl) (by omega) (λn cs y hy _=>by
  obtain⟨a,rfl⟩:=nR hy;exact⟨a,ZF (.raw _)⟩) h
 refine⟨L,?_⟩;rw[tw]at b;exact b
theorem LD{n:Nat}{v y}(h:DataW.trod enc prog W 0 (λ_=>true) true n 22 [v]=some y):∃L,dj EN W v (aY L):=by
 obtain⟨L,b⟩:=rW (f:=λa:Bool=>[PV.raw (.bool a)]) (s:=1) Tryz.underlying22 (by kernel_rfl) (by omega) (λn cs y hy _=>by
  obtain⟨a,rfl,_⟩:=DataW.trod_bool Tryz.underlying4 hy;exact⟨a,ZF (.raw _)⟩) h
 refine⟨L,?_⟩;rw[tw]at b;exact b
theorem O5{n:Nat}{cs:List Value}{y}(h:DataW.trod enc prog W 0 (λ_=>true) true n 42 cs=some y)(hl:cs.length=7):∃l:mh,bn EN W cs (jt l):=by
 have c:prog.cellsOf 3=1:=by kernel_rfl
 have j:prog.cellsOf 40=2:=by kernel_rfl
 obtain⟨xs,m,_,_,_,i,g⟩:=DataW.trod_struct Tryz.underlying42 h
 match cs,hl with
 | [c0,c1,b,a,d,e,f],_=>
  match xs,i with
  | [u,v,w,x,z,A],_=>
   have f0:DataW.trod enc prog W 0 (λ_=>true) true m 3 (([c0,c1,b,a,d,e,f].drop 0).take (prog.cellsOf 3))=some u:=g 0 _ rfl;rw[c]at f0;have f1:DataW.trod enc prog W 0 (λ_=>true) true m 3 (([c0,c1,b,a,d,e,f].drop 1).take (prog.cellsOf 3))=some v:=g 1 _ rfl;rw[c]at f1;have f2:DataW.trod enc prog W 0 (λ_=>true) true m 40 (([c0,c1,b,a,d,e,f].drop 2).take (prog.cellsOf 40))=some w:=g 2 _ rfl;rw[j]at f2;have f3:DataW.trod enc prog W 0 (λ_=>true) true m 3 (([c0,c1,b,a,d,e,f].drop 4).take (prog.cellsOf 3))=some x:=g 3 _ rfl;rw[c]at f3;have f4:DataW.trod enc prog W 0 (λ_=>true) true m 3 (([c0,c1,b,a,d,e,f].drop 5).take (prog.cellsOf 3))=some z:=g 4 _ rfl;rw[c]at f4;have f5:DataW.trod enc prog W 0 (λ_=>true) true m 3 (([c0,c1,b,a,d,e,f].drop 6).take (prog.cellsOf 3))=some A:=g 5 _ rfl;rw[c]at f5;obtain⟨a0,h0⟩:=nR f0;obtain⟨q,h1⟩:=nR f1;obtain⟨a3,k⟩:=nR f3;obtain⟨a4,o⟩:=nR f4;obtain⟨a5,p⟩:=nR f5;obtain⟨B,m2,_,_,_,t,hg⟩:=DataW.trod_array Tryz.underlying40 f2
   match B,t with
   | [z0,C],_=>
    have g0:=hg 0 (by omega);have g1:=hg 1 (by omega);rw[c]at g0 g1;obtain⟨r,k0⟩:=nR g0;obtain⟨s,k1⟩:=nR g1;simp at h0 h1 k o p k0 k1;subst h0 h1 k o p k0 k1;exact⟨⟨a0,q,r,s,a3,a4,a5⟩,XP (.raw _)<|XP (.raw _)<|XP (.raw _)<|XP (.raw _)<|XP (.raw _)<|XP (.raw _)<|XP (.raw _) (Yn _ _)⟩
theorem O6{base:Nat}{v d p}(hv:Value.okWide prog W .any base 25 v)(h:DataW.Trod enc prog W 0 (λ_=>true) true 25 v d p):∃T,dj EN W v (bu T):=by
 obtain⟨v0,v1,v2,g,j,k,n,rfl,_,_,h0,h1,h2⟩:=Joins.open_agg3 Tryz.underlying25 (by kernel_rfl) (by kernel_rfl) hv h;obtain⟨a,ha⟩:=nR h0;obtain⟨B,c⟩:=LD h1;obtain⟨L,e⟩:=rW (f:=jt) (s:=7) Tryz.underlying23 (by kernel_rfl) (by omega) (λn cs y hy hl=>O5 hy hl) h2;cases ha;refine⟨⟨a,B,L⟩,.agg #[_,v1,v2] _ rfl (λi x u k1 b=>?_)⟩
 match i,k1,b with
 |0,k1,b=>cases k1;cases b;exact .raw _
 |1,k1,b=>cases k1;cases b;exact c
 |2,k1,b=>cases k1;cases b;exact e
 |_+3,_,b=>simp[bJ]at b
end
end
end PW
namespace PW
open Go.ChangeShapes Go.WideShapes Go.ChangeAt Go.RowKit
open Go.Joins cm Mem
theorem own:ownKnob prog.godebug=none:=by kernel_rfl
theorem laidOut:laidOutB prog=true:=by kernel_rfl
theorem P8{H:Type}{enc:TypeId×Value->H}{W:World}{t v d p}(h:DataW.Trod enc prog W 0 (λ_=>true) true t v d p):∀x∈p,x.block<W.heap.size:=by
 obtain⟨m,hm⟩:=h;exact DataW.trod_lt m _ _ _ hm
end PW
namespace PW
section
open Go.RowKit cm Mem
theorem BX{P x r W}(h:laidMet P (x::r) W):laidMet P r W:=by
 obtain⟨ps,⟨g,t,cs,a,p,q,_,_,_,_,hr,rfl⟩,hn,hc⟩:=h;exact⟨q,hr,(X7.1 hn).2.1,λb off hm=>hc b off (W5.2 (.inr hm))⟩
theorem oY{P:Program}{W:World}{name k}{a:List Int}{g:Nat}(hg:P.globalNamed name=some g)(h:Lib.TabIs P W name k a):∃t fz,W.heap[g]? =some (.cells (a.map λz=>Value.int k z).toArray t fz):=by
 unfold Lib.TabIs World.var? at h;rw[hg]at h;simp only[Wq]at h;split at h
 ·rename_i cs t fz b;cases h;exact⟨t,fz,b⟩
 ·cases h
def t32:List Int:=[0,1,28,2,29,14,24,3,30,22,20,15,25,17,4,8,31,27,13,23,21,19,16,7,26,12,18,6,11,5,10,9]
def t64:List Int:=[0,1,56,2,57,49,28,3,61,58,42,50,38,29,17,4,62,47,59,36,45,43,51,22,53,39,33,30,24,18,12,5,63,55,48,27,60,41,37,16,46,35,44,21,52,32,23,11,54,26,40,15,34,20,31,10,25,14,19,9,13,8,7,6]
def t10:List Int:=[1,10,100,1000,10000,100000,1000000,10000000,100000000,1000000000,10000000000,100000000000,1000000000000,10000000000000,100000000000000,1000000000000000,10000000000000000,100000000000000000,1000000000000000000,10000000000000000000]
theorem Hj{W}(h:laidMetH prog Rows.wholeViewsRow.laid W):ou (λ_=>False) W:=by
 have h1:laidMet prog [("math/bits.deBruijn32tab",Lib.tabData .u8 t32),("math/bits.deBruijn64tab",Lib.tabData .u8 t64),("internal/strconv.uint64pow10",Lib.tabData .u64 t10)] W:=h;have h2:=BX h1;have b:=BX h2;have a:=oY (g:=2) (by kernel_rfl) (Lib.tabIs_of_head (g:=2) (t:=383) (e:=5) (n:=32) (by kernel_rfl) (by kernel_rfl) (by kernel_rfl) (by kernel_rfl) (by kernel_rfl) (by kernel_rfl) h1);have a2:=oY (g:=3) (by kernel_rfl) (Lib.tabIs_of_head (g:=3) (t:=384) (e:=5) (n:=64) (by kernel_rfl) (by kernel_rfl) (by kernel_rfl) (by kernel_rfl) (by kernel_rfl) (by kernel_rfl) h2);have a3:=oY (g:=1) (by kernel_rfl) (Lib.tabIs_of_head (g:=1) (t:=376) (e:=221) (n:=20) (by kernel_rfl) (by kernel_rfl) (by kernel_rfl) (by kernel_rfl) (by kernel_rfl) (by kernel_rfl) b);intro g cs hm;refine⟨λd=>d,?_⟩;have c:GG=[(1,t10.map λz=>Value.int .u64 z),(2,t32.map λz=>Value.int .u8 z),(3,t64.map λz=>Value.int .u8 z)]:=by kernel_rfl
 rw[c]at hm;rcases V9.1 hm with e|hm
 ·cases e;exact a3
 ·rcases V9.1 hm with e|hm
  ·cases e;exact a
  ·rcases V9.1 hm with e|hm
   ·cases e;exact a2
   ·cases hm
section
variable {P:Program} {N L:Nat} {ops:Array Oper}
def WA(P:Program)(N L:Nat)(ops:Array Oper):Nat->Array Bool->St->(St->Prop)->Prop
 |0,ls,st,K=>Region.ready .any ops ls=[]/\K st
 |n+1,ls,st,K=>Region.ready .any ops ls≠[]/\∀i∈Region.ready .any ops ls,∃o,ops[i]? =some o/\o.guard=none/\WR P N L [o].toArray [o] st (λs=>WA P N L ops n (ls.setIfInBounds i true) s K)
def S5(P:Program)(N L:Nat)(ops:Array Oper)(n:Nat)(ls:Array Bool)(st:St)(K:St->Prop)(is:List Nat):Prop:=
 ∀i∈is,∃o,ops[i]? =some o/\o.guard=none/\WR P N L [o].toArray [o] st (λs=>WA P N L ops n (ls.setIfInBounds i true) s K)
theorem qp{ls st}{K:St->Prop}(h:Region.ready .any ops ls=[])(hk:K st):WA P N L ops 0 ls st K:=⟨h,hk⟩
theorem cI{n:Nat}{ls st}{K:St->Prop}(i:Nat)(is:List Nat)(h:Region.ready .any ops ls=i::is)(hk:S5 P N L ops n ls st K (i::is)):WA P N L ops (n+1) ls st K:=
 ⟨by rw[h];simp,λj hj=>hk j (by rw[<-h];exact hj)⟩
theorem cJ{n:Nat}{ls st}{K:St->Prop}:S5 P N L ops n ls st K []:=λi hi=>by simp at hi
theorem bQ{n:Nat}{ls:Array Bool}{st}{K:St->Prop}{i:Nat}{is:List Nat}{o:Oper}(ho:ops[i]? =some o)(hg:o.guard=none)(h:WR P N L [o].toArray [o] st (λs=>WA P N L ops n (ls.setIfInBounds i true) s K))(hs:S5 P N L ops n ls st K is):S5 P N L ops n ls st K (i::is):=λj hj=>by
 rcases V9.1 hj with rfl|hj
 ·exact⟨o,ho,hg,h⟩
 ·exact hs j hj
def PR(K:Act->World->Prop)(Q:Exit->Act->World->Prop):Exit->Act->World->Prop
 | .normal,a,w=>K a w
 |e,a,w=>Q e a w
theorem zJ{o:Oper}{a w}{K d c:Act->World->Prop}{Q:Exit->Act->World->Prop}(h:∀a w,K a w->d a w)(b:o.wp P a w K (PR c Q)):o.wp P a w d Q:=by
 unfold Oper.wp at*;generalize (execOp a.eval o).run P w=x at*;cases x with
 |ok n w'=>
  cases n<;>simp only[Oper.upon]at b ⊢ <;>
   first
    |exact h _ _ b
    |exact Calls.mono b (λe f he=>by cases e<;>first|exact h _ _ he|exact he)
    |exact Rows.mono b (λ_ _ he=>h _ _ he)
 |halt x w'=>cases x<;>simp only[Oper.upon]at b ⊢ <;>exact b
theorem WA.any:∀ {n:Nat} {ls st} {K:St->Prop},WA P N L ops n ls st K->∀F base E₀ w₀ E a w,uw F base L E₀ w₀ E w->dT F base N st E a w->∀(Q:Exit->Act->World->Prop),(∀b w',qo F base N E₀ w₀ K b w'->Q .normal b w')->wpAny P .any ops Q n ls a w
 |0,ls,st,K,h,F,base,E₀,w₀,E,a,w,hc,hs,Q,d=>⟨h.1,d a w ⟨st,E,h.2,hs,hc.g,hc.b⟩⟩
 |n+1,ls,st,K,h,F,base,E₀,w₀,E,a,w,hc,hs,Q,d=>by
  refine⟨λh0=>absurd h0 h.1,λi hi=>?_⟩;obtain⟨o,ho,hg,hw⟩:=h.2 i hi;have h1:=hw F base E₀ w₀ E a w hc hs (PR (wpAny P .any ops Q n (ls.setIfInBounds i true)) Q) 0 (λb w' ⟨s,E',k1,e,f,g⟩=>by
   show wpAny P .any ops Q n (ls.setIfInBounds i true) b w';exact WA.any k1 F base E₀ w₀ E' b w' ⟨hc.L,f,g⟩ e Q d) (λj=>by simp)
  simp only[VR]at h1;rw[XQ,wpOps_cons]at h1;unfold wpOp at h1 ⊢;have c:∀y,Region.wanted o y=true:=λy=>by unfold Region.wanted;rw[hg]
  simp only[Xx,YO,c,Xr]at h1;simp only[ho,c,Xr];rcases h1 with h1|⟨h1,h2⟩
  ·exact .inl (zJ (λa w h=>h) h1)
  ·exact .inr ⟨h1,h2⟩
theorem AG{id:Nat}{l:List Oper}{st}{Q:Exit->St->Prop}(hm:P.follows .mixedOrders=true)(h:WA P N L l.toArray l.length (Array.replicate l.length false) st (λs=>Q .normal s)):W P N L (.region id l.toArray true) st Q:=λF base E₀ w₀ E a w hc hs=>by
 refine wp_region_any hm ?_;have b:Ext w {w with drawn:=w.drawn+1}:=⟨rfl,rfl,rfl,Vh _,λ_ _=>rfl⟩;have:=h.any F base E₀ w₀ E a {w with drawn:=w.drawn+1} (hc.on (.ext b) (Zz b hs.sat)) ⟨hs.sat.ext b,hs.tmp.goes (.ext b),hs.lO,hs.size⟩ (λe c w'=>qo F base N E₀ w₀ (Q e) c w') (λc w' h=>h);simpa using this
theorem sx{id:Nat}{l:List Oper}{y st}{Q:Exit->St->Prop}(hm:P.follows .mixedOrders=true)(h:WA P N L l.toArray l.length (Array.replicate l.length false) st (λs=>W P N L y s Q)):W P N L (.seq (.region id l.toArray true) y) st Q:=an (AG hm h)
theorem ym{α:Type}{l:List α}{k:Nat}{x}(h:l[k]? =some x):l.set k x=l:=by
 obtain⟨hk,rfl⟩:=Vf.1 h;simp
theorem cO{c t}{σ:bH}{Q:Exit->St->Prop}(i k e s:Nat){ty}{xs:List PV}(hi:σ[i]? =some (some (.cells ty xs)))(hk:xs[k]? =some (.raw (.slice none 0 0)))
  (h:W P N L c ⟨t,(σ++[some (cj.row e s 0 [])]).set i (some (.cells ty (xs.set k (.own σ.length))))⟩ Q):W P N L c ⟨t,σ⟩ Q:=λF base E₀ w₀ E a w hc hs=>by
 obtain⟨l,a2,a3⟩:=Jn hs.sat e s;have j:=(Vf.1 hi).1;have d:(σ++[some (cj.row e s 0 [])])[i]? =some (some (.cells ty xs)):=by rw[Vl j];exact hi
 obtain⟨b,cs,hb,h1,h2,n⟩:=l.blk i _ d;obtain⟨cv,g,f⟩:=n.get hk;cases f;obtain⟨o,m⟩:=l.ta d (b:=b) (by rw[hb];rfl) (Vh _) (λ_ _ _=>rfl) (bi':=.cells ty (xs.set k (.own σ.length))) ⟨b,cs,hb,h1,h2,by
  have:=n.set k a3;rw[ym g]at this;exact this⟩
 exact h F base E₀ w₀ _ a w (hc.on (a2.trans m) (Yh _ _ _)) ⟨o,(hs.tmp.goes a2).goes m,hs.lO,hs.size⟩
inductive Gp (σ:bH) (t:cd):cd->Prop
 |nil:Gp σ t []
 |cons {t':cd} (k:Nat) {p q:PV}:look k t=some p->aQ σ p q->Gp σ t t'->Gp σ t ((k,q)::t')
theorem Gp.get{σ t t'}(h:Gp σ t t'):∀k q,look k t'=some q->∃p,look k t=some p/\aQ σ p q:=by
 induction h with
 |nil=>intro k q h;cases h
 |cons k h1 h2 _ ih=>
  intro j q hj;simp only[look]at hj;rw[VZ]at hj;split at hj
  ·rename_i he;have:=VF he;subst this;cases hj;exact⟨_,h1,h2⟩
  ·exact ih j q hj
theorem oK{c t t' σ}{Q:Exit->St->Prop}(hT:Gp σ t t')(h:W P N 0 c ⟨t',[]⟩ Q):W P N 0 c ⟨t,σ⟩ Q:=λF base E₀ w₀ E a w hc hs=>by
 have d:∀b,F b->E.M b:=λb hb=>(hs.sat.mm b).2 (.inl hb);refine h F base E₀ w₀ (EF F) a w ⟨hc.L,⟨by rw[hc.L];exact We _,λi hi=>by rw[hc.L]at hi;omega,λb h1 h2 e=>hc.g.M b h1 h2 (d b e),hc.g.size,hc.g.heap⟩,hc.b⟩
  ⟨⟨hs.sat.bl,λb hb=>⟨(hs.sat.fb b hb).1,λi blk h=>by simp at h⟩,rfl,λb=>by simp[EF],λi blk h=>by simp at h,λi j bi bj b h=>by simp at h,hs.sat.gl.sub d⟩,λk q f=>?_,hs.lO,hs.size⟩
 obtain⟨p,h1,h2⟩:=hT.get k q f;exact h2.rep hs.sat d (λb hb=>(hs.sat.fb b hb).2) _ (hs.tmp k p h1)
end
end
end PW
namespace Heap
section
def par(q:Nat):Nat:=(q - 1) / 2
theorem gY{q:Nat}(h:0<q):par q<q:=by unfold par;omega
theorem OK{p c:Nat}(h:0<c)(hc:par c=p):c=2*p+1\/c=2*p+2:=by unfold par at hc;omega
def uB(f:Nat->Int)(len:Nat):Prop:=∀q,0<q->q<len->f (par q)<=f q
def PL(f:Nat->Int)(len p:Nat):Prop:=0<p->∀c,0<c->c<len->par c=p->f (par p)<=f c
def qW(f:Nat->Int)(len p:Nat):Prop:=(∀q,0<q->q<len->q≠p->par q≠p->f (par q)<=f q)/\PL f len p
def wQ(f:Nat->Int)(len p:Nat):Prop:=(∀q,0<q->q<len->par q≠p->f (par q)<=f q)/\PL f len p
def MR(f:Nat->Int)(p q x:Nat):Int:=if x=p then f q else if x=q then f p else f x
theorem Br(f:Nat->Int)(p q:Nat):MR f p q p=f q:=by simp[MR]
theorem Si(f:Nat->Int)(p q:Nat):MR f p q q=f p:=by
 unfold MR;split
 ·rename_i h;rw[h]
 ·simp
theorem nC(f:Nat->Int){p q x:Nat}(h1:x≠p)(h2:x≠q):MR f p q x=f x:=by simp[MR,h1,h2]
theorem KP{f:Nat->Int}{len p:Nat}(h:qW f len p)(hp:0<p)(hl:p<len)(_:f p<f (par p)):qW (MR f p (par p)) len (par p):=by
 have k:=gY hp;refine⟨λq h0 d h1 h2=>?_,λhg c h0 hc b=>?_⟩
 ·by_cases e:par q=p
  ·have a:=gY h0;rw[e,Br,nC f (by omega) h1];exact h.2 hp q h0 d e
  ·have a:q≠p:=λg=>h2 (by rw[g]);rw[nC f e h2,nC f a h1];exact h.1 q h0 d a e
 ·have j:=gY hg;rw[nC f (by omega) (by omega)];have i:=h.1 (par p) hg (by omega) (by omega) (by omega);by_cases e:c=p
  ·rw[e,Br];exact i
  ·have:=gY h0;rw[nC f e (by omega)];have:=h.1 c h0 hc e (by omega);rw[b]at this;omega
theorem D5{f:Nat->Int}{len p:Nat}(h:qW f len p)(hp:p=0\/f (par p)<=f p):wQ f len p:=
 ⟨λq h0 b h2=>by
  by_cases e:q=p
  ·subst e;rcases hp with a|a
   ·omega
   ·exact a
  ·exact h.1 q h0 b e h2,h.2⟩
theorem DE{f:Nat->Int}{len p:Nat}(h:wQ f len p)(hk:∀c,0<c->c<len->par c=p->f p<=f c):uB f len:=λq h0 a=>by
 by_cases e:par q=p
 ·rw[e];exact hk q h0 a e
 ·exact h.1 q h0 a e
theorem DF{f:Nat->Int}{len p c:Nat}(h:wQ f len p)(g:0<c)(j:c<len)(a:par c=p)(hlt:f c<f p)(hk:∀i,0<i->i<len->par i=p->f c<=f i):wQ (MR f p c) len c:=by
 have o:=gY g;refine⟨λq h0 l h2=>?_,λ_ d h0 hd k=>?_⟩
 ·have r:=gY h0;by_cases e:par q=p
  ·rw[e,Br];by_cases b:q=c
   ·rw[b,Si];omega
   ·rw[nC f (by omega) b];exact hk q h0 l e
  ·rw[nC f e h2];by_cases b:q=p
   ·rw[b,Br];exact h.2 (by omega) c g j a
   ·rw[nC f b (λm=>e (by rw[m];exact a))];exact h.1 q h0 l e
 ·have n:=gY h0;rw[a,Br,nC f (by omega) (by omega)];have:=h.1 d h0 hd (by omega);rw[k]at this;exact this
theorem Hm{f:Nat->Int}{len:Nat}(h:uB f len):∀q,q<len->f 0<=f q:=by
 intro q;induction q using Nat.strongRecOn with
 |_ q ih=>
  intro a;by_cases e:q=0
  ·rw[e];exact Xg _
  ·have:=gY (q:=q) (by omega);exact Int.le_trans (ih (par q) this (by omega)) (h q (by omega) a)
theorem Bz{f g:Nat->Int}{len p:Nat}(h:uB f len)(he:∀q,q<len->q≠p->g q=f q)(hp:p<len):qW g len p:=by
 refine⟨λq h0 d h1 h2=>?_,λa c h0 hc b=>?_⟩
 ·have:=gY h0;rw[he q d h1,he (par q) (by omega) h2];exact h q h0 d
 ·have:=gY h0;have:=gY a;rw[he (par p) (by omega) (by omega),he c hc (by omega)];have h1:=h c h0 hc;rw[b]at h1;exact Int.le_trans (h p a hp) h1
theorem DV{f g:Nat->Int}{len:Nat}(h:uB f len)(he:∀q,q<len->g q=f q):qW g (len+1) len:=by
 refine⟨λq h0 d h1 _=>?_,λb c h0 hc a=>?_⟩
 ·have:=gY h0;rw[he q (by omega),he (par q) (by omega)];exact h q h0 (by omega)
 ·have:=gY h0;omega
theorem DU{f g:Nat->Int}{len:Nat}(h:uB f (len+1))(he:∀q,q<len->q≠0->g q=f q):qW g len 0:=by
 refine⟨λq h0 b h1 h2=>?_,λa=>by omega⟩;have:=gY h0;rw[he q b h1,he (par q) (by omega) h2];exact h q h0 (by omega)
def qJ(K:List Int)(i:Int):Int:=K.getD i.toNat 0*65536+i
def rk(K O:List Int)(p:Nat):Int:=qJ K (O.getD p 0)
theorem zU{K:List Int}{i j:Int}(hi:0<=i)(c:i<65536)(hj:0<=j)(d:j<65536):
  decide (qJ K i<qJ K j)=(if K.getD i.toNat 0=K.getD j.toNat 0 then decide (i<j) else decide (K.getD i.toNat 0<K.getD j.toNat 0)):=by
 unfold qJ;generalize K.getD i.toNat 0=a;generalize K.getD j.toNat 0=b;split
 ·simp only[decide_eq_decide];omega
 ·simp only[decide_eq_decide];omega
theorem LB{K:List Int}{i j:Int}(hi:0<=i)(a:j<65536)(h:qJ K i<=qJ K j):K.getD i.toNat 0<=K.getD j.toNat 0:=by
 unfold qJ at h;omega
def eU(O:List Int)(p q:Nat):List Int:=(O.set p (O.getD q 0)).set q (O.getD p 0)
theorem i7(O:List Int)(p q:Nat):(eU O p q).length=O.length:=by simp[eU]
theorem ef(L:List Int)(i j:Nat)(c:Int)(hi:i<L.length):(L.set i c).getD j 0=if j=i then c else L.getD j 0:=by
 simp only[Qo,VV];by_cases h:i=j
 ·subst h;simp[hi]
 ·rw[Vk h,Vk (Ne.symm h)]
theorem eO(O:List Int)(p q x:Nat)(hp:p<O.length)(a:q<O.length):(eU O p q).getD x 0=if x=q then O.getD p 0 else if x=p then O.getD q 0 else O.getD x 0:=by
 unfold eU;rw[ef _ _ _ _ (by simpa using a),ef _ _ _ _ hp]
theorem FR(K O:List Int)(p q:Nat)(hp:p<O.length)(a:q<O.length):rk K (eU O p q)=MR (rk K O) p q:=by
 funext x
 unfold rk MR;rw[eO O p q x hp a];by_cases h1:x=q
 ·subst h1;rw[Vn rfl];by_cases h2:x=p
  ·rw[Vn h2,h2]
  ·rw[Vk h2,Vn rfl]
 ·rw[Vk h1];by_cases h2:x=p
  ·rw[Vn h2,Vn h2]
  ·rw[Vk h2,Vk h2,Vk h1]
def fO(O:List Int)(i:Int):Prop:=∃p,p<O.length/\O.getD p 0=i
theorem pJ(O:List Int)(p q:Nat)(hp:p<O.length)(a:q<O.length)(i:Int):fO (eU O p q) i↔fO O i:=by
 unfold fO;rw[i7];constructor
 ·rintro⟨x,hx,rfl⟩;rw[eO O p q x hp a];split
  ·exact⟨p,hp,rfl⟩
  ·split
   ·exact⟨q,a,rfl⟩
   ·exact⟨x,hx,rfl⟩
 ·rintro⟨x,hx,rfl⟩;by_cases h1:x=p
  ·exact⟨q,a,by rw[eO O p q q hp a,Vn rfl,h1]⟩
  ·by_cases h2:x=q
   ·exact⟨p,hp,by
     rw[eO O p q p hp a];by_cases b:p=q
     ·omega
     ·rw[Vk b,Vn rfl,h2]⟩
   ·exact⟨x,hx,by rw[eO O p q x hp a,Vk h2,Vk h1]⟩
structure eB (N:Nat) (P O:List Int):Prop where
 len:P.length=N
 item:∀p,p<O.length->0<=O.getD p 0/\O.getD p 0<N/\P.getD (O.getD p 0).toNat 0=(p:Int)+1
 place:∀i,i<N->P.getD i 0=0\/∃p,p<O.length/\O.getD p 0=(i:Int)
theorem eB.inj{N:Nat}{P O:List Int}(h:eB N P O){p q:Nat}(hp:p<O.length)(a:q<O.length)(he:O.getD p 0=O.getD q 0):p=q:=by
 have h1:=(h.item p hp).2.2;have h2:=(h.item q a).2.2;rw[he]at h1;omega
def jR(P O:List Int)(p q:Nat):List Int:=(P.set (O.getD q 0).toNat ((p:Int)+1)).set (O.getD p 0).toNat ((q:Int)+1)
theorem eB.swap{N:Nat}{P O:List Int}(h:eB N P O){p q:Nat}(hp:p<O.length)(a:q<O.length):eB N (jR P O p q) (eU O p q):=by
 have ip:=h.item p hp;have b:=h.item q a;have hl:=h.len;refine⟨by simp[jR,h.len],λx hx=>?_,λi hi=>?_⟩
 ·rw[i7]at hx;have c:=h.item x hx;have e:∀j:Int,0<=j->j<N->(jR P O p q).getD j.toNat 0=if j=O.getD p 0 then(q:Int)+1 else if j=O.getD q 0 then(p:Int)+1 else P.getD j.toNat 0:=λj h0 h1=>by
   unfold jR;rw[ef _ _ _ _ (by rw[VK];omega),ef _ _ _ _ (by omega)];have d:(j.toNat=(O.getD p 0).toNat)=(j=O.getD p 0):=by apply propext;omega
   have f:(j.toNat=(O.getD q 0).toNat)=(j=O.getD q 0):=by apply propext;omega
   simp only[d,f]
  rw[eO O p q x hp a];by_cases h1:x=q
  ·rw[Vn h1,e _ ip.1 ip.2.1,Vn rfl];exact⟨ip.1,ip.2.1,by rw[h1]⟩
  ·rw[Vk h1];by_cases h2:x=p
   ·rw[Vn h2,e _ b.1 b.2.1,Vk (λe=>by have:=h.inj a hp e;omega),Vn rfl];exact⟨b.1,b.2.1,by rw[h2]⟩
   ·rw[Vk h2,e _ c.1 c.2.1,Vk (λe=>h2 (h.inj hx hp e)),Vk (λe=>h1 (h.inj hx a e))];exact c
 ·by_cases hH:fO O (i:Int)
  ·exact .inr ((pJ O p q hp a (i:Int)).2 hH)
  ·rcases h.place i hi with h0|h0
   ·refine .inl ?_;unfold jR;rw[ef _ _ _ _ (by rw[VK];omega),ef _ _ _ _ (by omega),Vk (λe=>hH ⟨p,hp,by omega⟩),Vk (λe=>hH ⟨q,a,by omega⟩)];exact h0
   ·exact absurd h0 hH
theorem eB.zero{N:Nat}{P O:List Int}(h:eB N P O){i:Nat}(hi:i<N):P.getD i 0=0↔¬fO O (i:Int):=by
 constructor
 ·rintro h0 ⟨p,hp,he⟩;have:=(h.item p hp).2.2;rw[he,Vi,h0]at this;omega
 ·intro hn;rcases h.place i hi with h0|h0
  ·exact h0
  ·exact absurd h0 hn
theorem eB.push{N:Nat}{P O:List Int}(h:eB N P O){i:Nat}(hi:i<N)(hn:¬fO O (i:Int)):eB N (P.set i ((O.length:Int)+1)) (O++[(i:Int)]):=by
 have hl:=h.len;refine⟨by simp[h.len],λx hx=>?_,λj hj=>?_⟩
 ·rw[ef _ _ _ _ (by omega)];by_cases h1:x<O.length
  ·have b:=h.item x h1;have e:(O++[(i:Int)]).getD x 0=O.getD x 0:=by simp[Qo,Vl h1]
   rw[e,Vk (λe=>hn ⟨x,h1,by omega⟩)];exact b
  ·have:x=O.length:=by simp at hx;omega
   subst this;have e:(O++[(i:Int)]).getD O.length 0=i:=by simp
   rw[e,Vi,Vn rfl];exact⟨by omega,by omega,rfl⟩
 ·rw[ef _ _ _ _ (by omega)];by_cases a:j=i
  ·exact .inr ⟨O.length,by simp,by simp[a]⟩
  ·rw[Vk a];rcases h.place j hj with h0|⟨p,hp,he⟩
   ·exact .inl h0
   ·exact .inr ⟨p,by simp;omega,by simp[Qo,Vl hp]at he ⊢;exact he⟩
theorem Hn(O:List Int)(i j:Int):fO (O++[i]) j↔j=i\/fO O j:=by
 constructor
 ·rintro⟨p,hp,rfl⟩;by_cases h1:p<O.length
  ·exact .inr ⟨p,h1,by simp[Qo,Vl h1]⟩
  ·have:p=O.length:=by simp at hp;omega
   subst this;exact .inl (by simp)
 ·rintro(rfl|⟨p,hp,rfl⟩)
  ·exact⟨O.length,by simp,by simp⟩
  ·exact⟨p,by simp;omega,by simp[Qo,Vl hp]⟩
theorem pq(O:List Int)(m x:Nat)(h:x<m):(O.take m).getD x 0=O.getD x 0:=by
 simp[Qo,h]
theorem eB.pop{N:Nat}{P O:List Int}{m:Nat}(h:eB N P O)(hm:O.length=m+1):eB N (P.set (O.getD m 0).toNat 0) (O.take m):=by
 have hl:=h.len;have d:=h.item m (by omega);refine⟨by simp[h.len],λx hx=>?_,λj hj=>?_⟩
 ·have b:x<m:=by simp at hx;omega
  rw[pq O m x b,ef _ _ _ _ (by omega)];have c:=h.item x (by omega);rw[Vk (λe=>by have:=h.inj (p:=x) (q:=m) (by omega) (by omega) (by omega);omega)];exact c
 ·rw[ef _ _ _ _ (by omega)];by_cases a:j=(O.getD m 0).toNat
  ·exact .inl (Vn a)
  ·rw[Vk a];rcases h.place j hj with h0|⟨p,hp,he⟩
   ·exact .inl h0
   ·have:p≠m:=λe=>a (by rw[<-e,he];rfl);exact .inr ⟨p,by simp;omega,by rw[pq O m p (by omega)];exact he⟩
theorem Kv{N:Nat}{P O:List Int}{m:Nat}(h:eB N P O)(hm:O.length=m+1)(j:Int):fO (O.take m) j↔fO O j/\j≠O.getD m 0:=by
 constructor
 ·rintro⟨p,hp,rfl⟩;have b:p<m:=by simp at hp;omega
  rw[pq O m p b];exact⟨⟨p,by omega,rfl⟩,λe=>by have:=h.inj (p:=p) (q:=m) (by omega) (by omega) e;omega⟩
 ·rintro⟨⟨p,hp,rfl⟩,a⟩;have:p≠m:=λe=>a (by rw[e]);exact⟨p,by simp;omega,pq O m p (by omega)⟩
theorem Ev:∀(N m:Nat) (f:Nat->Nat),(∀p,p<m->f p<N)->(∀p q,p<m->q<m->f p=f q->p=q)->m<=N
 |0,m,f,h,_=>by
  rcases Xz m with h0|h0
  ·omega
  ·have:=h 0 h0;omega
 |N+1,m,f,h,hi=>by
  by_cases hx:∃p,p<m/\f p=N
  ·obtain⟨p0,c,he⟩:=hx;have:=Ev N (m - 1) (λp=>if p=p0 then f (m - 1) else f p) (λp hp=>by
    by_cases e:p=p0
    ·simp only[e,Xr];have h1:=h (m - 1) (by omega);have h2:f (m - 1)≠N:=λb=>by have:=hi (m - 1) p0 (by omega) c (by omega);omega
     omega
    ·simp only[e,Yo];have h1:=h p (by omega);have h2:f p≠N:=λb=>e (hi p p0 (by omega) c (by omega));omega) (λp q hp d a=>by
    by_cases e:p=p0<;>by_cases b:q=p0
    ·omega
    ·simp only[e,b,Xr,Yo]at a;have:=hi (m - 1) q (by omega) (by omega) a;omega
    ·simp only[e,b,Xr,Yo]at a;have:=hi p (m - 1) (by omega) (by omega) a;omega
    ·simp only[e,b,Yo]at a;exact hi p q (by omega) (by omega) a)
   omega
  ·have:=Ev N m f (λp hp=>by
    have h1:=h p hp;have h2:f p≠N:=λe=>hx ⟨p,hp,e⟩;omega) hi
   omega
theorem lu{N:Nat}{P O:List Int}(h:eB N P O):O.length<=N:=
 Ev N O.length (λp=>(O.getD p 0).toNat) (λp hp=>by have:=h.item p hp;omega) (λp q hp a e=>by
  have h1:=h.item p hp;have h2:=h.item q a;exact h.inj hp a (by omega))
end
end Heap
namespace PW
section
open Go.RowKit cm Mem Net Heap
def kq(b:Bool)(d:Option cj)(N n:Nat)(K P O:List Int):bH:=
 match b with
 |false=>[d,some (.cells 341 [.own 2,.own 3,.own 4]),some (.row 3 1 N (cb K)),some (.row 3 1 N (cb P)),some (.row 3 1 n (cb O))]
 |true=>[d,some (.cells 341 [.own 2,.own 3,.own 5]),some (.row 3 1 N (cb K)),some (.row 3 1 N (cb P)),none,some (.row 3 1 n (cb O))]
def R3:cj->Prop
 | .cells _ xs=>aM xs
 | .row _ _ _ xs=>aM xs
 | .mp kv=>aM (kv.map (·.2))
 | .win _ _ _ xs=>aM xs
 | .mK _ _ _=>False
 | .oB _ _ _ _=>False
def nZ(d:Option cj):Prop:=∀b,d=some b->R3 b
theorem eV.same{fs:List Nat}{σ σ'}{js:List Nat}{j:Nat}{d}(hd:nZ d)(h:σ[j]? =some d)(hs:eV fs σ σ' js):eV fs σ (d::σ') (j::js):=by
 cases d with
 |none=>exact .gone hs
 |some b=>
  have hb:=hd b rfl;cases b with
  |cells ty xs=>haveI:aM xs:=hd _ rfl;exact .kept h (.cells VT) hs
  |row e s n xs=>haveI:aM xs:=hd _ rfl;exact .kept h (.row VT) hs
  |mp kv=>haveI:aM (kv.map (·.2)):=hd _ rfl;exact .kept h .mp hs
  |win e s n xs=>haveI:aM xs:=hd _ rfl;exact .kept h (.win rfl VT) hs
  |mK kv bs ck=>exact(hd _ rfl).elim
  |oB m s seen c=>exact(hd _ rfl).elim
def BB(K P O:List Int):PV:=.cH [bm K,bm P,bm O] 0
theorem vx(b:Bool)(d:Option cj){N n:Nat}{K P O:List Int}(a:K.length=N)(e:P.length=N)(c:O.length=n):aQ (kq b d N n K P O) (.ptr 1 0) (BB K P O):=by
 subst a;subst c;unfold BB bm;rw[e];cases b<;>exact ZA rfl (Vp (Yw rfl W9) (Vp (Yw rfl W9) (Vp (Yw rfl W9) Wg)))
theorem mO{N:Nat}{P O:List Int}(h:eB N P O){p:Nat}(hp:p<O.length):∃i:Nat,O.getD p 0=(i:Int)/\i<N:=by
 obtain⟨h1,h2,_⟩:=h.item p hp;exact⟨(O.getD p 0).toNat,by omega,by omega⟩
theorem uM{N:Nat}(K P O:List Int)(a:eB N P O)(e:K.length=N)(hN:N<=65536)(p q:Nat)(hp:p<O.length)(b:q<O.length):
  Can prog 255 [BB K P O,num p,num q] (· =flag (decide (rk K O p<rk K O q))):=by
 obtain⟨i,hi,c⟩:=mO a hp;obtain⟨j,hj,d⟩:=mO a b;have hr:decide (rk K O p<rk K O q)=if K.getD i 0=K.getD j 0 then decide ((i:Int)<(j:Int)) else decide (K.getD i 0<K.getD j 0):=by
  unfold rk;rw[hi,hj,zU (by omega) (by omega) (by omega) (by omega),Vi,Vi]
 refine aR func255 I ntmps255 I<|aj (.a 1 I<|.k [0,1,2] I)<|ev mixed (by kernel_rfl) (.a 5 I<|.v [12,13] (aX (p) I) I I<|.v [14] (aO I ((aS O p hp).trans (by rw[hi]))) I I<|.a 5 I<|.v [19,20] (aX (q) I) I I<|.v [21] (aO I ((aS O q b).trans (by rw[hj]))) I I<|.a 2 I<|.k [0,7,8] I) ?_;refine an<|ev mixed (by kernel_rfl) (.a 5 I<|.v [26,27] (aX (i) I) I I<|.v [28] (aO I (aS K i (by omega))) I I<|.a 5 I<|.v [33,34] (aX (j) I) I I<|.v [35] (aO I (aS K j (by omega))) I I<|.a 1 I<|.k [0,7,8,37] I) ?_;refine ak I (λhc=>?_) (λhc=>?_)
 ·have:=Vg hc;rw[Vk this]at hr;refine ev mixed (by kernel_rfl) (.a 5 I<|.v [41,42] (aX (i) I) I I<|.v [43] (aO I (aS K i (by omega))) I I<|.a 5 I<|.v [48,49] (aX (j) I) I I<|.v [50] (aO I (aS K j (by omega))) I I<|.a 2 I<|.k [6] I)<|aA<|jF I aQ.pure (by rw[hr];rfl)
 ·have:=Vj hc;rw[Vn (by simpa using this)]at hr;exact ao<|aj (.a 4 I<|.k [6] I)<|aA<|jF I aQ.pure (by rw[hr];rfl)
theorem vW{N n:Nat}(b:Bool)(d:Option cj)(K P O:List Int)(e:eB N P O)(r:O.length=n)(hN:N<=65536)(p q:Nat)(hp:p<O.length)(a:q<O.length):
  aD prog 256 [.ptr 1 0,num p,num q] (kq b d N n K P O) (λ_ σ'=>σ'=kq b d N n K (jR P O p q) (eU O p q)):=by
 obtain⟨i,hi,m⟩:=mO e hp;obtain⟨j,hj,o⟩:=mO e a;have k:=lu e;have l:=e.len;have f:(eU O p q).getD p 0=j:=by
  rw[eO O p q p hp a];by_cases h:p=q
  ·rw[Vn h];subst h;omega
  ·rw[Vk h,Vn rfl,hj]
 have g:(eU O p q).getD q 0=i:=by rw[eO O p q q hp a,Vn rfl,hi]
 have c:eU O p q=(O.set p (j:Int)).set q (i:Int):=by unfold eU;rw[hi,hj]
 rw[c]at f g;refine aV func256 I ntmps256 I ?_;cases b
 all_goals
  refine lN 25 20 mixed (.val [0] I (aP I) I I<|.val [6] I (aP I) I I<|.val [7] I (aP I) I I<|.val [8] I (aP I) I I<|.val [1] I (aP I) I I<|.val [0] I (aP I) I I<|.val [11] I (aP I) I I<|.val [12] I (aP I) I I<|.val [13] I (aP I) I I<|.late [2] I (o9 rfl rfl) inferInstance rfl rfl<|.val [0] I (aP I) I I<|.val [16] I (aP I) I I<|.val [17] I (aP I) I I<|.val [18] I (aP I) I I<|.val [2] I (aP I) I I<|.val [19,20] I (aX (q) I) I I<|.val [21] I (aO I ((aS O q a).trans (by rw[hj]))) I I<|.val [0] I (aP I) I I<|.val [23] I (aP I) I I<|.val [24] I (aP I) I I<|.val [25] I (aP I) I I<|.val [1] I (aP I) I I<|.val [26,27] I (aX (p) I) I I<|.val [28] I (aO I ((aS O p hp).trans (by rw[hi]))) I I<|.val [9,10] I (aX (p) I) I I<|.nil) (by kernel_rfl) I I (aJ (ks:=[0,1,2,14,15,22,29,30]) I)<|bw (cK I (VJ I) I I I (by first|omega|(simp;omega))) I I<|aZ (aX (q) I) I<|bw (cK I (VJ I) I I I (by first|omega|(simp;omega))) I I<|aF [0,1,2] I ?_;refine lN 14 20 mixed (.val [0] I (aP I) I I<|.val [32] I (aP I) I I<|.val [33] I (aP I) I I<|.val [34] I (aP I) I I<|.val [0] I (aP I) I I<|.val [36] I (aP I) I I<|.val [37] I (aP I) I I<|.val [38] I (aP I) I I<|.val [1] I (aP I) I I<|.val [39,40] I (aX (p) I) I I<|.val [41] I (aO I ((aS ((O.set p (j:Int)).set q (i:Int)) p (by simpa using hp)).trans (by rw[f]))) I I<|.val [1] I (aP I) I I<|.val [43] I (aU I) I I<|.val [35,42] I (aX (j) I) I I<|.nil) (by kernel_rfl) I I (aJ (ks:=[0,2,44,45]) I)<|bw (cK I (VJ I) I I I (by first|omega|(simp;omega))) I I<|aF [0,2] I ?_;refine dE 14 20 mixed (.val [0] I (aP I) I I<|.val [46] I (aP I) I I<|.val [47] I (aP I) I I<|.val [48] I (aP I) I I<|.val [0] I (aP I) I I<|.val [50] I (aP I) I I<|.val [51] I (aP I) I I<|.val [52] I (aP I) I I<|.val [2] I (aP I) I I<|.val [53,54] I (aX (q) I) I I<|.val [55] I (aO I ((aS ((O.set p (j:Int)).set q (i:Int)) q (by simpa using a)).trans (by rw[g]))) I I<|.val [2] I (aP I) I I<|.val [57] I (aU I) I I<|.val [49,56] I (aX (i) I) I I<|.nil) (by kernel_rfl) I I (aJ (ks:=[58,59]) I)<|bw (cK I (VJ I) I I I (by first|omega|(simp;omega))) I I<|aF [] I ?_;refine⟨_,V5 I,?_⟩;unfold jR;rw[hi,hj,c]
  rfl
theorem Me(p:Nat)(h:0<p):((p:Int) - 1).tdiv 2=((par p:Nat):Int):=by
 rw[XI (by omega)];unfold par;omega
theorem FN{σ}{K P O:List Int}(h:aQ σ (.ptr 1 0) (BB K P O))(p q:Int):aE σ ([.ptr 1 0,num p,num q]++[]) [BB K P O,num p,num q]:=Vp h (Vp aQ.pure (Vp aQ.pure Wg))
theorem qL{N n:Nat}(b:Bool)(d:Option cj)(K P O:List Int)(U:eB N P O)(X:O.length=n)(R:K.length=N)(hN:N<=65536)(p:Nat)(hp:p<n)(W:qW (rk K O) n p):
  aD prog 235 [.ptr 1 0,num p] (kq b d N n K P O) (λ_ σ'=>∃m a,σ'=kq b d N n K m a/\eB N m a/\a.length=n/\uB (rk K a) n/\∀i,fO a i↔fO O i):=by
 have V:=lu U;refine aV func235 I ntmps235 I ?_;cases b
 all_goals
  refine an<|ay<|eX [0,1] I<|bq (λr s=>∃m a p',eB N m a/\a.length=n/\qW (rk K a) n p'/\p'<n/\(∀i,fO a i↔fO O i)/\r=p'/\s=⟨[(0,.ptr 1 0),(1,num p')],kq _ d N n K m a⟩) p ⟨P,O,p,U,X,W,hp,λ_=>Iff.rfl,rfl,rfl⟩ ?_;rintro r s ⟨m,a,p',j,k,D,y,o,rfl,rfl⟩;refine an ?_;have⟨F,f⟩:=dw (decide ((0:Int)<(r:Int)));have⟨T,g⟩:=dw (decide (rk K a r<rk K a (par r)));refine cD 15 (.raw (.bool (F&&T))) [0,1] I ?_ ?_
  ·refine .a 1 I<|.v (cT I (f)) I<|.a 1 I<|?_;cases F
   ·exact .a 7 I<|.k [15,0,1] I
   ·exact .a 3 I<|.v (aU I) I<|.v (lI I I I (by decide) (Me r (by have:=Vg f;omega)) (by unfold In64 par;omega)) I<|.v (tY I (FN (vx _ d R j.len k) _ _) (g▸uM K m a j R hN r (par r) (by omega) (by have:=Vg f;have:=gY (q:=r) (by omega);omega))) I<|.a 1 I<|.k [15,0,1] I
  refine ak I (λhc=>?_) (λhc=>?_)
  ·obtain⟨c1,S⟩:=Wd.1 hc;rw[c1]at f;rw[S]at g;have A:0<r:=by have:=Vg f;omega
   have hlt:=Vg g;have Q:=gY A;refine ao<|ay<|aK<|av 3 I<|aZ (aU I) I<|aZ (lI I I I (by decide) (Me r A) (by unfold In64;omega)) I<|br I I (VO (vW _ d K m a j k hN r (par r) (by omega) (by omega)) (λ_ σ' h=>?_));subst h;refine aF [0,1] I<|aL (.a 1 I<|.v (aU I) I<|.v (lI I I I (by decide) (Me r A) (by unfold In64;omega)) I<|.a 1 I<|.k [0,1] I) ?_;refine⟨par r,Q,jR m a r (par r),eU a r (par r),par r,j.swap (by omega) (by omega),by rw[i7];exact k,?_,by omega,λi=>(pJ a r (par r) (by omega) (by omega) i).trans (o i),rfl,rfl⟩;rw[FR K a r (par r) (by omega) (by omega)];exact KP D A y hlt
  ·have v:wQ (rk K a) n r:=D5 D (by
    by_cases h0:r=0
    ·exact .inl h0
    ·refine .inr ?_;have h1:F=true:=by rw[<-f];simp;omega
     rw[h1]at hc;simp only[WB]at hc;rw[hc]at g;have:=Vj g;omega)
   clear D f g hc;refine bh<|ay<|eX [0,1] I<|bq (λr s=>∃m a p',eB N m a/\a.length=n/\wQ (rk K a) n p'/\p'<n/\(∀i,fO a i↔fO O i)/\r=n - p'/\s=⟨[(0,.ptr 1 0),(1,num p')],kq _ d N n K m a⟩) (n - r) ⟨m,a,r,j,k,v,y,o,rfl,rfl⟩ ?_;clear j k v o m a y r;rintro r s ⟨m,a,p',j,k,v,y,o,rfl,rfl⟩;refine ay<|aj (.a 2 I<|.k [0,1,4] I)<|an<|aj (.a 1 I<|.v (aU I) I<|.v (aU I) I<|.a 1 I<|.k [0,1,4,5] I)<|ay<|eX [0,1,4,5] I<|bq (λr s=>∃c l,2*p'+1<=c/\c<=2*p'+3/\r=2*p'+3 - c/\l<n/\(l=p'\/(par l=p'/\0<l/\rk K a l<rk K a p'))/\(∀x,2*p'+1<=x->x<c->x<n->rk K a l<=rk K a x)/\s=⟨[(0,.ptr 1 0),(1,num p'),(4,num l),(5,num c)],kq _ d N n K m a⟩) 2 ⟨2*p'+1,p',by omega,by omega,by omega,y,.inl rfl,λx h1 h2=>by omega,rfl⟩ ?_;rintro r s ⟨c,l,Y,Z,rfl,hl,w,t,rfl⟩;refine an ?_;have⟨F,f⟩:=dw (decide ((c:Int)<=2*(p':Int)+2));have⟨T,g⟩:=dw (decide ((c:Int)<(n:Int)));refine cD 42 (.raw (.bool (F&&T))) [0,1,4,5] I ?_ ?_
   ·refine .a 2 I<|.v (aU I) I<|.v (aU I) I<|.v (cT I (f)) I<|.a 1 I<|?_;cases F
    ·exact .a 8 I<|.k [42,0,1,4,5] I
    ·exact .a 6 I<|.v (cT I (g)) I<|.a 1 I<|.k [42,0,1,4,5] I
   refine ak I (λhc=>?_) (λhc=>?_)
   ·obtain⟨c1,S⟩:=Wd.1 hc;rw[c1]at f;rw[S]at g;have G:c<n:=by have:=Vg g;omega
    have aa:c<=2*p'+2:=by have:=Vg f;omega
    have M:par c=p':=by unfold par;omega
    refine ao<|an<|ay<|aj (.a 3 I<|.v (tY I (FN (vx _ d R j.len k) _ _) (uM K m a j R hN c l (by omega) (by omega))) I<|.k [0,1,4,5,48] I)<|ak I (λhb=>?_) (λhb=>?_)
    ·have u:=Vg hb;refine aL (.a 2 I<|.k [0,1,4,5] I)<|aL (.a 1 I<|.v (aU I) I<|.a 1 I<|.k [0,1,4,5] I) ?_;first
      |exact⟨2*p'+3 - (c+1),by omega,c+1,c,by omega,by omega,rfl,G,.inr ⟨M,by omega,by rcases w with h|h;(rw[h]at u;exact u);omega⟩,λx h1 h2 C=>by by_cases e:x=c;(rw[e];exact Xg _);(have:=t x h1 (by omega) C;omega),rfl⟩
      |exact⟨2*p'+3 - (c+1),by omega,c+1,l,by omega,by omega,rfl,hl,w,λx h1 h2 C=>by by_cases e:x=c;(rw[e];omega);exact t x h1 (by omega) C,rfl⟩
    ·have u:=Vj hb;refine ao<|aL (.a 1 I<|.v (aU I) I<|.a 1 I<|.k [0,1,4,5] I) ?_;first
      |exact⟨2*p'+3 - (c+1),by omega,c+1,c,by omega,by omega,rfl,G,.inr ⟨M,by omega,by rcases w with h|h;(rw[h]at u;exact u);omega⟩,λx h1 h2 C=>by by_cases e:x=c;(rw[e];exact Xg _);(have:=t x h1 (by omega) C;omega),rfl⟩
      |exact⟨2*p'+3 - (c+1),by omega,c+1,l,by omega,by omega,rfl,hl,w,λx h1 h2 C=>by by_cases e:x=c;(rw[e];omega);exact t x h1 (by omega) C,rfl⟩
   ·have B:∀x,0<x->x<n->par x=p'->rk K a l<=rk K a x:=λx h0 hx z=>by
     refine t x (by unfold par at z;omega) ?_ hx;rcases Ww x c with h|h
     ·exact h
     ·exfalso;have hx2:=OK h0 z;have h1:F=true:=by rw[<-f];simp;omega
      rw[h1]at hc;simp only[WB]at hc;rw[hc]at g;have:=Vj g;omega
    clear hc f g t;refine bh<|an<|aj (.a 3 I<|.k [0,1,4,52] I)<|ak I (λhc=>?_) (λhc=>?_)
    ·have E:l=p':=by have:=Vg hc;omega
     refine aA<|⟨_,V5 I,m,a,rfl,j,k,?_,o⟩;refine DE v λx h0 hx z=>?_;have:=B x h0 hx z;rw[E]at this;exact this
    ·have E:l≠p':=by have:=Vj hc;omega
     obtain⟨L,H,J⟩:=w.resolve_left E;refine ao<|aK<|av 3 I<|br I I (VO (vW _ d K m a j k hN p' l (by omega) (by omega)) (λ_ σ' h=>?_));subst h;refine aF [0,4] I<|aL (.a 2 I<|.k [0,1] I) ?_;have Q:=gY H;refine⟨n - l,by omega,jR m a p' l,eU a p' l,l,j.swap (by omega) (by omega),by rw[i7];exact k,?_,hl,λi=>(pJ a p' l (by omega) (by omega) i).trans (o i),rfl,rfl⟩;rw[FR K a p' l (by omega) (by omega)];exact DF v H hl L J B
def I2(N n:Nat)(K P O:List Int):Prop:=eB N P O/\O.length=n/\K.length=N/\uB (rk K O) n
theorem Mc{N n:Nat}(d:Option cj)(hd:nZ d)(K P O:List Int)(h:I2 N (n+1) K P O)(hN:N<=65536)(i:Nat)(hi:O.getD 0 0=(i:Int)):
  aD prog 236 [.ptr 1 0,num 0] (kq false d N (n+1) K P O) (λ_ σ'=>∃o k,σ'=kq true d N n (K.set i 0) o k/\I2 N n (K.set i 0) o k/\∀j,fO k j↔fO O j/\j≠(i:Int)):=by
 obtain⟨l,t,r,hH⟩:=h;have B:=lu l;have C:i<N:=by have:=(l.item 0 (by omega)).2.1;rw[hi]at this;omega
 have g:=l.swap (p:=0) (q:=n) (by omega) (by omega);have hg:(eU O 0 n).getD n 0=(i:Int):=by rw[eO O 0 n n (by omega) (by omega),Vn rfl,hi]
 have b:=g.pop (m:=n) (by rw[i7];exact t);rw[hg,Vi]at b;have a:∀j,fO ((eU O 0 n).take n) j↔fO O j/\j≠(i:Int):=λj=>by
  rw[Kv g (by rw[i7];exact t) j,hg,pJ O 0 n (by omega) (by omega)]
 have f:((eU O 0 n).take n).length=n:=by rw[V8,i7];omega
 have A:(jR P O 0 n).length=N:=g.len;have v:∀x,x<n->x≠0->rk (K.set i 0) ((eU O 0 n).take n) x=rk K O x:=λx hx w=>by
  unfold rk;rw[pq _ _ _ hx,eO O 0 n x (by omega) (by omega),Vk (by omega),Vk w];unfold qJ;have u:(O.getD x 0).toNat≠i:=λe=>by
   have h1:=l.item x (by omega);have:=l.inj (p:=x) (q:=0) (by omega) (by omega) (by rw[hi];omega);omega
  rw[ef _ _ _ _ (by omega),Vk u]
 have c:qW (rk (K.set i 0) ((eU O 0 n).take n)) n 0:=DU hH v;refine aV func236 I ntmps236 I<|aj (.a 5 I<|.v (aU I (hc:=(show(((n+1:Nat):Int)) - 1=(n:Int) by omega))) I<|.a 1 I<|.k [0,1,4] I)<|aj (.a 5 I<|.v (aX (0) I) I<|.v (aO I ((aS O 0 (by omega)).trans (by rw[hi]))) I<|.a 1 I<|.k [0,1,4,5] I)<|aK<|av 3 I<|br I I (VO (vW false d K P O l t hN 0 n (by omega) (by omega)) (λ_ σ' h=>?_));subst h;refine aF [0,1,4,5] I<|aK<|av 6 I<|bW (zz I (WN I) I I I I (by omega)) I<|av 3 I ?_;refine ft [0,1,2,3,4,5] (.c 0<|.c 1<|.c 4<|.c 5<|.nil) (.same hd rfl<|.kept rfl (.cells (WU<|WU<|WU<|Wp))<|.kept rfl (.row VT)<|.kept rfl (.row VT)<|.gone<|.kept rfl (.eZ rfl (show(cb (eU O 0 n)).take (n*1)=cb ((eU O 0 n).take n) by rw[Xt];unfold cb;rw[YP]))<|.nil) I I (bM ?_);refine lN 11 20 mixed (.val [0] I (aP I) I I<|.val [32] I (aP I) I I<|.val [33] I (aP I) I I<|.val [34] I (aP I) I I<|.val [5] I (aP I) I I<|.val [0] I (aP I) I I<|.val [37] I (aP I) I I<|.val [38] I (aP I) I I<|.val [39] I (aP I) I I<|.late [5] I (o9 rfl rfl) inferInstance rfl rfl<|.val [35,36] I (aX (i) I) I I<|.nil) (by kernel_rfl) I I (aJ (ks:=[0,1,4,40,41,42]) I)<|bw (cK I (VJ I) I I I (by first|omega|(simp;omega))) I I<|aZ (aX (i) I) I<|bw (cK I (VJ I) I I I (by first|omega|(simp;omega))) I I<|aF [0,1,4] I ?_;refine aj (.a 3 I<|.k [0,1,46] I)<|ak I (λhc=>?_) (λhc=>?_)
 ·have s:0<n:=by have:=Vg hc;omega
  refine bp<|av 2 I<|br I I (VO (qL true d (K.set i 0) ((jR P O 0 n).set i 0) ((eU O 0 n).take n) b f (by simpa using r) hN 0 s c) (λ_ σ' h=>?_));obtain⟨o,k,rfl,h1,h2,y,z⟩:=h;refine aF [] I ?_;first
   |exact⟨_,V5 rfl,o,k,rfl,⟨h1,h2,by simpa using r,y⟩,λj=>(z j).trans (a j)⟩
   |exact⟨_,V5 rfl,(jR P O 0 n).set i 0,(eU O 0 n).take n,rfl,⟨b,f,by simpa using r,λq h0 D=>by omega⟩,a⟩
 ·have s:n=0:=by have:=Vj hc;omega
  refine ao ?_;first
   |exact⟨_,V5 rfl,o,k,rfl,⟨h1,h2,by simpa using r,y⟩,λj=>(z j).trans (a j)⟩
   |exact⟨_,V5 rfl,(jR P O 0 n).set i 0,(eU O 0 n).take n,rfl,⟨b,f,by simpa using r,λq h0 D=>by omega⟩,a⟩
theorem N6{N:Nat}(K P O:List Int)(j:P.length=N)(h:K.length=N)(hN:N<=65536)(i:Nat)(hi:i<N):
  Can prog 212 [BB K P O,num i] (· = .tuple [num (if P.getD i 0=0 then 0 else K.getD i 0),flag (!decide (P.getD i 0=0))]):=by
 refine aR func212 I ntmps212 I<|aj (.a 2 I<|.k [0,1] I)<|an ?_;have⟨e,b⟩:=dw (decide ((i:Int)<0));have⟨f,c⟩:=dw (decide ((K.length:Int)<=(i:Int)));have⟨g,a⟩:=dw (decide (P.getD i 0=0));refine cD 30 (.raw (.bool (e||f||g))) [0,1] I ?_ ?_
 ·refine .a 4 I<|.v (cT I (b)) I<|.a 2 I<|?_;cases e
  ·refine .a 6 I<|.v (cT I (c)) I<|.a 2 I<|?_;cases f
   ·exact .a 5 I<|.v (aX (i) I) I<|.v (aO I (aS P i (by omega))) I<|.v (cT I (a)) I<|.a 1 I<|.k [30,0,1] I
   ·exact .a 9 I<|.k [30,0,1] I
  ·exact .a 18 I<|.k [30,0,1] I
 refine ak I (λhc=>?_) (λhc=>?_)
 ·have h1:e=false:=by rw[<-b];simp
  have h2:f=false:=by rw[<-c];simp;omega
  rw[h1,h2]at hc;simp only[Bool.false_or]at hc;rw[hc]at a;refine aj (.a 2 I<|.k [4,5] I)<|aA<|⟨_,_,V5 I,aQ.pure,?_⟩;rw[a];first
   |(rw[Vn (Vg a)];rfl)
   |(rw[Vk (Vj a)];rfl)
 ·have d:g=false:=by revert hc;cases g<;>simp
  rw[d]at a;refine ao<|aj (.a 5 I<|.v (aX (i) I) I<|.v (aO I (aS K i (by omega))) I<|.a 2 I<|.k [4,5] I)<|aA<|⟨_,_,V5 I,aQ.pure,?_⟩;rw[a];first
   |(rw[Vn (Vg a)];rfl)
   |(rw[Vk (Vj a)];rfl)
theorem OT{N n:Nat}(d:Option cj)(hd:nZ d)(K P O:List Int)(h:I2 N n K P O)(hN:N<=65536):
  aD prog 211 [.ptr 1 0] (kq false d N n K P O) (λr σ'=>(n=0/\r= .tuple [num 0,num 0,flag false]/\σ'=kq false d N n K P O)\/
   ∃(n' i:Nat) (e c:List Int),n=n'+1/\i<N/\O.getD 0 0=(i:Int)/\r= .tuple [num i,num (K.getD i 0),flag true]/\σ'=kq true d N n' (K.set i 0) e c/\I2 N n' (K.set i 0) e c/\∀j,fO c j↔fO O j/\j≠(i:Int)):=by
 have g:=h;obtain⟨k,o,m,hH⟩:=g;refine aV func211 I ntmps211 I<|aj (.a 3 I<|.k [0] I)<|an ?_;have⟨l,a⟩:=dw (decide ((n:Int)=0));refine cD 14 (.raw (.bool (l))) [0] I ?_ ?_
 ·exact .a 8 I<|.v (cT I (a)) I<|.a 1 I<|.k [14,0] I
 refine ak I (λhc=>?_) (λhc=>?_)
 ·have b:n=0:=by rw[hc]at a;have:=Vg a;omega
  refine aj (.a 3 I<|.k [2,3,4] I)<|aA ?_;first
   |exact⟨_,V5 rfl,.inl ⟨b,rfl,rfl⟩⟩
   |exact⟨_,V5 rfl,.inr ⟨n',i,e,c,rfl,f,hi,rfl,rfl,h1,h2⟩⟩
 ·have b:n≠0:=by rw[hc]at a;have:=Vj a;omega
  obtain⟨n',rfl⟩:∃n',n=n'+1:=⟨n - 1,by omega⟩;obtain⟨i,hi,f⟩:=mO k (p:=0) (by omega);refine ao<|aj (.a 4 I<|.v (aX (0) I) I<|.v (aO I ((aS O 0 (by omega)).trans (by rw[hi]))) I<|.a 1 I<|.k [0,2] I)<|aj (.a 5 I<|.v (aX (i) I) I<|.v (aO I (aS K i (by omega))) I<|.a 1 I<|.k [0,2,3] I)<|aK<|av 1 I<|br I I (VO (Mc d hd K P O h hN i hi) (λ_ σ' h=>?_));obtain⟨e,c,rfl,h1,h2⟩:=h;refine aF [2,3] I<|aj (.a 5 I<|.k [2,3,4] I)<|aA ?_;first
   |exact⟨_,V5 rfl,.inl ⟨b,rfl,rfl⟩⟩
   |exact⟨_,V5 rfl,.inr ⟨n',i,e,c,rfl,f,hi,rfl,rfl,h1,h2⟩⟩
theorem Lt{N:Nat}{P O:List Int}(a:eB N P O){i:Nat}(hi:i<N)(h:P.getD i 0≠0):∃p,p<O.length/\O.getD p 0=(i:Int)/\P.getD i 0=(p:Int)+1:=by
 rcases a.place i hi with h0|⟨p,hp,he⟩
 ·exact absurd h0 h
 ·have:=(a.item p hp).2.2;rw[he,Vi]at this;exact⟨p,hp,he,this⟩
theorem LN{N:Nat}{K P O:List Int}(a:eB N P O)(d:K.length=N){i:Nat}(hi:i<N)(c:Int){x:Nat}(hx:x<O.length)(b:O.getD x 0≠(i:Int)):rk (K.set i c) O x=rk K O x:=by
 unfold rk qJ;have h1:=a.item x hx;rw[ef _ _ _ _ (by omega),Vk (by omega)]
theorem FX{N n:Nat}(d:Option cj)(hd:nZ d)(K P O:List Int)(h:I2 N n K P O)(hN:N<=65536)(i:Nat)(hi:i<N)(key:Int):
  aD prog 210 [.ptr 1 0,num i,num key] (kq false d N n K P O) (λr σ'=>∃(b:Bool) (n':Nat) (m k:List Int),σ'=kq b d N n' (K.set i key) m k/\I2 N n' (K.set i key) m k/\∀j,fO k j↔fO O j\/j=(i:Int)):=by
 obtain⟨l,D,o,hH⟩:=h;have H:=lu l;have L:=l.len;refine aV func210 I ntmps210 I<|aj (.a 1 I<|.k [0,1,2] I)<|an<|aj (.a 2 I<|.k [0,1,2,8] I)<|ak I (λhc=>?_) (λhc=>?_)
 ·cases hc
 ·refine ao<|an ?_;have⟨G,B⟩:=dw (decide ((i:Int)<0));have⟨J,C⟩:=dw (decide ((N:Int)<=(i:Int)));refine cD 19 (.raw (.bool (G||J))) [0,1,2] I ?_ ?_
  ·refine .a 1 I<|.v (cT I (B)) I<|.a 1 I<|?_;cases G
   ·exact .a 6 I<|.v (cT I (C)) I<|.a 1 I<|.k [19,0,1,2] I
   ·exact .a 8 I<|.k [19,0,1,2] I
  refine ak I (λhc=>?_) (λhc=>?_)
  ·have h1:G=false:=by rw[<-B];simp
   have h2:J=false:=by rw[<-C];simp;omega
   rw[h1,h2]at hc;cases hc
  ·refine ao<|aK<|av 6 I<|aZ (aX (i) I) I<|bw (cK I (VJ I) I I I (by first|omega|(simp;omega))) I I<|aF [0,1] I ?_;refine an<|aj (.a 5 I<|.v (aX (i) I) I<|.v (aO I (aS P i (by omega))) I<|.a 1 I<|.k [0,1,34] I)<|ak I (λhc=>?_) (λhc=>?_)
   ·have t:P.getD i 0=0:=Vg hc;have y:=(l.zero hi).1 t;have s:=l.push hi y;have E:(O++[(i:Int)]).length=n+1:=by simp[D]
    rw[D]at s;have c:(P.set i ((n:Int)+1)).getD i 0=(n:Int)+1:=by rw[ef _ _ _ _ (by omega),Vn rfl]
    have f:i<(P.set i ((n:Int)+1)).length:=by simp;omega
    have u:((n:Int)+1) - 1=(n:Int):=by omega
    have M:n<N:=by have:=lu s;simp at this;omega
    have g:=qL true d (K.set i key) (P.set i ((n:Int)+1)) (O++[(i:Int)]) s E (by simpa using o) hN n (by omega) (DV hH λq Q=>by
     have e:(O++[(i:Int)]).getD q 0=O.getD q 0:=by simp[Qo,Vl (show q<O.length by omega)]
     have:=LN l o hi key (x:=q) (by omega) (λe=>y ⟨q,by omega,e⟩);unfold rk at this ⊢;rw[e];exact this)
    have a:∀j,fO (O++[(i:Int)]) j↔fO O j\/j=(i:Int):=λj=>(Hn O i j).trans Or.comm;refine aK<|av 7 I<|bW (bP I (VW I) I I I I (by unfold maxLen;omega)) I<|av 3 I ?_;refine ft [0,1,2,3,4,5] (.c 0<|.c 1<|.nil) (.same hd rfl<|.kept rfl (.cells (WU<|WU<|WU<|Wp))<|.kept rfl (.row VT)<|.kept rfl (.row VT)<|.gone<|.kept rfl (.eZ rfl (ed _ _))<|.nil) I I (bM ?_);refine dE 11 20 mixed (.val [0] I (aP I) I I<|.val [45] I (aP I) I I<|.val [46] I (aP I) I I<|.val [47] I (aP I) I I<|.val [1] I (aP I) I I<|.val [0] I (aP I) I I<|.val [50] I (aP I) I I<|.val [51] I (aP I) I I<|.val [52] I (aP I) I I<|.val [53] I (aP I) I I<|.val [48,49] I (aX (i) I) I I<|.nil) (by kernel_rfl) I I (aJ (ks:=[0,1,54,55]) I)<|bw (cK I (VJ I) I I I (by first|omega|(simp;omega))) I I<|aF [0,1] I ?_;refine aK<|av 6 I<|aZ (aX (i) I) I<|aZ (aO I ((aS _ i f).trans (V1 (λz=>some (PV.raw (.int .i64 z))) c))) I<|aZ (aU I (hc:=u)) I<|br I I (VO g (λ_ σ' h=>?_));obtain⟨m,k,rfl,h1,h2,v,w⟩:=h;refine aF [] I<|aj (.a 1 I<|.k [6] I)<|aA ?_;first
     |exact⟨_,V5 rfl,true,_,m,k,rfl,⟨h1,h2,by simpa using o,v⟩,λj=>(w j).trans (a j)⟩
     |exact⟨_,V5 rfl,false,_,m,k,rfl,⟨h1,h2,by simpa using o,v⟩,λj=>(w j).trans (a j)⟩
   ·have t:P.getD i 0≠0:=Vj hc;obtain⟨p,hp,A,c⟩:=Lt l hi t;have f:i<P.length:=by omega
    have u:((p:Int)+1) - 1=(p:Int):=by omega
    have g:=qL false d (K.set i key) P O l D (by simpa using o) hN p (by omega) (Bz hH (λq Q F=>LN l o hi key (x:=q) (by omega) (λe=>F (l.inj (by omega) hp (by rw[e,A])))) (by omega));have a:∀j,fO O j↔fO O j\/j=(i:Int):=λj=>⟨.inl,λh=>h.elim id λe=>⟨p,hp,by rw[A,e]⟩⟩;refine ao<|aK<|av 6 I<|aZ (aX (i) I) I<|aZ (aO I ((aS _ i f).trans (V1 (λz=>some (PV.raw (.int .i64 z))) c))) I<|aZ (aU I (hc:=u)) I<|br I I (VO g (λ_ σ' h=>?_));obtain⟨m,k,rfl,h1,h2,v,w⟩:=h;refine aF [] I<|aj (.a 1 I<|.k [6] I)<|aA ?_;first
     |exact⟨_,V5 rfl,true,_,m,k,rfl,⟨h1,h2,by simpa using o,v⟩,λj=>(w j).trans (a j)⟩
     |exact⟨_,V5 rfl,false,_,m,k,rfl,⟨h1,h2,by simpa using o,v⟩,λj=>(w j).trans (a j)⟩
end
end PW
end Go.Proofs.YtfcadpknnbgibaaGreatDoor
