/- Texts of the proof, part 8. -/
import Derived.RangeFuncBox
import Derived.Lib.ItoaNum
import Derived.Lib.AppendStr
import Derived.Lib.UnsafeStr
import Derived.Lib.Builder
import Derived.Shelf.Strings.Builder1
import Derived.Shelf.Strings.Builder2
import Derived.Shelf.Strings.OnBuilder
import Derived.Shelf.Strings.BuilderF
import Derived.Shelf.Strings.BuilderK
import Derived.Shelf.Strings.Builder2Cap
import Derived.Shelf.Strconv.Itoa0
import Derived.Shelf.Strconv.Itoa1
import Derived.Shelf.LaysM
import Derived.Shelf.Strconv.Itoa2
import Derived.Shelf.Strconv.Itoa3
import Derived.Shelf.Strings.BuilderCap
import Derived.Ground.Names2Prog
import Derived.Shelf.Slices.Clone
import Derived.Shelf.Slices.SearchI
import Derived.Ground.SlgnProg
import Derived.Shelf.SlicesE.Clone
import Derived.Test.YtnegbdpggideiaaDoorProg
import Derived.Laws.StructEq
import Derived.Test.YtnegbdpggideiaaDoorCardFAB7
set_option linter.unusedVariables false
set_option linter.unusedSimpArgs false
set_option maxRecDepth 10000
set_option maxHeartbeats 1000000
namespace Go.Proofs.YtnegbdpggideiaaDoor
namespace PW
open Go.RowKit aN Mem
inductive Up (k:Nat):PV→PV→Prop
 |pure {p:PV} [IsPure p]:Up k p p
 |own {i j:Nat}:j=k+i→Up k (.own i) (.own j)
 |ptr {i j o:Nat}:j=k+i→Up k (.ptr i o) (.ptr j o)
 |agg {xs ys:List PV} (hl:ys.length=xs.length) (hs:∀(j:Nat) x y,xs[j]? =some x→ys[j]? =some y→Up k x y):Up k (.agg xs) (.agg ys)
 |tuple {xs ys:List PV} (hl:ys.length=xs.length) (hs:∀(j:Nat) x y,xs[j]? =some x→ys[j]? =some y→Up k x y):Up k (.tuple xs) (.tuple ys)
 |func {f:FuncId} {xs ys:List PV} (hl:ys.length=xs.length) (hs:∀(j:Nat) x y,xs[j]? =some x→ys[j]? =some y→Up k x y):Up k (.func f xs) (.func f ys)
def vh(k:Nat)(xs ys:List PV):Prop:=ys.length=xs.length∧∀(j:Nat) x y,xs[j]? =some x→ys[j]? =some y→Up k x y
theorem vh.nil{k:Nat}:vh k [] []:=⟨rfl,fun j x y h=>by simp at h⟩
theorem vh.pure{k:Nat}{xs:List PV}[h:ao xs]:vh k xs xs:=⟨rfl,fun j x y h1 h2=>by
 rw[h1]at h2;cases h2
 haveI:=h.out j x h1
 exact Up.pure⟩
inductive xk (k:Nat):cB→cB→Prop
 |cells {ty:TypeId} {xs ys:List PV}:vh k xs ys→xk k (.cells ty xs) (.cells ty ys)
 |row {e s n:Nat} {xs ys:List PV}:vh k xs ys→xk k (.row e s n xs) (.row e s n ys)
 |mp {kv:List (Value×PV)} [ao (kv.map (·.2))]:xk k (.mp kv) (.mp kv)
def w0(k:Nat)(xs ys:List cB):Prop:=ys.length=xs.length∧∀(j:Nat) x y,xs[j]? =some x→ys[j]? =some y→xk k x y
theorem w0.nil{k:Nat}:w0 k [] []:=⟨rfl,fun j x y h=>by simp at h⟩
section
variable {E E1 E2:Env} {w:World} {k:Nat}
theorem Up.rep(hat:∀i,i<E1.L→E2.at_ (k+i)=E1.at_ i∧k+i<E2.L)(hM:∀b,E2.M b→E1.M b){p q:PV}(h:Up k p q):∀v,bC E1 w v p→bC E2 w v q:=by
 induction h with
 | @pure p hp=>
  intro v h
  have:=hp.out E1 E2.M w v hM h
  exact this.goes (E:=EF E2.M) (E':=E2) (w:=w) (w':=w) ⟨Nat.zero_le _,fun i hi=>absurd hi (Nat.not_lt_zero i),fun _ _ h=>h,Nat.le_refl _,fun _ _ _=>rfl⟩
 | @own i j hij=>
  intro v h
  subst hij
  cases h with
  |own _ hi _ h hs=>exact .own _ (hat i hi).2 v ((hat i hi).1.trans h) hs
 | @ptr i j o hij=>
  intro v h
  subst hij
  cases h with
  |ptr _ _ b hi h=>exact .ptr _ o b (hat i hi).2 (by rw[(hat i hi).1];exact h)
 | @agg xs ys hl _ ih=>
  intro v h
  cases h with
  |agg cs _ hl' hr=>exact .agg cs ys (hl'.trans hl.symm) (fun j c u h1 h2=>by
    have hj:j<xs.length:=by rw[←hl];exact(List.getElem?_eq_some_iff.1 h2).1
    exact ih j xs[j] u (by simp[hj]) h2 c (hr j c _ h1 (by simp[hj])))
 | @tuple xs ys hl _ ih=>
  intro v h
  cases h with
  |tuple cs _ hl' hr=>exact .tuple cs ys (hl'.trans hl.symm) (fun j c u h1 h2=>by
    have hj:j<xs.length:=by rw[←hl];exact(List.getElem?_eq_some_iff.1 h2).1
    exact ih j xs[j] u (by simp[hj]) h2 c (hr j c _ h1 (by simp[hj])))
 | @func f xs ys hl _ ih=>
  intro v h
  cases h with
  |func _ cs _ hl' hr=>exact .func f cs ys (hl'.trans hl.symm) (fun j c u h1 h2=>by
    have hj:j<xs.length:=by rw[←hl];exact(List.getElem?_eq_some_iff.1 h2).1
    exact ih j xs[j] u (by simp[hj]) h2 c (hr j c _ h1 (by simp[hj])))
theorem vh.rep(hat:∀i,i<E1.L→E2.at_ (k+i)=E1.at_ i∧k+i<E2.L)(hM:∀b,E2.M b→E1.M b){xs ys:List PV}(h:vh k xs ys){cs:List Value}(hs:aw E1 w cs xs):aw E2 w cs ys:=⟨hs.1.trans h.1.symm,fun j c u h1 h2=>by
 have hj:j<xs.length:=by rw[←h.1];exact(List.getElem?_eq_some_iff.1 h2).1
 exact(h.2 j xs[j] u (by simp[hj]) h2).rep hat hM c (hs.2 j c _ h1 (by simp[hj]))⟩
theorem xk.sat{base base':Nat}(hb:base'≤base)(hat:∀i,i<E1.L→E2.at_ (k+i)=E1.at_ i∧k+i<E2.L)(hM:∀b,E2.M b→E1.M b){v:Value}{x y:cB}(h:xk k x y)(hs:dT base E1 w v x):dT base' E2 w v y:=by
 cases h with
 |cells h1=>
  obtain⟨b,cs,h2,h3,h4,h5⟩:=hs
  exact⟨b,cs,h2,by omega,h4,h1.rep hat hM h5⟩
 |row h1=>
  obtain⟨cs,h2,h3⟩:=hs
  refine⟨cs,⟨h2.1,?_⟩,h1.rep hat hM h3⟩
  rcases h2.2 with h|⟨g,cap,cur,a1,a2,a3⟩
  ·exact .inl h
  ·exact .inr ⟨g,cap,cur,a1,by omega,a3⟩
 | @mp kv hp=>
  obtain⟨r,es,ck,h2,h3,h4,h5,h6⟩:=hs
  exact⟨r,es,ck,h2,by omega,h4,h5,vh.pure (k:=k).rep hat hM h6⟩
end
theorem bQ.frame{P:Program}{f:FuncId}{ps:List PV}{σ:bo}{R:PV→bo→Prop}[ao ps]
  (h:bQ P f ps [] (fun r σ1=>∃bs,σ1=bs.map some∧∃r' bs',Up σ.length r r'∧w0 σ.length bs bs'∧R r' (σ++bs'.map some))):bQ P f ps σ R:=fun F base E w vs hS hR=>by
 refine(h E.M w.heap.size (EF E.M) w vs (Sat.start E.M w (fun b hb=>hS.lt hb) hS.gl) (hR.pure (fun _ h=>h))).mono ?_
 rintro e w' ⟨v,r,σ1,E1,rfl,⟨bs,rfl,r',bs',hu,hbu,hRr⟩,hS1,hg1,hB1,hv⟩
 have hE:Ext w w':=hB1
 have hL1:E1.L=bs.length:=by rw[hS1.len];simp
 have hlen:((List.range bs.length).map E1.at_).length=bs'.length:=by rw[List.length_map,List.length_range,hbu.1]
 have hget:∀(i:Nat) v,((List.range bs.length).map E1.at_)[i]? =some v→i<bs.length∧v=E1.at_ i:=fun i v hi=>by
  have hi':i<bs.length:=by have:=(List.getElem?_eq_some_iff.1 hi).1;simpa using this
  rw[List.getElem?_map,List.getElem?_range hi']at hi
  cases hi
  exact⟨hi',rfl⟩
 have hbk:∀i,i<bs.length→∃x,bs[i]? =some x∧(bs.map some)[i]? =some (some x):=fun i hi=>⟨bs[i],by simp[hi],by simp[hi]⟩
 have hat:∀i,i<E1.L→(E.cd ((List.range bs.length).map E1.at_)).at_ (σ.length+i)=E1.at_ i∧σ.length+i<(E.cd ((List.range bs.length).map E1.at_)).L:=fun i hi=>by
  rw[hL1]at hi
  refine⟨?_,?_⟩
  ·simp only[Env.cd,hS.len]
   rw[if_neg (by omega),Nat.add_sub_cancel_left,List.getD_eq_getElem?_getD,List.getElem?_map,List.getElem?_range hi]
   rfl
  ·simp only[Env.cd,hS.len,List.length_map,List.length_range];omega
 have hM:∀b,(E.cd ((List.range bs.length).map E1.at_)).M b→E1.M b:=fun b hb=>by
  rcases hb with hb|⟨v,hv1,hv2⟩
  ·exact(hS1.mm b).2 (.inl hb)
  ·obtain⟨i,hi⟩:=List.getElem?_of_mem hv1
   obtain⟨hi1,rfl⟩:=hget i v hi
   obtain⟨x,_,hx⟩:=hbk i hi1
   exact(hS1.mm b).2 (.inr ⟨i,x,hx,hv2⟩)
 have hp:=hS.cd hE ((List.range bs.length).map E1.at_) bs' hlen
  (fun v hv1 b hb=>by
   obtain⟨i,hi⟩:=List.getElem?_of_mem hv1
   obtain⟨hi1,rfl⟩:=hget i v hi
   obtain⟨x,_,hx⟩:=hbk i hi1
   exact((hS1.blk i x hx).lt hb).1)
  (fun i j u v b hi hj hu hv=>by
   obtain⟨hi1,rfl⟩:=hget i u hi
   obtain⟨hj1,rfl⟩:=hget j v hj
   obtain⟨x,_,hx⟩:=hbk i hi1
   obtain⟨y,_,hy⟩:=hbk j hj1
   exact hS1.inj i j x y b hx hy hu hv)
  (fun i v blk hi hb=>by
   obtain⟨hi1,rfl⟩:=hget i v hi
   obtain⟨x,hx0,hx⟩:=hbk i hi1
   exact(hbu.2 i x blk hx0 hb).sat hS.bl hat hM (hS1.blk i x hx))
 exact⟨v,r',_,_,rfl,hRr,hp.1,hp.2,Below.fq hE hS.bl,hu.rep hat hM v hv⟩
end PW
end Go.Proofs.YtnegbdpggideiaaDoor
namespace Go.Proofs.YtnegbdpggideiaaDoor
namespace PW
open Go.RowKit aN Mem Net
theorem pU(T:ab)(D:List Bool)(n:Int):Can Tryd.prog 18 [a6 T,bA D,num n] (· = .tuple [mO (gT T D n),num (bX T D [n])]):=by
 refine aI Tryd.func18 rfl Tryd.ntmps18 rfl<|aX<|av 3 rfl<|aQ [1,2,3,6] rfl ?_
 refine ak ?_
 obtain⟨q1,hq1⟩:∃q,aj T=q:=⟨_,rfl⟩
 obtain⟨q2,hq2⟩:∃q,bw T D=q:=⟨_,rfl⟩
 refine aY 22 (.raw (.bool ((!q1)||(!q2)))) [1,2,3,6] rfl ?_ ?_
 ·refine .a 1 rfl<|.c rfl (hq1▸fp T) rfl<|.a 2 rfl<|?_
  cases q1
  ·exact .a 5 rfl<|.k [22,1,2,3,6] rfl
  ·exact .a 2 rfl<|.c rfl (hq2▸kV T D (by have:=bJ hq1;omega)) rfl<|.a 2 rfl<|.k [22,1,2,3,6] rfl
 refine ag rfl (fun hc=>?_) (fun hc=>?_)
 ·have hch:bX T D [n]=1:=by
   unfold bX
   rw[hq1,hq2,if_neg]
   revert hc
   cases q1<;>cases q2<;>simp
  refine aX<|av 3 rfl<|aQ [6,7] rfl ?_
  exact an<|⟨_,_,ax.of rfl,ay.bq (al.cons (ay.pe (al.cons ay.pure<|al.cons ay.bY<|al.cons ay.bY al.nil)) (al.cons ay.pure al.nil)),by unfold gT;rw[hch];rfl⟩
 ·have hok:(aj T&&bw T D)=true:=by
   rw[hq1,hq2]
   revert hc
   cases q1<;>cases q2<;>simp
  clear hc hq1 hq2
  refine ai<|ak<|af (.a 2 rfl<|.c rfl (cE T n) rfl<|.a 1 rfl<|.k [1,2,3,6,27] rfl)<|ag rfl (fun hc=>?_) (fun hc=>?_)
  ·have hn:aS T n=false:=by revert hc;cases aS T n<;>simp
   have hch:bX T D [n]=2:=by
    unfold bX
    rw[if_pos hok,if_neg]
    simp[hn]
   refine aX<|av 3 rfl<|aQ [6,7] rfl ?_
   exact an<|⟨_,_,ax.of rfl,ay.bq (al.cons (ay.pe (al.cons ay.pure<|al.cons ay.bY<|al.cons ay.bY al.nil)) (al.cons ay.pure al.nil)),by unfold gT;rw[hch];rfl⟩
  ·have hn:aS T n=true:=by revert hc;cases aS T n<;>simp
   have hch:bX T D [n]=0:=by
    unfold bX
    rw[if_pos hok,if_pos]
    simp[hn]
   obtain⟨hv,hf⟩:=Bool.and_eq_true_iff.1 hok
   rw[aV]at hn
   obtain⟨m,rfl⟩:=Int.eq_ofNat_of_zero_le hn.1
   obtain⟨N,hN⟩:∃N:Nat,T.nodes=(N:Int):=⟨T.nodes.toNat,by omega⟩
   have hN64:N≤64:=by have:=(aC hv).nodes;omega
   have hll:=bJ hv
   refine ai<|aX<|av 4 rfl<|aQ [1,2,3,6,8] rfl ?_
   refine bU 1 1 30 3 rfl rfl ?_
   refine bU 1 2 3 1 rfl rfl ?_
   refine ak<|af (.a 1 rfl<|.v (aO rfl ((show some (num T.nodes)=some (num (N:Int)) by rw[hN]))) rfl<|.a 1 rfl<|.k [1,2,3,6,8,32,33] rfl)<|aq<|iC [1,2,3,6,8,32,33] rfl<|br (fun r s=>∃j,j≤N∧r=N - j∧s=⟨[(1,bA D),(2,num m),(3,.b6 (b5 T) 0),(6,.ptr 0 0),(8,.ptr 1 0),(32,num N),(33,num j)],[some (.cells 25 [num 0,.raw (.slice none 0 0),.raw (.slice none 0 0)]),some (.cells 25 [num m,.own 2,.own 3]),some (.row 30 3 j (gw (oY T D m j))),some (.row 3 1 0 [])]⟩) N ⟨0,by omega,by omega,rfl⟩ ?_
   rintro r s ⟨j,hj,rfl,rfl⟩
   refine af (.a 1 rfl<|.k [1,2,3,6,8,32,33,34] rfl)<|ak<|ag rfl (fun hc=>?_) (fun hc=>?_)
   ·have hlt:j<N:=by have:=of_decide_eq_true hc;omega
    have hne:cy T D (m:Int) (j:Int)=0:=by
     have hnb:aS T (j:Int)=true:=aV.2 ⟨by omega,by omega⟩
     have hch':bX T D [(j:Int)]=0:=by
      unfold bX
      rw[if_pos hok,if_pos]
      simp[hnb]
     unfold cy
     rw[if_pos hch',if_pos (aV.2 hn)]
    have hnx:Can Tryd.prog 48 [a6 T,bA D,num m,num j] (· = .tuple [aJ (bx T D m j),num 0]):=by
     have h:=tJ T D (m:Int) (j:Int)
     rw[hne]at h
     exact h
    refine ai<|ak<|aq<|af (.a 2 rfl<|.k [1,2,3,6,8,9,32,33] rfl)<|af (.a 4 rfl<|.c rfl (hnx) rfl<|.a 5 rfl<|.k [1,2,3,6,8,10,32,33] rfl)<|bK<|av 3 rfl<|bZ (xt (eg (xs:=[_,_,_]) rfl (cb.st.get rfl) rfl rfl) (je.pe (.cons (je.refl _)<|.cons (je.refl _)<|.cons je.bY .nil))) rfl<|av 1 rfl<|dJ (ct rfl (cb.rk.get rfl) rfl rfl rfl rfl (by unfold maxLen;omega)) rfl<|av 2 rfl ?_
    refine gm [0,1,4,3] (.c 1<|.c 2<|.c 3<|.c 6<|.c 8<|.c 32<|.c 33<|.nil) (.kept rfl (.cells (aL.c<|aL.c<|aL.c<|aL.nil))<|.kept rfl (.cells (aL.c<|aL.c<|aL.c<|aL.nil))<|.kept rfl (.eR rfl (show _=gw (oY T D m (j+1)) by rw[s4];exact pa _ ⟨bx T D m j,false,[]⟩))<|.kept rfl (.row aL.pure)<|.nil) rfl rfl (aH ?_)
    refine aF (.v (bf rfl) rfl<|.a 1 rfl<|.k [1,2,3,6,8,32,33] rfl) ?_
    exact⟨N - (j+1),by omega,j+1,by omega,rfl,rfl⟩
   ·have hje:j=N:=by have:=of_decide_eq_false hc;omega
    subst hje
    refine bn<|ak ?_
    have hol:(cU T m).length≤512:=Nat.le_trans (gP T m _) (by omega)
    refine af (.a 2 rfl<|.c rfl (qR T hll _) rfl<|.a 2 rfl<|.k [1,6,8,54,55,56] rfl)<|aq<|iC [1,6,8,54,55,56] rfl<|br (fun r s=>∃i,i≤(cU T m).length∧r=(cU T m).length - i∧s=⟨[(1,bA D),(6,.ptr 0 0),(8,.ptr 1 0),(54,aJ (cU T m)),(55,num (cU T m).length),(56,num i)],[some (.cells 25 [num 0,.raw (.slice none 0 0),.raw (.slice none 0 0)]),some (.cells 25 [num m,.own 2,.own 3]),some (.row 30 3 j (gw (oY T D m j))),some (.row 3 1 (iR D ((cU T m).take i)).length (aG (iR D ((cU T m).take i))))]⟩) (cU T m).length ⟨0,by omega,by omega,rfl⟩ ?_
    rintro r s ⟨i,hi,rfl,rfl⟩
    refine af (.a 1 rfl<|.k [1,6,8,54,55,56,57] rfl)<|ak<|ag rfl (fun hc=>?_) (fun hc=>?_)
    ·have hlt:i<(cU T m).length:=by have:=of_decide_eq_true hc;omega
     obtain⟨h0,h1⟩:=oH (cS (d:=0) hlt)
     obtain⟨a,ha⟩:=Int.eq_ofNat_of_zero_le h0
     have hDl:D.length=0∨a<D.length:=by simp only[bw,decide_eq_true_eq]at hf;omega
     have hstep:iR D ((cU T m).take (i+1))=iR D ((cU T m).take i)++(if bG D a then [(a:Int)] else []):=by
      unfold iR
      rw[fk _ i 0 hlt,List.filter_append,ha]
      simp only[List.filter_cons,List.filter_nil,Int.toNat_natCast]
     have hdl:(iR D ((cU T m).take i)).length≤1000:=Nat.le_trans (List.length_filter_le _ _) (by rw[List.length_take];have:=gP T m (2*T.aa.length);unfold cU at*;omega)
     refine ai<|ak<|aq<|af (.v (aR (i) rfl) rfl<|.v (aO rfl ((au _ i hlt).trans (by rw[ha]))) rfl<|.a 1 rfl<|.k [1,6,8,13,54,55,56] rfl)<|af (.a 2 rfl<|.c rfl (lx D a hDl) rfl<|.k [1,6,8,13,54,55,56,62] rfl)<|ag rfl (fun hcd=>?_) (fun hcd=>?_)
     ·rw[hcd,if_pos rfl]at hstep
      refine bK<|av 4 rfl<|dJ (ct rfl (cb.rk.get rfl) rfl rfl rfl rfl (by unfold maxLen;omega)) rfl<|av 2 rfl ?_
      refine gm [0,1,2,4] (.c 1<|.c 6<|.c 8<|.c 54<|.c 55<|.c 56<|.nil) (.kept rfl (.cells (aL.c<|aL.c<|aL.c<|aL.nil))<|.kept rfl (.cells (aL.c<|aL.c<|aL.c<|aL.nil))<|.kept rfl (.row aL.pure)<|.kept rfl (.eR rfl (eF _ _))<|.nil) rfl rfl (aH ?_)
      refine aF (.v (bf rfl) rfl<|.a 1 rfl<|.k [1,6,8,54,55,56] rfl) ?_
      refine⟨(cU T m).length - (i+1),by omega,i+1,by omega,rfl,?_⟩
      rw[hstep]
      first
       |rfl
       |(simp only[List.length_append,List.length_singleton];rfl)
     ·rw[hcd,if_neg (by simp),List.append_nil]at hstep
      refine ai<|aF (.v (bf rfl) rfl<|.a 1 rfl<|.k [1,6,8,54,55,56] rfl) ?_
      refine⟨(cU T m).length - (i+1),by omega,i+1,by omega,rfl,?_⟩
      rw[hstep]
      first
       |rfl
       |(simp only[List.length_append,List.length_singleton];rfl)
    ·have hie:i=(cU T m).length:=by have:=of_decide_eq_false hc;omega
     subst hie
     refine bn<|aX<|bZ (ei (ys:=[num m,.own 2,.own 3]) rfl (cb.tk.get rfl) rfl rfl rfl rfl) rfl<|av 2 rfl<|aQ [6,7] rfl ?_
     refine an<|⟨_,_,ax.of rfl,ay.bq (al.cons (ay.pe (al.cons ay.pure<|al.cons (ay.gZ rfl al.pure)<|al.cons (ay.gZ rfl al.pure) al.nil)) (al.cons ay.pure al.nil)),?_⟩
     unfold gT
     rw[hch,if_pos rfl,List.take_length]
     unfold bS mO dx gg aJ
     rw[qp,show T.nodes.toNat=j by omega]
     rfl
end PW
end Go.Proofs.YtnegbdpggideiaaDoor
namespace Go.Proofs.YtnegbdpggideiaaDoor
namespace PW
open Go.RowKit aN Mem Net eB
end PW
end Go.Proofs.YtnegbdpggideiaaDoor
namespace Go.Proofs.YtnegbdpggideiaaDoor
namespace PW
open Go.RowKit aN Mem
structure GD where
 p:PV
 r:Option Nat
 lo:Nat
 hi:Nat
section
variable {P:Program} {N L:Nat}
inductive GK (P:Program) (N:Nat) (ops:Array Oper) (σs:List bo) (T:a7) (o:Oper):GD→Prop
 |val {p:PV} {d lo hi:Nat} (ks:List Nat) (hks:(ks.all fun k=>(o.looksAt ops).contains k)=true) (hw:cz ops T o=some true) (hy:∀r σ,lo≤r→r≤hi→σs[r]? =some σ→az P σ (df T ks) o p) (hd:o.dst=some d) (hN:Nat.blt d N=true):GK P N ops σs T o ⟨p,none,lo,hi⟩
 |skip {d lo hi:Nat} (hw:cz ops T o=some false) (hd:o.dst=some d) (hN:Nat.blt d N=true):GK P N ops σs T o ⟨.raw undef,none,lo,hi⟩
 |rn {p:PV} {d r lo hi:Nat} {σ σ':bo} (ks:List Nat) (hks:(ks.all fun k=>(o.looksAt ops).contains k)=true) (hw:cz ops T o=some true) (h1:σs[r]? =some σ) (h2:σs[r+1]? =some σ') (hy:eT P σ (df T ks) o p σ') (hd:o.dst=some d) (hN:Nat.blt d N=true):GK P N ops σs T o ⟨p,some r,lo,hi⟩
 |qO {p:PV} {r lo hi:Nat} {σ σ':bo} (ks:List Nat) (hks:(ks.all fun k=>(o.looksAt ops).contains k)=true) (hw:cz ops T o=some true) (h1:σs[r]? =some σ) (h2:σs[r+1]? =some σ') (hy:eT P σ (df T ks) o p σ') (hd:o.dst=none):GK P N ops σs T o ⟨p,some r,lo,hi⟩
inductive GL (P:Program) (N:Nat) (ops:Array Oper) (σs:List bo) (T:a7):List Oper→List GD→Prop
 |nil:GL P N ops σs T [] []
 |cons {o:Oper} {g:GD} {l:List Oper} {gs:List GD}:GK P N ops σs T o g→GL P N ops σs T l gs→GL P N ops σs T (o::l) (g::gs)
theorem GL.get{ops:Array Oper}{σs:List bo}{T:a7}:∀ {l:List Oper} {gs:List GD},GL P N ops σs T l gs→gs.length=l.length∧∀(i:Nat) o g,l[i]? =some o→gs[i]? =some g→GK P N ops σs T o g
 |_,_,.nil=>⟨rfl,fun i o g h=>by simp at h⟩
 |_,_,.cons h hs=>by
  obtain⟨h1,h2⟩:=hs.get
  refine⟨by simp[h1],fun i o g ho hg=>?_⟩
  cases i with
  |zero=>simp at ho hg;subst ho;subst hg;exact h
  |succ i=>exact h2 i o g (by simpa using ho) (by simpa using hg)
def fj(gs:List GD)(i:Nat):Option Nat:=(gs[i]?).bind (·.r)
def vv(ops:Array Oper)(f m:Nat)(gs:List GD):Bool:=
  Nat.beq gs.length ops.size&&
  ((List.range ops.size).all fun i=>(jr ops i).all fun k=>decide (k<i))&&
  ((List.range ops.size).all fun i=>(List.range i).all fun j=>(aZ ops i).isNone||aZ ops i !=aZ ops j)&&
  ((List.range ops.size).all fun j=>(b9 ops j).all fun k=>(List.range ops.size).all fun i=>aZ ops i !=some k||cJ ops f j i)&&
  ((List.range ops.size).all fun i => match gs[i]? with
    |some ⟨_,some r,_,_⟩=>decide (r<m)&&(Nat.beq r 0||(List.range ops.size).any fun j=>fj gs j==some (r - 1)&&cJ ops f i j)
    |some ⟨_,none,lo,hi⟩=>(Nat.beq lo 0||(List.range ops.size).any fun j=>fj gs j==some (lo - 1)&&cJ ops f i j)&&(Nat.ble m hi||(List.range ops.size).any fun j=>fj gs j==some hi&&cJ ops f j i)
    |none=>false)&&
  ((List.range ops.size).all fun i=>(List.range i).all fun j=>(fj gs i).isNone||fj gs i !=fj gs j)&&
  ((List.range m).all fun r=>(List.range ops.size).any fun j=>fj gs j==some r)
structure xV (ops:Array Oper) (f m:Nat) (gs:List GD):Prop where
 len:gs.length=ops.size
 jr:∀i,i<ops.size→∀k∈jr ops i,k<i
 ss:∀i j d,i<ops.size→j<ops.size→aZ ops i=some d→aZ ops j=some d→i=j
 rd:∀j,j<ops.size→∀k∈b9 ops j,∀i,i<ops.size→aZ ops i=some k→cJ ops f j i=true
 rn:∀(i:Nat) g r,gs[i]? =some g→g.r=some r→r<m∧(r=0∨∃j,j<ops.size∧fj gs j=some (r - 1)∧cJ ops f i j=true)
 quiet:∀(i:Nat) g,gs[i]? =some g→g.r=none→(g.lo=0∨∃j,j<ops.size∧fj gs j=some (g.lo - 1)∧cJ ops f i j=true)∧(m≤g.hi∨∃j,j<ops.size∧fj gs j=some g.hi∧cJ ops f j i=true)
 one:∀i j r,i<ops.size→j<ops.size→fj gs i=some r→fj gs j=some r→i=j
 has:∀r,r<m→∃j,j<ops.size∧fj gs j=some r
theorem tj{ops:Array Oper}{f m:Nat}{gs:List GD}(h:vv ops f m gs=true):xV ops f m gs:=by
 unfold vv at h
 simp only[Bool.and_eq_true]at h
 obtain⟨⟨⟨⟨⟨⟨h1,h2⟩,h3⟩,h4⟩,h5⟩,h6⟩,h7⟩:=h
 have hl:gs.length=ops.size:=Nat.eq_of_beq_eq_true h1
 have all:∀ {n:Nat} {p:Nat→Bool},(List.range n).all p=true→∀i,i<n→p i=true:=fun h i hi=>List.all_eq_true.1 h i (List.mem_range.2 hi)
 have any:∀ {n:Nat} {p:Nat→Bool},(List.range n).any p=true→∃i,i<n∧p i=true:=fun h=>by
  obtain⟨i,hi,hp⟩:=List.any_eq_true.1 h
  exact⟨i,List.mem_range.1 hi,hp⟩
 have s3:∀i j d,i<ops.size→j<i→aZ ops i=some d→aZ ops j=some d→False:=fun i j d hi hj e1 e2=>by
  have:=all (all h3 i hi) j hj
  rw[e1,e2]at this
  simp at this
 have s6:∀i j r,i<ops.size→j<i→fj gs i=some r→fj gs j=some r→False:=fun i j r hi hj e1 e2=>by
  have:=all (all h6 i hi) j hj
  rw[e1,e2]at this
  simp at this
 refine⟨hl,fun i hi k hk=>?_,fun i j d hi hj e1 e2=>?_,fun j hj k hk i hi hd=>?_,fun i g r hg hr=>?_,fun i g hg hr=>?_,fun i j r hi hj e1 e2=>?_,fun r hr=>?_⟩
 ·have:=List.all_eq_true.1 (all h2 i hi) k hk;simpa using this
 ·rcases Nat.lt_trichotomy i j with h|h|h
  ·exact(s3 j i d hj h e2 e1).elim
  ·exact h
  ·exact(s3 i j d hi h e1 e2).elim
 ·have:=all (List.all_eq_true.1 (all h4 j hj) k hk) i hi
  rw[hd]at this
  simpa using this
 ·have hi:i<ops.size:=by rw[←hl];exact(List.getElem?_eq_some_iff.1 hg).1
  have:=all h5 i hi
  obtain⟨p,r',lo,hi'⟩:=g
  simp only at hr
  subst hr
  rw[hg]at this
  simp only[Bool.and_eq_true,decide_eq_true_eq,Bool.or_eq_true]at this
  refine⟨this.1,?_⟩
  rcases this.2 with h|h
  ·exact .inl (Nat.eq_of_beq_eq_true h)
  ·obtain⟨j,hj,h'⟩:=any h
   simp only[Bool.and_eq_true,beq_iff_eq]at h'
   exact .inr ⟨j,hj,h'.1,h'.2⟩
 ·have hi:i<ops.size:=by rw[←hl];exact(List.getElem?_eq_some_iff.1 hg).1
  have:=all h5 i hi
  obtain⟨p,r',lo,hi'⟩:=g
  simp only at hr
  subst hr
  rw[hg]at this
  simp only[Bool.and_eq_true,Bool.or_eq_true]at this
  refine⟨?_,?_⟩
  ·rcases this.1 with h|h
   ·exact .inl (Nat.eq_of_beq_eq_true h)
   ·obtain⟨j,hj,h'⟩:=any h
    simp only[Bool.and_eq_true,beq_iff_eq]at h'
    exact .inr ⟨j,hj,h'.1,h'.2⟩
  ·rcases this.2 with h|h
   ·exact .inl (Nat.ble_eq.mp h)
   ·obtain⟨j,hj,h'⟩:=any h
    simp only[Bool.and_eq_true,beq_iff_eq]at h'
    exact .inr ⟨j,hj,h'.1,h'.2⟩
 ·rcases Nat.lt_trichotomy i j with h|h|h
  ·exact(s6 j i r hj h e2 e1).elim
  ·exact h
  ·exact(s6 i j r hi h e1 e2).elim
 ·obtain⟨j,hj,h⟩:=any (all h7 r hr)
  exact⟨j,hj,by simpa using h⟩
structure vw (base N:Nat) (F:Nat→Prop) (l:List Oper) (gs:List GD) (σs:List bo) (t:a7) (ls:Array Bool) (r:Nat) (E:Env) (a:Act) (w:World):Prop where
 size:ls.size=l.length
 down:Down l.toArray ls
 rk:∀i s,i<l.length→fj gs i=some s→(ls.getD i true=true↔s<r)
 sat:∃σ,σs[r]? =some σ∧Sat F base σ E w
 jq:a.defers=[]
 tmps:a.tmps.size=N
 t0:dy E w a.eval t
 uS:∀j d g,j<l.length→ls.getD j true=true→aZ l.toArray j=some d→gs[j]? =some g→bC E w (a.eval (.tmp d)) g.p
theorem qb(ls:Array Bool)(i j:Nat)(b:Bool)(hi:i<ls.size):(ls.setIfInBounds i true).getD j b=if j=i then true else ls.getD j b:=by
 by_cases e:j=i
 ·subst e;simp[hi]
 ·rw[if_neg e]
  simp only[Array.getD_eq_getD_getElem?,Array.getElem?_setIfInBounds_ne (Ne.symm e)]
theorem tf{ls:Array Bool}{i:Nat}(hi:i<ls.size)(b c:Bool):ls.getD i b=ls.getD i c:=by simp[hi]
section
variable {l:List Oper} {gs:List GD} {σs:List bo} {t T:a7} {f m base:Nat} {F:Nat→Prop}
theorem vw.reach(hG:xV l.toArray f m gs){ls:Array Bool}{r:Nat}{E:Env}{a:Act}{w:World}(h:vw base N F l gs σs t ls r E a w){i j:Nat}(hi:i<l.length)(hr:cJ l.toArray f i j=true)(hk:∀k∈jr l.toArray i,ls.getD k false=true):ls.getD j true=true:=by
 have:=dr (by rw[h.size];simp) h.down (fun i hi=>hG.jr i hi) f i j (by simpa using hi) hr hk
 by_cases hj:j<ls.size
 ·rw[tf hj true false];exact this
 ·simp[hj]
theorem vw.looks(hG:xV l.toArray f m gs)(hT:iz l (gs.map (·.p)) t=T){ls:Array Bool}{r:Nat}{E:Env}{a:Act}{w:World}(h:vw base N F l gs σs t ls r E a w){i:Nat}(hi:i<l.length)(hk:∀k∈jr l.toArray i,ls.getD k false=true):
  ∀k∈b9 l.toArray i,∀p,look k T=some p→bC E w (a.eval (.tmp k)) p:=fun k hks p hp=>by
 rw[←hT]at hp
 rcases fV _ _ _ k p hp with⟨j,o,h1,h2,h3⟩|h'
 ·rw[List.getElem?_map,Option.map_eq_some_iff]at h3
  obtain⟨g,hg,rfl⟩:=h3
  have hj:j<l.length:=(List.getElem?_eq_some_iff.1 h1).1
  have hd:aZ l.toArray j=some k:=by simp only[aZ,List.getElem?_toArray,h1,Option.bind_some,h2]
  have hr:=hG.rd i (by simpa using hi) k hks j (by simpa using hj) hd
  exact h.uS j k g hj (h.reach hG hi hr hk) hd hg
 ·exact h.t0 k p h'
theorem vw.put(hG:xV l.toArray f m gs)(hfr:∀i d,i<l.length→aZ l.toArray i=some d→look d t=none){ls:Array Bool}{r r':Nat}{E E':Env}{a:Act}{w w':World}(h:vw base N F l gs σs t ls r E a w){i:Nat}{g:GD}{v:Value}(hi:i<l.length)(hu:ls.getD i true=false)(hk:∀k∈jr l.toArray i,ls.getD k false=true)(hg:gs[i]? =some g)(hgo:bM E w E' w')
  (hs:∃σ,σs[r']? =some σ∧Sat F base σ E' w') (hr:(g.r=none∧r'=r)∨(g.r=some r∧r'=r+1)) {o:Oper} (ho:l[i]? =some o) (hdN:∀d,o.dst=some d→d<N) (hv:∀d,o.dst=some d→bC E' w' v g.p):
  vw base N F l gs σs t (ls.setIfInBounds i true) r' E' (a.put o.dst v) w':=by
 have hil:i<ls.size:=by rw[h.size];exact hi
 have hrk:fj gs i=g.r:=by simp only[fj,hg,Option.bind_some]
 have hdi:aZ l.toArray i=o.dst:=by simp only[aZ,List.getElem?_toArray,ho,Option.bind_some]
 refine⟨by simpa using h.size,fun j hj hjs k hkj=>?_,fun j s hj hs'=>?_,hs,by cases o.dst<;>simpa[Act.put]using h.jq,by cases o.dst<;>simpa[Act.put]using h.tmps,fun k p hkp=>?_,fun j d g' hj hjl hd hg'=>?_⟩
 ·rw[qb _ _ _ _ hil]at hj ⊢
  split
  ·rfl
  ·by_cases e:j=i
   ·subst e;exact hk k hkj
   ·rw[if_neg e]at hj
    exact h.down j hj hjs k hkj
 ·rw[qb _ _ _ _ hil]
  by_cases e:j=i
  ·subst e
   rw[if_pos rfl]
   rw[hrk]at hs'
   rcases hr with⟨h1,_⟩|⟨h1,h2⟩
   ·rw[h1]at hs';cases hs'
   ·rw[h1]at hs';cases hs';exact⟨fun _=>by omega,fun _=>rfl⟩
  ·rw[if_neg e,h.rk j s hj hs']
   rcases hr with⟨_,h2⟩|⟨h1,h2⟩
   ·rw[h2]
   ·have:s≠r:=fun e'=>e (hG.one j i r (by simpa using hj) (by simpa using hi) (by rw[hs',e']) (by rw[hrk,h1]))
    omega
 ·have hne:∀d,o.dst=some d→k≠d:=fun d hd e=>by
   subst e
   rw[hfr i k hi (by rw[hdi,hd])]at hkp;cases hkp
  have:(a.put o.dst v).eval (.tmp k)=a.eval (.tmp k):=Act.eval_put fun d hd heq=>by cases heq;exact hne _ hd rfl
  rw[this]
  exact(h.t0 k p hkp).goes hgo
 ·rw[qb _ _ _ _ hil]at hjl
  by_cases e:j=i
  ·subst e
   rw[hdi]at hd
   rw[hg]at hg';cases hg'
   rw[hd,eH a (by rw[h.tmps];exact hdN d hd),if_pos rfl]
   exact hv d hd
  ·rw[if_neg e]at hjl
   have hne:∀d',o.dst=some d'→d≠d':=fun d' hd' e'=>by
    subst e'
    exact e (hG.ss j i d (by simpa using hj) (by simpa using hi) hd (by rw[hdi,hd']))
   have:(a.put o.dst v).eval (.tmp d)=a.eval (.tmp d):=Act.eval_put fun d' hd' heq=>by cases heq;exact hne _ hd' rfl
   rw[this]
   exact(h.uS j d g' hj hjl hd hg').goes hgo
theorem vQ(hG:xV l.toArray f m gs)(hT:iz l (gs.map (·.p)) t=T)(hfr:∀i d,i<l.length→aZ l.toArray i=some d→look d t=none)(hL:GL P N l.toArray σs T l gs){σm:bo}(hm:σs[m]? =some σm){Q:Exit→Act→World→Prop}{E₀:Env}{w₀:World}(hq:∀a' w' E',Sat F base σm E' w'→dy E' w' a'.eval T→a'.defers=[]→a'.tmps.size=N→bM E₀ w₀ E' w'→Below base w₀ w'→Q .normal a' w'):
  ∀(fuel:Nat) (ls:Array Bool) (r:Nat) (E:Env) (a:Act) (w:World),vw base N F l gs σs t ls r E a w→aP ls l.length=fuel→bM E₀ w₀ E w→Below base w₀ w→r≤m→wpAny P .any l.toArray Q fuel ls a w:=by
 obtain⟨hgl,hget⟩:=hL.get
 intro fuel
 induction fuel with
 |zero=>
  intro ls r E a w h hu hgo hb hrm
  have hall:=bW hu
  have hrm':r=m:=by
   rcases Nat.lt_or_ge r m with h'|h'
   ·obtain⟨j,hj,hjr⟩:=hG.has r h'
    have hj:j<l.length:=by simpa using hj
    have:=(h.rk j r hj hjr).1 (hall j hj)
    omega
   ·omega
  subst hrm'
  refine⟨List.eq_nil_iff_forall_not_mem.2 fun i hi=>?_,?_⟩
  ·obtain⟨h1,h2,_⟩:=cK.1 hi
   rw[hall i (by simpa using h1)]at h2;cases h2
  ·obtain⟨σ,hσ,hs⟩:=h.sat
   rw[hm]at hσ;cases hσ
   refine hq a w E hs (fun k p hkp=>?_) h.jq h.tmps hgo hb
   rw[←hT]at hkp
   rcases fV _ _ _ k p hkp with⟨j,o,h1,h2,h3⟩|h'
   ·rw[List.getElem?_map,Option.map_eq_some_iff]at h3
    obtain⟨g,hg,rfl⟩:=h3
    have hj:j<l.length:=(List.getElem?_eq_some_iff.1 h1).1
    exact h.uS j k g hj (hall j hj) (by simp only[aZ,List.getElem?_toArray,h1,Option.bind_some,h2]) hg
   ·exact h.t0 k p h'
 |succ fuel ih=>
  intro ls r E a w h hu hgo hb hrm
  obtain⟨i0,hi0,hi1,hi2⟩:=ej (ls:=ls) (m:=l.length) (by omega)
  have hi0r:i0∈Region.ready .any l.toArray ls:=cK.2 ⟨by simpa using hi0,hi1,fun k hk=>by
   have:=hG.jr i0 (by simpa using hi0) k hk
   rw[tf (by rw[h.size];omega) false true];exact hi2 k this⟩
  refine⟨fun h0=>absurd hi0r (by rw[h0];simp),fun i hi=>?_⟩
  obtain⟨h1,h2,h3⟩:=cK.1 hi
  have hil:i<l.length:=by simpa using h1
  have ho:l[i]? =some l[i]:=by simp[hil]
  have hgi:gs[i]? =some (gs[i]'(by omega)):=by simp
  have hK:=hget i _ _ ho hgi
  generalize hgg:gs[i]'(by omega)=g at hgi hK
  generalize hoo:l[i]=o at ho hK
  have hlk:=h.looks hG hT hil h3
  have hlo:b9 l.toArray i=o.looksAt l.toArray:=by simp only[b9,List.getElem?_toArray,ho]
  rw[hlo]at hlk
  have hpk:∀ks:List Nat,(ks.all fun k=>(o.looksAt l.toArray).contains k)=true→dy E w a.eval (df T ks):=fun ks hks k p hkp=>by
   obtain⟨e1,e2⟩:=eu ks k p hkp
   exact hlk k (by have:=List.all_eq_true.1 hks k e1;simpa using this) p e2
  have hwant:∀b,cz l.toArray T o=some b→Region.wanted o (yielded l.toArray a.tmps)=b:=fun b hb=>by
   rw[ek];exact fX (fun k hk p hp=>hlk k hk p hp) hb
  have hun:aP (ls.setIfInBounds i true) l.length=fuel:=by have:=eh h2 hil (by rw[h.size];omega);omega
  unfold wpOp
  have ho':l.toArray[i]? =some o:=by simpa using ho
  simp only[ho']
  have hrk:fj gs i=g.r:=by simp only[fj,hgi,Option.bind_some]
  cases hK with
  | @val p d lo hi ks hks hw hy hd hN=>
   rw[hwant true hw,if_pos rfl]
   left
   obtain⟨σ,hσ,hs⟩:=h.sat
   obtain⟨q1,q2⟩:=hG.quiet i _ hgi rfl
   have hlo':lo≤r:=by
    rcases q1 with e|⟨j,hj,hj1,hj2⟩
    ·simp only at e;omega
    ·have:=(h.rk j _ (by simpa using hj) hj1).1 (h.reach hG hil hj2 h3)
     simp only at this;omega
   have hhi':r≤hi:=by
    rcases q2 with e|⟨j,hj,hj1,hj2⟩
    ·simp only at e;omega
    ·rcases Nat.lt_or_ge hi r with h'|h'
     ·have hjl:j<l.length:=by simpa using hj
      have e1:=(h.rk j _ hjl hj1).2 h'
      have e2:=h.reach hG hjl hj2 (h.down j e1 hj)
      rw[h2]at e2;cases e2
     ·exact h'
   refine kf (hy r σ hlo' hhi' hσ F base E a.eval w (di a) hs (hpk ks hks)) fun v w' hE hv=>?_
   exact ih _ r E _ w' (h.put hG hfr hil h2 h3 hgi (.ext hE) ⟨σ,hσ,hs.ext hE⟩ (.inl ⟨rfl,rfl⟩) ho (fun d' hd'=>by rw[hd]at hd';cases hd';exact Nat.blt_eq.mp hN) (fun _ _=>hv)) hun (hgo.trans (.ext hE)) (hb.trans (Below.fq hE hs.bl)) hrm
  | @skip d lo hi hw hd hN=>
   rw[hwant false hw,if_neg (by simp)]
   exact ih _ r E _ w (h.put hG hfr hil h2 h3 hgi (bM.refl _ _) h.sat (.inl ⟨rfl,rfl⟩) ho (fun d' hd'=>by rw[hd]at hd';cases hd';exact Nat.blt_eq.mp hN) (fun _ _=>.raw _)) hun hgo hb hrm
  | @rn p d r0 lo hi σ σ' ks hks hw e1 e2 hy hd hN=>
   rw[hwant true hw,if_pos rfl]
   left
   obtain⟨q1,q2⟩:=hG.rn i _ r0 hgi rfl
   have hr0:r0=r:=by
    have n1:¬r0<r:=fun h'=>by
     have:=(h.rk i r0 hil hrk).2 h'
     rw[h2]at this;cases this
    rcases q2 with e|⟨j,hj,hj1,hj2⟩
    ·omega
    ·have:=(h.rk j _ (by simpa using hj) hj1).1 (h.reach hG hil hj2 h3)
     omega
   subst hr0
   obtain⟨σ0,hσ,hs⟩:=h.sat
   rw[e1]at hσ;cases hσ
   obtain⟨v,w',E',hr,k1,k2,k3,k4⟩:=hy F base E a.eval w (di a) hs (hpk ks hks)
   have hn':=ih _ (r0+1) E' (a.put o.dst v) w' (h.put hG hfr hil h2 h3 hgi k2 ⟨σ',e2,k1⟩ (.inr ⟨rfl,rfl⟩) ho (fun d' hd'=>by rw[hd]at hd';cases hd';exact Nat.blt_eq.mp hN) (fun _ _=>k4)) hun (hgo.trans k2) (hb.trans k3) (by omega)
   unfold Oper.wp
   rcases hr with hr|⟨rfl,hr⟩
   ·rw[hr];exact hn'
   ·rw[hr];exact hn'
  | @qO p r0 lo hi σ σ' ks hks hw e1 e2 hy hd=>
   rw[hwant true hw,if_pos rfl]
   left
   obtain⟨q1,q2⟩:=hG.rn i _ r0 hgi rfl
   have hr0:r0=r:=by
    have n1:¬r0<r:=fun h'=>by
     have:=(h.rk i r0 hil hrk).2 h'
     rw[h2]at this;cases this
    rcases q2 with e|⟨j,hj,hj1,hj2⟩
    ·omega
    ·have:=(h.rk j _ (by simpa using hj) hj1).1 (h.reach hG hil hj2 h3)
     omega
   subst hr0
   obtain⟨σ0,hσ,hs⟩:=h.sat
   rw[e1]at hσ;cases hσ
   obtain⟨v,w',E',hr,k1,k2,k3,k4⟩:=hy F base E a.eval w (di a) hs (hpk ks hks)
   have hn':=ih _ (r0+1) E' (a.put o.dst v) w' (h.put hG hfr hil h2 h3 hgi k2 ⟨σ',e2,k1⟩ (.inr ⟨rfl,rfl⟩) ho (fun d' hd'=>by rw[hd]at hd';cases hd') (fun d' hd'=>by rw[hd]at hd';cases hd')) hun (hgo.trans k2) (hb.trans k3) (by omega)
   unfold Oper.wp
   rcases hr with hr|⟨rfl,hr⟩
   ·rw[hr];exact hn'
   ·rw[hr];exact hn'
end
theorem jd:∀(n k:Nat),k≤n→aP (Array.replicate n false) k=k
 |n,0,_=>rfl
 |n,k+1,h=>by
  simp only[aP]
  rw[jd n k (by omega)]
  simp[show k<n by omega]
theorem xD{id:Nat}{l:List Oper}{t t':a7}{σ σm:bo}{Q:Exit→St→Prop}(f m:Nat)(σs:List bo)(gs:List GD)(T:a7)(hm:P.follows .mixedOrders=true)(hB:vv l.toArray f m gs=true)(hT:iz l (gs.map (·.p)) t=T)(hfr:(l.all fun o=>o.dst.all fun d=>(look d t).isNone)=true)(h0:σs[0]? =some σ)(h1:σs[m]? =some σm)
  (hL:GL P N l.toArray σs T l gs) (hsub:Sub T t') (hq:Q .normal ⟨t',σm⟩):W P N L (.region id l.toArray true) ⟨t,σ⟩ Q:=fun F base E₀ w₀ E a w hc hs=>by
 have hG:=tj hB
 have hE:Ext w {w with drawn:=w.drawn+1}:=⟨rfl,rfl,rfl,Nat.le_refl _,fun _ _=>rfl⟩
 refine wp_region_any hm ?_
 have hfr':∀i d,i<l.length→aZ l.toArray i=some d→look d t=none:=fun i d hi hd=>by
  have ho:l[i]? =some l[i]:=by simp[hi]
  simp only[aZ,List.getElem?_toArray,ho,Option.bind_some]at hd
  have:=List.all_eq_true.1 hfr _ (List.mem_of_getElem? ho)
  rw[hd]at this
  simpa using this
 have hg0:vw base N F l gs σs t (Array.replicate l.length false) 0 E a {w with drawn:=w.drawn+1}:=by
  have hrep:∀i,i<l.length→(Array.replicate l.length false).getD i true=false:=fun i hi=>by simp[hi]
  refine⟨by simp,fun i hi hi'=>?_,fun i s hi _=>?_,⟨σ,h0,hs.sat.ext hE⟩,hs.jq,hs.size,hs.tmp.goes (.ext hE),fun j d g hj hjl=>?_⟩
  ·rw[hrep i (by simpa using hi')]at hi;cases hi
  ·rw[hrep i hi];simp
  ·rw[hrep j hj]at hjl;cases hjl
 have:=vQ (Q:=fun e a' w'=>lH F base N E₀ w₀ (Q e) a' w') hG hT hfr' hL h1 (E₀:=E₀) (w₀:=w₀) (fun a' w' E' k1 k2 k3 k4 k5 k6=>⟨⟨t',σm⟩,E',hq,⟨k1,k2.sub hsub,k3,k4⟩,k5,k6⟩) l.length _ 0 E a _ hg0 (jd _ _ (Nat.le_refl _)) (hc.g.trans (.ext hE)) (hc.b.trans (Below.fq hE hs.sat.bl)) (Nat.zero_le _)
 simpa using this
theorem po{id:Nat}{l:List Oper}{y:Code}{t t':a7}{σ σm:bo}{Q:Exit→St→Prop}(f m:Nat)(σs:List bo)(gs:List GD)(T:a7)(hm:P.follows .mixedOrders=true)(hB:vv l.toArray f m gs=true)(hT:iz l (gs.map (·.p)) t=T)(hfr:(l.all fun o=>o.dst.all fun d=>(look d t).isNone)=true)(h0:σs[0]? =some σ)(h1:σs[m]? =some σm)
  (hL:GL P N l.toArray σs T l gs) (hsub:Sub T t') (hq:W P N L y ⟨t',σm⟩ Q):W P N L (.seq (.region id l.toArray true) y) ⟨t,σ⟩ Q:=ak (xD f m σs gs T hm hB hT hfr h0 h1 hL hsub hq)
theorem yz{P:Program}{σs:List bo}{t:a7}{o:Oper}{p:PV}{lo hi:Nat}(h:∀σ∈(σs.drop lo).take (hi+1 - lo),az P σ t o p):∀r σ,lo≤r→r≤hi→σs[r]? =some σ→az P σ t o p:=fun r σ h1 h2 hs=>by
 refine h σ (List.mem_of_getElem? (i:=r - lo) ?_)
 rw[List.getElem?_take,if_pos (by omega),List.getElem?_drop,show lo+(r - lo)=r by omega]
 exact hs
theorem jb{α:Type}{p:α→Prop}:∀x∈([]:List α),p x:=fun _ h=>by cases h
theorem fh{α:Type}{p:α→Prop}{a:α}{l:List α}(h:p a)(hs:∀x∈l,p x):∀x∈a::l,p x:=fun x hx=>by
 rcases List.mem_cons.1 hx with rfl|h'
 ·exact h
 ·exact hs x h'
end
end PW
end Go.Proofs.YtnegbdpggideiaaDoor
namespace Go.Proofs.YtnegbdpggideiaaDoor
namespace PW
open Go.RowKit aN Mem Net eB
end PW
end Go.Proofs.YtnegbdpggideiaaDoor
namespace Go.Proofs.YtnegbdpggideiaaDoor
namespace PW
open Go.RowKit aN Mem Net
end PW
end Go.Proofs.YtnegbdpggideiaaDoor
namespace Go.Proofs.YtnegbdpggideiaaDoor
namespace PW
open Go.RowKit aN Mem Net eB
end PW
end Go.Proofs.YtnegbdpggideiaaDoor
namespace Go.Proofs.YtnegbdpggideiaaDoor
namespace PW
open Go.RowKit aN Mem Net eB
end PW
end Go.Proofs.YtnegbdpggideiaaDoor
namespace Go.Proofs.YtnegbdpggideiaaDoor
namespace PW
open Go.RowKit aN Mem Net eB
end PW
end Go.Proofs.YtnegbdpggideiaaDoor
namespace Go.Proofs.YtnegbdpggideiaaDoor
namespace PW
open Go.RowKit aN Mem Net eB
namespace xT
def xX(T:ab)(D:List Bool)(d:Nat)(L:List Int)(a:Nat):List Int:=
 if(!bG D a)&&decide (0≤L.getD (aK T a).toNat 0)&&(decide (aK T a=(d:Int))|| !bI T (aK T a).toNat)&&(decide (L.getD (bb T a).toNat 0<0)||decide (L.getD (aK T a).toNat 0+a8 T a<L.getD (bb T a).toNat 0))
 then L.set (bb T a).toNat (L.getD (aK T a).toNat 0+a8 T a) else L
def dC(T:ab)(D:List Bool)(d:Nat):List Int:=(List.range T.nodes.toNat).foldl (fun L _=>(List.range (2*T.aa.length)).foldl (xX T D d) L) ((List.replicate T.nodes.toNat (-1)).set d 0)
def vb(T:ab)(D:List Bool)(n:Nat)(out:List Int)(a:Nat):Bool:= !bG D a&&decide (0≤at' out (bz T false a))&&(decide (bz T false a=(n:Int))|| !bI T (bz T false a).toNat)
def wG(T:ab)(D:List Bool)(n:Nat)(out:List Int):Bool:=
 decide (out.length=T.nodes.toNat)&&decide (at' out (n:Int)=0)&&(List.range T.nodes.toNat).all (fun x=>decide (-1≤at' out (x:Int)))&&
 (List.range (2*T.aa.length)).all (fun a=> !vb T D n out a||(decide (0≤at' out (cP T false a))&&decide (at' out (cP T false a)≤at' out (bz T false a)+a8 T a)))&&
 (List.range T.nodes.toNat).all (fun x=>decide (x=n)||decide (at' out (x:Int)<0)||(List.range (2*T.aa.length)).any fun a=>decide (cP T false a=(x:Int))&&vb T D n out a&&decide (at' out (x:Int)=at' out (bz T false a)+a8 T a))
def sw(T:ab)(D:List Bool):Bool:=(List.range T.nodes.toNat).all fun d=>wG T D d (dC T D d)
theorem mL(T:ab)(D:List Bool)(n:Nat)(out:List Int)(a:Nat):Net.Way T D n false out a↔vb T D n out a=true:=by
 unfold Net.Way vb
 simp[and_assoc]
theorem vI{T:ab}{D:List Bool}(hv:aj T=true){n:Nat}{out:List Int}(h:wG T D n out=true):dV T D n false out:=by
 have hN:=(aC hv).nodes
 simp only[wG,Bool.and_eq_true,decide_eq_true_eq,List.all_eq_true,List.mem_range,Bool.or_eq_true,Bool.not_eq_true',List.any_eq_true]at h
 obtain⟨⟨⟨⟨h1,h2⟩,h3⟩,h4⟩,h5⟩:=h
 refine⟨by rw[h1];omega,h2,fun x hx=>h3 x (by omega),fun a ha hw=>?_,fun x hx h0=>?_⟩
 ·rcases h4 a ha with h|h
  ·rw[(mL T D n out a).1 hw]at h;cases h
  ·exact h
 ·rcases h5 x (by omega)with(h|h)|⟨a,ha,⟨h6,h7⟩,h8⟩
  ·exact .inl h
  ·omega
  ·exact .inr ⟨a,ha,h6,(mL T D n out a).2 h7,h8⟩
theorem x6{T:ab}{D:List Bool}(hv:aj T=true)(h:sw T D=true){d:Nat}(hd:(d:Int)<T.nodes):bH T D d false=dC T D d:=by
 refine gf (aC hv) (vI hv ?_)
 simp only[sw,List.all_eq_true,List.mem_range]at h
 exact h d (by omega)
def jZ(T:ab)(D:List Bool)(n d:Nat):List Int:=if n=d∨(dC T D d).getD n 0<0 then [] else gi T D (dC T D d) ((dC T D d).getD n 0) d (cU T n)
theorem next{T:ab}{D:List Bool}(hv:aj T=true)(h:sw T D=true){n d:Nat}(hd:(d:Int)<T.nodes):bx T D n d=jZ T D n d:=by
 unfold bx jZ;rw[x6 hv h hd]
def pB(T:ab)(D:List Bool)(d:Nat):Nat→Nat→List Int
 |0,_=>[]
 |f+1,n=>match jZ T D n d with
  | []=>[]
  |a::_=>a::pB T D d f (aK T a.toNat).toNat
theorem first{T:ab}{D:List Bool}(hv:aj T=true)(h:sw T D=true){d:Nat}(hd:(d:Int)<T.nodes):∀f n,fS T D d f n=pB T D d f n
 |0,_=>rfl
 |f+1,n=>by
  simp only[fS,pB,next hv h hd]
  cases jZ T D n d with
  |nil=>rfl
  |cons a l=>simp only[first hv h hd f]
theorem qE{T:ab}{D:List Bool}{s d:Int}(h:cy T D s d=0):(d.toNat:Int)<T.nodes∧0≤d:=by
 obtain⟨_,_,_,h4⟩:=fB h
 rw[aV]at h4
 omega
def py(T:ab)(D:List Bool)(d:Nat):Nat→Nat→Int
 |0,m=>if m=d then 1 else 0
 |f+1,m=>if m=d then 1 else(jZ T D m d).foldl (fun c a=>min 2 (c+py T D d f (aK T a.toNat).toNat)) 0
theorem gX{T:ab}{D:List Bool}(hv:aj T=true)(h:sw T D=true){d:Nat}(hd:(d:Int)<T.nodes):∀f m,hZ T D d f m=py T D d f m
 |0,_=>rfl
 |f+1,m=>by
  simp only[hZ,py,next hv h hd]
  split
  ·rfl
  ·exact foldl_congr fun c a _=>by rw[gX hv h hd f]
def xd(T:ab)(D:List Bool)(n:Int)(p:List Int)(i j:Nat):Bool:=
 decide ((dC T D (bg T n (p.take j)).toNat).getD (bg T n (p.take i)).toNat 0=cw T (p.take j) - cw T (p.take i))&&(decide (cy T D (bg T n (p.take i)) (bg T n (p.take j))=0)&&decide (py T D (bg T n (p.take j)).toNat ((dC T D (bg T n (p.take j)).toNat).getD (bg T n (p.take i)).toNat 0).toNat (bg T n (p.take i)).toNat=1))
theorem yt{T:ab}{D:List Bool}(hv:aj T=true)(h:sw T D=true)(n:Int)(p:List Int)(i j:Nat):eG T D n p i j=xd T D n p i j:=by
 unfold eG xd fP cn dN
 by_cases h0:cy T D (bg T n (p.take i)) (bg T n (p.take j))=0
 ·rw[x6 hv h (qE h0).1,gX hv h (qE h0).1]
 ·rw[decide_eq_false h0];simp
end xT
end PW
end Go.Proofs.YtnegbdpggideiaaDoor
namespace Go.Proofs.YtnegbdpggideiaaDoor
namespace PW
open Go.RowKit aN Mem Net eB
namespace xT
def qF(T:ab)(D:List Bool)(n:Nat):eS:=⟨n,(List.range T.nodes.toNat).map fun(d:Nat)=>⟨jZ T D n d,false,[]⟩,iR D (cU T n)⟩
theorem wW{T:ab}{D:List Bool}(hv:aj T=true)(h:sw T D=true)(n:Nat):bS T D n=qF T D n:=by
 have hN:=(aC hv).nodes
 unfold bS qF oY
 congr 1
 refine List.map_congr_left fun d hd=>?_
 have:=List.mem_range.1 hd
 rw[next hv h (by omega)]
end xT
end PW
end Go.Proofs.YtnegbdpggideiaaDoor
namespace Go.Proofs.YtnegbdpggideiaaDoor
namespace PW
open Go.RowKit aN Mem Net eB
namespace xT
end xT
end PW
end Go.Proofs.YtnegbdpggideiaaDoor
namespace Go.Proofs.YtnegbdpggideiaaDoor
namespace PW
open Go.RowKit aN Mem Net Go.WideShapes
section
variable {H:Type} {enc:TypeId×Value→H} {W:World}
end
end PW
end Go.Proofs.YtnegbdpggideiaaDoor
namespace Go.Proofs.YtnegbdpggideiaaDoor
namespace PW
open Go.RowKit aN Mem Net eB
end PW
end Go.Proofs.YtnegbdpggideiaaDoor
namespace Go.Proofs.YtnegbdpggideiaaDoor
namespace PW
open Go.RowKit aN Mem Net eB
end PW
end Go.Proofs.YtnegbdpggideiaaDoor
namespace Go.Proofs.YtnegbdpggideiaaDoor
namespace PW
open Go.RowKit aN Mem Net eB
end PW
end Go.Proofs.YtnegbdpggideiaaDoor
namespace Go.Proofs.YtnegbdpggideiaaDoor
namespace PW
open Go.RowKit aN Mem Net eB
end PW
end Go.Proofs.YtnegbdpggideiaaDoor
namespace Go.Proofs.YtnegbdpggideiaaDoor
namespace PW
open Go.RowKit aN Mem Net eB
def xP(T:ab)(k x k' x':Int)(m:Nat):Bool:=(List.range m).all fun a=> !sO k x T.aa (a / 2)||sO k' x' T.aa (a / 2)
def xv(T:ab)(k x k' x':Int):Bool:=xP T k x k' x' (2*T.aa.length)
end PW
end Go.Proofs.YtnegbdpggideiaaDoor
namespace Go.Proofs.YtnegbdpggideiaaDoor
namespace PW
open Go.RowKit Go.Shelf aN Mem Net eB
attribute [local go_sem] Oper.semAt_some
end PW
end Go.Proofs.YtnegbdpggideiaaDoor
namespace Go.Proofs.YtnegbdpggideiaaDoor
namespace PW
open Go.RowKit aN Mem Net eB
abbrev yv(p:Int×Int):Value:=.agg (wu p)
def sX(T:ab)(k x:Int)(l:List ((Int×Int)×PV)):Prop:=∀c v,(c,v)∈l→v=flag (xv T k x c.1 c.2)
theorem sX.pure{T:ab}{k x:Int}{l:List ((Int×Int)×PV)}(h:sX T k x l):ao ((cF yv l).map (·.2)):=⟨fun i u hu=>by
 have hm:=List.mem_of_getElem? hu
 simp only[cF,List.map_map,List.mem_map]at hm
 obtain⟨a,ha,rfl⟩:=hm
 have:=h a.1 a.2 ha
 show IsPure a.2
 rw[this]
 infer_instance⟩
theorem sX.set{T:ab}{k x:Int}{l:List ((Int×Int)×PV)}(h:sX T k x l)(c:Int×Int):sX T k x (fw c (flag (xv T k x c.1 c.2)) l):=fun c' v hm=>by
 rcases lr hm with e|e
 ·cases e;rfl
 ·exact h c' v e
end PW
end Go.Proofs.YtnegbdpggideiaaDoor
namespace Go.Proofs.YtnegbdpggideiaaDoor
namespace PW
open Go.RowKit aN Mem Net eB
end PW
end Go.Proofs.YtnegbdpggideiaaDoor
namespace Go.Proofs.YtnegbdpggideiaaDoor
namespace PW
open Go.RowKit aN Mem Net eB
end PW
end Go.Proofs.YtnegbdpggideiaaDoor
namespace Go.Proofs.YtnegbdpggideiaaDoor
namespace PW
open Go.RowKit aN Mem Net eB
section
variable {T:ab}
end
end PW
end Go.Proofs.YtnegbdpggideiaaDoor
namespace Go.Proofs.YtnegbdpggideiaaDoor
namespace PW
open Go.RowKit aN Mem Net eB
section
variable {T:ab} {M D:List Bool} {n d:Nat}
theorem sk{x:eS}{d:Nat}{e:gV}(h:x.cI[d]? =some e):cu x (d:Int)=e:=by
 unfold cu
 rw[Int.toNat_natCast]
 exact gW _ _ _ h
theorem rl(hd:(d:Int)<T.nodes):cu (bS T D n) (d:Int)=⟨bx T D n d,false,[]⟩:=sk (vg (by omega))
end
end PW
end Go.Proofs.YtnegbdpggideiaaDoor
namespace Go.Proofs.YtnegbdpggideiaaDoor
namespace PW
open Go.RowKit aN Mem Net eB
section
variable {T:ab} {k x:Int} {d:Nat}
def Gn(k x:Int)(n:Nat):Prop:=k=2∧x=(n:Int)
structure Open (T:ab) (k x:Int) (d n:Nat) (s:List bL):Prop where
 nil:s=[]
 node:(n:Int)<T.nodes
 here:¬Gn k x n
 reach:0≤dN T (nx T k x) d n
structure xf (T:ab) (k x:Int) (d n:Nat) (s:List bL) (q:List Int):Prop where
 zj:∃D,(∀a,bG D a=false→bG (nx T k x) a=false)∧wc T D d n (ib ⟨1,(n:Int)⟩ s) q
 node:(n:Int)<T.nodes
 here:¬Gn k x n
 len:s.length≤32
theorem nT(hv:aj T=true)(hd:(d:Int)<T.nodes){n:Nat}(hn:(n:Int)<T.nodes)(hne:n≠d){E:List Bool}(hr:0≤dN T E d n){t:eS}(hok:de T t=true)(htn:t.node=(n:Int))(he:cu t (d:Int)=⟨bx T E n d,false,[]⟩){p:fQ}(hp:p.dst=(d:Int))(hh:p.dp=0)(hs:p.stack=[]):
  bx T E n d≠[]∧eQ T t p=dZ p [] (bx T E n d):=by
 obtain⟨j,hj⟩:=iD (D:=E) hv hn hd hne hr
 have hm:=fH hj ((aC hv).cost j hj.fZ).1
 have hpos:0<(bx T E n d).length:=List.length_pos_of_mem hm
 have hst:=sg hok htn hd hne hp hh (by rw[hs];rfl) (by rw[hs];simp) (by rw[he];exact hpos) (by rw[he];simp)
 rw[he]at hst
 exact⟨fun e=>by rw[e]at hpos;exact absurd hpos (by simp),hst⟩
end
end PW
end Go.Proofs.YtnegbdpggideiaaDoor
namespace Go.Proofs.YtnegbdpggideiaaDoor
namespace PW
open Go.RowKit aN Mem Net eB
section
variable {T:ab} {k x:Int} {d:Nat}
noncomputable def eb(T:ab)(D:List Bool)(d n:Nat):Nat:=((List.range T.nodes.toNat).filter fun m=>decide (0≤dN T D d m)&&decide (dN T D d m<dN T D d n)).length
theorem iY{D:List Bool}{n:Nat}(hn:(n:Int)<T.nodes):eb T D d n<T.nodes.toNat:=by
 unfold eb
 have h:((List.range T.nodes.toNat).filter fun m=>decide (0≤dN T D d m)&&decide (dN T D d m<dN T D d n)).length<(List.range T.nodes.toNat).length:=by
  refine List.length_filter_lt_length_iff_exists.2 ⟨n,List.mem_range.2 (by omega),?_⟩
  simp
 simpa using h
theorem filter_lt{α:Type}{p q:α→Bool}{l:List α}{a:α}(hpq:∀b∈l,p b=true→q b=true)(ha:a∈l)(hp:p a=false)(hq:q a=true):(l.filter p).length<(l.filter q).length:=by
 have e:l.filter p=(l.filter q).filter p:=by
  rw[List.filter_filter]
  refine List.filter_congr fun b hb=>?_
  cases h:p b with
  |false=>simp
  |true=>simp[hpq b hb h]
 rw[e]
 exact List.length_filter_lt_length_iff_exists.2 ⟨a,List.mem_filter.2 ⟨ha,hq⟩,by rw[hp];simp⟩
theorem ta{D:List Bool}{n m:Nat}(hm:(m:Int)<T.nodes)(h0:0≤dN T D d m)(h:dN T D d m<dN T D d n):eb T D d m<eb T D d n:=by
 unfold eb
 refine filter_lt (a:=m) (fun b _ hb=>?_) (List.mem_range.2 (by omega)) (by simp) (by simp[h0,h])
 simp only[Bool.and_eq_true,decide_eq_true_eq]at hb ⊢
 exact⟨hb.1,by omega⟩
def Way(T:ab)(k x:Int)(d:Nat)(late:Bool)(n:Nat)(s:List bL)(u:Nat):Prop:=
 (Open T k x d n s∧u=if late then T.nodes.toNat+eb T (nx T k x) d n else 2*T.nodes.toNat+eb T [] d n)∨∃q,xf T k x d n s q∧u=q.length∧q.length<T.nodes.toNat
theorem Way.on{n:Nat}{s:List bL}{u:Nat}(h:Way T k x d false n s u):∃u',u'≤u∧Way T k x d true n s u':=by
 rcases h with⟨h,rfl⟩|⟨q,h,rfl,hl⟩
 ·have h1:=iY (D:=nx T k x) (d:=d) h.node
  refine⟨T.nodes.toNat+eb T (nx T k x) d n,?_,.inl ⟨h,?_⟩⟩
  ·rw[if_neg (by simp)];omega
  ·rw[if_pos rfl]
 ·exact⟨_,Nat.le_refl _,.inr ⟨q,h,rfl,hl⟩⟩
end
end PW
end Go.Proofs.YtnegbdpggideiaaDoor
namespace Go.Proofs.YtnegbdpggideiaaDoor
namespace PW
open Go.RowKit aN Mem Net
def nC(a:Nat):PV:=.raw (.int .u8 (a:Int))
instance (a:Nat):IsPure (nC a):=by unfold nC;infer_instance
section
variable {P:Program} {σ:bo} {t:a7} {o:Oper}
theorem wrap_small{a:Nat}(h:a<256):IntKind.i64.wrap (a:Int)=(a:Int):=by
 have h1:(a:Int) % 18446744073709551616=(a:Int):=by omega
 have h2:¬(9223372036854775808≤(a:Int)):=by omega
 show(if(true&&decide ((a:Int) % 18446744073709551616≥9223372036854775808))=true then(a:Int) % 18446744073709551616 - 18446744073709551616 else(a:Int) % 18446744073709551616)=a
 rw[h1,Bool.true_and,if_neg (by rw[decide_eq_true_eq];exact h2)]
end
end PW
end Go.Proofs.YtnegbdpggideiaaDoor
namespace Go.Proofs.YtnegbdpggideiaaDoor
namespace PW
open Go.RowKit aN Mem Net eB
def xY(p:fQ)(s:List bL):fQ:=⟨p.id,p.src,p.dst,p.b7,s,0⟩
section
variable {T:ab} {k x:Int} {d:Nat} {st:Nat→Int} {p0:fQ}
end
end PW
end Go.Proofs.YtnegbdpggideiaaDoor
namespace Go.Proofs.YtnegbdpggideiaaDoor
namespace PW
open Go.RowKit aN Mem Net eB
section
variable {T:ab} {D D':List Bool} {k x:Int} {d:Nat} {st:Nat→Int} {p0:fQ}
end
end PW
end Go.Proofs.YtnegbdpggideiaaDoor
namespace Go.Proofs.YtnegbdpggideiaaDoor
namespace PW
open Go.RowKit aN Mem Net eB
section
variable {T:ab} {k x:Int} {l:List Int}
end
end PW
end Go.Proofs.YtnegbdpggideiaaDoor
namespace Go.Proofs.YtnegbdpggideiaaDoor
namespace PW
open Go.RowKit aN Mem Net eB
end PW
end Go.Proofs.YtnegbdpggideiaaDoor
namespace Go.Proofs.YtnegbdpggideiaaDoor
namespace PW
open Go.RowKit aN Mem Net eB
def tY(T:ab):Bool:=(aj T&&decide (T.nodes≤7))&&decide ((T.aa.length:Int)≤10)
theorem pg(T:ab):Can Tryd.prog 11 [a6 T,num 7,num 10] (· =flag (tY T)):=by
 obtain⟨q1,h1⟩:∃q,aj T=q:=⟨_,rfl⟩
 obtain⟨q2,h2⟩:∃q,decide (T.nodes≤7)=q:=⟨_,rfl⟩
 obtain⟨q3,h3⟩:∃q,decide ((T.aa.length:Int)≤10)=q:=⟨_,rfl⟩
 have he:tY T=((q1&&q2)&&q3):=by unfold tY;rw[h1,h2,h3]
 have hv:=eD T
 rw[h1]at hv
 rw[he]
 refine aI Tryd.func11 rfl Tryd.ntmps11 rfl<|af (.a 2 rfl<|.k [1,2,3] rfl)<|aY 6 (.raw (.bool ((q1&&q2)&&q3))) [] rfl ?_ ?_
 ·refine .v (eZ rfl (rfl) rfl) rfl<|.c rfl (hv) rfl<|.a 1 rfl<|?_
  cases q1
  ·exact .a 13 rfl<|.k [6] rfl
  ·refine .a 3 rfl<|.v (bT rfl (h2)) rfl<|.a 2 rfl<|?_
   cases q2
   ·exact .a 7 rfl<|.k [6] rfl
   ·exact .a 4 rfl<|.v (bT rfl (h3)) rfl<|.a 2 rfl<|.k [6] rfl
 exact an<|⟨_,_,ax.of rfl,ay.pure,rfl⟩
theorem l6{T:ab}{a:Int}(ha:cX T a=true):∀(f:Bool) (n:Int) (l:List Int),bV T f n l=0→bb T a.toNat=bg T n l→((f=true∧l=[])∨bI T (bg T n l).toNat=false)→bV T f n (l++[a])=0
 |f,n,[],_,ht,ho=>by
  simp only[List.nil_append,bV]
  rw[if_neg (by rw[ha];simp),if_neg]
  rintro(h|⟨h1,h2⟩)
  ·exact h ht
  ·rcases ho with⟨h3,_⟩|h3
   ·rw[h1]at h3;cases h3
   ·rw[show bg T n []=n from rfl,h2]at h3;cases h3
 |f,n,b::l,h,ht,ho=>by
  simp only[List.cons_append,bV]at h ⊢
  split at h
  ·cases h
  ·rename_i h1
   rw[if_neg h1]
   split at h
   ·cases h
   ·rename_i h2
    rw[if_neg h2]
    refine l6 ha false _ l h ht (.inr ?_)
    rcases ho with⟨_,h3⟩|h3
    ·cases h3
    ·exact h3
end PW
end Go.Proofs.YtnegbdpggideiaaDoor
namespace Go.Proofs.YtnegbdpggideiaaDoor
namespace PW
open Go.RowKit aN Mem Net
def fa(s:List bL):Prop:=∀g∈s,0≤g.kind∧g.kind<100∧0≤g.num∧g.num<100
def vc(g:bL):List UInt8:=32::(Lib.decDigits g.kind.toNat++58::Lib.decDigits g.num.toNat)
def cA(n:Nat)(s:List bL):List UInt8:=Lib.decDigits n++s.flatMap vc
def tW(c:UInt8):Prop:=48≤c.toNat∧c.toNat≤57
theorem gJ{n:Nat}(h:n<100):∀c∈Lib.decDigits n,tW c:=by
 intro c hc
 by_cases h1:n<10
 ·rw[Lib.decDigits_one h1,List.mem_singleton]at hc
  subst hc
  unfold tW
  rw[UInt8.toNat_ofNat']
  omega
 ·rw[Lib.decDigits_two h1 h]at hc
  simp only[List.mem_cons,List.not_mem_nil,or_false]at hc
  rcases hc with rfl|rfl<;>(unfold tW;rw[UInt8.toNat_ofNat'];omega)
theorem ofNat_inj{a b:Nat}(ha:a<256)(hb:b<256)(h:UInt8.ofNat a=UInt8.ofNat b):a=b:=by
 have:=congrArg UInt8.toNat h
 rw[UInt8.toNat_ofNat',UInt8.toNat_ofNat']at this
 omega
theorem nj{m n:Nat}(hm:m<100)(hn:n<100)(h:Lib.decDigits m=Lib.decDigits n):m=n:=by
 by_cases h1:m<10<;>by_cases h2:n<10
 ·rw[Lib.decDigits_one h1,Lib.decDigits_one h2]at h
  have:=ofNat_inj (by omega) (by omega) (List.cons.inj h).1
  omega
 ·rw[Lib.decDigits_one h1,Lib.decDigits_two h2 hn]at h
  cases(List.cons.inj h).2
 ·rw[Lib.decDigits_two h1 hm,Lib.decDigits_one h2]at h
  cases(List.cons.inj h).2
 ·rw[Lib.decDigits_two h1 hm,Lib.decDigits_two h2 hn]at h
  have e1:=ofNat_inj (by omega) (by omega) (List.cons.inj h).1
  have e2:=ofNat_inj (by omega) (by omega) (List.cons.inj (List.cons.inj h).2).1
  omega
theorem fG{n:Nat}(h:n<100):(Lib.decDigits n).length≤2∧0<(Lib.decDigits n).length:=by
 by_cases h1:n<10
 ·rw[Lib.decDigits_one h1];simp
 ·rw[Lib.decDigits_two h1 h];simp
theorem gD:∀(A B X Y:List UInt8),(∀c∈A,tW c)→(∀c∈B,tW c)→(∀c Z,X=c::Z→¬tW c)→(∀c Z,Y=c::Z→¬tW c)→A++X=B++Y→A=B∧X=Y
 | [],[],X,Y,_,_,_,_,h=>⟨rfl,h⟩
 | [],b::B,X,Y,_,hB,hX,_,h=>absurd (hB b (by simp)) (hX b (B++Y) h)
 |a::A,[],X,Y,hA,_,_,hY,h=>absurd (hA a (by simp)) (hY a (A++X) h.symm)
 |a::A,b::B,X,Y,hA,hB,hX,hY,h=>by
  obtain⟨h1,h2⟩:=List.cons.inj h
  obtain⟨h3,h4⟩:=gD A B X Y (fun c hc=>hA c (by simp[hc])) (fun c hc=>hB c (by simp[hc])) hX hY h2
  exact⟨by rw[h1,h3],h4⟩
theorem gM{s:List bL}:∀c Z,s.flatMap vc=c::Z→¬tW c:=by
 intro c Z h
 cases s with
 |nil=>cases h
 |cons g s=>
  rw[List.flatMap_cons]at h
  have:=(List.cons.inj h).1
  subst this
  unfold tW
  decide
theorem oy:∀ {s s':List bL},fa s→fa s'→s.flatMap vc=s'.flatMap vc→s=s'
 | [],[],_,_,_=>rfl
 | [],g::s',_,_,h=>by rw[List.flatMap_cons]at h;cases h
 |g::s,[],_,_,h=>by rw[List.flatMap_cons]at h;cases h
 |g::s,g'::s',h1,h2,h=>by
  obtain⟨a1,a2,a3,a4⟩:=h1 g (by simp)
  obtain⟨b1,b2,b3,b4⟩:=h2 g' (by simp)
  rw[List.flatMap_cons,List.flatMap_cons]at h
  unfold vc at h
  rw[List.cons_append,List.cons_append,List.append_assoc,List.append_assoc]at h
  obtain⟨e1,e2⟩:=gD _ _ _ _ (gJ (by omega)) (gJ (by omega)) (fun c Z h=>by rw[List.cons_append]at h;have:=(List.cons.inj h).1;subst this;unfold tW;decide) (fun c Z h=>by rw[List.cons_append]at h;have:=(List.cons.inj h).1;subst this;unfold tW;decide) (List.cons.inj h).2
  rw[List.cons_append,List.cons_append]at e2
  obtain⟨e3,e4⟩:=gD _ _ _ _ (gJ (by omega)) (gJ (by omega)) (gM (s:=s)) (gM (s:=s')) (List.cons.inj e2).2
  have k1:=nj (by omega) (by omega) e1
  have k2:=nj (by omega) (by omega) e3
  have k3:=oy (fun x hx=>h1 x (by simp[hx])) (fun x hx=>h2 x (by simp[hx])) e4
  obtain⟨gk,gn⟩:=g
  obtain⟨gk',gn'⟩:=g'
  simp only at a1 b1 a3 b3 k1 k2
  rw[k3,show gk=gk' by omega,show gn=gn' by omega]
theorem tG{n n':Nat}{s s':List bL}(hn:n<100)(hn':n'<100)(h1:fa s)(h2:fa s')(h:cA n s=cA n' s'):n=n'∧s=s':=by
 unfold cA at h
 obtain⟨e1,e2⟩:=gD _ _ _ _ (gJ hn) (gJ hn') (gM (s:=s)) (gM (s:=s')) h
 exact⟨nj hn hn' e1,oy h1 h2 e2⟩
theorem tM{s:List bL}(h:fa s):(s.flatMap vc).length≤s.length*6:=by
 induction s with
 |nil=>simp
 |cons g s ih=>
  obtain⟨a1,a2,a3,a4⟩:=h g (by simp)
  have:=ih (fun x hx=>h x (by simp[hx]))
  have h1:=fG (n:=g.kind.toNat) (by omega)
  have h2:=fG (n:=g.num.toNat) (by omega)
  have h3:(vc g).length=2+(Lib.decDigits g.kind.toNat).length+(Lib.decDigits g.num.toNat).length:=by
   unfold vc
   simp only[List.length_cons,List.length_append]
   omega
  rw[List.flatMap_cons,List.length_append,h3,List.length_cons]
  omega
end PW
end Go.Proofs.YtnegbdpggideiaaDoor
namespace Go.Proofs.YtnegbdpggideiaaDoor
namespace PW
open Go.RowKit aN Mem Net eB
section
variable {T:ab} {s d:Nat}
theorem sc{x:eS}{p:fQ}(hok:de T x=true)(hxd:x.node=(d:Int))(hd:(d:Int)<T.nodes)(hp:p.dst=(d:Int))(hs:p.stack=[]):eQ T x p=⟨[],⟨p.id,p.src,p.dst,p.b7,[],p.dp⟩, -1⟩:=by
 have hdb:aS T p.dst=true:=aV.2 ⟨by omega,by omega⟩
 unfold eQ
 rw[hok,hdb,hs,if_neg (by simp),if_neg (by simp)]
 unfold dA
 rw[show ib ⟨1,x.node⟩ []=[] from rfl,if_pos (by rw[hp,hxd];simp)]
structure vj (T:ab) (s d n:Nat) (q:List Int):Prop where
 node:(n:Int)<T.nodes
 reach:0≤dN T [] d n
 walk:bV T true s q=0
 at_:bg T s q=(n:Int)
 cost:cw T q+dN T [] d n=dN T [] d s
 pass:n=d∨q=[]∨bI T n=false
 len:q.length+eb T [] d n≤eb T [] d s
theorem vj.start(hs:(s:Int)<T.nodes)(hr:0≤dN T [] d s):vj T s d s []:=⟨hs,hr,rfl,rfl,by rw[ev];omega,.inr (.inl rfl),by simp⟩
theorem vj.step(hv:aj T=true){n:Nat}{q:List Int}(h:vj T s d n q)(hne:n≠d){a:Int}(ha:a∈bx T [] n d):∃b m:Nat,a=(b:Int)∧b<2*T.aa.length∧aK T b=(m:Int)∧dN T [] d m<dN T [] d n∧eb T [] d m<eb T [] d n∧vj T s d m (q++[(b:Int)]):=by
 obtain⟨b,rfl,hb⟩:=dP ha
 obtain⟨h0,h1⟩:=(aC hv).head b hb.fZ
 obtain⟨m,hm⟩:=Int.eq_ofNat_of_zero_le h0
 obtain⟨c1,c2⟩:=hb.dN hm
 have hc:=((aC hv).cost b hb.fZ).1
 have hml:(m:Int)<T.nodes:=by omega
 have hrk:=ta hml c1 (show dN T [] d m<dN T [] d n by omega)
 have hbt:=hb.tail
 have hpass:=hb.pass
 have hlen:=h.len
 rw[hm,Int.toNat_natCast]at hpass
 refine⟨b,m,rfl,hb.fZ,hm,by omega,hrk,hml,c1,?_,?_,?_,?_,?_⟩
 ·refine l6 (bR.2 ⟨by omega,by have:=hb.fZ;omega⟩) true s q h.walk (by rw[Int.toNat_natCast,hbt,h.at_]) ?_
  rcases h.pass with e|e|e
  ·exact absurd e hne
  ·exact .inl ⟨rfl,e⟩
  ·rw[h.at_,Int.toNat_natCast];exact .inr e
 ·rw[eX]
  show aK T (b:Int).toNat=_
  rw[Int.toNat_natCast,hm]
 ·have:=h.cost
  rw[cM,cY,ev,Int.toNat_natCast]
  omega
 ·rcases hpass with e|e
  ·exact .inl (by omega)
  ·exact .inr (.inr e)
 ·rw[List.length_append,List.length_singleton]
  omega
theorem sb(hv:aj T=true)(hd:(d:Int)<T.nodes){n:Nat}{q:List Int}(h:vj T s d n q)(hne:n≠d){p:fQ}(hp:p.dst=(d:Int))(hh:p.dp=0)(hs:p.stack=[]):bx T [] n d≠[]∧eQ T (bS T [] n) p=dZ p [] (bx T [] n d):=
 nT hv hd h.node hne h.reach (fI hv h.node) rfl (rl hd) hp hh hs
def iF(T:ab)(d n:Nat)(kv:List (List UInt8×PV)):Prop:=∀x∈kv,∃m:Nat,(m:Int)<T.nodes∧x.1=cA m []∧dN T [] d n<dN T [] d m∧x.2=flag true
theorem iF.none(h12:T.nodes≤12){n:Nat}(hn:(n:Int)<T.nodes):∀ {kv:List (List UInt8×PV)},iF T d n kv→fm (cA n []) kv=none
 | [],_=>rfl
 |(a,p)::kv,h=>by
  simp only[fm]
  rw[if_neg]
  ·exact iF.none h12 hn (fun x hx=>h x (by simp[hx]))
  ·intro e
   obtain⟨m,hm,h1,h2,_⟩:=h (a,p) (by simp)
   have h1:a=cA m []:=h1
   rw[h1]at e
   obtain⟨rfl,_⟩:=tG (by omega) (by omega) (fun g hg=>by cases hg) (fun g hg=>by cases hg) e
   omega
theorem iF.push{n m:Nat}(hn:(n:Int)<T.nodes)(hlt:dN T [] d m<dN T [] d n){kv:List (List UInt8×PV)}(h:iF T d n kv):iF T d m (kv++[(cA n [],flag true)]):=fun x hx=>by
 rcases List.mem_append.1 hx with hx|hx
 ·obtain⟨m',h1,h2,h3,h4⟩:=h x hx
  exact⟨m',h1,h2,by omega,h4⟩
 ·rw[List.mem_singleton]at hx
  subst hx
  exact⟨n,hn,rfl,hlt,rfl⟩
end
end PW
end Go.Proofs.YtnegbdpggideiaaDoor
namespace Go.Proofs.YtnegbdpggideiaaDoor
namespace PW
open Go.RowKit aN Mem Net eB
noncomputable def ef(T:ab)(tb:Nat→eS)(p0:fQ)(n:Nat)(s:List bL):Out:=eQ T (tb n) (xY p0 s)
structure wS (T:ab) (tb:Nat→eS) (p0:fQ) (Φ:Nat→Nat→List bL→Prop):Prop where
 node:∀ {u n s},Φ u n s→(n:Int)<T.nodes
 small:∀ {u n s},Φ u n s→fa s∧s.length≤1000
 step:∀ {u n s},Φ u n s→(ef T tb p0 n s).aW=[]∨((ef T tb p0 n s).aW.length≤1000∧ef T tb p0 n s=dZ (xY p0 s) (ef T tb p0 n s).uL.stack (ef T tb p0 n s).aW∧
  ∀a∈(ef T tb p0 n s).aW,∃b m:Nat,a=(b:Int)∧b<2*T.aa.length∧aK T b=(m:Int)∧∃u',u'<u∧Φ u' m (ef T tb p0 n s).uL.stack)
def yW(cs:List Int):Int:=cs.foldl (fun a c=>min (a+c) 1001) 0
def yD(aW:List Int)(cs:List Int):Int:=if aW=[] then 1 else yW cs
def wE(n:Nat)(o:Out)(vs:List PV)(c:Int):List PV:=[num n,num o.xl,aJ o.aW,.slice vs.length vs,flag false,num c]
inductive Good (T:ab) (tb:Nat→eS) (p0:fQ) (Φ:Nat→Nat→List bL→Prop):PV→Nat→List bL→Int→Prop
 |mk {n:Nat} {s:List bL} {vs:List PV} {cs:List Int} {u:Nat}:Φ u n s→vs.length=(ef T tb p0 n s).aW.length→cs.length=(ef T tb p0 n s).aW.length→
   (∀i,i<(ef T tb p0 n s).aW.length→Good T tb p0 Φ (vs.getD i .any) (aK T ((ef T tb p0 n s).aW.getD i 0).toNat).toNat (ef T tb p0 n s).uL.stack (cs.getD i 0))→
   Good T tb p0 Φ (.b6 (wE n (ef T tb p0 n s) vs (yD (ef T tb p0 n s).aW cs)) 0) n s (yD (ef T tb p0 n s).aW cs)
section
variable {T:ab} {tb:Nat→eS} {p0:fQ} {Φ:Nat→Nat→List bL→Prop}
theorem Good.state{v:PV}{n:Nat}{s:List bL}{c:Int}(h:Good T tb p0 Φ v n s c):∃u,Φ u n s:=by
 cases h with
 |mk h _ _ _=>exact⟨_,h⟩
theorem Good.pure{v:PV}{n:Nat}{s:List bL}{c:Int}(h:Good T tb p0 Φ v n s c):IsPure v:=by
 induction h with
 | @mk n s vs cs u _ h1 _ _ ih=>
  haveI:ao vs:=⟨fun i x hx=>by
   have hlt:=(List.getElem?_eq_some_iff.1 hx).1
   have:=ih i (by rw[←h1];exact hlt)
   rw[List.getD_eq_getElem?_getD,hx]at this
   exact this⟩
  unfold wE
  infer_instance
theorem Good.parts{v:PV}{n:Nat}{s:List bL}{c:Int}(h:Good T tb p0 Φ v n s c):∃vs cs,v= .b6 (wE n (ef T tb p0 n s) vs c) 0∧vs.length=(ef T tb p0 n s).aW.length∧cs.length=(ef T tb p0 n s).aW.length∧c=yD (ef T tb p0 n s).aW cs∧
  ∀i,i<(ef T tb p0 n s).aW.length→Good T tb p0 Φ (vs.getD i .any) (aK T ((ef T tb p0 n s).aW.getD i 0).toNat).toNat (ef T tb p0 n s).uL.stack (cs.getD i 0):=by
 cases h with
 | @mk _ _ vs cs u h1 h2 h3 h4=>exact⟨vs,cs,rfl,h2,h3,rfl,h4⟩
theorem wS.one(R:wS T tb p0 Φ){u n m:Nat}{s:List bL}{a:Int}(h:Φ u n s)(ha:a∈(ef T tb p0 n s).aW)(hm:aK T a.toNat=(m:Int)):∃u',u'<u∧Φ u' m (ef T tb p0 n s).uL.stack:=by
 rcases R.step h with h0|⟨_,_,h2⟩
 ·rw[h0]at ha;cases ha
 ·obtain⟨b,m',rfl,_,h3,u',h4,h5⟩:=h2 a ha
  rw[Int.toNat_natCast,h3]at hm
  have:m'=m:=by omega
  subst this
  exact⟨u',h4,h5⟩
end
end PW
end Go.Proofs.YtnegbdpggideiaaDoor
namespace Go.Proofs.YtnegbdpggideiaaDoor
namespace PW
open Go.RowKit aN Mem
section
variable {P:Program} {σ:bo} {t:a7} {o:Oper}
def cc(l:List UInt8):List PV:=l.map fun b=>.raw (.int .u8 b.toNat)
instance (l:List UInt8):ao (cc l):=ao.map _ _ fun _=>inferInstance
instance (l:List UInt8):ba (cc l):=ba.map _ _ fun _=>inferInstance
theorem fc(a b:List UInt8):cc a++cc b=cc (a++b):=by simp[cc]
theorem jj{w:World}(base:Nat)(t u ty e:TypeId)(i:TypeInfo)(ht:P.underlying t=some (.slice e))(hu:P.underlying u=some .string)(hi:P.info? e=some i)(hz:i.zero=some (.int .u8 0))
  (hsize:i.size=1) (hby:i.bytes=1) (v:Value) (n:Nat) (xs:List Value) (hown:w.ownsRow base e 1 v n xs) (s:ByteArray)
  (h63:n+s.size≤maxLen) (hbytes:n+s.size≤140737488355328) (hbase:base≤w.heap.size):
  ∃v' w',(Builtin.append_ #[t,u] ty #[v,.string s]).run P w= .ok v' w'∧w'.ownsRow base e 1 v' (n+s.size) (xs++Lib.strCells s)∧w.grownBy w' v.ownBlock∧(v'.ownBlock=v.ownBlock∨v'.ownBlock=some w.heap.size):=by
 obtain⟨v',w',hr,h2,h3,h4⟩:=Lib.run_append_own_string (P:=P) w base t u ty e i ht hu hi hz hsize hby v n xs hown s h63 hbytes hbase
 refine⟨v',w',hr,h2,h3,?_⟩
 have hsmall:n+s.size≤9223372036854775807:=by simp only[maxLen]at h63;omega
 rcases hown.2 with⟨rfl,rfl⟩|⟨g,cap,cur,rfl,hbg,hg,hnc,hcm,hcs,htake⟩
 ·by_cases hm:s.size=0
  ·rw[h4.2 ⟨rfl,hm⟩];exact .inl rfl
  ·have hr':=run_append_nil_string (P:=P) w t u ty e i (.int .u8 0) ht hu hi hz s (by omega) (by omega) (by rw[hby];omega)
   rw[hr']at hr
   cases hr
   exact .inr rfl
 ·by_cases hroom:n+s.size≤cap
  ·have hr':=Lib.run_append_room_string (P:=P) w t u ty e i ht hu hi hsize g n cap cur hg s hroom (by rw[hcs];omega)
   rw[hr']at hr
   cases hr
   exact .inl rfl
  ·have holds:∀(j:Nat) u,xs[j]? =some u→w.cell? ((⟨g,0,none⟩:Addr).add j)=some u:=hown.cells (g:=g) rfl
   have hr':=Lib.run_append_grow_string (P:=P) w t u ty e i (.int .u8 0) ht hu hi hz ⟨g,0,none⟩ n cap xs (by rw[hsize];exact hown.1) holds s (by omega) (by omega) (growslice_fits (by omega) (by rw[hby];omega))
   rw[hr']at hr
   cases hr
   exact .inr rfl
def qK(P:Program)(ty sy:TypeId):Option TypeId:=
 match P.underlying ty,P.underlying sy with
 |some (.slice e),some .string=>match P.info? e with
  |some i=>match i.zero with
   |some (.int .u8 0)=>bif Nat.beq i.size 1&&Nat.beq i.bytes 1 then some e else none
   |_=>none
  |none=>none
 |_,_=>none
theorem pd{ty sy e:TypeId}(h:qK P ty sy=some e):P.underlying ty=some (.slice e)∧P.underlying sy=some .string∧∃i,P.info? e=some i∧i.zero=some (.int .u8 0)∧i.size=1∧i.bytes=1:=by
 unfold qK at h
 split at h
 ·rename_i e' h1 h2
  split at h
  ·rename_i i hi
   split at h
   ·rename_i hz
    rw[Bool.cond_eq_ite]at h
    split at h
    ·rename_i hb
     cases h
     obtain⟨b1,b2⟩:=Bool.and_eq_true_iff.1 hb
     exact⟨h1,h2,i,hi,hz,Nat.eq_of_beq_eq_true b1,Nat.eq_of_beq_eq_true b2⟩
    ·cases h
   ·cases h
  ·cases h
 ·cases h
theorem j2{ty sy e n i:Nat}{xs:List PV}{x y:Operand}{s:ByteArray}(ho:o.op= .call {callee:=.builtin .append,args:= #[x,y],argTypes:= #[ty,sy]})(hk:qK P ty sy=some e)(hx:ah t x=some (.own i))(hi:σ[i]? =some (some (.row e 1 n xs)))
  (hy:ah t y=some (.raw (.string s))) (hn:n+s.size≤140737488355328):
  eT P σ t o (.own σ.length) (σ.set i none++[some (.row e 1 (n+s.size) (xs++cc s.data.toList))]):=by
 intro F base E ρ w hρ hS hT
 have h1:=ae hρ hT hx
 have h2:=ae hρ hT hy
 generalize hz1:ρ x=v at h1
 generalize hz2:ρ y=u at h2
 cases h2
 obtain⟨hu,hu2,inf,hinf,hz,hs,hby⟩:=pd hk
 cases h1 with
 |own _ hiL _ hat hone=>
  obtain⟨cs,k1,k2⟩:=hS.blk i _ hi
  rw[hat]at k1
  have hob:aB (E.at_ i)=v.ownBlock:=by rw[hat];exact cZ k1
  obtain⟨v',w',hrun,hown,hg,hw⟩:=jj (P:=P) (w:=w) base ty sy o.type e inf hu hu2 hinf hz hs hby v n cs k1 s (by unfold maxLen;omega) hn hS.bl
  have hr:(execOp ρ o).run P w= .ok (.value v') w':=by
   simp only[execOp,ho,resolve,invoke,builtin,Sem.run_bind,Sem.run_pure,Result.andThen_ok,List.map_toArray,List.map_cons,List.map_nil,hz1,hz2,hrun]
  have hnw:aw E w (Lib.strCells s) (cc s.data.toList):=by
   refine⟨by simp[Lib.strCells,cc],fun j c u h1 h2=>?_⟩
   simp only[Lib.strCells,cc,List.getElem?_map,Option.map_eq_some_iff]at h1 h2
   obtain⟨b,hb,rfl⟩:=h1
   obtain⟨b',hb',rfl⟩:=h2
   rw[hb]at hb'
   cases hb'
   exact .raw _
  have hv':∀b,aB v'=some b→aB (E.at_ i)=some b∨w.heap.size≤b:=fun b hb=>by
   rw[cZ hown]at hb
   rcases hw with h|h
   ·rw[hob,←h];exact .inl hb
   ·rw[h]at hb;cases hb;exact .inr (Nat.le_refl _)
  obtain⟨a1,a2⟩:=hS.swap (w':=w') (blk:=.row e 1 (n+s.size) (xs++cc s.data.toList)) hi hg.size (fun k hk hne=>hg.block k hk (by rw[←hob];exact Ne.symm hne)) hv' (fun E' g=>⟨cs++Lib.strCells s,hown,(k2.append hnw).goes g⟩)
  refine⟨v',w',_,.inl hr,a1,a2,⟨hg.os,hg.tape,hg.output,hg.size,fun k hk=>hg.block k (Nat.lt_of_lt_of_le hk hS.bl) (fun e=>?_)⟩,.own σ.length (by simp[Env.push,Env.kill,hS.len]) v' (by simp[Env.push,Env.kill,hS.len]) ?_⟩
  ·have:=(k1.lt k e.symm).1;omega
  ·rcases hown.2 with⟨rfl,_⟩|⟨g',cap,cur,rfl,_⟩<;>rfl
theorem Sat.drop{F:Nat→Prop}{base:Nat}{E:Env}{w w':World}(hS:Sat F base σ E w){j g:Nat}{bj:cB}(hj:σ[j]? =some (some bj))(hb:aB (E.at_ j)=some g)(hs:w.heap.size≤w'.heap.size)(ho:∀k,k<w.heap.size→k≠g→w'.heap[k]? =w.heap[k]?):
  Sat F base (σ.set j none) (E.kill j) w'∧bM E w (E.kill j) w':=by
 have hgM:E.M g:=(hS.mm g).2 (.inr ⟨j,bj,hj,hb⟩)
 obtain⟨k1,_⟩:=hS.kill j hj
 have g':bM E w (E.kill j) w':=⟨Nat.le_refl _,fun _ _=>rfl,fun b _ hM h=>hM h.1,hs,fun k hk hM=>ho k hk (fun e=>hM (by rw[e];exact hgM))⟩
 refine⟨⟨Nat.le_trans hS.bl hs,fun b hb'=>⟨Nat.lt_of_lt_of_le (k1.fb b hb').1 hs,(k1.fb b hb').2⟩,k1.len,k1.mm,fun i bl hi=>?_,k1.inj,hS.gl.goes g'⟩,g'⟩
 obtain⟨hne,h3⟩:=eN hi
 exact(hS.blk i bl h3).goes g' (fun k hk=>ho k ((hS.blk i bl h3).lt hk).2 (fun e=>hne (hS.inj i j bl bj g h3 hj (by rw[←e];exact hk) hb)))
theorem oG{ty:TypeId}{x:Operand}{s:ByteArray}(ho:o.op= .call {callee:=.builtin .len,args:= #[x],argTypes:= #[ty]})(hu:P.underlying ty=some .string)(hx:ah t x=some (.raw (.string s))):az P σ t o (.raw (.int .i64 s.size)):=by
 intro F base E ρ w hρ _ hT
 have h1:=ae hρ hT hx
 generalize hz:ρ x=z at h1
 cases h1
 simp[execOp,ho,resolve,invoke,builtin,Builtin.len_,hz,run_underlying hu,goInt]
 exact aA (.raw _)
theorem oA{ty:TypeId}{x:Operand}{j e s n:Nat}{xs:List PV}(ho:o.op= .call {callee:=.builtin .unsafeSliceData,args:= #[x],argTypes:= #[ty]})(hx:ah t x=some (.own j))(hj:σ[j]? =some (some (.row e s n xs)))(hn:0<n):az P σ t o (.ptr j 0):=by
 intro F base E ρ w hρ hS hT
 have h1:=ae hρ hT hx
 generalize hz:ρ x=z at h1
 cases h1 with
 |own _ hi _ h hone=>
  obtain⟨cs,k1,_⟩:=hS.blk j _ hj
  rw[h]at k1
  rcases k1.2 with⟨_,h0⟩|⟨g,cap,cur,hv,_,_,hnc,_⟩
  ·omega
  ·subst hv
   have:=Lib.run_unsafeSliceData_row (P:=P) w #[ty] o.type ⟨g,0,none⟩ n cap (by omega)
   simp only[execOp,ho,resolve,invoke,builtin,Sem.run_bind,Sem.run_pure,Result.andThen_ok,List.map_toArray,List.map_cons,List.map_nil,hz,this]
   exact aA (.ptr j 0 g hi (.inr ⟨n,cap,h⟩))
theorem oo{pt it:TypeId}{x y:Operand}{j e:Nat}{l:List UInt8}(ho:o.op= .call {callee:=.builtin .unsafeString,args:= #[x,y],argTypes:= #[pt,it]})(hp:P.underlying pt=some (.pointer e))(hc:P.cellsOf e=1)(hx:ah t x=some (.ptr j 0))(hy:ah t y=some (.raw (.int .i64 l.length)))(hj:σ[j]? =some (some (.row e 1 l.length (cc l))))(hl:0<l.length):
  eT P σ t o (.raw (.string ⟨l.toArray⟩)) (σ.set j none):=by
 intro F base E ρ w hρ hS hT
 have h1:=ae hρ hT hx
 have h2:=ae hρ hT hy
 generalize hz:ρ x=z at h1
 generalize hz':ρ y=z' at h2
 cases h2
 cases h1 with
 |ptr _ _ b hi h=>
  obtain⟨cs,k1,k2⟩:=hS.blk j _ hj
  have hcs:cs=Lib.byteCells l:=by
   apply List.ext_getElem?
   intro i
   by_cases hi':i<l.length
   ·have h3:=k2.2 i (cs[i]'(by rw[k2.1];simpa[cc]using hi')) (.raw (.int .u8 (l[i]).toNat)) (by simp) (by simp[cc,hi'])
    have h4:cs[i]'(by rw[k2.1];simpa[cc]using hi')= .int .u8 (l[i]).toNat:=by
     generalize cs[i]'(by rw[k2.1];simpa[cc]using hi')=q at h3
     cases h3;rfl
    rw[List.getElem?_eq_getElem (by rw[k2.1];simpa[cc]using hi'),h4]
    simp[Lib.byteCells,hi']
   ·rw[List.getElem?_eq_none (by rw[k2.1];simp[cc];omega),List.getElem?_eq_none (by simp[Lib.byteCells];omega)]
  subst hcs
  have k3:=k1
  rcases k1.2 with⟨hv,h0⟩|⟨g,cap,cur,hv,hbg,hg,hnc,hcm,hsz,htk⟩
  ·omega
  ·have hbeq:b=g:=by
    rcases h with h|⟨n,c,h⟩
    ·rw[hv]at h;cases h
    ·rw[hv]at h;cases h;rfl
   subst hbeq
   have hblk:aB (E.at_ j)=some b:=by rw[hv];rfl
   have hrun:=Lib.run_unsafeString_row (P:=P) w pt it o.type e hp hc b cur.size (by simp[World.shape?,hg]) l (by intro e';rw[e']at hl;simp at hl) (by omega) (by unfold maxLen at hcm;omega) (fun i x hx'=>k3.cells (g:=b) (by rw[hv];rfl) i (.int .u8 x.toNat) (by simp[Lib.byteCells,hx']))
   have hr:(execOp ρ o).run P w= .ok (.value (.string ⟨l.toArray⟩)) (w.freeze ⟨b,0,none⟩ l.length):=by
    simp only[execOp,ho,resolve,invoke,builtin,Sem.run_bind,Sem.run_pure,Result.andThen_ok,List.map_toArray,List.map_cons,List.map_nil,hz,hz',hrun]
   have hfz:∀k,k≠b→(w.freeze ⟨b,0,none⟩ l.length).heap[k]? =w.heap[k]? :=fun k hk=>by
    unfold World.freeze
    split
    ·rfl
    ·simp only[Array.getElem?_modify]
     rw[if_neg (Ne.symm hk)]
   have hsz':w.heap.size≤(w.freeze ⟨b,0,none⟩ l.length).heap.size:=by
    unfold World.freeze
    split<;>simp
   obtain⟨a1,a2⟩:=Sat.drop (w':=w.freeze ⟨b,0,none⟩ l.length) hS hj hblk hsz' (fun k _ hk=>hfz k hk)
   exact⟨_,_,_,.inl hr,a1,a2,Lib.below_freeze (Below.refl base w) (p:=⟨b,0,none⟩) hbg _,.raw _⟩
theorem tB{x y:Operand}{ty tz:TypeId}(ho:o.op= .binOp .eql ty x y tz)(hk:mV P ty=true)(hx:ah t x=some (.raw (.pointer none)))(hy:ah t y=some (.raw (.pointer none))):az P σ t o (.raw (.bool true)):=by
 refine tF ho hx hy fun w=>?_
 unfold mV at hk
 split at hk
 ·rename_i e hu
  have key:∀d,(Op.equalIn (d+1) ty (.pointer none) (.pointer none)).run P w= .ok true w:=fun d=>by
   simp only[Op.equalIn,Sem.run_bind,run_underlying hu,Result.andThen_ok,Sem.run_pure,Option.isNone_none]
  have:=key 9999
  simp only[Nat.reduceAdd]at this
  simp[eqGuard,binOp,Op.equal,Op.maxDepth,this]
 ·cases hk
theorem l7{x y:Operand}{ty te tz:TypeId}{i k:Nat}{ji:TypeInfo}(ho:o.op= .binOp .neq ty x y tz)(hp:P.underlying ty=some (.pointer te))(hte:P.info? te=some ji)(hx:ah t x=some (.ptr i k))(hy:ah t y=some (.ptr i k)):az P σ t o (.raw (.bool false)):=by
 intro F base E ρ w hρ hS hT
 have h1:=ae hρ hT hx
 have h2:=ae hρ hT hy
 have he:ρ x=ρ y:=l9.yH E w _ _ h1 h2
 generalize hz:ρ x=z at h1
 have hz':ρ y=z:=by rw[←he,hz]
 cases h1 with
 |ptr _ _ b hi h=>
  have hb:=Lib.run_neq_ptr_same (P:=P) w ⟨b,k,none⟩ hp hte
  have hr:(execOp ρ o).run P w= .ok (.value (.bool false)) w:=by
   simp only[execOp,ho,hz,hz',Sem.run_bind,Sem.run_pure]
   have hg:(eqGuard .neq ty x y (.pointer (some ⟨b,k,none⟩)) (.pointer (some ⟨b,k,none⟩))).run P w= .ok () w:=rfl
   rw[hg]
   simp only[Result.andThen_ok,hb]
  rw[hr]
  exact aA (.raw _)
theorem pF{src dst te ty:TypeId}{x:Operand}{i:Nat}{ji:TypeInfo}{xs:List PV}(ho:o.op= .convert src dst x)(hs:P.underlying src=some (.pointer te))(hd:P.underlying dst=some .unsafePointer)(ht:P.info? te=some ji)(hj:ji.size≠0)(hx:ah t x=some (.ptr i 0))(hi:σ[i]? =some (some (.cells ty xs)))(hl:0<xs.length):az P σ t o (.ptr i 0):=by
 intro F base E ρ w hρ hS hT
 have h1:=ae hρ hT hx
 have h1':=h1
 generalize hz:ρ x=z at h1 h1'
 obtain⟨b,cs,k1,k2,k3,k4⟩:=hS.blk i _ hi
 cases h1 with
 |ptr _ _ b' hi' h=>
  have hb:b'=b:=by
   rcases h with h|⟨n,c,h⟩<;>rw[k1]at h<;>cases h
   rfl
  subst hb
  have:=Lib.run_to_unsafe (P:=P) w ⟨b',0,none⟩ hs hd ht hj (e:=ty) (cells:=cs.size) (by simp[World.shape?,k3]) (by have:=k4.1;simp at this ⊢;omega)
  simp only[execOp,ho,hz,Sem.run_bind,this,Result.andThen_ok,Sem.run_pure]
  exact aA h1'
theorem mM{src dst u ty:TypeId}{x:Operand}{i:Nat}{ji:TypeInfo}{xs:List PV}(ho:o.op= .convert src dst x)(hs:P.underlying src=some .unsafePointer)(hd:P.underlying dst=some (.pointer u))(ht:P.info? u=some ji)(hx:ah t x=some (.ptr i 0))(hi:σ[i]? =some (some (.cells ty xs)))(hl:liesAt P P.depth ty (xs.length / P.cellsOf ty) 0 u 1=true):az P σ t o (.ptr i 0):=by
 intro F base E ρ w hρ hS hT
 have h1:=ae hρ hT hx
 have h1':=h1
 generalize hz:ρ x=z at h1 h1'
 obtain⟨b,cs,k1,k2,k3,k4⟩:=hS.blk i _ hi
 cases h1 with
 |ptr _ _ b' hi' h=>
  have hb:b'=b:=by
   rcases h with h|⟨n,c,h⟩<;>rw[k1]at h<;>cases h
   rfl
  subst hb
  have hsz:cs.size=xs.length:=by have:=k4.1;simpa using this
  have:=Lib.run_from_unsafe (P:=P) w ⟨b',0,none⟩ hs hd ht (e:=ty) (cells:=cs.size) (by simp[World.shape?,k3]) (by rw[hsz];exact hl)
  simp only[execOp,ho,hz,Sem.run_bind,this,Result.andThen_ok,Sem.run_pure]
  exact aA h1'
theorem pJ{f:FuncId}{x a:Operand}{ats:Array TypeId}{p:PV}(ho:o.op= .call {callee:=.value x,args:= #[a],argTypes:=ats})(hx:ah t x=some (.func f []))(ha:ah t a=some p)(hr:∀v w,(callFunc f #[v]).run P w= .ok (.value v) w):az P σ t o p:=by
 intro F base E ρ w hρ hS hT
 have h1:=ae hρ hT hx
 have h2:=ae hρ hT ha
 generalize hz:ρ x=z at h1
 cases h1 with
 |func _ cs _ hl hr'=>
  have hcs:cs= #[]:=Array.eq_empty_of_size_eq_zero (by simpa using hl)
  subst hcs
  have h3:(execOp ρ o).run P w= .ok (.value (ρ a)) w:=by
   have:=hr (ρ a) w
   simp[execOp,ho,resolve,hz,Deferred.ofValue,invoke,this]
  rw[h3]
  exact aA h2
end
end PW
end Go.Proofs.YtnegbdpggideiaaDoor
namespace Go.Proofs
open Go.Shelf
def Tryd.u0:Go.Shelf.Ren:=⟨fun|246=>80|283=>91|284=>92|285=>93|286=>94|129=>104|317=>103|318=>105|319=>106|320=>107|337=>112|338=>113|n=>n,fun|2=>2|3=>3|9=>9|4=>4|171=>126|0=>0|53=>73|37=>65|5=>5|173=>129|212=>144|51=>145|20=>20|213=>146|46=>103|232=>159|233=>160|n=>n,fun|17=>0|18=>2|19=>3|n=>n⟩
def Tryd.uT:Go.Shelf.Ren:=⟨fun|243=>55|246=>80|283=>91|284=>92|285=>93|286=>94|129=>104|317=>103|318=>105|319=>106|320=>107|337=>112|338=>113|n=>n,fun|3=>3|9=>9|2=>2|4=>4|171=>126|0=>0|53=>73|37=>65|5=>5|173=>129|212=>144|51=>145|20=>20|213=>146|46=>103|232=>159|233=>160|n=>n,fun|17=>0|18=>2|19=>3|n=>n⟩
def Tryd.vC:Go.Shelf.Ren:=⟨fun|171=>21|243=>55|246=>80|283=>91|284=>92|285=>93|286=>94|129=>104|317=>103|318=>105|319=>106|320=>107|337=>112|338=>113|n=>n,fun|3=>3|9=>9|2=>2|4=>4|171=>126|0=>0|53=>73|37=>65|5=>5|173=>129|212=>144|51=>145|20=>20|213=>146|46=>103|232=>159|233=>160|n=>n,fun|17=>0|18=>2|19=>3|n=>n⟩
def Tryd.nP:Go.Shelf.Ren:=⟨fun|171=>21|243=>55|246=>80|283=>91|284=>92|285=>93|286=>94|129=>104|317=>103|318=>105|319=>106|320=>107|337=>112|338=>113|n=>n,fun|3=>3|9=>9|2=>2|4=>4|171=>126|0=>0|53=>73|37=>65|5=>5|173=>129|212=>144|51=>145|20=>20|213=>146|46=>103|232=>159|233=>160|n=>n,fun|17=>0|18=>2|19=>3|n=>n⟩
theorem Tryd.vd:Go.Proofs.Lays.n171 Tryd.prog Tryd.nP:= {
 mixed:=by kernel_rfl
 f129:=Tryd.func104.trans (congrArg some (by kernel_rfl))
 f171:=Tryd.func21.trans (congrArg some (by kernel_rfl))
 f243:=Tryd.func55.trans (congrArg some (by kernel_rfl))
 f246:=Tryd.func80.trans (congrArg some (by kernel_rfl))
 f283:=Tryd.func91.trans (congrArg some (by kernel_rfl))
 f284:=Tryd.func92.trans (congrArg some (by kernel_rfl))
 f285:=Tryd.func93.trans (congrArg some (by kernel_rfl))
 f286:=Tryd.func94.trans (congrArg some (by kernel_rfl))
 f317:=Tryd.func103.trans (congrArg some (by kernel_rfl))
 f318:=Tryd.func105.trans (congrArg some (by kernel_rfl))
 f319:=Tryd.func106.trans (congrArg some (by kernel_rfl))
 f320:=Tryd.func107.trans (congrArg some (by kernel_rfl))
 f337:=Tryd.func112.trans (congrArg some (by kernel_rfl))
 f338:=Tryd.func113.trans (congrArg some (by kernel_rfl))
 t0:=Tryd.underlying0
 a0:=Tryd.isAgg0
 z0:=Tryd.sizeOf0
 v0:=Tryd.zeroValue0
 t2:=Tryd.underlying2
 a2:=Tryd.isAgg2
 z2:=Tryd.sizeOf2
 v2:=Tryd.zeroValue2
 t3:=Tryd.underlying3
 a3:=Tryd.isAgg3
 z3:=Tryd.sizeOf3
 v3:=Tryd.zeroValue3
 t4:=Tryd.underlying4
 a4:=Tryd.isAgg4
 z4:=Tryd.sizeOf4
 v4:=Tryd.zeroValue4
 t5:=Tryd.underlying5
 a5:=Tryd.isAgg5
 z5:=Tryd.sizeOf5
 v5:=Tryd.zeroValue5
 t9:=Tryd.underlying9
 a9:=Tryd.isAgg9
 z9:=Tryd.sizeOf9
 v9:=Tryd.zeroValue9
 t20:=Tryd.underlying20
 a20:=Tryd.isAgg20
 z20:=Tryd.sizeOf20
 v20:=Tryd.zeroValue20
 t37:=Tryd.underlying65
 a37:=Tryd.isAgg65
 z37:=Tryd.sizeOf65
 v37:=Tryd.zeroValue65
 t46:=Tryd.underlying103
 a46:=Tryd.isAgg103
 z46:=Tryd.sizeOf103
 v46:=Tryd.zeroValue103
 t51:=Tryd.underlying145
 a51:=Tryd.isAgg145
 z51:=Tryd.sizeOf145
 v51:=Tryd.zeroValue145
 t53:=Tryd.underlying73
 a53:=Tryd.isAgg73
 z53:=Tryd.sizeOf73
 v53:=Tryd.zeroValue73
 t171:=Tryd.underlying126
 a171:=Tryd.isAgg126
 z171:=Tryd.sizeOf126
 v171:=Tryd.zeroValue126
 t173:=Tryd.underlying129
 a173:=Tryd.isAgg129
 z173:=Tryd.sizeOf129
 v173:=Tryd.zeroValue129
 t212:=Tryd.underlying144
 a212:=Tryd.isAgg144
 z212:=Tryd.sizeOf144
 v212:=Tryd.zeroValue144
 t213:=Tryd.underlying146
 a213:=Tryd.isAgg146
 z213:=Tryd.sizeOf146
 t232:=Tryd.underlying159
 a232:=Tryd.isAgg159
 z232:=Tryd.sizeOf159
 v232:=Tryd.zeroValue159
 t233:=Tryd.underlying160
 a233:=Tryd.isAgg160
 z233:=Tryd.sizeOf160
 v233:=Tryd.zeroValue160
 g17:=by kernel_rfl
 g18:=by kernel_rfl
 g19:=by kernel_rfl}
open Go.RowKit Go.Sort Go.Lib in
theorem Tryd.strconv_Itoa_small(i:Nat)(hi:i<100)(w:World):
  Calls Tryd.prog 21 #[.int .i64 i] w fun e w'=>e= .returned (.string ⟨(Lib.decDigits i).toArray⟩)∧w'=w:=Any.strconv_Itoa_small Tryd.vd i hi w
end Go.Proofs
namespace Go.Proofs.YtnegbdpggideiaaDoor
namespace PW
open Go.RowKit aN Mem
def uu(j:Nat)(u:Bool)(l:List UInt8):bo:=some (.cells 67 [if u then .ptr 0 0 else .raw (.pointer none),.own j])::(List.replicate (j - 1) none++[some (.row 5 1 l.length (cc l))])
theorem nU:∃i,Tryd.prog.info? 67=some i∧i.size=2:=by
 have h:(Tryd.prog.info? 67).map (·.size)=some 2:=by kernel_rfl
 obtain⟨i,h1,h2⟩:=Option.map_eq_some_iff.1 h
 exact⟨i,h1,h2⟩
theorem ni(v:Value)(w:World):(callFunc 89 #[v]).run Tryd.prog w= .ok (.value v) w:=by
 rw[run_callFunc_extern Tryd.func89 (by kernel_rfl) (by kernel_rfl) (by kernel_rfl) (e:=Extern.AbiNoEscape.same) (by kernel_rfl),Lib.run_noEscape]
 rfl
theorem kY:qK Tryd.prog 65 9=some 5:=by kernel_rfl
theorem u9(u:Bool)(l:List UInt8):bQ Tryd.prog 78 [.ptr 0 0] (uu 1 u l) (fun _ σ'=>σ'=uu 1 true l):=by
 obtain⟨ji,hji,hjs⟩:=nU
 refine cL Tryd.func78 rfl Tryd.ntmps78 rfl ?_
 cases u
 ·refine aX<|aE (cO rfl rfl) rfl rfl rfl ?_
  refine aE (ew rfl rfl) rfl rfl rfl ?_
  refine aE (bp rfl) rfl rfl rfl ?_
  refine aE (dB rfl (cb.tk.get rfl) rfl rfl rfl) rfl rfl rfl ?_
  refine aE (tB rfl (cb.pk.get rfl) rfl rfl) rfl rfl rfl (aH ?_)
  refine uX rfl ?_
  refine bK<|aE (cO rfl rfl) rfl rfl rfl ?_
  refine aE (cO rfl rfl) rfl rfl rfl ?_
  refine aE (pF rfl Tryd.underlying64 Tryd.underlying124 hji (by rw[hjs];decide) rfl rfl (by decide)) rfl rfl rfl ?_
  refine aE (pJ rfl rfl rfl ni) rfl rfl rfl ?_
  refine aE (mM rfl Tryd.underlying124 Tryd.underlying64 hji rfl rfl (by kernel_rfl)) rfl rfl rfl ?_
  refine aE (ew rfl rfl) rfl rfl rfl ?_
  refine aE (bp rfl) rfl rfl rfl ?_
  refine bE (ll rfl (cb.tk.get rfl) rfl rfl rfl (Nat.le_of_ble_eq_true rfl)) rfl rfl (aH ?_)
  exact⟨_,.nil,rfl⟩
 ·refine aX<|aE (cO rfl rfl) rfl rfl rfl ?_
  refine aE (ew rfl rfl) rfl rfl rfl ?_
  refine aE (bp rfl) rfl rfl rfl ?_
  refine aE (dB rfl (cb.tk.get rfl) rfl rfl rfl) rfl rfl rfl ?_
  refine aE (kR rfl (cb.pk.get rfl) rfl rfl) rfl rfl rfl (aH ?_)
  refine kg rfl ?_
  refine aX<|aE (cO rfl rfl) rfl rfl rfl ?_
  refine aE (ew rfl rfl) rfl rfl rfl ?_
  refine aE (bp rfl) rfl rfl rfl ?_
  refine aE (dB rfl (cb.tk.get rfl) rfl rfl rfl) rfl rfl rfl ?_
  refine aE (cO rfl rfl) rfl rfl rfl ?_
  refine aE (l7 rfl Tryd.underlying64 hji rfl rfl) rfl rfl rfl (aH ?_)
  refine kg rfl ?_
  exact ai ⟨_,.nil,rfl⟩
theorem xI(u:Bool)(l:List UInt8)(s:ByteArray)(hn:l.length+s.size≤1000000000):bQ Tryd.prog 52 [.ptr 0 0,.raw (.string s)] (uu 1 u l) (fun _ σ'=>σ'=uu 2 true (l++s.data.toList)):=by
 refine cL Tryd.func52 rfl Tryd.ntmps52 rfl<|af (.a 2 rfl<|.k [0,1] rfl)<|aX<|av 1 rfl<|cG rfl rfl (bQ.mono (u9 u l) (fun _ σ' h=>?_))
 subst h
 refine aQ [0,1] rfl ?_
 refine aX<|av 6 rfl<|dJ (j2 rfl kY rfl rfl rfl (by omega)) rfl<|av 3 rfl<|aQ [1] rfl ?_
 refine af (.a 1 rfl<|.v (oG rfl Tryd.underlying9 rfl) rfl<|.a 2 rfl<|.k [4,5] rfl)<|an<|⟨_,ax.of rfl,?_⟩
 have hl:(l++s.data.toList).length=l.length+s.size:=by simp
 unfold uu
 rw[hl,←fc]
 rfl
theorem v7(u:Bool)(l:List UInt8)(hl:0<l.length):bQ Tryd.prog 24 [.ptr 0 0] (uu 1 u l) (fun r _=>r= .raw (.string ⟨l.toArray⟩)):=by
 refine cL Tryd.func24 rfl Tryd.ntmps24 rfl ?_
 cases u
 all_goals
  refine af (.a 1 rfl<|.k [0] rfl)<|jY 10 20 mixed (
   .val [0] rfl (bp rfl) rfl rfl<|
   .val [3] rfl (bp rfl) rfl rfl<|
   .val [4] rfl (bp rfl) rfl rfl<|
   .val [5] rfl (bp rfl) rfl rfl<|
   .val [6] rfl (oA rfl rfl rfl hl) rfl rfl<|
   .val [0] rfl (bp rfl) rfl rfl<|
   .val [8] rfl (bp rfl) rfl rfl<|
   .val [9] rfl (bp rfl) rfl rfl<|
   .val [10] rfl (bp rfl) rfl rfl<|
   .val [11] rfl (bp rfl) rfl rfl<|
   .nil) (by kernel_rfl) rfl rfl (bm (ks:=[7,12]) rfl) ?_
  refine dJ (oo rfl Tryd.underlying102 (by kernel_rfl) rfl rfl rfl hl) rfl<|av 1 rfl<|aQ [2] rfl ?_
  exact an<|⟨_,ax.of rfl,rfl⟩
def rV(l:List UInt8):PV:=.raw (.string ⟨l.toArray⟩)
theorem ik(i:Nat)(hi:i<100):Can Tryd.prog 21 [num i] (· =rV (Lib.decDigits i)):=fun F w vs _ _ hR=>by
 obtain⟨v,rfl,h1⟩:=xS hR
 cases dI h1
 refine(Tryd.strconv_Itoa_small i hi w).mono ?_
 rintro e w' ⟨rfl,rfl⟩
 exact⟨_,rfl,Ext.refl _,_,rfl,.raw _⟩
instance (l:List UInt8):IsPure (rV l):=by unfold rV;infer_instance
instance (l:List UInt8):cN (rV l):=by unfold rV;infer_instance
end PW
end Go.Proofs.YtnegbdpggideiaaDoor
namespace Go.Proofs.YtnegbdpggideiaaDoor
namespace PW
open Go.RowKit aN Mem Net
def rU(l:List UInt8)(x:Option cB):bo:=[some (.cells 67 [.ptr 0 0,.own 1]),some (.row 5 1 l.length (cc l)),x]
def sa(l:List UInt8)(x:Option cB):bo:=[some (.cells 67 [.ptr 0 0,.own 3]),none,x,some (.row 5 1 l.length (cc l))]
theorem qz(l:List UInt8)(x:Option cB):bQ Tryd.prog 78 [.ptr 0 0] (rU l x) (fun _ σ'=>σ'=rU l x):=by
 obtain⟨ji,hji,hjs⟩:=nU
 refine cL Tryd.func78 rfl Tryd.ntmps78 rfl<|aX<|aE (cO rfl rfl) rfl rfl rfl ?_
 refine aE (ew rfl rfl) rfl rfl rfl ?_
 refine aE (bp rfl) rfl rfl rfl ?_
 refine aE (dB rfl (cb.tk.get rfl) rfl rfl rfl) rfl rfl rfl ?_
 refine aE (kR rfl (cb.pk.get rfl) rfl rfl) rfl rfl rfl (aH ?_)
 refine kg rfl ?_
 refine aX<|aE (cO rfl rfl) rfl rfl rfl ?_
 refine aE (ew rfl rfl) rfl rfl rfl ?_
 refine aE (bp rfl) rfl rfl rfl ?_
 refine aE (dB rfl (cb.tk.get rfl) rfl rfl rfl) rfl rfl rfl ?_
 refine aE (cO rfl rfl) rfl rfl rfl ?_
 refine aE (l7 rfl Tryd.underlying64 hji rfl rfl) rfl rfl rfl (aH ?_)
 refine kg rfl ?_
 exact ai ⟨_,.nil,rfl⟩
theorem wm(l:List UInt8)(x:Option cB)(s:ByteArray)(hn:l.length+s.size≤1000000000):bQ Tryd.prog 52 [.ptr 0 0,.raw (.string s)] (rU l x) (fun _ σ'=>σ'=sa (l++s.data.toList) x):=by
 refine cL Tryd.func52 rfl Tryd.ntmps52 rfl<|af (.a 2 rfl<|.k [0,1] rfl)<|aX<|av 1 rfl<|cG rfl rfl (bQ.mono (qz l x) (fun _ σ' h=>?_))
 subst h
 refine aQ [0,1] rfl ?_
 refine aX<|av 6 rfl<|dJ (j2 rfl kY rfl rfl rfl (by omega)) rfl<|av 3 rfl<|aQ [1] rfl ?_
 refine af (.a 1 rfl<|.v (oG rfl Tryd.underlying9 rfl) rfl<|.a 2 rfl<|.k [4,5] rfl)<|an<|⟨_,ax.of rfl,?_⟩
 have hl:(l++s.data.toList).length=l.length+s.size:=by simp
 unfold sa
 rw[hl,←fc]
 rfl
theorem sJ(l:List UInt8)(x:Option cB)(c:UInt8)(hn:l.length≤1000000000):bQ Tryd.prog 54 [.ptr 0 0,.raw (.int .u8 c.toNat)] (rU l x) (fun _ σ'=>σ'=sa (l++[c]) x):=by
 refine cL Tryd.func54 rfl Tryd.ntmps54 rfl<|af (.a 1 rfl<|.k [0,1] rfl)<|aX<|av 1 rfl<|cG rfl rfl (bQ.mono (qz l x) (fun _ σ' h=>?_))
 subst h
 refine aQ [0,1] rfl ?_
 refine aX<|av 7 rfl<|dJ (ct rfl (cb.rk.get rfl) rfl rfl rfl rfl (by unfold maxLen;omega)) rfl<|av 3 rfl<|aQ [] rfl ?_
 refine af (.a 1 rfl<|.k [4] rfl)<|an<|⟨_,ax.of rfl,?_⟩
 unfold sa
 rw[←fc]
 simp only[List.length_append,List.length_singleton]
 rfl
theorem wZ{P:Program}{M:Nat}{c:Code}{t:a7}{Q:Exit→St→Prop}{l:List UInt8}{ty:TypeId}{xs:List PV}[ao xs](hT:ij [0,3,2] t t)(h:W P M 0 c ⟨t,rU l (some (.cells ty xs))⟩ Q):W P M 0 c ⟨t,sa l (some (.cells ty xs))⟩ Q:=
 dO [0,3,2] hT (.kept rfl (.cells (aL.cons (Ren.ptr (i:=0) rfl)<|aL.cons (Ren.own (i:=1) rfl) aL.nil))<|.kept rfl (.row aL.pure)<|.kept rfl (.cells aL.pure)<|.nil) rfl rfl h
theorem yF{P:Program}{M:Nat}{c:Code}{t:a7}{Q:Exit→St→Prop}{l:List UInt8}{x:Option cB}(hT:ij [0,3] t t)(h:W P M 0 c ⟨t,uu 1 true l⟩ Q):W P M 0 c ⟨t,sa l x⟩ Q:=
 dO [0,3] hT (.kept rfl (.cells (aL.cons (Ren.ptr (i:=0) rfl)<|aL.cons (Ren.own (i:=1) rfl) aL.nil))<|.kept rfl (.row aL.pure)<|.nil) rfl rfl h
theorem yu{P:Program}{M:Nat}{c:Code}{t:a7}{Q:Exit→St→Prop}{l:List UInt8}(hT:ij [0,2] t t)(h:W P M 0 c ⟨t,uu 1 true l⟩ Q):W P M 0 c ⟨t,uu 2 true l⟩ Q:=
 dO [0,2] hT (.kept rfl (.cells (aL.cons (Ren.ptr (i:=0) rfl)<|aL.cons (Ren.own (i:=1) rfl) aL.nil))<|.kept rfl (.row aL.pure)<|.nil) rfl rfl h
theorem qT(s:List bL)(i:Nat)(g:bL)(h:s[i]? =some g)(n:Nat):cA n (s.take (i+1))=(((cA n (s.take i)++[32])++Lib.decDigits g.kind.toNat)++[58])++Lib.decDigits g.num.toNat:=by
 unfold cA
 rw[List.take_add_one,h]
 simp[vc]
theorem pD{s:List bL}(h:fa s)(i:Nat):fa (s.take i):=fun g hg=>h g (List.mem_of_mem_take hg)
theorem ru{n:Nat}{s:List bL}(hn:n<100)(h:fa s):(cA n s).length≤2+s.length*6:=by
 have h1:=fG hn
 have h2:=tM h
 unfold cA
 rw[List.length_append]
 omega
theorem uF(n:Nat)(s:List bL)(hn:n<100)(hs:fa s)(hl:s.length≤1000):Can Tryd.prog 33 [num n,bD s] (· =rV (cA n s)):=by
 refine aI Tryd.func33 rfl Tryd.ntmps33 rfl<|af (.a 1 rfl<|.k [0,1] rfl)<|aX<|av 1 rfl<|aQ [0,1,5] rfl ?_
 refine bU 0 1 5 1 rfl rfl ?_
 refine kK (σ':=uu 1 false []) rfl ?_
 refine aX<|av 1 rfl<|fu rfl (ik n hn) rfl<|cG rfl rfl (bQ.mono (xI false [] ⟨(Lib.decDigits n).toArray⟩ (show([]:List UInt8).length+(Lib.decDigits n).toArray.size≤1000000000 by have:=fG hn;simp;omega)) (fun _ σ' h=>?_))
 subst h
 refine aQ [1,5] rfl ?_
 refine yu (.cons 1 rfl Ren.pure<|.cons 5 rfl (Ren.ptr (i:=0) rfl)<|.nil) ?_
 refine ak<|af (.a 3 rfl<|.k [5,11,12,13] rfl)<|aq<|iC [5,11,12,13] rfl<|br (fun r st=>∃i,i≤s.length∧r=s.length - i∧st=⟨[(5,.ptr 0 0),(11,bD s),(12,num s.length),(13,num i)],uu 1 true (cA n (s.take i))⟩) s.length ⟨0,by omega,by omega,by simp[cA]⟩ ?_
 rintro r st ⟨i,hi,rfl,rfl⟩
 refine af (.a 1 rfl<|.k [5,11,12,13,14] rfl)<|ak<|ag rfl (fun hc=>?_) (fun hc=>?_)
 ·have hlt:i<s.length:=by have:=of_decide_eq_true hc;omega
  obtain⟨g,hg,_⟩:=sf s i hlt
  obtain⟨a1,a2,a3,a4⟩:=hs g (List.mem_of_getElem? hg)
  have hst:=qT s i g hg n
  have hln:=ru hn (pD hs i)
  rw[List.length_take]at hln
  obtain⟨gk,gn⟩:=g
  simp only at a1 a2 a3 a4 hst
  obtain⟨ka,rfl⟩:=Int.eq_ofNat_of_zero_le a1
  obtain⟨na,rfl⟩:=Int.eq_ofNat_of_zero_le a3
  have hk2:=fG (n:=ka) (by omega)
  have hn2:=fG (n:=na) (by omega)
  rw[Int.toNat_natCast,Int.toNat_natCast]at hst
  have hmin:min i s.length=i:=by omega
  rw[hmin]at hln
  generalize hl0:cA n (s.take i)=l0 at*
  refine ai<|ak<|aq<|aX<|bZ (aR ((i*2)) rfl) rfl<|bZ (eZ rfl (jC s i _ hg) rfl) rfl<|av 2 rfl<|aQ [5,7,11,12,13] rfl ?_
  refine kK (σ':=rU l0 (some (.cells 32 (i1 ⟨(ka:Int),(na:Int)⟩)))) rfl ?_
  refine aX<|cG rfl rfl (bQ.mono (sJ l0 _ 32 (by omega)) (fun _ σ' h=>?_))
  subst h
  refine aQ [5,7,11,12,13] rfl ?_
  refine wZ (.cons 5 rfl (Ren.ptr (i:=0) rfl)<|.cons 7 rfl (Ren.ptr (i:=2) rfl)<|.cons 11 rfl Ren.pure<|.cons 12 rfl Ren.pure<|.cons 13 rfl Ren.pure<|.nil) ?_
  refine aX<|av 1 rfl<|bZ (aO rfl (rfl)) rfl<|fu rfl (ik ka (by omega)) rfl<|cG rfl rfl (bQ.mono (wm (l0++[32]) _ ⟨(Lib.decDigits ka).toArray⟩ (show(l0++[32]).length+(Lib.decDigits ka).toArray.size≤1000000000 by simp;omega)) (fun _ σ' h=>?_))
  subst h
  refine aQ [5,7,11,12,13] rfl ?_
  refine wZ (.cons 5 rfl (Ren.ptr (i:=0) rfl)<|.cons 7 rfl (Ren.ptr (i:=2) rfl)<|.cons 11 rfl Ren.pure<|.cons 12 rfl Ren.pure<|.cons 13 rfl Ren.pure<|.nil) ?_
  refine aX<|cG rfl rfl (bQ.mono (sJ ((l0++[32])++Lib.decDigits ka) _ 58 (by simp;omega)) (fun _ σ' h=>?_))
  subst h
  refine aQ [5,7,11,12,13] rfl ?_
  refine wZ (.cons 5 rfl (Ren.ptr (i:=0) rfl)<|.cons 7 rfl (Ren.ptr (i:=2) rfl)<|.cons 11 rfl Ren.pure<|.cons 12 rfl Ren.pure<|.cons 13 rfl Ren.pure<|.nil) ?_
  refine bK<|av 1 rfl<|bZ (aO rfl (rfl)) rfl<|fu rfl (ik na (by omega)) rfl<|cG rfl rfl (bQ.mono (wm (((l0++[32])++Lib.decDigits ka)++[58]) _ ⟨(Lib.decDigits na).toArray⟩ (show(((l0++[32])++Lib.decDigits ka)++[58]).length+(Lib.decDigits na).toArray.size≤1000000000 by simp;omega)) (fun _ σ' h=>?_))
  subst h
  refine aQ [5,11,12,13] rfl ?_
  refine yF (.cons 5 rfl (Ren.ptr (i:=0) rfl)<|.cons 11 rfl Ren.pure<|.cons 12 rfl Ren.pure<|.cons 13 rfl Ren.pure<|.nil) ?_
  refine aF (.v (bf rfl) rfl<|.a 1 rfl<|.k [5,11,12,13] rfl) ?_
  exact⟨s.length - (i+1),by omega,i+1,by omega,rfl,by rw[hst];rfl⟩
 ·have hie:i=s.length:=by have:=of_decide_eq_false hc;omega
  subst hie
  rw[List.take_length]
  refine bn<|aX<|cG rfl rfl (bQ.mono (v7 true (cA n s) (by have:=fG hn;unfold cA;simp;omega)) (fun _ σ' h=>?_))
  subst h
  refine av 1 rfl<|aQ [4] rfl ?_
  exact an<|⟨_,_,ax.of rfl,ay.pure,rfl⟩
theorem o0(T:ab)(L:List eS)(n:Int)(hv:aj T=true)(hL:(L.length:Int)=T.nodes)(hok:∀(i:Nat) x,L[i]? =some x→x.node=(i:Int)∧de T x=true)(hn:aS T n=true):Can Tryd.prog 32 [a6 T,ie L,num n] (· =num 0):=by
 have hN:=eP hv
 obtain⟨q1,hq1⟩:∃q,aj T=q:=⟨_,rfl⟩
 obtain⟨q2,hq2⟩:∃q,decide ((L.length:Int)≠T.nodes)=q:=⟨_,rfl⟩
 refine aI Tryd.func32 rfl Tryd.ntmps32 rfl<|af (.a 2 rfl<|.k [1,2,3] rfl)<|ak<|aY 18 (.raw (.bool (!q1 ||q2))) [1,2,3] rfl ?_ ?_
 ·refine .a 1 rfl<|.c rfl (hq1▸fp T) rfl<|.a 2 rfl<|?_
  cases q1
  ·exact .a 6 rfl<|.k [18,1,2,3] rfl
  ·exact .a 3 rfl<|.v (aO rfl (rfl)) rfl<|.v (bT rfl (hq2)) rfl<|.a 1 rfl<|.k [18,1,2,3] rfl
 refine ag rfl (fun hc=>?_) (fun hc=>?_)
 ·rw[←hq1,hv,←hq2,decide_eq_false (by rw[hL];simp)]at hc
  cases hc
 ·refine ai<|ak<|af (.a 3 rfl<|.k [2,3,19,20,21] rfl)<|aq<|iC [2,3,19,20,21] rfl<|br (fun r st=>∃i,i≤L.length∧r=L.length - i∧st=⟨[(2,num n),(3,.b6 (b5 T) 0),(19,ie L),(20,num L.length),(21,num i)],[]⟩) L.length ⟨0,by omega,by omega,rfl⟩ ?_
  rintro r st ⟨i,hi,rfl,rfl⟩
  refine af (.a 1 rfl<|.k [2,3,19,20,21,22] rfl)<|ak<|ag rfl (fun hc=>?_) (fun hc=>?_)
  ·have hlt:i<L.length:=by have:=of_decide_eq_true hc;omega
   obtain⟨x,hx⟩:∃x,L[i]? =some x:=⟨_,List.getElem?_eq_getElem hlt⟩
   obtain⟨h1,h2⟩:=hok i x hx
   obtain⟨q3,hq3⟩:∃q,decide (x.node≠(i:Int))=q:=⟨_,rfl⟩
   obtain⟨q4,hq4⟩:∃q,de T x=q:=⟨_,rfl⟩
   refine ai<|ak<|aq<|aX<|av 1 rfl<|bZ (aR ((i*3)) rfl) rfl<|bZ (eZ rfl (jt L i x hx) rfl) rfl<|av 3 rfl<|aQ [2,3,7,8,19,20,21] rfl ?_
   refine aY 35 (.raw (.bool (q3|| !q4))) [2,3,19,20,21] rfl ?_ ?_
   ·refine .a 1 rfl<|.v (aO rfl ((rfl:(dx x)[0]? =some (num x.node)))) rfl<|.a 1 rfl<|.v (bT rfl (hq3)) rfl<|.a 1 rfl<|?_
    cases q3
    ·exact .a 1 rfl<|.v (eZ rfl ((rfl:(dx x).take 3=dx x)) rfl) rfl<|.c rfl (hq4▸ko T x) rfl<|.a 2 rfl<|.k [35,2,3,19,20,21] rfl
    ·exact .a 5 rfl<|.k [35,2,3,19,20,21] rfl
   refine ag rfl (fun hc=>?_) (fun hc=>?_)
   ·rw[←hq3,←hq4,h2,decide_eq_false (by rw[h1];simp)]at hc
    cases hc
   ·refine ai<|dO [] (.c 2<|.c 3<|.c 19<|.c 20<|.c 21<|.nil) .nil rfl rfl ?_
    refine aF (.v (bf rfl) rfl<|.a 1 rfl<|.k [2,3,19,20,21] rfl) ?_
    exact⟨L.length - (i+1),by omega,i+1,by omega,rfl,rfl⟩
  ·have hie:i=L.length:=by have:=of_decide_eq_false hc;omega
   refine bn<|ak<|af (.a 2 rfl<|.c rfl (hn▸cE T n) rfl<|.a 1 rfl<|.k [40] rfl)<|ag rfl (fun hc=>?_) (fun hc=>?_)
   ·cases hc
   ·exact ai<|af (.a 1 rfl<|.k [6] rfl)<|an<|⟨_,_,ax.of rfl,ay.pure,rfl⟩
end PW
end Go.Proofs.YtnegbdpggideiaaDoor
namespace Go.Proofs.YtnegbdpggideiaaDoor
namespace PW
open Go.RowKit aN Mem
def fy(l:List UInt8):Value:=.string ⟨l.toArray⟩
theorem bytes_beq(a b:List UInt8):((⟨a.toArray⟩:ByteArray)==⟨b.toArray⟩)=decide (a=b):=Bool.eq_iff_iff.2 (by
 rw[beq_toListBytes,beq_iff_eq,decide_eq_true_eq,ByteArray.toList_eq,ByteArray.toList_eq])
section
variable {P:Program} {kt:TypeId}
theorem vK(b:Bool)(n:Nat)(hu:P.underlying kt=some .string)(a:List UInt8)(w:World):(Instr.checkKey b (n+1) kt (fy a)).run P w= .ok () w:=by
 simp only[Instr.checkKey,Sem.run_bind,run_underlying hu,Result.andThen_ok,Sem.run_pure,fy]
theorem wK(n:Nat)(hu:P.underlying kt=some .string)(a b:List UInt8)(w:World):(Op.equalIn (n+1) kt (fy a) (fy b)).run P w= .ok (decide (a=b)) w:=by
 have h:=run_equalIn_string w n kt ⟨a.toArray⟩ ⟨b.toArray⟩ hu
 rw[←beq_toListBytes,bytes_beq]at h
 exact h
theorem xb(hu:P.underlying kt=some .string):iB P kt fy where
 sw:=fun b a w=>vK b 9999 hu a w
 eql:=fun a b w=>wK _ hu a b w
 now:=⟨_,hu,.inl fun a b=>by simp only[Instr.sameNow,fy,bytes_beq]⟩
 bits:=fun a=>by
  show Instr.sameBits 10000 (.string ⟨a.toArray⟩) (.string ⟨a.toArray⟩)=true
  unfold Instr.sameBits
  show((⟨a.toArray⟩:ByteArray)==⟨a.toArray⟩)=true
  rw[bytes_beq]
  exact decide_eq_true rfl
variable {t:a7} {σ:bo} {o:Oper}
end
end PW
end Go.Proofs.YtnegbdpggideiaaDoor
namespace Go.Proofs.YtnegbdpggideiaaDoor
namespace PW
open Go.RowKit aN Mem
end PW
end Go.Proofs.YtnegbdpggideiaaDoor
namespace Go.Proofs.YtnegbdpggideiaaDoor
namespace PW
open Go.RowKit aN Mem
end PW
end Go.Proofs.YtnegbdpggideiaaDoor
namespace Go.Proofs.YtnegbdpggideiaaDoor
namespace PW
open Net
end PW
end Go.Proofs.YtnegbdpggideiaaDoor
namespace Go.Proofs.YtnegbdpggideiaaDoor
namespace PW
open Go.RowKit aN Mem Net
end PW
end Go.Proofs.YtnegbdpggideiaaDoor
namespace Go.Proofs.YtnegbdpggideiaaDoor
namespace PW
open Go.RowKit aN Mem Net
end PW
end Go.Proofs.YtnegbdpggideiaaDoor
