/- Texts of the proof, part 7. -/
import Derived.MapKept
import Derived.Scope
import Derived.Lib.SliceRun
import Derived.Test.YtnegbdpggideiaaGreatDoorCardMPB6
namespace Go.Proofs.YtnegbdpggideiaaGreatDoor
set_option linter.unusedVariables false
set_option linter.unusedSimpArgs false
namespace PW
open Go.RowKit Reg Mem Net
theorem outL_sorted (T:Topo) (n:Int):(outL T n).Pairwise (· < ·):=by
 unfold outL outTo
 refine List.Pairwise.map _ (fun a b h=>?_) ((List.pairwise_lt_range (n:=2*T.links.length)).filter _)
 show(a:Int)<(b:Int)
 omega
theorem outL_iff {T:Topo} {n:Int} {a:Int}:a∈outL T n↔arcB T a=true∧tailN T a.toNat=n:=by
 unfold outL outTo
 rw[List.mem_map,arcB_iff]
 constructor
 ·rintro⟨b,hb,rfl⟩
  obtain⟨h1,h2⟩:=List.mem_filter.1 hb
  have:=List.mem_range.1 h1
  refine⟨⟨by simp,by simp;omega⟩,by simpa using h2⟩
 ·rintro⟨⟨h0,h1⟩,h2⟩
  refine⟨a.toNat,List.mem_filter.2 ⟨List.mem_range.2 (by omega),by simpa using h2⟩,by simp;omega⟩
theorem leave_of {T:Topo} {n:Int} {L:List Int} (hs:L.Pairwise (· < ·)) (hm:∀a∈L,arcB T a=true∧tailN T a.toNat=n):leaveB T n L=true:=decide_eq_true fun i hi=>by
 have h1:=hm _ (getD_mem (d:=0) hi)
 refine⟨h1.1,h1.2,fun h0=>?_⟩
 have:=List.pairwise_iff_getElem.1 hs (i - 1) i (by omega) hi (by omega)
 rw[List.getD_eq_getElem?_getD,List.getD_eq_getElem?_getD,List.getElem?_eq_getElem hi,List.getElem?_eq_getElem (by omega:i - 1<L.length)]
 exact this
theorem leave_out (T:Topo) (n:Int) (p:Int→Bool):leaveB T n ((outL T n).filter p)=true:=leave_of ((outL_sorted T n).filter p) fun _ ha=>outL_iff.1 (List.mem_filter.1 ha).1
theorem leave_next (T:Topo) (D:List Bool) (n d:Nat):leaveB T n (nextL T D n d)=true:=by
 unfold nextL
 split
 ·exact decide_eq_true fun i hi=>by simp at hi
 ·exact leave_out T n _
theorem next_self (T:Topo) (D:List Bool) (n:Nat):nextL T D n n=[]:=by unfold nextL;rw[if_pos (.inl rfl)]
theorem routes_valid {T:Topo} {D:List Bool} (hv:validB T=true) {n:Nat} (hn:(n:Int)<T.nodes):tabOK T (routesT T D n)=true:=by
 unfold tabOK routesT
 have h1:nodeB T (n:Int)=true:=nodeB_iff.2 ⟨by omega,hn⟩
 have hN:=(sound_of hv).nodes
 have h2:decide (((toL T D n T.nodes.toNat).length:Int)=T.nodes)=true:=decide_eq_true (by rw[toL_len];omega)
 have h3:leaveB T n (downL D (outL T n))=true:=leave_out T n _
 have h4:entsOK T n (toL T D n T.nodes.toNat)=true:=entsOK_all fun d e he=>by
  unfold toL at he
  rw[List.getElem?_map,Option.map_eq_some_iff]at he
  obtain⟨d',hd',rfl⟩:=he
  have hd:d'=d:=by
   have:=List.getElem?_eq_some_iff.1 hd'
   obtain⟨h,h'⟩:=this
   simpa using h'.symm
  subst hd
  unfold entOK
  simp only[leave_next,Bool.true_and]
  by_cases hdn:d'=n
  ·subst hdn;rw[next_self];simp
  ·rw[decide_eq_false (by omega)];simp
 rw[hv,h1,h2,h3,h4]
 rfl
theorem dist_at {T:Topo} {D:List Bool} (hv:validB T=true) {d x:Nat} (hd:(d:Int)<T.nodes) (hx:(x:Int)<T.nodes):(distL T D d false).getD x 0=at' (distL T D d false) (x:Int):=by
 have hl:=(distL_bound (D:=D) hv (dir:=false) hd).1
 unfold at'
 rw[Int.toNat_natCast,List.getD_eq_getElem?_getD,List.getD_eq_getElem?_getD,List.getElem?_eq_getElem (by omega)]
 rfl
structure Nearer (T:Topo) (D:List Bool) (n d a:Nat):Prop where
 arc:a<2*T.links.length
 tail:tailN T a=(n:Int)
 up:downN D a=false
 ne:n≠d
 reach:0≤(distL T D d false).getD (headN T a).toNat 0
 pass:headN T a=(d:Int)∨overN T (headN T a).toNat=false
 sum:(distL T D d false).getD n 0=(distL T D d false).getD (headN T a).toNat 0+costN T a
theorem next_mem {T:Topo} {D:List Bool} {n d:Nat} {a:Int} (h:a∈nextL T D n d):∃k:Nat,a=k∧Nearer T D n d k:=by
 unfold nextL at h
 split at h
 ·simp at h
 ·rename_i hne
  obtain⟨h1,h2⟩:=List.mem_filter.1 h
  obtain⟨h3,h4⟩:=outL_iff.1 h1
  obtain⟨h5,h6⟩:=arcB_iff.1 h3
  obtain⟨k,rfl⟩:=Int.eq_ofNat_of_zero_le h5
  rw[Int.toNat_natCast]at h2 h4
  unfold passB at h2
  simp only[Bool.and_eq_true,Bool.not_eq_true',Bool.or_eq_false_iff,decide_eq_true_eq,decide_eq_false_iff_not]at h2
  obtain⟨⟨⟨g1,g2⟩,g3⟩,g4⟩:=h2
  refine⟨k,rfl,by omega,h4,g1,fun e=>hne (.inl e),by omega,?_,by omega⟩
  rcases Bool.and_eq_false_iff.1 g3 with g|g
  ·exact .inl (Classical.byContradiction (ff g))
  ·exact .inr g
theorem next_of {T:Topo} {D:List Bool} {n d k:Nat} (h:Nearer T D n d k) (hc:1≤costN T k):(k:Int)∈nextL T D n d:=by
 have hs:=h.sum
 have hr:=h.reach
 unfold nextL
 rw[if_neg (by rintro(e|e);exact h.ne e;omega)]
 refine List.mem_filter.2 ⟨outL_iff.2 ⟨arcB_iff.2 ⟨by omega,by have:=h.arc;omega⟩,h.tail⟩,?_⟩
 unfold passB
 rw[Int.toNat_natCast]
 simp only[Bool.and_eq_true,Bool.not_eq_true',Bool.or_eq_false_iff,decide_eq_true_eq,decide_eq_false_iff_not]
 refine⟨⟨⟨h.up,by omega⟩,?_⟩,by omega⟩
 rcases h.pass with g|g
 ·rw[decide_eq_false (by simpa using g)];rfl
 ·rw[g,Bool.and_false]
theorem next_ex {T:Topo} {D:List Bool} (hv:validB T=true) {n d:Nat} (hn:(n:Int)<T.nodes) (hd:(d:Int)<T.nodes) (hne:n≠d) (h0:0≤(distL T D d false).getD n 0):∃k,Nearer T D n d k:=by
 have hS:=sound_of hv
 have hI:=distL_is hS D false hd
 have e1:=dist_at (D:=D) hv hd hn
 rcases hI.supp n hn (by rw[←e1];exact h0)with h|⟨a,ha,hx,⟨w1,w2,w3⟩,hs⟩
 ·exact absurd h hne
 ·have hh:=hS.head a ha
  obtain⟨y,hy⟩:=Int.eq_ofNat_of_zero_le hh.1
  have e2:=dist_at (D:=D) hv hd (x:=y) (by omega)
  simp only[arcX,arcY,Bool.false_eq_true,if_false]at hx w2 w3 hs
  rw[hy]at w2 w3 hs
  refine⟨a,ha,hx,w1,hne,?_,?_,?_⟩
  ·rw[hy,Int.toNat_natCast,e2];exact w2
  ·rw[hy];exact w3
  ·rw[hy,Int.toNat_natCast,e1,e2];exact hs
theorem dist_self {T:Topo} {D:List Bool} (hv:validB T=true) {d:Nat} (hd:(d:Int)<T.nodes):(distL T D d false).getD d 0=0:=by
 rw[dist_at hv hd hd]
 exact(distL_is (sound_of hv) D false hd).root
end PW
end Go.Proofs.YtnegbdpggideiaaGreatDoor

namespace Go.Proofs.YtnegbdpggideiaaGreatDoor
set_option linter.unusedVariables false
set_option linter.unusedSimpArgs false
namespace PW
open Go.RowKit Reg Mem Net
noncomputable def dN (T:Topo) (D:List Bool) (d x:Nat):Int:=(distL T D d false).getD x 0
def costL (T:Topo) (p:List Int):Int:=p.foldr (fun a c=>costN T a.toNat+c) 0
theorem costL_nil (T:Topo):costL T []=0:=rfl
theorem costL_cons (T:Topo) (a:Int) (p:List Int):costL T (a::p)=costN T a.toNat+costL T p:=rfl
theorem costL_append (T:Topo) (p q:List Int):costL T (p++q)=costL T p+costL T q:=by
 induction p with
 |nil=>simp[costL_nil]
 |cons a p ih=>rw[List.cons_append,costL_cons,costL_cons,ih];omega
inductive SP (T:Topo) (D:List Bool) (d:Nat):Nat→List Int→Prop
 |nil:SP T D d d []
 |cons {n a m:Nat} {p:List Int}:Nearer T D n d a→headN T a=(m:Int)→SP T D d m p→SP T D d n ((a:Int)::p)
inductive Ch (T:Topo) (D:List Bool) (d:Nat):Nat→List Int→Prop
 |nil:Ch T D d d []
 |cons {n a m:Nat} {p:List Int}:a<2*T.links.length→tailN T a=(n:Int)→downN D a=false→headN T a=(m:Int)→(p=[]∨overN T m=false)→Ch T D d m p→Ch T D d n ((a:Int)::p)
theorem nodup_le:∀(N:Nat) (l:List Nat),l.Nodup→(∀x∈l,x<N)→l.length≤N
 |0,l,_,h=>by
  cases l with
  |nil=>simp
  |cons a l=>have:=h a (by simp);omega
 |N+1,l,hn,h=>by
  have h1:=nodup_le N (l.erase N) (hn.erase N) (fun x hx=>by
   have h2:=(List.Nodup.mem_erase_iff hn).1 hx
   have:=h x h2.2
   have:=h2.1
   omega)
  rw[List.length_erase]at h1
  split at h1<;>omega
section
variable {T:Topo} {D:List Bool} {d:Nat}
theorem head_nat (hv:validB T=true) {a:Nat} (ha:a<2*T.links.length):∃m:Nat,headN T a=(m:Int)∧(m:Int)<T.nodes:=by
 obtain⟨h0,h1⟩:=(sound_of hv).head a ha
 obtain⟨m,hm⟩:=Int.eq_ofNat_of_zero_le h0
 exact⟨m,hm,by rw[←hm];exact h1⟩
theorem dN_self (hv:validB T=true) (hd:(d:Int)<T.nodes):dN T D d d=0:=dist_self hv hd
theorem dN_ge (hv:validB T=true) (hd:(d:Int)<T.nodes) {x:Nat} (hx:(x:Int)<T.nodes): -1≤dN T D d x∧dN T D d x≤4194240:=by
 obtain⟨h1,h2⟩:=distL_bound (D:=D) hv (dir:=false) hd
 exact h2 _ (getD_mem (by omega))
theorem Nearer.dN {n a m:Nat} (h:Nearer T D n d a) (hm:headN T a=(m:Int)):0≤dN T D d m∧dN T D d n=dN T D d m+costN T a:=by
 have h1:=h.reach
 have h2:=h.sum
 rw[hm,Int.toNat_natCast]at h1 h2
 exact⟨h1,h2⟩
theorem Nearer.node (hv:validB T=true) {n a:Nat} (h:Nearer T D n d a):(n:Int)<T.nodes:=by rw[←h.tail];exact((sound_of hv).tail a h.arc).2
theorem SP.node (hv:validB T=true) (hd:(d:Int)<T.nodes) {n:Nat} {p:List Int} (h:SP T D d n p):(n:Int)<T.nodes:=by
 cases h with
 |nil=>exact hd
 |cons h1 _ _=>exact h1.node hv
theorem SP.cost (hv:validB T=true) (hd:(d:Int)<T.nodes) {n:Nat} {p:List Int} (h:SP T D d n p):dN T D d n=costL T p∧0≤dN T D d n:=by
 induction h with
 |nil=>rw[dN_self hv hd];exact⟨rfl,Int.le_refl _⟩
 |cons h1 hm _ ih=>
  obtain⟨g1,g2⟩:=h1.dN hm
  have:=(sound_of hv).cost _ h1.arc
  rw[costL_cons,Int.toNat_natCast]
  omega
theorem SP.self {p:List Int} (h:SP T D d d p):p=[]:=by
 cases h with
 |nil=>rfl
 |cons h1 _ _=>exact absurd rfl h1.ne
theorem SP.len (hv:validB T=true) (hd:(d:Int)<T.nodes) {n:Nat} {p:List Int} (h:SP T D d n p):(p.length:Int)≤dN T D d n:=by
 induction h with
 |nil=>rw[dN_self hv hd];simp
 |cons h1 hm _ ih=>
  obtain⟨g1,g2⟩:=h1.dN hm
  have:=(sound_of hv).cost _ h1.arc
  simp only[List.length_cons]
  omega
theorem SP.ch {n:Nat} {p:List Int} (h:SP T D d n p):Ch T D d n p:=by
 induction h with
 |nil=>exact .nil
 | @cons n a m p h1 hm hp ih=>
  refine .cons h1.arc h1.tail h1.up hm ?_ ih
  rcases h1.pass with hx|hx
  ·have:m=d:=by rw[hm]at hx;omega
   subst this
   exact .inl hp.self
  ·rw[hm,Int.toNat_natCast]at hx;exact .inr hx
theorem dN_way (hv:validB T=true) (hd:(d:Int)<T.nodes) {n a m:Nat} (ha:a<2*T.links.length) (ht:tailN T a=(n:Int)) (hu:downN D a=false) (hm:headN T a=(m:Int)) (ho:m=d∨overN T m=false) (h0:0≤dN T D d m):0≤dN T D d n∧dN T D d n≤dN T D d m+costN T a:=by
 have hS:=sound_of hv
 have hI:=distL_is hS D false hd
 have hmN:(m:Int)<T.nodes:=by rw[←hm];exact(hS.head a ha).2
 have hnN:(n:Int)<T.nodes:=by rw[←ht];exact(hS.tail a ha).2
 have e1:=dist_at (D:=D) hv hd hnN
 have e2:=dist_at (D:=D) hv hd hmN
 have:=hI.closed a ha ⟨hu,by simp only[arcY,Bool.false_eq_true,if_false];rw[hm,←e2];exact h0,by
  simp only[arcY,Bool.false_eq_true,if_false];rw[hm]
  rcases ho with h|h
  ·exact .inl (by rw[h])
  ·exact .inr (by simpa using h)⟩
 simp only[arcX,arcY,Bool.false_eq_true,if_false]at this
 rw[hm,ht,←e1,←e2]at this
 exact this
theorem Ch.node (hv:validB T=true) (hd:(d:Int)<T.nodes) {n:Nat} {p:List Int} (h:Ch T D d n p):(n:Int)<T.nodes:=by
 cases h with
 |nil=>exact hd
 |cons h1 ht _ _ _ _=>rw[←ht];exact((sound_of hv).tail _ h1).2
theorem Ch.to {n:Nat} {p:List Int} (h:Ch T D d n p):p=[]→n=d:=by
 cases h with
 |nil=>intro _;rfl
 |cons=>intro h;cases h
theorem Ch.le (hv:validB T=true) (hd:(d:Int)<T.nodes) {n:Nat} {p:List Int} (h:Ch T D d n p):0≤dN T D d n∧dN T D d n≤costL T p:=by
 induction h with
 |nil=>rw[dN_self hv hd];exact⟨Int.le_refl _,Int.le_refl _⟩
 | @cons n a m p ha ht hu hm ho hp ih=>
  have:=dN_way hv hd ha ht hu hm (by rcases ho with h|h;exact .inl (hp.to h);exact .inr h) ih.1
  rw[costL_cons,Int.toNat_natCast]
  omega
theorem Ch.sp (hv:validB T=true) (hd:(d:Int)<T.nodes) {n:Nat} {p:List Int} (h:Ch T D d n p) (hc:dN T D d n=costL T p):SP T D d n p:=by
 induction h with
 |nil=>exact .nil
 | @cons n a m p ha ht hu hm ho hp ih=>
  have ho':m=d∨overN T m=false:=by rcases ho with h|h;exact .inl (hp.to h);exact .inr h
  have h1:=hp.le hv hd
  have h2:=dN_way hv hd ha ht hu hm ho' h1.1
  rw[costL_cons,Int.toNat_natCast]at hc
  have h3:=(sound_of hv).cost a ha
  refine .cons ⟨ha,ht,hu,?_,?_,?_,?_⟩ hm (ih (by omega))
  ·rintro rfl;rw[dN_self hv hd]at hc h2;omega
  ·rw[hm,Int.toNat_natCast];exact h1.1
  ·rw[hm];rcases ho' with h|h;exact .inl (by rw[h]);exact .inr (by simpa using h)
  ·rw[hm,Int.toNat_natCast];show dN T D d n=dN T D d m+costN T a;omega
noncomputable def firstP (T:Topo) (D:List Bool) (d:Nat):Nat→Nat→List Int
 |0,_=>[]
 |f+1,n=>match nextL T D n d with
  | []=>[]
  |a::_=>a::firstP T D d f (headN T a.toNat).toNat
noncomputable def spathL (T:Topo) (D:List Bool) (n d:Nat):List Int:=firstP T D d (dN T D d n).toNat n
theorem next_unr {n:Nat} (h:dN T D d n<0):nextL T D n d=[]:=by unfold nextL;rw[if_pos (.inr h)]
theorem first_sp (hv:validB T=true) (hd:(d:Int)<T.nodes):∀(f n:Nat),(n:Int)<T.nodes→0≤dN T D d n→dN T D d n≤f→SP T D d n (firstP T D d f n)
 |f,n,hn,h0,hf=>by
  by_cases hne:n=d
  ·subst hne
   have:firstP T D n f n=[]:=by cases f with|zero=>rfl|succ f=>simp only[firstP,next_self]
   rw[this];exact .nil
  ·obtain⟨k,hk⟩:=next_ex (D:=D) hv hn hd hne h0
   cases f with
   |zero=>
    obtain⟨m,hm,_⟩:=head_nat hv hk.arc
    have:=hk.dN hm
    have:=(sound_of hv).cost k hk.arc
    omega
   |succ f=>
    simp only[firstP]
    have hmem:=next_of hk ((sound_of hv).cost k hk.arc).1
    cases hx:nextL T D n d with
    |nil=>rw[hx]at hmem;cases hmem
    |cons a l=>
     obtain⟨b,hb,hbn⟩:=next_mem (T:=T) (D:=D) (n:=n) (d:=d) (a:=a) (by rw[hx];simp)
     subst hb
     obtain⟨m,hm,hmN⟩:=head_nat hv hbn.arc
     have g:=hbn.dN hm
     have:=(sound_of hv).cost b hbn.arc
     simp only[Int.toNat_natCast,hm]
     exact .cons hbn hm (first_sp hv hd f m hmN g.1 (by omega))
theorem spath_sp (hv:validB T=true) (hd:(d:Int)<T.nodes) {n:Nat} (hn:(n:Int)<T.nodes) (h0:0≤dN T D d n):SP T D d n (spathL T D n d):=first_sp hv hd _ n hn h0 (by omega)
noncomputable def cntF (T:Topo) (D:List Bool) (d:Nat):Nat→Nat→Int
 |0,m=>if m=d then 1 else 0
 |f+1,m=>if m=d then 1 else(nextL T D m d).foldl (fun c a=>min 2 (c+cntF T D d f (headN T a.toNat).toNat)) 0
noncomputable def cntS (T:Topo) (D:List Bool) (d m:Nat):Int:=cntF T D d (dN T D d m).toNat m
theorem foldl_congr {α β:Type} {f g:α→β→α}:∀ {l:List β} {a:α},(∀a b,b∈l→f a b=g a b)→l.foldl f a=l.foldl g a
 | [],_,_=>rfl
 |b::l,a,h=>by simp only[List.foldl_cons,h a b (by simp)];exact foldl_congr fun a c hc=>h a c (by simp[hc])
theorem cntF_stab (hv:validB T=true) (hd:(d:Int)<T.nodes):∀(K m f:Nat),(m:Int)<T.nodes→dN T D d m≤K→dN T D d m≤f→cntF T D d f m=cntS T D d m
 |K,m,f,hmN,hK,hf=>by
  unfold cntS
  by_cases hmd:m=d
  ·subst hmd
   cases f<;>cases(dN T D m m).toNat<;>simp[cntF]
  ·by_cases h0:dN T D d m<0
   ·have hx:=next_unr h0
    rw[show(dN T D d m).toNat=0 by omega]
    cases f<;>simp[cntF,hmd,hx]
   ·obtain⟨k,hk⟩:=next_ex (D:=D) hv hmN hd hmd (by show 0≤dN T D d m;omega)
    have hpos:0<dN T D d m:=by
     obtain⟨m',hm',_⟩:=head_nat hv hk.arc
     have:=hk.dN hm'
     have:=(sound_of hv).cost k hk.arc
     omega
    obtain⟨g,hg⟩:∃g,(dN T D d m).toNat=g+1:=⟨(dN T D d m).toNat - 1,by omega⟩
    cases f with
    |zero=>omega
    |succ f=>
     cases K with
     |zero=>omega
     |succ K=>
      rw[hg]
      simp only[cntF,if_neg hmd]
      refine foldl_congr fun c a ha=>?_
      obtain⟨b,rfl,hbn⟩:=next_mem ha
      obtain⟨m',hm',hmN'⟩:=head_nat hv hbn.arc
      have g1:=hbn.dN hm'
      have g2:=(sound_of hv).cost b hbn.arc
      rw[Int.toNat_natCast,hm',Int.toNat_natCast,cntF_stab hv hd K m' f hmN' (by omega) (by omega),cntF_stab hv hd K m' g hmN' (by omega) (by omega)]
theorem cnt_self (m:Nat):cntS T D m m=1:=by unfold cntS;cases(dN T D m m).toNat<;>simp[cntF]
theorem cnt_eq (hv:validB T=true) (hd:(d:Int)<T.nodes) {m:Nat} (hmN:(m:Int)<T.nodes) (hmd:m≠d):cntS T D d m=(nextL T D m d).foldl (fun c a=>min 2 (c+cntS T D d (headN T a.toNat).toNat)) 0:=by
 by_cases h0:dN T D d m<0
 ·unfold cntS
  rw[next_unr h0,show(dN T D d m).toNat=0 by omega]
  simp[cntF,hmd]
 ·have h1:=cntF_stab (D:=D) hv hd (dN T D d m).toNat m ((dN T D d m).toNat+1) hmN (by omega) (by omega)
  rw[←h1]
  simp only[cntF,if_neg hmd]
  refine foldl_congr fun c a ha=>?_
  obtain⟨b,rfl,hbn⟩:=next_mem ha
  obtain⟨m',hm',hmN'⟩:=head_nat hv hbn.arc
  have g1:=hbn.dN hm'
  have g2:=(sound_of hv).cost b hbn.arc
  rw[Int.toNat_natCast,hm',Int.toNat_natCast,cntF_stab hv hd (dN T D d m).toNat m' _ hmN' (by omega) (by omega)]
theorem cnt_unr (hv:validB T=true) (hd:(d:Int)<T.nodes) {m:Nat} (hmN:(m:Int)<T.nodes) (h0:dN T D d m<0):cntS T D d m=0:=by
 have hmd:m≠d:=by rintro rfl;rw[dN_self hv hd]at h0;omega
 rw[cnt_eq hv hd hmN hmd,next_unr h0];rfl
theorem fold2_le (g:Int→Int) (hg:∀a,0≤g a):∀(l:List Int) (c:Int),0≤c→c≤2→0≤l.foldl (fun c a=>min 2 (c+g a)) c∧l.foldl (fun c a=>min 2 (c+g a)) c≤2
 | [],c,h0,h2=>⟨h0,h2⟩
 |a::l,c,h0,h2=>by
  have:=hg a
  exact fold2_le g hg l _ (show 0≤min 2 (c+g a) by omega) (show min 2 (c+g a)≤2 by omega)
theorem fold2_ge (g:Int→Int) (hg:∀a,0≤g a):∀(l:List Int) (c:Int),c≤2→c≤l.foldl (fun c a=>min 2 (c+g a)) c
 | [],c,_=>Int.le_refl _
 |a::l,c,h2=>by
  have:=hg a
  have:=fold2_ge g hg l (min 2 (c+g a)) (by omega)
  simp only[List.foldl_cons]
  omega
theorem cnt_range (hv:validB T=true) (hd:(d:Int)<T.nodes):∀(f m:Nat),0≤cntF T D d f m∧cntF T D d f m≤2
 |0,m=>by simp only[cntF];split<;>omega
 |f+1,m=>by
  simp only[cntF]
  split
  ·omega
  ·exact fold2_le (fun a=>cntF T D d f (headN T a.toNat).toNat) (fun a=>(cnt_range hv hd f _).1) _ 0 (by omega) (by omega)
theorem cnt_rangeS (hv:validB T=true) (hd:(d:Int)<T.nodes) (m:Nat):0≤cntS T D d m∧cntS T D d m≤2:=cnt_range hv hd _ m
theorem cnt_pos (hv:validB T=true) (hd:(d:Int)<T.nodes):∀(K m:Nat),(m:Int)<T.nodes→0≤dN T D d m→dN T D d m≤K→1≤cntS T D d m
 |K,m,hmN,h0,hK=>by
  by_cases hmd:m=d
  ·subst hmd;rw[cnt_self];omega
  ·obtain⟨k,hk⟩:=next_ex (D:=D) hv hmN hd hmd h0
   have hmem:=next_of hk ((sound_of hv).cost k hk.arc).1
   obtain⟨m',hm',hmN'⟩:=head_nat hv hk.arc
   have g1:=hk.dN hm'
   have g2:=(sound_of hv).cost k hk.arc
   cases K with
   |zero=>omega
   |succ K=>
    have hp:=cnt_pos hv hd K m' hmN' g1.1 (by omega)
    rw[cnt_eq hv hd hmN hmd]
    obtain⟨l1,l2,hl⟩:=List.append_of_mem hmem
    rw[hl,List.foldl_append,List.foldl_cons]
    have hg:∀a:Int,0≤cntS T D d (headN T a.toNat).toNat:=fun a=>(cnt_rangeS hv hd _).1
    have a1:=fold2_le (fun a=>cntS T D d (headN T a.toNat).toNat) hg l1 0 (by omega) (by omega)
    have a2:=fold2_ge (fun a=>cntS T D d (headN T a.toNat).toNat) hg l2 (min 2 (l1.foldl (fun c a=>min 2 (c+cntS T D d (headN T a.toNat).toNat)) 0+cntS T D d (headN T (k:Int).toNat).toNat)) (by omega)
    rw[Int.toNat_natCast,hm',Int.toNat_natCast]at a2
    rw[Int.toNat_natCast,hm',Int.toNat_natCast]
    omega
theorem cnt_one (hv:validB T=true) (hd:(d:Int)<T.nodes) {m:Nat} (hmN:(m:Int)<T.nodes) (hmd:m≠d) (h:cntS T D d m=1):∃a:Nat,nextL T D m d=[(a:Int)]∧Nearer T D m d a∧∀k:Nat,headN T a=(k:Int)→cntS T D d k=1:=by
 rw[cnt_eq hv hd hmN hmd]at h
 have hg:∀a:Int,0≤cntS T D d (headN T a.toNat).toNat:=fun a=>(cnt_rangeS hv hd _).1
 have hone:∀a∈nextL T D m d,1≤cntS T D d (headN T a.toNat).toNat:=fun a ha=>by
  obtain⟨b,rfl,hb⟩:=next_mem ha
  obtain⟨m',hm',hmN'⟩:=head_nat hv hb.arc
  have g1:=hb.dN hm'
  rw[Int.toNat_natCast,hm',Int.toNat_natCast]
  exact cnt_pos hv hd (dN T D d m').toNat m' hmN' g1.1 (by omega)
 cases hx:nextL T D m d with
 |nil=>rw[hx]at h;simp at h
 |cons a l=>
  obtain⟨b,rfl,hb⟩:=next_mem (T:=T) (D:=D) (n:=m) (d:=d) (a:=a) (by rw[hx];simp)
  have h1:=hone b (by rw[hx];simp)
  rw[hx,List.foldl_cons]at h
  cases l with
  |nil=>
   refine⟨b,rfl,hb,fun k hk=>?_⟩
   simp only[List.foldl_nil,Int.toNat_natCast,hk]at h h1
   omega
  |cons a2 l=>
   have h2:=hone a2 (by rw[hx];simp)
   rw[List.foldl_cons]at h
   have:=fold2_ge (fun a=>cntS T D d (headN T a.toNat).toNat) hg l (min 2 (min 2 (0+cntS T D d (headN T (b:Int).toNat).toNat)+cntS T D d (headN T a2.toNat).toNat)) (by omega)
   omega
theorem cnt_of_one (hv:validB T=true) (hd:(d:Int)<T.nodes) {m a k:Nat} (hmN:(m:Int)<T.nodes) (hmd:m≠d) (hx:nextL T D m d=[(a:Int)]) (hk:headN T a=(k:Int)) (h:cntS T D d k=1):cntS T D d m=1:=by
 rw[cnt_eq hv hd hmN hmd,hx]
 simp only[List.foldl_cons,List.foldl_nil,Int.toNat_natCast,hk,h]
 omega
theorem SP.unique (hv:validB T=true) (hd:(d:Int)<T.nodes) {n:Nat} {p q:List Int} (h:SP T D d n p) (hq:SP T D d n q) (hc:cntS T D d n=1):p=q:=by
 induction h generalizing q with
 |nil=>exact hq.self.symm
 | @cons n a m p h1 hm hp ih=>
  cases hq with
  |nil=>exact absurd rfl h1.ne
  | @cons _ a' m' q h1' hm' hq=>
   obtain⟨b,hb,_,hb2⟩:=cnt_one hv hd (h1.node hv) h1.ne hc
   have e1:=next_of h1 ((sound_of hv).cost a h1.arc).1
   have e2:=next_of h1' ((sound_of hv).cost a' h1'.arc).1
   rw[hb]at e1 e2
   simp only[List.mem_singleton]at e1 e2
   have ea:a=b:=by omega
   have ea':a'=b:=by omega
   subst ea
   subst ea'
   have em:m=m':=by rw[hm]at hm';omega
   subst em
   rw[ih hq (hb2 m hm)]
noncomputable def uniqB (T:Topo) (D:List Bool) (n d:Int):Bool:=decide (nodeE T D n d=0)&&decide (cntS T D d.toNat n.toNat=1)
theorem SP.len_lt (hv:validB T=true) (hd:(d:Int)<T.nodes) {n:Nat} {p:List Int} (h:SP T D d n p):(p.length:Int)<T.nodes:=by
 have key:∃l:List Nat,l.length=p.length+1∧l.Nodup∧(∀x∈l,(x:Int)<T.nodes∧dN T D d x≤dN T D d n):=by
  induction h with
  |nil=>exact⟨[d],rfl,by simp,fun x hx=>by simp at hx;subst hx;exact⟨hd,Int.le_refl _⟩⟩
  | @cons n a m p h1 hm hp ih=>
   obtain⟨l,e1,e2,e3⟩:=ih
   have g1:=h1.dN hm
   have g2:=(sound_of hv).cost a h1.arc
   refine⟨n::l,by simp[e1],List.nodup_cons.2 ⟨fun hn=>by have:=(e3 n hn).2;omega,e2⟩,fun x hx=>?_⟩
   cases hx with
   |head=>exact⟨h1.node hv,Int.le_refl _⟩
   |tail _ hx=>have:=e3 x hx;exact⟨this.1,by omega⟩
 obtain⟨l,e1,e2,e3⟩:=key
 have hN:=(sound_of hv).nodes
 have:=nodup_le T.nodes.toNat l e2 (fun x hx=>by have:=(e3 x hx).1;omega)
 omega
end
end PW
end Go.Proofs.YtnegbdpggideiaaGreatDoor

namespace Go.Proofs.YtnegbdpggideiaaGreatDoor
set_option linter.unusedVariables false
set_option linter.unusedSimpArgs false
namespace PW
open Go.RowKit Reg Mem Net
def walkE (T:Topo):Bool→Int→List Int→Int
 |_,_,[]=>0
 |f,n,a::l=>if arcB T a=false then 2 else if tailN T a.toNat≠n∨(f=false∧overN T n.toNat=true) then 4 else walkE T false (headN T a.toNat) l
def pathX (T:Topo) (n:Int) (l:List Int):Int:=if validB T then(if nodeB T n then walkE T true n l else 2) else 1
def endL (T:Topo):Int→List Int→Int
 |n,[]=>n
 |_,a::l=>endL T (headN T a.toNat) l
def pathV (T:Topo) (n:Int) (l:List Int):PV:=.tuple [num (if pathX T n l=0 then endL T n l else 0),num (if pathX T n l=0 then costL T l else 0),num (pathX T n l)]
theorem endL_append (T:Topo):∀(n:Int) (l m:List Int),endL T n (l++m)=endL T (endL T n l) m
 |_,[],_=>rfl
 |_,a::l,m=>endL_append T _ l m
theorem drop_cons (l:List Int) (k:Nat) (h:k<l.length):l.drop k=l.getD k 0::l.drop (k+1):=by
 rw[List.drop_eq_getElem_cons h,List.getD_eq_getElem?_getD,List.getElem?_eq_getElem h];rfl
theorem endL_step (T:Topo) (n:Int) (l:List Int) (k:Nat) (h:k<l.length):endL T n (l.take (k+1))=headN T (l.getD k 0).toNat:=by
 rw[take_step l k 0 h,endL_append];rfl
theorem costL_step (T:Topo) (l:List Int) (k:Nat) (h:k<l.length):costL T (l.take (k+1))=costL T (l.take k)+costN T (l.getD k 0).toNat:=by
 rw[take_step l k 0 h,costL_append];simp[costL_cons,costL_nil]
theorem walk_step {T:Topo} {f:Bool} {n a:Int} {l:List Int} (h1:arcB T a=true) (h2:tailN T a.toNat=n) (h3:f=true∨overN T n.toNat=false):walkE T f n (a::l)=walkE T false (headN T a.toNat) l:=by
 simp only[walkE]
 rw[if_neg (by rw[h1];simp),if_neg]
 rintro(h|⟨h,h'⟩)
 ·exact h h2
 ·rcases h3 with h3|h3
  ·rw[h3]at h;cases h
  ·rw[h3]at h';cases h'
theorem walk_bad {T:Topo} {f:Bool} {n a:Int} {l:List Int} (h1:arcB T a=true) (h2:tailN T a.toNat≠n∨(f=false∧overN T n.toNat=true)):walkE T f n (a::l)=4:=by
 simp only[walkE]
 rw[if_neg (by rw[h1];simp),if_pos h2]
theorem headI_can (T:Topo) (hl:T.links.length≤4611686018427387902) (a:Int) (h:arcB T a=true):Can Tryz.prog 150 [topoV T,num a] (· =num (headN T a.toNat)):=by
 obtain⟨h0,h1⟩:=arcB_iff.1 h
 obtain⟨a,rfl⟩:=Int.eq_ofNat_of_zero_le h0
 exact head_can T a (by omega) hl
theorem costI_can (T:Topo) (a:Int) (h:arcB T a=true):Can Tryz.prog 149 [topoV T,num a] (· =num (costN T a.toNat)):=by
 obtain⟨h0,h1⟩:=arcB_iff.1 h
 obtain⟨a,rfl⟩:=Int.eq_ofNat_of_zero_le h0
 exact cost_can T a (by omega)
theorem arc_facts {T:Topo} (hv:validB T=true) {a:Int} (h:arcB T a=true):(1≤costN T a.toNat∧costN T a.toNat≤65535)∧∃m:Nat,headN T a.toNat=(m:Int)∧(m:Int)<T.nodes:=by
 obtain⟨h0,h1⟩:=arcB_iff.1 h
 have hl:a.toNat<2*T.links.length:=by omega
 exact⟨(sound_of hv).cost _ hl,head_nat hv hl⟩
theorem over_ln {T:Topo} (hv:validB T=true) {x:Nat} (hx:(x:Int)<T.nodes):T.over.length=0∨x<T.over.length:=by have:=(valid_bd hv).2.2.2;omega
set_option maxRecDepth 10000 in
set_option maxHeartbeats 1000000 in
theorem path_can (T:Topo) (n:Int) (l:List Int) (hl:l.length≤1000000):Can Tryz.prog 120 [topoV T,num n,intsV l] (· =pathV T n l):=by
 refine can_of Tryz.func120 rfl Tryz.ntmps120 rfl ?_
 refine W_cs (.a 4 rfl<|.k [1,2,3,7] rfl) ?_
 refine W_seq ?_
 refine W_cs (.a 1 rfl<|.c rfl (valid_can T) rfl<|.a 1 rfl<|.k [1,2,3,7,13] rfl) ?_
 refine W_cond rfl (fun hc=>?_) (fun hc=>?_)
 ·have hv:validB T=false:=by simpa using hc
  have hX:pathX T n l=1:=by unfold pathX;rw[hv];rfl
  unfold pathV
  rw[hX]
  refine W_cs (.a 3 rfl<|.k [6,7,8] rfl) ?_
  refine W_ret ?_
  exact⟨_,_,ResL.of rfl,Pur.pure,rfl⟩
 ·have hv:validB T=true:=by simpa using hc
  have hll:=links_le hv
  refine W_skip ?_
  refine W_seq ?_
  refine W_cs (.a 2 rfl<|.c rfl (node_can T n) rfl<|.a 1 rfl<|.k [1,2,3,7,17] rfl) ?_
  refine W_cond rfl (fun hc=>?_) (fun hc=>?_)
  ·have hn:nodeB T n=false:=by simpa using hc
   have hX:pathX T n l=2:=by unfold pathX;rw[hv,hn];rfl
   unfold pathV
   rw[hX]
   refine W_cs (.a 3 rfl<|.k [6,7,8] rfl) ?_
   refine W_ret ?_
   exact⟨_,_,ResL.of rfl,Pur.pure,rfl⟩
  ·have hn:nodeB T n=true:=by simpa using hc
   have hX:pathX T n l=walkE T true n l:=by unfold pathX;rw[hv,hn];rfl
   obtain⟨hn0,hn1⟩:=nodeB_iff.1 hn
   obtain⟨n,rfl⟩:=Int.eq_ofNat_of_zero_le hn0
   refine W_skip ?_
   refine W_cs (.a 2 rfl<|.k [2,3,6,7] rfl) ?_
   refine W_seq ?_
   refine W_cs (.a 3 rfl<|.k [3,6,7,19,20,21] rfl) ?_
   refine W_block ?_
   refine W_k [3,6,7,19,20,21] rfl ?_
   refine W_loop (fun r s=>∃(k x:Nat),k≤l.length∧r=l.length - k∧endL T n (l.take k)=(x:Int)∧(x:Int)<T.nodes∧0≤costL T (l.take k)∧costL T (l.take k)≤65535*(k:Int)∧walkE T true n l=walkE T (decide (k=0)) x (l.drop k)∧s=⟨[(3,.pin (topoP T) 0),(6,num x),(7,num (costL T (l.take k))),(19,intsV l),(20,num l.length),(21,num k)],[]⟩) l.length ⟨0,n,by omega,by omega,rfl,hn1,by simp[costL_nil],by simp[costL_nil],rfl,rfl⟩ ?_
   rintro r s ⟨k,x,hk,rfl,hx,hxN,hc0,hc1,hw,rfl⟩
   refine W_cs (.a 1 rfl<|.k [3,6,7,19,20,21,22] rfl) ?_
   refine W_seq ?_
   refine W_cond rfl (fun hy=>?_) (fun hy=>?_)
   ·have hlt:k<l.length:=by have:=tt hy;omega
    rw[drop_cons l k hlt]at hw
    obtain⟨p1,hp1⟩:∃q,arcB T (l.getD k 0)=q:=⟨_,rfl⟩
    have ha:=arc_can T (by omega) (l.getD k 0)
    rw[hp1]at ha
    refine W_skip ?_
    refine W_seq ?_
    refine W_block ?_
    refine W_cs (.a 1 rfl<|.v (y_ix (k) rfl) rfl<|.v (y_ld rfl (ints_get l k hlt)) rfl<|.a 2 rfl<|.k [3,6,7,9,10,19,20,21] rfl) ?_
    refine W_seq ?_
    refine W_cs (.a 2 rfl<|.c rfl (ha) rfl<|.a 1 rfl<|.k [3,6,7,9,10,19,20,21,29] rfl) ?_
    refine W_cond rfl (fun hz=>?_) (fun hz=>?_)
    ·have h1:p1=false:=by simpa using hz
     subst h1
     have hw2:walkE T true n l=2:=by rw[hw];simp only[walkE];rw[if_pos hp1]
     unfold pathV
     rw[hX,hw2]
     refine W_cs (.a 3 rfl<|.k [6,7,8] rfl) ?_
     refine W_ret ?_
     exact⟨_,_,ResL.of rfl,Pur.pure,rfl⟩
    ·have h1:p1=true:=by simpa using hz
     subst h1
     obtain⟨⟨hco0,hco1⟩,y,hyh,hyN⟩:=arc_facts hv hp1
     have hsN:=endL_step T n l k hlt
     have hsC:=costL_step T l k hlt
     obtain⟨p2,hp2⟩:∃q,decide (tailN T (l.getD k 0).toNat≠(x:Int))=q:=⟨_,rfl⟩
     obtain⟨p3,hp3⟩:∃q,decide (0<(k:Int))=q:=⟨_,rfl⟩
     obtain⟨p4,hp4⟩:∃q,overN T x=q:=⟨_,rfl⟩
     refine W_skip ?_
     refine W_seq ?_
     refine W_csK 43 (.raw (.bool (p2||(p3&&p4)))) [3,7,10,19,20,21] rfl ?_ ?_
     ·refine .a 2 rfl<|.c rfl (tailI_can T _ hp1) rfl<|.a 1 rfl<|.v (y_q rfl (hp2)) rfl<|.a 1 rfl<|?_
      cases p2
      ·refine .a 1 rfl<|.v (y_q rfl (hp3)) rfl<|.a 1 rfl<|?_
       cases p3
       ·exact .a 5 rfl<|.k [43,3,7,10,19,20,21] rfl
       ·exact .a 2 rfl<|.c rfl (hp4▸over_can T x (over_ln hv hxN)) rfl<|.a 2 rfl<|.k [43,3,7,10,19,20,21] rfl
      ·exact .a 8 rfl<|.k [43,3,7,10,19,20,21] rfl
     refine W_cond rfl (fun hb=>?_) (fun hb=>?_)
     ·have hw4:walkE T true n l=4:=by
       rw[hw]
       refine walk_bad hp1 ?_
       rcases Bool.or_eq_true_iff.1 hb with h|h
       ·rw[h]at hp2;exact .inl (tt hp2)
       ·obtain⟨h3,h4⟩:=Bool.and_eq_true_iff.1 h
        rw[h3]at hp3
        rw[h4]at hp4
        exact .inr ⟨decide_eq_false (by have:=tt hp3;omega),by rw[Int.toNat_natCast];exact hp4⟩
      unfold pathV
      rw[hX,hw4]
      refine W_cs (.a 3 rfl<|.k [6,7,8] rfl) ?_
      refine W_ret ?_
      exact⟨_,_,ResL.of rfl,Pur.pure,rfl⟩
     ·obtain⟨b2,b3⟩:=Bool.or_eq_false_iff.1 hb
      rw[b2]at hp2
      have ht:tailN T (l.getD k 0).toNat=(x:Int):=Classical.byContradiction (ff hp2)
      have hws:=walk_step (T:=T) (f:=decide (k=0)) (n:=(x:Int)) (l:=l.drop (k+1)) hp1 ht (by
       rcases Bool.and_eq_false_iff.1 b3 with h|h
       ·rw[h]at hp3;exact .inl (decide_eq_true (by have:=ff hp3;omega))
       ·rw[h]at hp4;exact .inr (by rw[Int.toNat_natCast];exact hp4))
      rw[hws,hyh]at hw
      have hh:=headI_can T (by omega) _ hp1
      rw[hyh]at hh
      refine W_skip ?_
      refine W_cs (.a 2 rfl<|.c rfl (hh) rfl<|.a 1 rfl<|.k [3,6,7,10,19,20,21] rfl) ?_
      refine W_chain (.a 3 rfl<|.c rfl (costI_can T _ hp1) rfl<|.v (y_ar rfl (hc:=hsC.symm) (hn:=by unfold In64;omega)) rfl<|.a 1 rfl<|.k [3,6,7,19,20,21] rfl) ?_
      refine W_chain (.v (y_ar rfl) rfl<|.a 1 rfl<|.k [3,6,7,19,20,21] rfl) ?_
      exact⟨l.length - (k+1),by omega,k+1,y,by omega,rfl,by rw[hsN,hyh],hyN,by omega,by omega,by rw[hw];rfl,rfl⟩
   ·have hke:k=l.length:=by have:=ff hy;omega
    subst hke
    rw[List.drop_length]at hw
    rw[List.take_length]at hx ⊢
    unfold pathV
    rw[hX,hw]
    simp only[walkE,if_true]
    rw[hx]
    refine W_exit ?_
    refine W_cs (.a 5 rfl<|.k [6,7,8] rfl) ?_
    refine W_ret ?_
    exact⟨_,_,ResL.of rfl,Pur.pure,rfl⟩
end PW
end Go.Proofs.YtnegbdpggideiaaGreatDoor

namespace Go.Proofs.YtnegbdpggideiaaGreatDoor
set_option linter.unusedVariables false
set_option linter.unusedSimpArgs false
namespace PW
open Go.RowKit Reg Mem Net
set_option maxRecDepth 10000 in
set_option maxHeartbeats 1000000 in
theorem leaving_can (T:Topo) (hv:validB T=true):Can Tryz.prog 201 [topoV T] (· =rowsV (rowsL (tailN T) T.nodes.toNat (2*T.links.length))):=by
 have hbd:=valid_bd hv
 have hS:=sound_of hv
 obtain⟨n,hn⟩:∃n:Nat,T.nodes=(n:Int):=⟨T.nodes.toNat,by omega⟩
 rw[show T.nodes.toNat=n by omega]
 refine can_of Tryz.func201 rfl Tryz.ntmps201 rfl ?_
 refine W_cs (.a 2 rfl<|.k [1] rfl) ?_
 refine W_rs ?_
 refine WR_a 2 rfl<|WR_l (l_make rfl (fok.rk.get rfl) rfl rfl hn hn ⟨by unfold maxLen;omega,by omega⟩) rfl<|WR_a 1 rfl<|WR_k [1,3] rfl ?_
 refine W_adoptRows 37 3 n ?_
 refine W_seq ?_
 refine W_cs (.a 1 rfl<|.c rfl (arcs_can T (by omega)) rfl<|.a 1 rfl<|.k [1,3,10,11] rfl) ?_
 refine W_block ?_
 refine W_k [1,3,10,11] rfl ?_
 refine W_loop (fun r s=>∃k,k≤2*T.links.length∧r=2*T.links.length - k∧s=⟨[(1,.pin (topoP T) 0),(3,.own 0),(10,num (2*(T.links.length:Int))),(11,num k)],rsto 37 3 (rowsL (tailN T) n k)⟩) (2*T.links.length) ⟨0,by omega,by omega,by rw[rowsL_zero];rfl⟩ ?_
 rintro r s ⟨k,hk,rfl,rfl⟩
 refine W_cs (.a 1 rfl<|.k [1,3,10,11,12] rfl) ?_
 refine W_seq ?_
 refine W_cond rfl (fun hc=>?_) (fun hc=>?_)
 ·have hlt:k<2*T.links.length:=by have:=of_decide_eq_true hc;omega
  obtain⟨hd0,hhN⟩:=hS.tail k hlt
  obtain⟨m,hm⟩:=Int.eq_ofNat_of_zero_le hd0
  have hmn:m<n:=by omega
  have hrl:=rowsL_len (tailN T) n k
  have hgl:((rowsL (tailN T) n k).getD m []).length≤k:=by
   rw[rowsL_get _ _ _ _ hmn]
   simp only[List.length_map]
   exact Nat.le_trans (List.length_filter_le _ _) (by simp)
  refine W_skip ?_
  refine W_seq ?_
  refine W_block ?_
  refine W_cs (.a 2 rfl<|.k [1,3,4,10,11] rfl) ?_
  refine W_cs (.a 2 rfl<|.c rfl (hm▸tail_can T k hlt) rfl<|.a 1 rfl<|.k [1,3,4,5,10,11] rfl) ?_
  refine W_region ?_
  refine WR_a 4 rfl<|WR_v (y_ix (m) rfl) rfl<|WR_v (y_ld rfl (owns_get _ m (by omega))) rfl<|WR_a 2 rfl<|WR_l (l_append rfl (fok.rk.get rfl) rfl (rsto_get _ _ _ m (by omega)) rfl rfl ⟨by unfold maxLen;omega,by omega⟩) rfl<|WR_v (y_ix (m) rfl) rfl<|WR_loud0 (l_store1 rfl (fok.tk.get rfl) rfl rfl rfl (by show m<(ownsP _).length;simp[ownsP];omega)) rfl rfl<|WR_k [1,3,10,11] rfl ?_
  refine W_ren (rfs (rowsL (tailN T) n k).length m) (.cons 1 rfl Ren.pure<|.cons 3 rfl (Ren.own (i:=0) rfl)<|.cons 10 rfl Ren.pure<|.cons 11 rfl Ren.pure<|.nil) (rsto_ren 37 3 (rowsL (tailN T) n k) m (by omega) (k:Int)) (rfs_nodup _ _) rfl ?_
  rw[←rowsL_step (tailN T) n k m hm hmn]
  refine W_chain (.v (y_ar rfl) rfl<|.a 1 rfl<|.k [1,3,10,11] rfl) ?_
  exact⟨2*T.links.length - (k+1),by omega,k+1,by omega,rfl,rfl⟩
 ·have hke:k=2*T.links.length:=by have:=of_decide_eq_false hc;omega
  subst hke
  refine W_exit ?_
  refine W_cs (.a 2 rfl<|.k [2] rfl) ?_
  refine W_ret ?_
  exact⟨_,_,ResL.of rfl,rsto_pur _ _ _,rfl⟩
end PW
end Go.Proofs.YtnegbdpggideiaaGreatDoor

namespace Go.Proofs.YtnegbdpggideiaaGreatDoor
set_option linter.unusedVariables false
set_option linter.unusedSimpArgs false
namespace PW
open Go.RowKit Reg Mem Net
theorem rows_out (T:Topo) (m:Nat) (hm:m<T.nodes.toNat):(rowsL (tailN T) T.nodes.toNat (2*T.links.length)).getD m []=outL T m:=by
 rw[rowsL_get _ _ _ _ hm]
 unfold outL outTo
 exact congrArg (List.map Int.ofNat) (List.filter_congr fun a _=>Bool.eq_iff_iff.2 (by simp))
theorem rows_getP (rs:List (List Int)) (i:Nat) (h:i<rs.length):(rs.map intsV)[i]? =some (intsV (rs.getD i [])):=by simp[h]
theorem chk_two (T:Topo) (D:List Bool) (s d:Int):chkE T D [s,d]=nodeE T D s d:=by
 unfold nodeE chkE
 by_cases h:(validB T&&fitsB T D)=true
 ·rw[if_pos h]
  by_cases hs:nodeB T s=true<;>by_cases hd:nodeB T d=true<;>simp[h,hs,hd]
 ·rw[if_neg h]
  have:(validB T&&fitsB T D)=false:=by simpa using h
  simp[this]
noncomputable def spE (T:Topo) (D:List Bool) (s d:Int):Int:=if nodeE T D s d=0 then(if dN T D d.toNat s.toNat<0 then 11 else 0) else nodeE T D s d
theorem next_first {T:Topo} {D:List Bool} {m d j:Nat} (hne:m≠d) (h0:0≤dN T D d m) (hj:j<(outL T m).length) (hno:∀i,i<j→passB T D (distL T D d false) (dN T D d m) d ((outL T m).getD i 0).toNat=false) (hy:passB T D (distL T D d false) (dN T D d m) d ((outL T m).getD j 0).toNat=true):∃l,nextL T D m d=(outL T m).getD j 0::l:=by
 unfold nextL
 rw[if_neg (by rintro(h|h);exact hne h;exact absurd h (by show ¬dN T D d m<0;omega))]
 have h1:((outL T m).take j).filter (fun a=>passB T D (distL T D d false) (dN T D d m) d a.toNat)=[]:=by
  rw[List.filter_eq_nil_iff]
  intro a ha
  obtain⟨i,hi,rfl⟩:=List.getElem_of_mem ha
  have hij:i<j:=by rw[List.length_take]at hi;omega
  have:=hno i hij
  rw[List.getD_eq_getElem?_getD,List.getElem?_eq_getElem (by omega),Option.getD_some]at this
  rw[List.getElem_take,this]
  simp
 have hs:outL T m=(outL T m).take j++(outL T m).getD j 0::(outL T m).drop (j+1):=by rw[←drop_cons _ _ hj,List.take_append_drop]
 have h2:(outL T m).filter (fun a:Int=>passB T D (distL T D d false) (dN T D d m) d a.toNat)=(outL T m).getD j 0::((outL T m).drop (j+1)).filter (fun a:Int=>passB T D (distL T D d false) (dN T D d m) d a.toNat):=by
  refine(congrArg (List.filter fun a:Int=>passB T D (distL T D d false) (dN T D d m) d a.toNat) hs).trans ?_
  rw[List.filter_append,h1,List.nil_append,List.filter_cons,if_pos hy]
 exact⟨_,h2⟩
theorem first_step {T:Topo} {D:List Bool} {m d f:Nat} {a:Int} {l:List Int} (h:nextL T D m d=a::l):firstP T D d (f+1) m=a::firstP T D d f (headN T a.toNat).toNat:=by simp only[firstP,h]
theorem next_has {T:Topo} {D:List Bool} (hv:validB T=true) {m d:Nat} (hm:(m:Int)<T.nodes) (hd:(d:Int)<T.nodes) (hne:m≠d) (h0:0≤dN T D d m) (hno:∀i,i<(outL T m).length→passB T D (distL T D d false) (dN T D d m) d ((outL T m).getD i 0).toNat=false):False:=by
 obtain⟨k,hk⟩:=next_ex (D:=D) hv hm hd hne h0
 have:=next_of hk ((sound_of hv).cost k hk.arc).1
 unfold nextL at this
 rw[if_neg (by rintro(h|h);exact hne h;exact absurd h (by show ¬dN T D d m<0;omega))]at this
 obtain⟨h1,h2⟩:=List.mem_filter.1 this
 obtain⟨i,hi,he⟩:=List.getElem_of_mem h1
 have h3:=hno i hi
 rw[List.getD_eq_getElem?_getD,List.getElem?_eq_getElem hi,Option.getD_some,he]at h3
 have h2':passB T D (distL T D d false) (dN T D d m) d (k:Int).toNat=true:=h2
 rw[h3]at h2'
 cases h2'
set_option maxRecDepth 10000 in
set_option maxHeartbeats 2000000 in
theorem spath_can (T:Topo) (D:List Bool) (s d:Int):Can Tryz.prog 206 [topoV T,boolsV D,num s,num d] (· =intsE (spE T D s d) (spathL T D s.toNat d.toNat)):=by
 have hch:=check_can T D [s,d] (by simp)
 rw[chk_two]at hch
 refine can_of Tryz.func206 rfl Tryz.ntmps206 rfl ?_
 refine W_cs (.a 3 rfl<|.k [1,2,3,4] rfl) ?_
 refine W_seq ?_
 refine W_cs (.a 5 rfl<|.c rfl (hch) rfl<|.a 1 rfl<|.k [1,2,3,4,10] rfl) ?_
 refine W_cs (.a 2 rfl<|.k [1,2,3,4,10,26] rfl) ?_
 refine W_cond rfl (fun hc=>?_) (fun hc=>?_)
 ·have he:nodeE T D s d≠0:=tt hc
  refine W_cs (.a 3 rfl<|.k [8,9] rfl) ?_
  refine W_ret ?_
  exact⟨_,_,ResL.of rfl,Pur.tupleL (PurL.cons Pur.nils (PurL.cons Pur.pure PurL.nil)),by unfold intsE spE;rw[if_neg he,if_neg he];rfl⟩
 ·have he:nodeE T D s d=0:=Classical.byContradiction (ff hc)
  obtain⟨hv,hf,hns,hnd⟩:=nodeE_zero he
  obtain⟨hs0,hs1⟩:=nodeB_iff.1 hns
  obtain⟨hd0,hd1⟩:=nodeB_iff.1 hnd
  obtain⟨s,rfl⟩:=Int.eq_ofNat_of_zero_le hs0
  obtain⟨d,rfl⟩:=Int.eq_ofNat_of_zero_le hd0
  have hdi:Can Tryz.prog 151 [topoV T,boolsV D,num d] (· = .tuple [intsV (distL T D d false),num 0]):=by
   have h:=dist_can T D (d:Int)
   rw[show chkE T D [(d:Int)]=0 by unfold nodeE at he;split at he;assumption;assumption]at h
   exact h
  have hS:=sound_of hv
  have hN:=hS.nodes
  have hll:=links_le hv
  obtain⟨hb1,hb2⟩:=distL_bound (D:=D) hv (dir:=false) hd1
  refine W_skip ?_
  refine W_cs (.a 3 rfl<|.c rfl (hdi) rfl<|.a 5 rfl<|.k [1,2,3,4,11] rfl) ?_
  refine W_seq ?_
  refine W_cs (.a 2 rfl<|.v (y_ix (s) rfl) rfl<|.v (y_ld rfl (ints_get _ s (by omega))) rfl<|.a 1 rfl<|.k [1,2,3,4,11,39] rfl) ?_
  refine W_cond rfl (fun hc=>?_) (fun hc=>?_)
  ·have h0:dN T D d s<0:=tt hc
   refine W_cs (.a 2 rfl<|.k [8,9] rfl) ?_
   refine W_ret ?_
   exact⟨_,_,ResL.of rfl,Pur.tupleL (PurL.cons Pur.nils (PurL.cons Pur.pure PurL.nil)),by unfold intsE spE;simp only[Int.toNat_natCast];rw[if_pos he,if_pos h0];rfl⟩
  ·have h0:0≤dN T D d s:=by have:=ff hc;show 0≤(distL T D d false).getD s 0;omega
   have hE:spE T D (s:Int) (d:Int)=0:=by unfold spE;simp only[Int.toNat_natCast];rw[if_pos he,if_neg (by omega)]
   rw[hE]
   refine W_skip ?_
   refine W_cs (.a 1 rfl<|.c rfl (leaving_can T hv) rfl<|.a 1 rfl<|.k [1,2,3,4,11,13] rfl) ?_
   refine W_cs (.a 1 rfl<|.k [1,2,3,4,11,13,14] rfl) ?_
   refine W_adopt 14 3 1 rfl ?_
   refine W_seq ?_
   refine W_cs (.a 2 rfl<|.k [1,3,4,11,13,14,15] rfl) ?_
   refine W_block ?_
   refine W_k [1,3,4,11,13,14,15] rfl ?_
   refine W_loop (fun r st=>∃(p:List Int) (m f:Nat),(m:Int)<T.nodes∧0≤dN T D d m∧dN T D d m≤f∧r=(dN T D d m).toNat∧(p.length:Int)+dN T D d m≤dN T D d s∧spathL T D s d=p++firstP T D d f m∧st=⟨[(1,boolsV D),(3,num d),(4,.pin (topoP T) 0),(11,intsV (distL T D d false)),(13,rowsV (rowsL (tailN T) T.nodes.toNat (2*T.links.length))),(14,.own 0),(15,num m)],[some (.row 3 1 p.length (intsP p))]⟩) (dN T D d s).toNat ⟨[],s,(dN T D d s).toNat,hs1,h0,by omega,rfl,by simp,rfl,rfl⟩ ?_
   rintro r st ⟨p,m,f,hm,hm0,hmf,rfl,hpl,hp,rfl⟩
   refine W_seq ?_
   refine W_cs (.a 3 rfl<|.k [1,3,4,11,13,14,15,45] rfl) ?_
   refine W_cond rfl (fun hy=>?_) (fun hy=>?_)
   ·have hne:m≠d:=by have:=tt hy;omega
    have hml:m<(distL T D d false).length:=by omega
    have hrow:=rows_out T m (by omega)
    have hbnd:=(dN_ge (D:=D) hv hd1 hs1).2
    have hol:(outL T m).length≤512:=Nat.le_trans (outTo_len T m _) (by omega)
    refine W_skip ?_
    refine W_block ?_
    refine W_cs (.a 2 rfl<|.v (y_ix (m) rfl (by omega) (by rw[rowsL_len];omega)) rfl<|.v (y_ld rfl ((rows_getP _ m (by rw[rowsL_len];omega)).trans (by rw[hrow]))) rfl<|.a 2 rfl<|.k [1,3,4,11,13,14,15,49,50,51] rfl) ?_
    refine W_block ?_
    refine W_k [1,3,4,11,13,14,15,49,50,51] rfl ?_
    refine W_loop (fun r st=>∃j:Nat,j≤(outL T m).length∧r=(outL T m).length - j∧(∀i,i<j→passB T D (distL T D d false) (dN T D d m) d ((outL T m).getD i 0).toNat=false)∧st=⟨[(1,boolsV D),(3,num d),(4,.pin (topoP T) 0),(11,intsV (distL T D d false)),(13,rowsV (rowsL (tailN T) T.nodes.toNat (2*T.links.length))),(14,.own 0),(15,num m),(49,intsV (outL T m)),(50,num (outL T m).length),(51,num j)],[some (.row 3 1 p.length (intsP p))]⟩) (outL T m).length ⟨0,by omega,by omega,fun i hi=>by omega,rfl⟩ ?_
    rintro r st ⟨j,hj,rfl,hno,rfl⟩
    refine W_cs (.a 1 rfl<|.k [1,3,4,11,13,14,15,49,50,51,52] rfl) ?_
    refine W_seq ?_
    refine W_cond rfl (fun hz=>?_) (fun hz=>?_)
    ·have hlt:j<(outL T m).length:=by have:=tt hz;omega
     obtain⟨ha0,ha1⟩:=outL_mem (getD_mem (d:=0) hlt)
     obtain⟨a,ha⟩:=Int.eq_ofNat_of_zero_le ha0
     have ham:a<2*T.links.length:=by omega
     obtain⟨y,hyh,hyN⟩:=head_nat hv ham
     have hyl:y<(distL T D d false).length:=by omega
     have hh:=head_can T a ham (by omega)
     rw[hyh]at hh
     have hD:D.length=0∨a<D.length:=by simp only[fitsB,decide_eq_true_eq]at hf;omega
     obtain⟨p1,hp1⟩:∃q,downN D a=q:=⟨_,rfl⟩
     obtain⟨p2,hp2⟩:∃q,decide ((distL T D d false).getD y 0<0)=q:=⟨_,rfl⟩
     obtain⟨p3,hp3⟩:∃q,decide ((y:Int)≠(d:Int))=q:=⟨_,rfl⟩
     obtain⟨p4,hp4⟩:∃q,overN T y=q:=⟨_,rfl⟩
     have hpass:∀b,passB T D (distL T D d false) (dN T D d m) d ((outL T m).getD j 0).toNat=b↔(!((p1||p2)||(p3&&p4))&&decide ((distL T D d false).getD y 0+costN T a=dN T D d m))=b:=fun b=>by
      unfold passB
      rw[ha,Int.toNat_natCast,hyh,Int.toNat_natCast,hp1,hp2,hp3,hp4]
     refine W_skip ?_
     refine W_seq ?_
     refine W_block ?_
     refine W_cs (.v (y_ix (j) rfl) rfl<|.v (y_ld rfl ((ints_get _ j hlt).trans (by rw[ha]))) rfl<|.a 1 rfl<|.k [1,3,4,11,13,14,15,17,49,50,51] rfl) ?_
     refine W_cs (.a 2 rfl<|.c rfl (hh) rfl<|.a 1 rfl<|.k [1,3,4,11,13,14,15,17,18,49,50,51] rfl) ?_
     refine W_seq ?_
     refine W_csK 77 (.raw (.bool ((p1||p2)||(p3&&p4)))) [1,3,4,11,13,14,15,17,18,49,50,51] rfl ?_ ?_
     ·refine .a 2 rfl<|.c rfl (hp1▸down_can D a hD) rfl<|.a 1 rfl<|?_
      cases p1
      ·refine .a 2 rfl<|.v (y_ix (y) rfl) rfl<|.v (y_ld rfl (ints_get _ y hyl)) rfl<|.v (y_q rfl (hp2)) rfl<|.a 2 rfl<|?_
       cases p2
       ·refine .a 2 rfl<|.v (y_q rfl (hp3)) rfl<|.a 1 rfl<|?_
        cases p3
        ·exact .a 5 rfl<|.k [77,1,3,4,11,13,14,15,17,18,49,50,51] rfl
        ·exact .a 2 rfl<|.c rfl (hp4▸over_can T y (over_ln hv hyN)) rfl<|.a 2 rfl<|.k [77,1,3,4,11,13,14,15,17,18,49,50,51] rfl
       ·exact .a 9 rfl<|.k [77,1,3,4,11,13,14,15,17,18,49,50,51] rfl
      ·exact .a 16 rfl<|.k [77,1,3,4,11,13,14,15,17,18,49,50,51] rfl
     refine W_cond rfl (fun hk=>?_) (fun hk=>?_)
     ·have hnp:=(hpass false).2 (by rw[hk];rfl)
      refine W_exit ?_
      refine W_chain (.v (y_ar rfl) rfl<|.a 1 rfl<|.k [1,3,4,11,13,14,15,49,50,51] rfl) ?_
      refine⟨(outL T m).length - (j+1),by omega,j+1,by omega,rfl,fun i hi=>?_,rfl⟩
      by_cases h:i=j
      ·rw[h];exact hnp
      ·exact hno i (by omega)
     ·skip
      refine W_skip ?_
      have hy4:=hb2 _ (getD_mem (d:=0) hyl)
      have hc4:=hS.cost a ham
      refine W_drs mixed (by kernel_rfl) (.a 2 rfl<|.v [78,79] (y_ix (y) rfl) rfl rfl<|.v [80] (y_ld rfl (ints_get _ y hyl)) rfl rfl<|.a 2 rfl<|.v [82,83] (y_c rfl (cost_can T a ham)) rfl rfl<|.v [81,84] (y_ar rfl (hn:=by unfold In64;omega)) rfl rfl<|.a 2 rfl<|.v [86,87] (y_ix (m) rfl) rfl rfl<|.v [88] (y_ld rfl (ints_get _ m hml)) rfl rfl<|.a 1 rfl<|.k [1,3,4,11,13,14,15,17,18,49,50,51,90] rfl) ?_
      refine W_cond rfl (fun hq=>?_) (fun hq=>?_)
      ·have hyes:=(hpass true).2 (by rw[hk];exact decide_eq_true (tt hq))
       obtain⟨l,hl⟩:=next_first hne hm0 hlt hno hyes
       obtain⟨b,hb,hbn⟩:=next_mem (T:=T) (D:=D) (n:=m) (d:=d) (a:=(outL T m).getD j 0) (by rw[hl];simp)
       have hba:b=a:=by omega
       subst hba
       have hdy:=hbn.dN hyh
       refine W_rs ?_
       refine WR_a 3 rfl<|WR_l (l_append rfl (fok.rk.get rfl) rfl rfl rfl rfl (by unfold maxLen;omega)) rfl<|WR_a 1 rfl ?_
       refine WR_ren [1] (.c 1<|.c 3<|.c 4<|.c 11<|.c 13<|.c 14<|.c 18<|.nil) (.kept rfl (.rowP rfl (intsP_snoc _ _))<|.nil) rfl rfl (WR_nil ?_)
       refine W_cs (.a 2 rfl<|.k [1,3,4,11,13,14,15] rfl) ?_
       refine W_exit ?_
       cases f with
       |zero=>omega
       |succ f=>
        refine⟨(dN T D d y).toNat,by omega,p++[(b:Int)],y,f,hyN,hdy.1,by omega,rfl,by simp;omega,?_,by simp⟩
        rw[hp,first_step hl,ha,Int.toNat_natCast,hyh,Int.toNat_natCast,List.append_assoc]
        rfl
      ·have hnp:=(hpass false).2 (by rw[hk,Bool.and_eq_false_iff];exact .inr (decide_eq_false (ff hq)))
       refine W_skip ?_
       refine W_chain (.v (y_ar rfl) rfl<|.a 1 rfl<|.k [1,3,4,11,13,14,15,49,50,51] rfl) ?_
       refine⟨(outL T m).length - (j+1),by omega,j+1,by omega,rfl,fun i hi=>?_,rfl⟩
       by_cases h:i=j
       ·rw[h];exact hnp
       ·exact hno i (by omega)
    ·exact absurd (next_has hv hm hd1 hne hm0 (fun i hi=>hno i (by have:=ff hz;omega))) (fun h=>h)
   ·have hmd:m=d:=by have:=ff hy;omega
    subst hmd
    have hfin:firstP T D m f m=[]:=by cases f with|zero=>rfl|succ f=>simp only[firstP,next_self]
    rw[hfin,List.append_nil]at hp
    refine W_exit ?_
    refine W_cs (.a 3 rfl<|.k [8,9] rfl) ?_
    refine W_ret ?_
    exact⟨_,_,ResL.of rfl,Pur.tupleL (PurL.cons (Pur.ownL rfl PurL.pure) (PurL.cons Pur.pure PurL.nil)),by unfold intsE;rw[if_pos rfl];simp only[Int.toNat_natCast];rw[hp];rfl⟩
theorem next_sorted (T:Topo) (D:List Bool) (m d:Nat):(nextL T D m d).Pairwise (· < ·):=by
 unfold nextL
 split
 ·exact List.Pairwise.nil
 ·exact(outL_sorted T m).filter _
end PW
end Go.Proofs.YtnegbdpggideiaaGreatDoor

namespace Go.Proofs.YtnegbdpggideiaaGreatDoor
set_option linter.unusedVariables false
set_option linter.unusedSimpArgs false
namespace PW
open Go.RowKit Reg Mem Net
section
variable {P:Program} {σ:Sto} {t:Tms} {o:Oper}
theorem y_conv {src dst:TypeId} {x:Operand} {k k':IntKind} {a c:Int} {ty:TypeDesc} (ho:o.op= .convert src dst x) (hs:P.underlying src=some ty) (hd:P.underlying dst=some (.int k')) (hx:evalO t x=some (.raw (.int k a))) (hc:k'.wrap a=c):Yield P σ t o (.raw (.int k' c)):=by
 intro F base E ρ w hρ _ hT
 have h1:=evalO_rep hρ hT hx
 generalize hz:ρ x=z at h1
 cases h1
 have h2:(convert src dst (.int k a)).run P w= .ok (.int k' c) w:=by
  simp[convert,Sem.run_bind,run_underlying hs,run_underlying hd,Conv.intToInt,hc]
 simp only[execOp,ho,hz,Sem.run_bind,h2]
 exact upon_val (.raw _)
theorem y_strIx {ty:TypeId} {x ix:Operand} {s:ByteArray} {k:IntKind} {i:Nat} {c:UInt8} (ho:o.op= .index ty x ix) (hu:P.underlying ty=some .string) (hx:evalO t x=some (.raw (.string s))) (hix:evalO t ix=some (.raw (.int k i))) (h3:s[i]? =some c):Yield P σ t o (.raw (.int .u8 c.toNat)):=by
 intro F base E ρ w hρ _ hT
 have h1:=evalO_rep hρ hT hx
 have h1':=evalO_rep hρ hT hix
 generalize hz:ρ x=z at h1
 generalize hz':ρ ix=z' at h1'
 cases h1
 cases h1'
 have h2:(Instr.index ty (.string s) (.int k i)).run P w= .ok (.int .u8 c.toNat) w:=by
  have h4:(asIntOf (.int k (i:Int))).run P w= .ok (k,(i:Int)) w:=rfl
  simp[Instr.index,Sem.run_bind,run_underlying hu,h3,h4]
 simp only[execOp,ho,hz,hz',Sem.run_bind,h2]
 exact upon_val (.raw _)
theorem W_condC {N L:Nat} {x y:Code} {st:St} {Q:Exit→St→Prop} {b:Bool} (h:W P N L (if b then x else y) st Q):W P N L (.cond (.const (.bool b)) x y) st Q:=fun F base E₀ w₀ E a w hcm hs=>
 wp_cond_split (show a.eval (.const (.bool b))= .bool b from rfl) (fun hb=>by subst hb;exact h F base E₀ w₀ E a w hcm hs) (fun hb=>by subst hb;exact h F base E₀ w₀ E a w hcm hs)
end
theorem u8_in (c:UInt8):In64 (c.toNat:Int):=by have:=c.toNat_lt;unfold In64;omega
theorem u8_in0 (c:UInt8):In64 (0+(c.toNat:Int)):=by have:=c.toNat_lt;unfold In64;omega
theorem u8_wrap (n:Nat) (h:n≤255):IntKind.u8.wrap (n:Int)=(n:Int):=by rw[IntKind.wrap_u8];omega
def cmpI (a b:Int):Int:=if a<b then -1 else if b<a then 1 else 0
set_option maxRecDepth 10000 in
set_option maxHeartbeats 1000000 in
theorem isnan_can (a:Int):Can Tryz.prog 226 [num a] (· =flag false):=by
 refine can_of Tryz.func226 rfl Tryz.ntmps226 rfl ?_
 refine W_cs (.a 1 rfl<|.k [0] rfl) ?_
 refine W_cs (.a 4 rfl<|.k [2] rfl) ?_
 refine W_ret ?_
 exact⟨_,_,ResL.of rfl,Pur.pure,by simp;rfl⟩
set_option maxRecDepth 10000 in
set_option maxHeartbeats 1000000 in
theorem cmp_can (a b:Int):Can Tryz.prog 218 [num a,num b] (· =num (cmpI a b)):=by
 refine can_of Tryz.func218 rfl Tryz.ntmps218 rfl ?_
 refine W_cs (.a 1 rfl<|.k [0,1] rfl) ?_
 refine W_cs (.a 1 rfl<|.c rfl (isnan_can a) rfl<|.a 1 rfl<|.k [0,1,5] rfl) ?_
 refine W_cs (.a 1 rfl<|.c rfl (isnan_can b) rfl<|.a 1 rfl<|.k [0,1,5,6] rfl) ?_
 refine W_seq ?_
 refine W_cs (.a 1 rfl<|.k [0,1,6,11] rfl) ?_
 refine W_cond rfl (fun hc=>?_) (fun hc=>?_)
 ·cases hc
 ·refine W_skip ?_
  refine W_seq ?_
  refine W_cs (.a 1 rfl<|.k [0,1,13] rfl) ?_
  refine W_cond rfl (fun hc=>?_) (fun hc=>?_)
  ·cases hc
  ·refine W_skip ?_
   refine W_seq ?_
   refine W_cs (.a 3 rfl<|.k [0,1,16] rfl) ?_
   refine W_cond rfl (fun hc=>?_) (fun hc=>?_)
   ·have h1:a<b:=tt hc
    refine W_cs (.a 1 rfl<|.k [4] rfl) ?_
    refine W_ret ?_
    exact⟨_,_,ResL.of rfl,Pur.pure,by unfold cmpI;rw[if_pos h1];rfl⟩
   ·have h1:¬a<b:=ff hc
    refine W_skip ?_
    refine W_seq ?_
    refine W_cs (.a 3 rfl<|.k [19] rfl) ?_
    refine W_cond rfl (fun hy=>?_) (fun hy=>?_)
    ·have h2:b<a:=tt hy
     refine W_cs (.a 1 rfl<|.k [4] rfl) ?_
     refine W_ret ?_
     exact⟨_,_,ResL.of rfl,Pur.pure,by unfold cmpI;rw[if_neg h1,if_pos h2];rfl⟩
    ·have h2:¬b<a:=ff hy
     refine W_skip ?_
     refine W_cs (.a 1 rfl<|.k [4] rfl) ?_
     refine W_ret ?_
     exact⟨_,_,ResL.of rfl,Pur.pure,by unfold cmpI;rw[if_neg h1,if_neg h2];rfl⟩
set_option maxRecDepth 10000 in
set_option maxHeartbeats 1000000 in
theorem or_can (a b:Int):Can Tryz.prog 217 [.slice 2 [num a,num b]] (· =num (if a=0 then b else a)):=by
 refine can_of Tryz.func217 rfl Tryz.ntmps217 rfl ?_
 refine W_cs (.a 1 rfl<|.k [0] rfl) ?_
 refine W_cs (.a 1 rfl<|.k [0,3] rfl) ?_
 refine W_seq ?_
 refine W_cs (.a 3 rfl<|.k [3,6,7,8] rfl) ?_
 refine W_block ?_
 refine W_k [3,6,7,8] rfl ?_
 refine W_loop (fun r st=>∃j:Nat,j≤2∧r=2 - j∧(0<j→a=0)∧(1<j→b=0)∧st=⟨[(3,num 0),(6,.slice 2 [num a,num b]),(7,num 2),(8,num j)],[]⟩) 2 ⟨0,by omega,by omega,by omega,by omega,rfl⟩ ?_
 rintro r st ⟨j,hj,rfl,ha,hb,rfl⟩
 refine W_cs (.a 1 rfl<|.k [3,6,7,8,9] rfl) ?_
 refine W_seq ?_
 refine W_cond rfl (fun hc=>?_) (fun hc=>?_)
 ·have hlt:j<2:=by have:=tt hc;omega
  obtain⟨v,hv,hv2⟩:∃v,[num a,num b][j]? =some (num v)∧v=(if j=0 then a else b):=by
   match j,hlt with
   |0,_=>exact⟨a,rfl,rfl⟩
   |1,_=>exact⟨b,rfl,rfl⟩
  refine W_skip ?_
  refine W_seq ?_
  refine W_block ?_
  refine W_cs (.v (y_ix (j) rfl) rfl<|.v (y_ld rfl (hv)) rfl<|.a 1 rfl<|.k [3,5,6,7,8] rfl) ?_
  refine W_cs (.a 3 rfl<|.k [3,5,6,7,8,14] rfl) ?_
  refine W_cond rfl (fun hy=>?_) (fun hy=>?_)
  ·have h1:v≠0:=tt hy
   refine W_cs (.a 2 rfl<|.k [2] rfl) ?_
   refine W_ret ?_
   refine⟨_,_,ResL.of rfl,Pur.pure,congrArg num ?_⟩
   by_cases h0:j=0
   ·rw[if_pos h0]at hv2;rw[if_neg (by omega)];exact hv2
   ·rw[if_neg h0]at hv2;rw[if_pos (ha (by omega))];exact hv2
  ·have h1:v=0:=Classical.byContradiction (ff hy)
   refine W_skip ?_
   refine W_chain (.v (y_ar rfl) rfl<|.a 1 rfl<|.k [3,6,7,8] rfl) ?_
   refine⟨2 - (j+1),by omega,j+1,by omega,rfl,fun _=>?_,fun h=>?_,rfl⟩
   ·by_cases h0:j=0
    ·rw[if_pos h0]at hv2;omega
    ·exact ha (by omega)
   ·rw[if_neg (by omega)]at hv2;omega
 ·have hj2:j=2:=by have:=ff hc;omega
  refine W_exit ?_
  refine W_cs (.a 2 rfl<|.k [2] rfl) ?_
  refine W_ret ?_
  refine⟨_,_,ResL.of rfl,Pur.pure,congrArg num ?_⟩
  rw[if_pos (ha (by omega))];exact(hb (by omega)).symm
def cmpD (L:List Int) (a b:Nat):Int:=if cmpI (L.getD b 0) (L.getD a 0)=0 then cmpI a b else cmpI (L.getD b 0) (L.getD a 0)
set_option maxRecDepth 10000 in
set_option maxHeartbeats 1000000 in
theorem cmpD_can (L:List Int) (a b:Nat) (ha:a<L.length) (hb:b<L.length):Can Tryz.prog 216 [num a,num b,.pin [intsV L] 0] (· =num (cmpD L a b)):=by
 refine can_of Tryz.func216 rfl Tryz.ntmps216 rfl ?_
 refine W_cs (.a 1 rfl<|.k [0,1,2] rfl) ?_
 refine W_drs mixed (by kernel_rfl) (.a 2 rfl<|.v [6,7] (y_ix (b) rfl) rfl rfl<|.v [8] (y_ld rfl (ints_get L b hb)) rfl rfl<|.a 2 rfl<|.v [10,11] (y_ix (a) rfl) rfl rfl<|.v [12] (y_ld rfl (ints_get L a ha)) rfl rfl<|.v [9,13] (y_c rfl (cmp_can _ _)) rfl rfl<|.a 2 rfl<|.v [15,16] (y_c rfl (cmp_can _ _)) rfl rfl<|.a 1 rfl<|.v [18] (y_c rfl (or_can _ _)) rfl rfl<|.a 1 rfl<|.k [5] rfl) ?_
 refine W_ret ?_
 exact⟨_,_,ResL.of rfl,Pur.pure,rfl⟩
def lenT (n:Nat):UInt8:=if n=0 then 0 else if n=1 then 1 else if n<4 then 2 else if n<8 then 3 else 4
set_option maxRecDepth 10000 in
set_option maxHeartbeats 1000000 in
theorem len64_can (n:Nat) (hn:n≤12):Can Tryz.prog 241 [.raw (.int .u64 n)] (· =num (lenT n).toNat):=by
 refine can_of Tryz.func241 rfl Tryz.ntmps241 rfl ?_
 refine W_cs (.a 1 rfl<|.k [0,2] rfl) ?_
 refine W_seq ?_
 refine W_cs (.a 1 rfl<|.v (y_geq rfl rfl rfl rfl) rfl<|.k [0,2,4] rfl) ?_
 refine W_cond rfl (fun hc=>?_) (fun hc=>?_)
 ·exact absurd (tt hc) (by omega)
 ·refine W_skip ?_
  refine W_seq ?_
  refine W_cs (.a 1 rfl<|.v (y_geq rfl rfl rfl rfl) rfl<|.k [0,2,8] rfl) ?_
  refine W_cond rfl (fun hc=>?_) (fun hc=>?_)
  ·exact absurd (tt hc) (by omega)
  ·refine W_skip ?_
   refine W_seq ?_
   refine W_cs (.a 1 rfl<|.v (y_geq rfl rfl rfl rfl) rfl<|.k [0,2,14] rfl) ?_
   refine W_cond rfl (fun hc=>?_) (fun hc=>?_)
   ·exact absurd (tt hc) (by omega)
   ·refine W_skip ?_
    refine W_cs (.a 2 rfl<|.v (y_conv rfl Tryz.underlying249 Tryz.underlying5 rfl (u8_wrap n (by omega))) rfl<|.v (y_strIx (c:=lenT n) rfl Tryz.underlying9 rfl rfl (by rcases(show n=0∨n=1∨n=2∨n=3∨n=4∨n=5∨n=6∨n=7∨n=8∨n=9∨n=10∨n=11∨n=12 by omega)with h|h|h|h|h|h|h|h|h|h|h|h|h<;>subst h<;>rfl)) rfl<|.v (y_conv rfl Tryz.underlying5 Tryz.underlying3 rfl (wrap_in (u8_in _))) rfl<|.v (y_ar rfl (hn:=u8_in0 _)) rfl<|.a 1 rfl<|.k [2] rfl) ?_
    refine W_ret ?_
    exact⟨_,_,ResL.of rfl,Pur.pure,by rw[Int.zero_add];rfl⟩
set_option maxRecDepth 10000 in
set_option maxHeartbeats 1000000 in
theorem len_can (n:Nat) (hn:n≤12):Can Tryz.prog 225 [.raw (.int .u64 n)] (· =num (lenT n).toNat):=by
 refine can_of Tryz.func225 rfl Tryz.ntmps225 rfl ?_
 refine W_cs (.a 1 rfl<|.k [0] rfl) ?_
 refine W_seq (W_condC (b:=false) ?_)
 refine W_skip ?_
 refine W_cs (.a 1 rfl<|.c rfl (len64_can n hn) rfl<|.a 1 rfl<|.k [2] rfl) ?_
 exact W_ret ⟨_,_,.cons (.tmp rfl) .nil,Pur.pure,rfl⟩
def bef (L:List Int) (x y:Int):Prop:=L.getD y.toNat 0<L.getD x.toNat 0∨(L.getD y.toNat 0=L.getD x.toNat 0∧x≤y)
theorem bef_trans {L:List Int} {x y z:Int} (h:bef L x y) (k:bef L y z):bef L x z:=by unfold bef at*;omega
theorem cmpD_bef (L:List Int) (a b:Nat):cmpD L a b<0↔¬bef L b a:=by
 unfold cmpD cmpI bef
 simp only[Int.toNat_natCast]
 split<;>split<;>(try split)<;>omega
theorem bef_of (L:List Int) {x y:Int} (h:¬bef L x y):bef L y x:=by unfold bef at*;omega
def Ins (L ys:List Int) (i j:Nat):Prop:=∀p q,p<q→q≤i→q≠j→bef L (ys.getD p 0) (ys.getD q 0)
def Sor (L ys:List Int) (i:Nat):Prop:=∀p q,p<q→q<i→bef L (ys.getD p 0) (ys.getD q 0)
theorem Sor.ins {L ys:List Int} {i:Nat} (h:Sor L ys i):Ins L ys i i:=fun p q h1 h2 h3=>h p q h1 (by omega)
theorem Ins.done0 {L ys:List Int} {i:Nat} (h:Ins L ys i 0):Sor L ys (i+1):=fun p q h1 h2=>h p q h1 (by omega) (by omega)
theorem Ins.done {L ys:List Int} {i j:Nat} (h:Ins L ys i j) (hb:bef L (ys.getD (j - 1) 0) (ys.getD j 0)):Sor L ys (i+1):=fun p q h1 h2=>by
 by_cases hq:q=j
 ·subst hq
  by_cases hp:p=q - 1
  ·rw[hp];exact hb
  ·exact bef_trans (h p (q - 1) (by omega) (by omega) (by omega)) hb
 ·exact h p q h1 (by omega) hq
theorem Ins.swap {L ys:List Int} {i j:Nat} (h:Ins L ys i j) (h0:0<j) (hj:j≤i) (hi:i<ys.length) (hb:¬bef L (ys.getD (j - 1) 0) (ys.getD j 0)):Ins L (Heap.swapL ys j (j - 1)) i (j - 1):=fun p q h1 h2 h3=>by
 rw[Heap.swapL_get ys j (j - 1) p (by omega) (by omega),Heap.swapL_get ys j (j - 1) q (by omega) (by omega),if_neg h3]
 by_cases hq:q=j
 ·rw[if_pos hq]
  by_cases hp:p=j - 1
  ·rw[if_pos hp];exact bef_of L hb
  ·rw[if_neg hp,if_neg (by omega)];exact h p (j - 1) (by omega) (by omega) (by omega)
 ·rw[if_neg hq]
  by_cases hp:p=j - 1
  ·rw[if_pos hp];exact h j q (by omega) h2 hq
  ·rw[if_neg hp]
   by_cases hp2:p=j
   ·rw[if_pos hp2];exact h (j - 1) q (by omega) h2 hq
   ·rw[if_neg hp2];exact h p q h1 h2 hq
theorem swap_perm (ys:List Int) (p q:Nat) (hp:p<ys.length) (hq:q<ys.length):(Heap.swapL ys p q).Perm ys:=by
 have:= @List.set_set_perm _ ys p q hp hq
 unfold Heap.swapL
 rw[List.getD_eq_getElem?_getD,List.getD_eq_getElem?_getD,List.getElem?_eq_getElem hp,List.getElem?_eq_getElem hq]
 exact this
theorem Sor.pair {L ys:List Int} (h:Sor L ys ys.length):ys.Pairwise (bef L):=by
 rw[List.pairwise_iff_getElem]
 intro i j hi hj hij
 have:=h i j hij hj
 rw[List.getD_eq_getElem?_getD,List.getD_eq_getElem?_getD,List.getElem?_eq_getElem hi,List.getElem?_eq_getElem hj]at this
 exact this
def irow (ys:List Int):Option Blk:=some (.row 3 1 ys.length (intsP ys))
abbrev cmpF (L:List Int):PV:=.func 216 [.pin [intsV L] 0]
set_option maxRecDepth 10000 in
set_option maxHeartbeats 1000000 in
theorem isort_can (L xs:List Int) (c:Option Blk) (hx:∀x∈xs,0≤x∧x<L.length) (hn:xs.length≤12):CanS Tryz.prog 232 [.own 1,num 0,num xs.length,cmpF L] [c,irow xs] (fun _ σ'=>∃ys,ys.Perm xs∧ys.Pairwise (bef L)∧σ'=[c,irow ys]):=by
 refine canS_of Tryz.func232 rfl Tryz.ntmps232 rfl ?_
 refine W_cs (.a 1 rfl<|.v (y_ar rfl) rfl<|.a 1 rfl<|.k [0,1,2,3,8] rfl) ?_
 refine W_block ?_
 refine W_k [0,1,2,3,8] rfl ?_
 refine W_loop (fun r st=>∃(ys:List Int) (i:Nat),ys.Perm xs∧0<i∧Sor L ys i∧r=13 - i∧st=⟨[(0,.own 1),(1,num 0),(2,num xs.length),(3,cmpF L),(8,num i)],[c,irow ys]⟩) 12 ⟨xs,1,.refl _,by omega,fun p q h1 h2=>by omega,rfl,rfl⟩ ?_
 rintro r st ⟨ys,i,hp,hi0,hs,rfl,rfl⟩
 have hyl:=hp.length_eq
 refine W_seq ?_
 refine W_cs (.a 3 rfl<|.k [0,1,2,3,8,14] rfl) ?_
 refine W_cond rfl (fun hc=>?_) (fun hc=>?_)
 ·have hlt:i<xs.length:=by have:=tt hc;omega
  refine W_skip ?_
  refine W_seq ?_
  refine W_block ?_
  refine W_cs (.a 2 rfl<|.k [0,1,2,3,8,9] rfl) ?_
  refine W_block ?_
  refine W_k [0,1,2,3,8,9] rfl ?_
  refine W_loop (fun r st=>∃(ys:List Int) (j:Nat),ys.Perm xs∧j≤i∧Ins L ys i j∧r=j∧st=⟨[(0,.own 1),(1,num 0),(2,num xs.length),(3,cmpF L),(8,num i),(9,num j)],[c,irow ys]⟩) i ⟨ys,i,hp,by omega,hs.ins,rfl,rfl⟩ ?_
  clear hp hs hyl
  rintro r st ⟨zs,j,hp,hji,hs,rfl,rfl⟩
  have hyl:=hp.length_eq
  refine W_seq ?_
  obtain⟨q1,hq1⟩:∃q,decide ((0:Int)<(r:Int))=q:=⟨_,rfl⟩
  have hel:∀k,k<zs.length→∃a:Nat,zs.getD k 0=(a:Int)∧a<L.length:=fun k hk=>by
   have h1:=hx _ (hp.mem_iff.1 (getD_mem (d:=0) hk))
   exact⟨(zs.getD k 0).toNat,by omega,by omega⟩
  obtain⟨a,ha,haL⟩:=hel r (by omega)
  obtain⟨b,hb,hbL⟩:=hel (r - 1) (by omega)
  obtain⟨q2,hq2⟩:∃q,decide (cmpD L a b<0)=q:=⟨_,rfl⟩
  refine W_drsK mixed (by kernel_rfl) 34 (.raw (.bool (q1&&q2))) [0,1,2,3,8,9] rfl ?_ ?_
  ·refine .a 2 rfl<|.v [18,19] (y_q rfl (hq1)) rfl rfl<|.a 1 rfl<|?_
   cases q1
   ·exact .a 13 rfl<|.k [34,0,1,2,3,8,9] rfl
   ·exact .a 3 rfl<|.v [23,24] (y_ix (r) rfl) rfl rfl<|.v [25] (y_ld rfl ((ints_get zs r (by omega)).trans (by rw[ha]))) rfl rfl<|.a 2 rfl<|.v [28] (y_ar rfl) rfl rfl<|.v [27,29] (y_ix ((r - 1)) rfl (by have:=tt hq1;omega) (by omega)) rfl rfl<|.v [30] (y_ld rfl ((ints_get zs (r - 1) (by omega)).trans (by rw[hb]))) rfl rfl<|.v [22,26,31] (y_c rfl (cmpD_can L a b haL hbL)) rfl rfl<|.v [32] (y_q rfl (hq2)) rfl rfl<|.a 1 rfl<|.k [34,0,1,2,3,8,9] rfl
  refine W_cond rfl (fun hy=>?_) (fun hy=>?_)
  ·obtain⟨c1,c2⟩:=Bool.and_eq_true_iff.1 hy
   rw[c1]at hq1
   rw[c2]at hq2
   have hr0:0<r:=by have:=tt hq1;omega
   have hnb:=(cmpD_bef L a b).1 (tt hq2)
   rw[←ha,←hb]at hnb
   refine W_skip ?_
   refine W_seq ?_
   refine W_block ?_
   refine W_drawFlt 15 20 mixed (
    .val [0] rfl (y_a rfl) rfl rfl<|
    .val [9] rfl (y_a rfl) rfl rfl<|
    .late [0] rfl (r_move rfl rfl) inferInstance rfl rfl<|
    .late [9] rfl (r_move rfl rfl) inferInstance rfl rfl<|
    .late [40] rfl (r_sub rfl rfl rfl rfl (by unfold In64;omega)) inferInstance rfl rfl<|
    .val [0] rfl (y_a rfl) rfl rfl<|
    .val [9] rfl (y_a rfl) rfl rfl<|
    .val [43] rfl (y_ar rfl) rfl rfl<|
    .val [42,44] rfl (y_ix ((r - 1)) rfl) rfl rfl<|
    .val [45] rfl (y_ld rfl ((ints_get zs (r - 1) (by omega)).trans (by rw[hb]))) rfl rfl<|
    .val [0] rfl (y_a rfl) rfl rfl<|
    .val [9] rfl (y_a rfl) rfl rfl<|
    .val [47,48] rfl (y_ix (r) rfl) rfl rfl<|
    .val [49] rfl (y_ld rfl ((ints_get zs r (by omega)).trans (by rw[ha]))) rfl rfl<|
    .val [37,38] rfl (y_ix (r) rfl) rfl rfl<|
    .nil) (by kernel_rfl) rfl rfl (keepT_sub (ks:=[0,1,2,3,8,9,39,41,46,50,51]) rfl) ?_
   refine WR_loud0 ((by first|exact l_storeInts rfl (fok.tk.get rfl) rfl rfl rfl (by first|omega|(simp;omega))|exact l_storeBools rfl (fok.tk.get rfl) rfl rfl rfl (by first|omega|(simp;omega)))) rfl rfl<|WR_v (y_ix ((r - 1)) rfl) rfl<|WR_loud0 ((by first|exact l_storeInts rfl (fok.tk.get rfl) rfl rfl rfl (by first|omega|(simp;omega))|exact l_storeBools rfl (fok.tk.get rfl) rfl rfl rfl (by first|omega|(simp;omega)))) rfl rfl<|WR_k [0,1,2,3,8,9] rfl ?_
   refine W_chain (.a 1 rfl<|.v (y_ar rfl) rfl<|.a 1 rfl<|.k [0,1,2,3,8,9] rfl) ?_
   refine⟨r - 1,by omega,Heap.swapL zs r (r - 1),r - 1,(swap_perm zs r (r - 1) (by omega) (by omega)).trans hp,by omega,hs.swap hr0 hji (by omega) hnb,rfl,?_⟩
   unfold irow Heap.swapL
   rw[ha,hb,show((r - 1:Nat):Int)=(r:Int) - 1 by omega]
   simp only[List.length_set]
   rfl
  ·have hso:Sor L zs (i+1):=by
    by_cases h0:r=0
    ·subst h0;exact hs.done0
    ·refine hs.done ?_
     rw[ha,hb]
     refine Classical.byContradiction fun hn=>?_
     have:=(cmpD_bef L a b).2 hn
     have e1:q1=true:=by rw[←hq1];exact decide_eq_true (by omega)
     have e2:q2=true:=by rw[←hq2];exact decide_eq_true this
     rw[e1,e2]at hy
     cases hy
   refine W_exit ?_
   refine W_chain (.a 1 rfl<|.v (y_ar rfl) rfl<|.a 1 rfl<|.k [0,1,2,3,8] rfl) ?_
   exact⟨13 - (i+1),by omega,zs,i+1,hp,by omega,hso,rfl,rfl⟩
 ·have hge:ys.length≤i:=by have:=ff hc;omega
  refine W_exit ?_
  exact⟨_,ResL.of rfl,ys,hp,Sor.pair (fun p q h1 h2=>hs p q h1 (by omega)),rfl⟩
set_option maxRecDepth 10000 in
set_option maxHeartbeats 1000000 in
theorem pdq_can (L xs:List Int) (c:Option Blk) (k:Int) (hx:∀x∈xs,0≤x∧x<L.length) (hn:xs.length≤12):CanS Tryz.prog 224 [.own 1,num 0,num xs.length,num k,cmpF L] [c,irow xs] (fun _ σ'=>∃ys,ys.Perm xs∧ys.Pairwise (bef L)∧σ'=[c,irow ys]):=by
 refine canS_of Tryz.func224 rfl Tryz.ntmps224 rfl ?_
 refine W_cs (.a 1 rfl<|.k [0,1,2,3,4,10] rfl) ?_
 refine W_cs (.a 1 rfl<|.k [0,1,2,3,4,10,11] rfl) ?_
 refine W_block ?_
 refine W_loop (fun r st=>st=⟨[(0,.own 1),(1,num 0),(2,num xs.length),(3,num k),(4,cmpF L),(10,flag true),(11,flag true)],[c,irow xs]⟩) 0 rfl ?_
 rintro r st rfl
 refine W_block ?_
 refine W_cs (.a 2 rfl<|.v (y_ar rfl) rfl<|.a 1 rfl<|.k [0,1,2,3,4,10,11,12] rfl) ?_
 refine W_seq ?_
 refine W_cs (.a 2 rfl<|.k [0,1,2,3,4,10,11,12,25] rfl) ?_
 refine W_cond (b:=decide ((xs.length:Int) - 0≤12)) rfl (fun _=>?_) (fun hc=>absurd (ff hc) (by omega))
 refine W_rs ?_
 refine WR_a 4 rfl<|WR_cS rfl rfl (CanS.mono (isort_can L xs c hx hn) (fun _ σ' h=>?_))
 obtain⟨ys,h1,h2,rfl⟩:=h
 refine WR_k [] rfl ?_
 exact W_ret ⟨_,.nil,ys,h1,h2,rfl⟩
set_option maxRecDepth 10000 in
set_option maxHeartbeats 1000000 in
theorem sortf_can (L xs:List Int) (c:Option Blk) (hx:∀x∈xs,0≤x∧x<L.length) (hn:xs.length≤12):CanS Tryz.prog 215 [.own 1,cmpF L] [c,irow xs] (fun _ σ'=>∃ys,ys.Perm xs∧ys.Pairwise (bef L)∧σ'=[c,irow ys]):=by
 have hw:IntKind.u64.wrap (xs.length:Int)=(xs.length:Int):=by rw[IntKind.wrap_u64];omega
 refine canS_of Tryz.func215 rfl Tryz.ntmps215 rfl ?_
 refine W_cs (.a 3 rfl<|.k [0,1,4] rfl) ?_
 refine W_region ?_
 refine WR_a 3 rfl<|WR_v (y_conv rfl Tryz.underlying3 Tryz.underlying247 rfl hw) rfl<|WR_c rfl (len_can xs.length hn) rfl<|WR_a 1 rfl<|WR_cS rfl rfl (CanS.mono (pdq_can L xs c _ hx hn) (fun _ σ' h=>?_))
 obtain⟨ys,h1,h2,rfl⟩:=h
 refine WR_k [] rfl ?_
 exact⟨_,ResL.of rfl,ys,h1,h2,rfl⟩
def hasL (L:List Int) (i:Nat):List Int:=((List.range i).filter fun k=>decide (0≤L.getD k 0)).map Int.ofNat
theorem hasL_step (L:List Int) (i:Nat):hasL L (i+1)=hasL L i++(if 0≤L.getD i 0 then [(i:Int)] else []):=by
 unfold hasL
 rw[List.range_succ,List.filter_append,List.map_append]
 congr 1
 by_cases h:0≤L.getD i 0
 ·rw[if_pos h,List.filter_cons,if_pos (by simpa using h)];rfl
 ·rw[if_neg h,List.filter_cons,if_neg (by simpa using h)];rfl
theorem hasL_len (L:List Int) (i:Nat):(hasL L i).length≤i:=by
 unfold hasL
 rw[List.length_map]
 exact Nat.le_trans (List.length_filter_le _ _) (by simp)
theorem hasL_mem {L:List Int} {i:Nat} {x:Int}:x∈hasL L i↔∃k:Nat,x=(k:Int)∧k<i∧0≤L.getD k 0:=by
 unfold hasL
 simp only[List.mem_map,List.mem_filter,List.mem_range,decide_eq_true_eq]
 constructor
 ·rintro⟨k,⟨h1,h2⟩,rfl⟩;exact⟨k,rfl,h1,h2⟩
 ·rintro⟨k,rfl,h1,h2⟩;exact⟨k,⟨h1,h2⟩,rfl⟩
theorem hasL_nodup (L:List Int) (i:Nat):(hasL L i).Nodup:=by
 unfold hasL
 have h1:(List.range i).Pairwise (· ≠ ·):=List.nodup_range
 refine List.Pairwise.map Int.ofNat (fun a b h e=>h (by cases e;rfl)) (h1.filter _)
set_option maxRecDepth 10000 in
set_option maxHeartbeats 1000000 in
theorem sorted_can (L cs:List Int) (hn:L.length≤12):CanS Tryz.prog 202 [intsV L] [irow cs] (fun r σ'=>∃ys,ys.Perm (hasL L L.length)∧ys.Pairwise (bef L)∧r= .own 1∧σ'=[irow cs,irow ys]):=by
 refine canS_of Tryz.func202 rfl Tryz.ntmps202 rfl ?_
 refine W_cs (.a 2 rfl<|.k [1] rfl) ?_
 refine W_cs (.a 1 rfl<|.k [1,3] rfl) ?_
 refine W_adopt 3 3 1 rfl ?_
 refine W_seq ?_
 refine W_cs (.a 3 rfl<|.k [1,3,6,7,8] rfl) ?_
 refine W_block ?_
 refine W_k [1,3,6,7,8] rfl ?_
 refine W_loop (fun r st=>∃i,i≤L.length∧r=L.length - i∧st=⟨[(1,.pin [intsV L] 0),(3,.own 1),(6,intsV L),(7,num L.length),(8,num i)],[irow cs,irow (hasL L i)]⟩) L.length ⟨0,by omega,by omega,rfl⟩ ?_
 rintro r st ⟨i,hi,rfl,rfl⟩
 have hhl:=hasL_len L i
 refine W_cs (.a 1 rfl<|.k [1,3,6,7,8,9] rfl) ?_
 refine W_seq ?_
 refine W_cond rfl (fun hc=>?_) (fun hc=>?_)
 ·have hlt:i<L.length:=by have:=tt hc;omega
  have hst:=hasL_step L i
  refine W_skip ?_
  refine W_seq ?_
  refine W_block ?_
  refine W_cs (.a 1 rfl<|.v (y_ix (i) rfl) rfl<|.v (y_ld rfl (ints_get L i hlt)) rfl<|.a 2 rfl<|.k [1,3,4,5,6,7,8] rfl) ?_
  refine W_cs (.a 2 rfl<|.k [1,3,4,6,7,8,14] rfl) ?_
  refine W_cond rfl (fun hy=>?_) (fun hy=>?_)
  ·have h0:0≤L.getD i 0:=tt hy
   rw[if_pos h0]at hst
   refine W_region ?_
   refine WR_a 3 rfl<|WR_l (l_append rfl (fok.rk.get rfl) rfl rfl rfl rfl (by unfold maxLen;omega)) rfl<|WR_a 1 rfl ?_
   refine WR_ren [0,2] (.c 1<|.c 3<|.c 6<|.c 7<|.c 8<|.nil) (.kept rfl (.row RenL.pure)<|.kept rfl (.rowP rfl (intsP_snoc _ _))<|.nil) rfl rfl (WR_nil ?_)
   refine W_chain (.v (y_ar rfl) rfl<|.a 1 rfl<|.k [1,3,6,7,8] rfl) ?_
   refine⟨L.length - (i+1),by omega,i+1,by omega,rfl,?_⟩
   rw[hst]
   first
    |rfl
    |(simp only[irow,List.length_append,List.length_singleton];rfl)
  ·have h0:¬0≤L.getD i 0:=ff hy
   rw[if_neg h0,List.append_nil]at hst
   refine W_skip ?_
   refine W_chain (.v (y_ar rfl) rfl<|.a 1 rfl<|.k [1,3,6,7,8] rfl) ?_
   refine⟨L.length - (i+1),by omega,i+1,by omega,rfl,?_⟩
   rw[hst]
   first
    |rfl
    |(simp only[irow,List.length_append,List.length_singleton];rfl)
 ·have hie:i=L.length:=by have:=ff hc;omega
  subst hie
  refine W_exit ?_
  refine W_rs ?_
  refine WR_a 2 rfl<|WR_cS rfl rfl (CanS.mono (sortf_can L (hasL L L.length) (irow cs) (fun x hx=>by obtain⟨k,rfl,h1,_⟩:=hasL_mem.1 hx;omega) (by omega)) (fun _ σ' h=>?_))
  obtain⟨ys,h1,h2,rfl⟩:=h
  refine WR_k [3] rfl ?_
  refine W_cs (.a 2 rfl<|.k [2] rfl) ?_
  refine W_ret ?_
  exact⟨_,ResL.of rfl,ys,h1,h2,rfl,rfl⟩
set_option maxRecDepth 10000 in
set_option maxHeartbeats 1000000 in
theorem reverse_can (xs:List Int) (c:Option Blk) (hn:xs.length≤12):CanS Tryz.prog 203 [.own 1] [c,irow xs] (fun _ σ'=>σ'=[c,irow xs.reverse]):=by
 refine canS_of Tryz.func203 rfl Tryz.ntmps203 rfl ?_
 refine W_cs (.a 2 rfl<|.v (y_ar rfl) rfl<|.a 2 rfl<|.k [0,2,3] rfl) ?_
 refine W_block ?_
 refine W_k [0,2,3] rfl ?_
 refine W_loop (fun r st=>∃(ys:List Int) (i:Nat),ys.length=xs.length∧2*i≤xs.length+1∧(∀k,k<xs.length→ys.getD k 0=if k<i∨xs.length - i≤k then xs.getD (xs.length - 1 - k) 0 else xs.getD k 0)∧r=xs.length+1 - i∧st=⟨[(0,.own 1),(2,num i),(3,num ((xs.length:Int) - 1 - i))],[c,irow ys]⟩) (xs.length+1) ⟨xs,0,rfl,by omega,fun k hk=>by rw[if_neg (by omega)],by omega,by simp⟩ ?_
 rintro r st ⟨ys,i,hl,hi,hk,rfl,rfl⟩
 refine W_seq ?_
 refine W_cs (.a 3 rfl<|.k [0,2,3,9] rfl) ?_
 refine W_cond rfl (fun hc=>?_) (fun hc=>?_)
 ·have hlt:2*i+1<xs.length:=by have:=tt hc;omega
  obtain⟨a,ha⟩:∃a,ys.getD i 0=a:=⟨_,rfl⟩
  obtain⟨b,hb⟩:∃b,ys.getD (xs.length - 1 - i) 0=b:=⟨_,rfl⟩
  refine W_skip ?_
  refine W_seq ?_
  refine W_block ?_
  refine W_drawFlt 13 20 mixed (
   .val [0] rfl (y_a rfl) rfl rfl<|
   .val [2] rfl (y_a rfl) rfl rfl<|
   .late [0] rfl (r_move rfl rfl) inferInstance rfl rfl<|
   .late [3] rfl (r_move rfl rfl) inferInstance rfl rfl<|
   .val [0] rfl (y_a rfl) rfl rfl<|
   .val [3] rfl (y_a rfl) rfl rfl<|
   .val [18,19] rfl (y_ix ((xs.length - 1 - i)) rfl) rfl rfl<|
   .val [20] rfl (y_ld rfl ((ints_get ys (xs.length - 1 - i) (by omega)).trans (by rw[hb]))) rfl rfl<|
   .val [0] rfl (y_a rfl) rfl rfl<|
   .val [2] rfl (y_a rfl) rfl rfl<|
   .val [22,23] rfl (y_ix (i) rfl) rfl rfl<|
   .val [24] rfl (y_ld rfl ((ints_get ys i (by omega)).trans (by rw[ha]))) rfl rfl<|
   .val [14,15] rfl (y_ix (i) rfl) rfl rfl<|
   .nil) (by kernel_rfl) rfl rfl (keepT_sub (ks:=[0,2,3,16,17,21,25,26]) rfl) ?_
  refine WR_loud0 ((by first|exact l_storeInts rfl (fok.tk.get rfl) rfl rfl rfl (by first|omega|(simp;omega))|exact l_storeBools rfl (fok.tk.get rfl) rfl rfl rfl (by first|omega|(simp;omega)))) rfl rfl<|WR_v (y_ix ((xs.length - 1 - i)) rfl) rfl<|WR_loud0 ((by first|exact l_storeInts rfl (fok.tk.get rfl) rfl rfl rfl (by first|omega|(simp;omega))|exact l_storeBools rfl (fok.tk.get rfl) rfl rfl rfl (by first|omega|(simp;omega)))) rfl rfl<|WR_k [0,2,3] rfl ?_
  refine W_chain (.a 1 rfl<|.v (y_ar rfl) rfl<|.a 1 rfl<|.v (y_ar rfl) rfl<|.a 2 rfl<|.k [0,2,3] rfl) ?_
  refine⟨xs.length+1 - (i+1),by omega,Heap.swapL ys i (xs.length - 1 - i),i+1,by rw[Heap.swapL_len];exact hl,by omega,fun k hkl=>?_,rfl,?_⟩
  ·rw[Heap.swapL_get ys i (xs.length - 1 - i) k (by omega) (by omega)]
   by_cases h1:k=xs.length - 1 - i
   ·rw[if_pos h1,if_pos (by omega),hk i (by omega),if_neg (by omega),h1,show xs.length - 1 - (xs.length - 1 - i)=i by omega]
   ·rw[if_neg h1]
    by_cases h2:k=i
    ·rw[if_pos h2,if_pos (by omega),hk _ (by omega),if_neg (by omega),h2]
    ·rw[if_neg h2,hk k hkl]
     by_cases h3:k<i∨xs.length - i≤k
     ·rw[if_pos h3,if_pos (by omega)]
     ·rw[if_neg h3,if_neg (by omega)]
  ·unfold irow Heap.swapL
   rw[ha,hb,show(xs.length:Int) - 1 - ((i+1:Nat):Int)=(xs.length:Int) - 1 - i - 1 by omega]
   simp only[List.length_set]
   rfl
 ·have hge:¬2*i+1<xs.length:=by have:=ff hc;omega
  refine W_exit ?_
  refine⟨_,ResL.of rfl,?_⟩
  have:ys=xs.reverse:=by
   refine List.ext_getElem (by simp[hl]) fun k h1 h2=>?_
   have h3:=hk k (by omega)
   rw[List.getElem_reverse]
   have e1:ys.getD k 0=ys[k]:=by simp[h1]
   have e2:xs.getD (xs.length - 1 - k) 0=xs[xs.length - 1 - k]:=by rw[List.getD_eq_getElem?_getD,List.getElem?_eq_getElem (by omega)];rfl
   by_cases h4:k<i∨xs.length - i≤k
   ·rw[if_pos h4,e1,e2]at h3;exact h3
   ·rw[if_neg h4,e1]at h3
    rw[h3,←e2,show xs.length - 1 - k=k by omega]
  rw[this]
end PW
end Go.Proofs.YtnegbdpggideiaaGreatDoor

namespace Go.Proofs.YtnegbdpggideiaaGreatDoor
set_option linter.unusedVariables false
set_option linter.unusedSimpArgs false
namespace PW
open Go.RowKit Reg Mem
structure MapKey (P:Program) (kt:TypeId) {κ:Type} [DecidableEq κ] (enc:κ→Value):Prop where
 chk:∀e a w,(Instr.checkKey e 10000 kt (enc a)).run P w= .ok () w
 eql:∀a b w,(Op.equal kt (enc a) (enc b)).run P w= .ok (decide (a=b)) w
 now:∃d,P.underlying kt=some d∧((∀a b,Instr.sameNow d (enc a) (enc b)=some (decide (a=b)))∨∀a b,Instr.sameNow d (enc a) (enc b)=none)
 bits:∀a,Instr.sameBits 10000 (enc a) (enc a)=true
section
variable {P:Program} {kt:TypeId} {κ:Type} [DecidableEq κ] {enc:κ→Value}
def findI (k:κ):List κ→Nat→Option Nat
 | [],_=>none
 |a::l,i=>if k=a then some i else findI k l (i+1)
theorem findI_ge {k:κ}:∀ {l:List κ} {i j:Nat},findI k l i=some j→i≤j∧l[j - i]? =some k
 | [],i,j,h=>by cases h
 |a::l,i,j,h=>by
  simp only[findI]at h
  split at h
  ·rename_i he;cases h;subst he;simp
  ·obtain⟨h1,h2⟩:=findI_ge h
   refine⟨by omega,?_⟩
   rw[show j - i=(j - (i+1))+1 by omega]
   simpa using h2
theorem now_find {d:TypeDesc} (hn:∀a b,Instr.sameNow d (enc a) (enc b)=some (decide (a=b))) (k:κ):∀(ks:List κ) (es:List MapEntry) (i:Nat),es.map (·.key)=ks.map enc→
  Instr.findNow d (enc k) es i=some ((findI k ks i).bind fun j=>(es[j - i]?).map fun e=>(j,e.val))
 | [],[],i,_=>rfl
 | [],_::_,i,h=>by simp at h
 |_::_,[],i,h=>by simp at h
 |a::ks,e::es,i,h=>by
  simp only[List.map_cons,List.cons.injEq]at h
  simp only[Instr.findNow,h.1,hn,findI]
  by_cases hk:k=a
  ·rw[decide_eq_true hk,if_pos hk];simp
  ·rw[decide_eq_false hk,if_neg hk]
   simp only[now_find hn k ks es (i+1) h.2]
   congr 1
   cases hf:findI k ks (i+1)with
   |none=>rfl
   |some j=>
    obtain⟨h1,_⟩:=findI_ge hf
    simp only[Option.bind_some]
    rw[show j - i=(j - (i+1))+1 by omega]
    simp
theorem ask_find (hk:MapKey P kt enc) (k:κ) (w:World):∀(ks:List κ) (es:List MapEntry) (i:Nat),es.map (·.key)=ks.map enc→
  (Instr.findAsking kt (enc k) es i).run P w= .ok ((findI k ks i).bind fun j=>(es[j - i]?).map fun e=>(j,e.val)) w
 | [],[],i,_=>rfl
 | [],_::_,i,h=>by simp at h
 |_::_,[],i,h=>by simp at h
 |a::ks,e::es,i,h=>by
  simp only[List.map_cons,List.cons.injEq]at h
  simp only[Instr.findAsking,Sem.run_bind,h.1,hk.eql,Result.andThen_ok,findI]
  by_cases hka:k=a
  ·rw[if_pos (by simpa using hka),if_pos hka];simp
  ·rw[if_neg (by simpa using hka),if_neg hka,ask_find hk k w ks es (i+1) h.2]
   congr 1
   cases hf:findI k ks (i+1)with
   |none=>rfl
   |some j=>
    obtain⟨h1,_⟩:=findI_ge hf
    simp only[Option.bind_some]
    rw[show j - i=(j - (i+1))+1 by omega]
    simp
theorem run_find (hk:MapKey P kt enc) (k:κ) (w:World) (ks:List κ) (es:List MapEntry) (h:es.map (·.key)=ks.map enc):(Instr.findKey kt (enc k) es).run P w= .ok ((findI k ks 0).bind fun j=>(es[j]?).map fun e=>(j,e.val)) w:=by
 obtain⟨d,hd,hn|hn⟩:=hk.now
 ·have:=now_find hn k ks es 0 h
  simp only[Instr.findKey,Sem.run_bind,run_underlying hd,Result.andThen_ok,this]
  simp
 ·have ha:=ask_find hk k w ks es 0 h
  simp only[Instr.findKey,Sem.run_bind,run_underlying hd,Result.andThen_ok]
  cases es with
  |nil=>
   have:ks=[]:=by cases ks with|nil=>rfl|cons=>simp at h
   subst this
   rfl
  |cons e es=>
   cases ks with
   |nil=>simp at h
   |cons a ks=>
    simp only[List.map_cons,List.cons.injEq]at h
    have h0:Instr.findNow d (enc k) (e::es) 0=none:=by simp only[Instr.findNow,h.1,hn]
    rw[h0]
    simpa using ha
def encM (enc:κ→Value) (l:List (κ×PV)):List (Value×PV):=l.map fun x=>(enc x.1,x.2)
def lookM (k:κ):List (κ×PV)→Option PV
 | []=>none
 |(a,p)::l=>if k=a then some p else lookM k l
def setM (k:κ) (p:PV):List (κ×PV)→List (κ×PV)
 | []=>[(k,p)]
 |(a,q)::l=>if k=a then(a,p)::l else(a,q)::setM k p l
theorem lookM_find {k:κ} {l:List (κ×PV)}:lookM k l=(findI k (l.map (·.1)) 0).bind fun j=>(l[j]?).map (·.2):=by
 suffices h:∀(i:Nat),lookM k l=(findI k (l.map (·.1)) i).bind fun j=>(l[j - i]?).map (·.2) by simpa using h 0
 induction l with
 |nil=>intro i;rfl
 |cons x l ih=>
  intro i
  obtain⟨a,p⟩:=x
  simp only[lookM,List.map_cons,findI]
  split
  ·simp
  ·rw[ih (i+1)]
   cases hf:findI k (l.map (·.1)) (i+1)with
   |none=>rfl
   |some j=>
    obtain⟨h1,_⟩:=findI_ge hf
    simp only[Option.bind_some]
    rw[show j - i=(j - (i+1))+1 by omega]
    simp
theorem setM_find {k:κ} {p:PV} {l:List (κ×PV)}:setM k p l=match findI k (l.map (·.1)) 0 with|some j=>l.set j (k,p)|none=>l++[(k,p)]:=by
 suffices h:∀(i:Nat),setM k p l=match findI k (l.map (·.1)) i with|some j=>l.set (j - i) (k,p)|none=>l++[(k,p)] by simpa using h 0
 induction l with
 |nil=>intro i;rfl
 |cons x l ih=>
  intro i
  obtain⟨a,q⟩:=x
  simp only[setM,List.map_cons,findI]
  split
  ·rename_i he;subst he;simp
  ·rw[ih (i+1)]
   cases hf:findI k (l.map (·.1)) (i+1)with
   |none=>rfl
   |some j=>
    obtain⟨h1,_⟩:=findI_ge hf
    simp only
    rw[show j - i=(j - (i+1))+1 by omega]
    simp
theorem mem_setM {k:κ} {p:PV} {l:List (κ×PV)} {x:κ×PV} (h:x∈setM k p l):x=(k,p)∨x∈l:=by
 induction l with
 |nil=>simpa[setM]using h
 |cons y l ih=>
  obtain⟨a,q⟩:=y
  simp only[setM]at h
  split at h
  ·rename_i he
   subst he
   cases h with
   |head=>exact .inl rfl
   |tail _ h=>exact .inr (List.mem_cons_of_mem _ h)
  ·cases h with
   |head=>exact .inr (List.mem_cons_self ..)
   |tail _ h=>
    rcases ih h with h|h
    ·exact .inl h
    ·exact .inr (List.mem_cons_of_mem _ h)
theorem lookM_mem {k:κ} {p:PV} {l:List (κ×PV)} (h:lookM k l=some p):(k,p)∈l:=by
 induction l with
 |nil=>cases h
 |cons y l ih=>
  obtain⟨a,q⟩:=y
  simp only[lookM]at h
  split at h
  ·rename_i he;subst he;cases h;exact List.mem_cons_self ..
  ·exact List.mem_cons_of_mem _ (ih h)
def KeyIs (p:PV) (v:Value):Prop:=∀E w u,Rep E w u p→u=v
theorem keyRaw (v:Value):KeyIs (.raw v) v:=fun _ _ _ h=>by cases h;rfl
theorem keyAgg2 (a b:Value):KeyIs (.agg [.raw a,.raw b]) (.agg #[a,b]):=fun E w u h=>by
 cases h with
 |agg cs _ hl hr=>
  obtain⟨l⟩:=cs
  match l,hl,hr with
  | [x,y],_,hr=>
   have h0:=hr 0 x _ rfl rfl
   have h1:=hr 1 y _ rfl rfl
   cases h0;cases h1;rfl
  | [],hl,_=>simp at hl
  | [_],hl,_=>simp at hl
  |_::_::_::_,hl,_=>simp at hl
def mapK (P:Program) (mt:TypeId):Option (TypeId×TypeId):=match P.underlying mt with|some (.map k e)=>some (k,e)|_=>none
theorem mapK_spec {mt kt et:TypeId} (h:mapK P mt=some (kt,et)):P.underlying mt=some (.map kt et):=by
 unfold mapK at h
 split at h
 ·rename_i hu;cases h;exact hu
 ·cases h
def zvK (P:Program) (t:TypeId):Option Value:=match P.info? t with|some i=>i.zero|none=>none
theorem run_zero {et:TypeId} {z:Value} (h:zvK P et=some z) (w:World):(zeroValue et).run P w= .ok z w:=by
 unfold zvK at h
 split at h
 ·rename_i i hi;simp[zeroValue,typeInfo,hi,h]
 ·cases h
variable {σ:Sto} {t:Tms} {o:Oper}
theorem look_core (hK:MapKey P kt enc) {F:Nat→Prop} {base:Nat} {E:Env} {w:World} {i mt et:Nat} {l:List (κ×PV)} {v z:Value} (hS:Sat F base σ E w) (hm:mapK P mt=some (kt,et)) (hz:zvK P et=some z) (hv:Rep E w v (.own i)) (hi:σ[i]? =some (some (.mp (encM enc l)))) (k:κ) (ok:Bool):
  ∃u,(Instr.lookup mt v (enc k) ok).run P w= .ok (if ok then .tuple #[u,.bool (lookM k l).isSome] else u) w∧Rep E w u ((lookM k l).getD (.raw z)):=by
 cases hv with
 |own _ hiL _ hat _=>
  obtain⟨r,es,ck,hr,hb,hheap,hkey,hval⟩:=hS.blk i _ hi
  rw[hat]at hr
  subst hr
  have hkey':es.toList.map (·.key)=(l.map (·.1)).map enc:=by rw[hkey];simp[encM]
  have hf:=run_find hK k w (l.map (·.1)) es.toList hkey'
  have hvl:(encM enc l).map (·.2)=l.map (·.2):=by simp[encM]
  rw[hvl]at hval
  have hlk:=lookM_find (k:=k) (l:=l)
  cases hfi:findI k (l.map (·.1)) 0 with
  |none=>
   rw[hfi]at hf hlk
   simp only[Option.bind_none]at hf hlk
   refine⟨z,?_,by rw[hlk];exact .raw z⟩
   simp only[Instr.lookup,Sem.run_bind,run_underlying (mapK_spec hm),Result.andThen_ok,MapKept.run_getObj_map hheap,Sem.run_pure,hK.chk,hf,run_zero hz,hlk]
   rfl
  |some j=>
   obtain⟨_,hj⟩:=findI_ge hfi
   simp only[Nat.sub_zero]at hj
   have hjl:j<l.length:=by have:=(List.getElem?_eq_some_iff.1 hj).1;simpa using this
   have hje:j<es.toList.length:=by have:=congrArg List.length hkey';simp at this;rw[Array.length_toList];omega
   rw[hfi]at hf hlk
   simp only[Option.bind_some,List.getElem?_eq_getElem hje,List.getElem?_eq_getElem hjl,Option.map_some]at hf hlk
   refine⟨es.toList[j].val,?_,?_⟩
   ·simp only[Instr.lookup,Sem.run_bind,run_underlying (mapK_spec hm),Result.andThen_ok,MapKept.run_getObj_map hheap,Sem.run_pure,hK.chk,hf,hlk]
    rfl
   ·rw[hlk]
    exact hval.2 j _ _ (by rw[List.getElem?_map,List.getElem?_eq_getElem hje];rfl) (by simp[hjl])
theorem y_look (hK:MapKey P kt enc) {i mt et:Nat} {x ix:Operand} {l:List (κ×PV)} {z:Value} {k:κ} {pk r:PV} (ho:o.op= .lookup mt x ix false) (hm:mapK P mt=some (kt,et)) (hz:zvK P et=some z) (hx:evalO t x=some (.own i)) (hi:σ[i]? =some (some (.mp (encM enc l)))) (hp:evalO t ix=some pk) (hk:KeyIs pk (enc k)) (hr:(lookM k l).getD (.raw z)=r):Yield P σ t o r:=by
 intro F base E ρ w hρ hS hT
 have h1:=evalO_rep hρ hT hx
 have h2:=hk _ _ _ (evalO_rep hρ hT hp)
 obtain⟨u,hu,hR⟩:=look_core hK hS hm hz h1 hi k false
 simp only[execOp,ho,h2,Sem.run_bind,hu,Result.andThen_ok,Sem.run_pure,Bool.false_eq_true,if_false]
 exact upon_val (by rw[←hr];exact hR)
theorem y_look2 (hK:MapKey P kt enc) {i mt et:Nat} {x ix:Operand} {l:List (κ×PV)} {z:Value} {k:κ} {pk r:PV} {q:Bool} (ho:o.op= .lookup mt x ix true) (hm:mapK P mt=some (kt,et)) (hz:zvK P et=some z) (hx:evalO t x=some (.own i)) (hi:σ[i]? =some (some (.mp (encM enc l)))) (hp:evalO t ix=some pk) (hk:KeyIs pk (enc k)) (hr:(lookM k l).getD (.raw z)=r) (hq:(lookM k l).isSome=q):Yield P σ t o (.tuple [r,.raw (.bool q)]):=by
 intro F base E ρ w hρ hS hT
 have h1:=evalO_rep hρ hT hx
 have h2:=hk _ _ _ (evalO_rep hρ hT hp)
 obtain⟨u,hu,hR⟩:=look_core hK hS hm hz h1 hi k true
 simp only[execOp,ho,h2,Sem.run_bind,hu,Result.andThen_ok,Sem.run_pure,if_true]
 refine upon_val (.tuple #[u,.bool (lookM k l).isSome] _ rfl fun i x p k1 k2=>?_)
 match i,k1,k2 with
 |0,k1,k2=>cases k1;cases k2;rw[←hr];exact hR
 |1,k1,k2=>cases k1;cases k2;rw[hq];exact .raw _
 |_+2,_,k2=>simp at k2
theorem set_getElem? {α:Type} (a:Array α) (i j:Nat) (v:α):(a.setIfInBounds i v)[j]? =if i=j∧i<a.size then some v else a[j]? :=by
 rw[Array.getElem?_setIfInBounds]
 by_cases h:i=j
 ·subst h
  by_cases h2:i<a.size
  ·simp[h2]
  ·simp[h2]
 ·simp[h]
theorem l_mapSet (hK:MapKey P kt enc) {i mt et:Nat} {x ix y:Operand} {l:List (κ×PV)} {k:κ} {pk p:PV} (ho:o.op= .mapUpdate mt x ix y) (hm:mapK P mt=some (kt,et)) (hx:evalO t x=some (.own i)) (hi:σ[i]? =some (some (.mp (encM enc l)))) (hp:evalO t ix=some pk) (hk:KeyIs pk (enc k)) (hy:evalO t y=some p):
  Loud P σ t o (.raw undef) (σ.set i (some (.mp (encM enc (setM k p l))))):=by
 intro F base E ρ w hρ hS hT
 have h1:=evalO_rep hρ hT hx
 have h2:=hk _ _ _ (evalO_rep hρ hT hp)
 have h3:=evalO_rep hρ hT hy
 generalize hz:ρ x=v at h1
 cases h1 with
 |own _ hiL _ hat _=>
  obtain⟨r,es,ck,hr,hb,hheap,hkey,hval⟩:=hS.blk i _ hi
  have hbk:blockOf (E.at_ i)=some r:=by rw[hr];rfl
  have hsz:r<w.heap.size:=(Array.getElem?_eq_some_iff.1 hheap).1
  rw[hat]at hr
  subst hr
  have hkey':es.toList.map (·.key)=(l.map (·.1)).map enc:=by rw[hkey];simp[encM]
  have hf:=run_find hK k w (l.map (·.1)) es.toList hkey'
  have hvl:(encM enc l).map (·.2)=l.map (·.2):=by simp[encM]
  rw[hvl]at hval
  have fin:∀(es':Array MapEntry) (ck':Nat),(Instr.mapUpdate mt (.map (some r)) (enc k) (ρ y)).run P w= .ok () {w with heap:=w.heap.setIfInBounds r (.map es' ck')}→
    es'.toList.map (·.key)=(setM k p l).map (fun a=>enc a.1)→RepL E w (es'.toList.map (·.val)) ((setM k p l).map (·.2))→
    ∃v w' E',((execOp ρ o).run P w= .ok (.value v) w'∨(v=undef∧(execOp ρ o).run P w= .ok .skip w'))∧Sat F base (σ.set i (some (.mp (encM enc (setM k p l))))) E' w'∧Goes E w E' w'∧Below base w w'∧Rep E' w' v (.raw undef):=fun es' ck' hrun hk' hv'=>by
   have oth:∀j,j<w.heap.size→j≠r→({w with heap:=w.heap.setIfInBounds r (.map es' ck')}:World).heap[j]? =w.heap[j]? :=fun j _ hj=>by
    show(w.heap.setIfInBounds r (.map es' ck'))[j]? =_
    rw[set_getElem?,if_neg (by rintro⟨rfl,_⟩;exact hj rfl)]
   have hs':w.heap.size≤({w with heap:=w.heap.setIfInBounds r (.map es' ck')}:World).heap.size:=by simp
   have hrM:E.M r:=(hS.mm r).2 (.inr ⟨i,_,hi,hbk⟩)
   have g:Goes E w E {w with heap:=w.heap.setIfInBounds r (.map es' ck')}:=⟨Nat.le_refl _,fun _ _=>rfl,fun _ _ h=>h,hs',fun j hj hM=>oth j hj (fun e=>hM (by rw[e];exact hrM))⟩
   have hn:=hS.turn (bi':=.mp (encM enc (setM k p l))) hi hbk hs' oth ⟨r,es',ck',hat,hb,by
     show(w.heap.setIfInBounds r (.map es' ck'))[r]? =_
     rw[set_getElem?,if_pos ⟨rfl,hsz⟩],by rw[hk'];simp[encM],by
     have:(encM enc (setM k p l)).map (·.2)=(setM k p l).map (·.2):=by simp[encM]
     rw[this];exact hv'.goes g⟩
   refine⟨undef,_,E,.inr ⟨rfl,?_⟩,hn.1,hn.2,⟨rfl,rfl,rfl,hs',fun j hj=>oth j (Nat.lt_of_lt_of_le hj hS.bl) (by omega)⟩,.raw _⟩
   simp only[execOp,ho,hz,h2,Sem.run_bind,hrun,Result.andThen_ok,Sem.run_pure]
  have hsm:=setM_find (k:=k) (p:=p) (l:=l)
  cases hfi:findI k (l.map (·.1)) 0 with
  |none=>
   rw[hfi]at hf hsm
   simp only[Option.bind_none]at hf hsm
   refine fin (es.push {key:=enc k,val:=ρ y,born:=ck}) (ck+1) ?_ ?_ ?_
   ·simp only[Instr.mapUpdate,Sem.run_bind,run_underlying (mapK_spec hm),Result.andThen_ok,MapKept.run_getObj_map hheap,hK.chk,hf,MapKept.run_setObj_map _ hheap]
   ·rw[hsm];simp[hkey',List.map_map,Function.comp_def]
   ·rw[hsm]
    simp only[Array.toList_push,List.map_append,List.map_cons,List.map_nil]
    exact hval.append (RepL.cons h3 (RepL.nil _ _))
  |some j=>
   obtain⟨_,hj⟩:=findI_ge hfi
   simp only[Nat.sub_zero]at hj
   have hjl:j<l.length:=by have:=(List.getElem?_eq_some_iff.1 hj).1;simpa using this
   have hje:j<es.toList.length:=by have:=congrArg List.length hkey';simp at this;rw[Array.length_toList];omega
   have hje':j<es.size:=by simpa using hje
   have hlj:l[j].1=k:=by have:=List.getElem?_eq_some_iff.1 hj;obtain⟨h,e⟩:=this;simpa using e
   have hkj:es[j].key=enc k:=by
    have:=congrArg (·[j]?) hkey'
    simp only[List.getElem?_map,List.getElem?_eq_getElem hje,List.getElem?_eq_getElem hjl,Option.map_some,Option.some.injEq,hlj]at this
    simpa using this
   rw[hfi]at hf hsm
   simp only[Option.bind_some,List.getElem?_eq_getElem hje,Option.map_some]at hf hsm
   refine fin (es.modify j fun e=> {e with key:=enc k,val:=ρ y}) ck ?_ ?_ ?_
   ·have hks:(Instr.keyThatStays ((Option.map (fun x=>x.key) es[j]?).getD (enc k)) (enc k)).run P w= .ok (enc k) w:=by
     rw[Array.getElem?_eq_getElem hje',Option.map_some,Option.getD_some,hkj]
     simp only[Instr.keyThatStays,hK.bits,if_true,Sem.run_pure]
    simp only[Instr.mapUpdate,Sem.run_bind,run_underlying (mapK_spec hm),Result.andThen_ok,MapKept.run_getObj_map hheap,hK.chk,hf,hks,MapKept.run_setObj_map _ hheap]
   ·rw[hsm]
    refine List.ext_getElem? fun n=>?_
    simp only[List.getElem?_map,Array.getElem?_toList,Array.getElem?_modify,List.getElem?_set]
    by_cases hn:j=n
    ·subst hn
     simp[hje',hjl]
    ·have:=congrArg (·[n]?) hkey'
     simp only[List.getElem?_map,Array.getElem?_toList]at this
     simp only[if_neg hn,this,Option.map_map,Function.comp_def]
   ·rw[hsm]
    have hR:=hval.set j h3
    have e1:(es.modify j fun e=> {e with key:=enc k,val:=ρ y}).toList.map (·.val)=(es.toList.map (·.val)).set j (ρ y):=by
     refine List.ext_getElem? fun n=>?_
     simp only[List.getElem?_map,Array.getElem?_toList,Array.getElem?_modify,List.getElem?_set]
     by_cases hn:j=n
     ·subst hn
      simp[hje']
     ·simp only[if_neg hn]
    have e2:(l.set j (k,p)).map (·.2)=(l.map (·.2)).set j p:=by rw[List.map_set]
    rw[e1,e2]
    exact hR
omit [DecidableEq κ] in
theorem l_makeMap {mt:TypeId} (enc:κ→Value) (ho:o.op= .makeMap mt none):Loud P σ t o (.own σ.length) (σ++[some (.mp (encM enc ([]:List (κ×PV))))]):=by
 intro F base E ρ w hρ hS hT
 have hr:(execOp ρ o).run P w= .ok (.value (.map (some w.heap.size))) (w.alloc (.map #[] 0)):=by
  simp[execOp,ho,Instr.makeMap]
 have hE:Ext w (w.alloc (.map #[] 0)):=(Ext.refl w).alloc _
 have hp:=hS.push hE (v:=.map (some w.heap.size)) (blk:=.mp (encM enc ([]:List (κ×PV)))) (fun b h=>by simp[blockOf]at h;omega) ⟨w.heap.size,#[],0,rfl,hS.bl,heap_alloc_new _ _,rfl,RepL.nil _ _⟩
 exact⟨_,_,_,.inl hr,hp.1,hp.2,Below.ofExt hE hS.bl,.own σ.length (by simp[Env.push,hS.len]) _ (by simp[Env.push,hS.len]) rfl⟩
end
section
variable {P:Program} {σ:Sto} {t:Tms} {o:Oper} {N L:Nat}
def noGo (Q:Exit→St→Prop):Exit→St→Prop
 | .goto _,_=>False
 |e,s=>Q e s
theorem W_scope {c:Code} {st:St} {Q:Exit→St→Prop} (h:W P N L c st (noGo Q)):W P N L (.scope c) st Q:=fun F base E₀ w₀ E a w hc hs=>by
 refine wp_scope_straight (wp_mono (h F base E₀ w₀ E a w hc hs) ?_)
 rintro e a' w' ⟨s,E',h1,h2⟩
 cases e with
 |goto l=>exact h1.elim
 |normal=>exact⟨s,E',h1,h2⟩
 |exit _=>exact⟨s,E',h1,h2⟩
 |ret=>exact⟨s,E',h1,h2⟩
 |panic _=>exact⟨s,E',h1,h2⟩
 |outgrown=>exact⟨s,E',h1,h2⟩
theorem W_label {l:Nat} {st:St} {Q:Exit→St→Prop} (h:Q .normal st):W P N L (.label l) st Q:=fun _ _ _ _ E _ _ hc hs=>wp_label ⟨st,E,h,hs,hc.g,hc.b⟩
theorem r_extract {x:Operand} {k:Nat} {xs:List PV} {p:PV} (ho:o.op= .extract x k) (hx:evalO t x=some (.tuple xs)) (hp:xs[k]? =some p):YieldR P t o p:=fun E ρ w hρ hT=>by
 have h1:=evalO_rep hρ hT hx
 generalize hz:ρ x=z at h1
 cases h1 with
 |tuple cs _ hl hr=>
  obtain⟨c,hcc,hcr⟩:=RepL.get (E:=E) (w:=w) (cs:=cs.toList) ⟨by simpa using hl,fun i x u h1 h2=>hr i x u (by simpa using h1) h2⟩ hp
  have hcc':cs[k]? =some c:=by simpa using hcc
  exact⟨c,fun w'=>by simp only[execOp,ho,hz,Instr.extract,hcc',Sem.run_bind,Sem.run_pure,Result.andThen_ok],hcr⟩
theorem y_min {x y:Operand} {ats:Array TypeId} {a b c:Int} (ho:o.op= .call {callee:=.builtin .min,args:= #[x,y],argTypes:=ats}) (hx:evalO t x=some (.raw (.int .i64 a))) (hy:evalO t y=some (.raw (.int .i64 b))) (hc:min a b=c):Yield P σ t o (.raw (.int .i64 c)):=by
 intro F base E ρ w hρ _ hT
 have h1:=evalO_rep hρ hT hx
 have h2:=evalO_rep hρ hT hy
 generalize hz:ρ x=z at h1
 generalize hz':ρ y=z' at h2
 cases h1
 cases h2
 have he:(if b<a then b else a)=c:=by rw[←hc];by_cases h:b<a<;>simp[h]<;>omega
 simp[execOp,ho,resolve,invoke,builtin,Builtin.min_,Builtin.min2,hz,hz',he]
 exact upon_val (.raw _)
def slK1 (P:Program) (ty:TypeId):Bool:=match P.underlying ty with|some (.slice _)=>true|_=>false
theorem slK1_spec {ty:TypeId} (h:slK1 P ty=true):∃e,P.underlying ty=some (.slice e):=by
 unfold slK1 at h
 split at h
 ·rename_i e hu;exact⟨e,hu⟩
 ·cases h
theorem y_isNil {x y:Operand} {ty tz:TypeId} (ho:o.op= .binOp .eql ty x y tz) (hk:slK1 P ty=true) (hx:evalO t x=some (.raw (.slice none 0 0))) (hy:evalO t y=some (.raw (.slice none 0 0))):Yield P σ t o (.raw (.bool true)):=by
 obtain⟨e,hu⟩:=slK1_spec hk
 refine y_bin ho hx hy fun w=>?_
 have:=Lib.run_eql_slice_nil w ty e none 0 0 0 0 hu
 have hg:∀a n c b m d,(eqGuard .eql ty x y (.slice a n c) (.slice b m d)).run P w= .ok () w:=fun _ _ _ _ _ _=>rfl
 simp only[Sem.run_bind,hg,Result.andThen_ok,this]
 rfl
theorem y_notNil {x y:Operand} {ty tz:TypeId} {n:Nat} {xs:List PV} (ho:o.op= .binOp .eql ty x y tz) (hk:slK1 P ty=true) (hx:evalO t x=some (.slice n xs)) (hy:evalO t y=some (.raw (.slice none 0 0))) (hn:0<n):Yield P σ t o (.raw (.bool false)):=by
 obtain⟨e,hu⟩:=slK1_spec hk
 intro F base E ρ w hρ _ hT
 have h1:=evalO_rep hρ hT hx
 have h2:=evalO_rep hρ hT hy
 generalize hz:ρ x=z at h1
 generalize hz':ρ y=z' at h2
 cases h2
 have hv:∃a c,z= .slice (some a) n c:=by
  cases h1 with
  |nils=>omega
  |empty=>omega
  |slice b off _ c cs _ h0=>exact⟨_,_,rfl⟩
 obtain⟨a,c,rfl⟩:=hv
 have:=Lib.run_eql_slice_nil w ty e (some a) n c 0 0 hu
 have hg:∀a n c b m d,(eqGuard .eql ty x y (.slice a n c) (.slice b m d)).run P w= .ok () w:=fun _ _ _ _ _ _=>rfl
 simp only[execOp,ho,hz,hz',Sem.run_bind,Sem.run_pure,Result.andThen_ok,hg,this]
 exact upon_val (.raw _)
end
end PW
end Go.Proofs.YtnegbdpggideiaaGreatDoor
