/- Texts of the proof, part 9. -/
import Derived.WideShapes
import Derived.Deep.AppendSrc
import Derived.Test.YtnegbdpggideiaaGreatDoorCardMPB8
namespace Go.Proofs.YtnegbdpggideiaaGreatDoor
set_option linter.unusedVariables false
set_option linter.unusedSimpArgs false
namespace PW
open Go.RowKit Reg Mem Net
section
variable {T:Topo} {D:List Bool}
theorem ch_walkF {d:Nat}:∀ {m:Nat} {q:List Int},Ch T D d m q→(q=[]∨overN T m=false)→walkE T false m q=0
 |m,[],_,_=>rfl
 |m,a::q,h,ho=>by
  cases h with
  | @cons _ b k _ ha ht hu hm hov hp=>
   rw[walk_step (arcB_iff.2 ⟨by omega,by omega⟩) (by rw[Int.toNat_natCast];exact ht) (.inr (by rcases ho with h|h;cases h;rw[Int.toNat_natCast];exact h)),Int.toNat_natCast,hm]
   exact ch_walkF hp hov
theorem ch_walk {d m:Nat} {q:List Int} (h:Ch T D d m q):walkE T true m q=0:=by
 cases h with
 |nil=>rfl
 | @cons _ b k q ha ht hu hm hov hp=>
  rw[walk_step (arcB_iff.2 ⟨by omega,by omega⟩) (by rw[Int.toNat_natCast];exact ht) (.inl rfl),Int.toNat_natCast,hm]
  exact ch_walkF hp hov
theorem Ch.bare {d m:Nat} {q:List Int} (h:Ch T D d m q):Ch T [] d m q:=by
 induction h with
 |nil=>exact .nil
 |cons ha ht hu hm ho hp ih=>exact .cons ha ht (by simp[downN]) hm ho ih
theorem Ch.mask {d m:Nat} {q:List Int} (h:Ch T [] d m q) (hc:∀a∈q,downN D a.toNat=false):Ch T D d m q:=by
 induction h with
 |nil=>exact .nil
 | @cons n a m p ha ht hu hm ho hp ih=>exact .cons ha ht (by have:=hc a (by simp);rw[Int.toNat_natCast]at this;exact this) hm ho (ih fun b hb=>hc b (by simp[hb]))
structure Stab (T:Topo) (D:List Bool) (x y:Nat) (p:List Int):Prop where
 valid:validB T=true
 fits:fitsB T D=true
 ne:x≠y
 hx:(x:Int)<T.nodes
 hy:(y:Int)<T.nodes
 uniq:uniqB T [] x y=true
 sp:SP T [] y x p
 up:∀a∈p,downN D a.toNat=false
theorem stab_of {x y:Int} (h:sgB T D x y=true):∃a b:Nat,x=(a:Int)∧y=(b:Int)∧Stab T D a b (spathL T [] a b)∧spE T [] x y=0:=by
 unfold sgB at h
 simp only[Bool.and_eq_true,Bool.not_eq_true',decide_eq_false_iff_not]at h
 obtain⟨⟨⟨⟨hv,hf⟩,hne⟩,hu⟩,hc⟩:=h
 obtain⟨a,b,rfl,rfl,ha,hb,_,hsp⟩:=spE_facts (uniq_sp hu)
 simp only[Int.toNat_natCast]at hsp hc
 exact⟨a,b,rfl,rfl,⟨hv,hf,fun e=>hne (by rw[e]),ha,hb,hu,hsp,clear_iff.1 hc⟩,uniq_sp hu⟩
variable {x y:Nat} {p:List Int}
theorem Stab.pos (h:Stab T D x y p):0<p.length:=by
 have hsp:=h.sp
 cases hsp with
 |nil=>exact absurd rfl h.ne
 |cons _ _ _=>simp
theorem Stab.fol (h:Stab T D x y p):Fol T D x p:=⟨h.valid,h.fits,nodeB_iff.2 ⟨by omega,h.hx⟩,ch_walk h.sp.ch,h.up⟩
theorem Stab.cnt (h:Stab T D x y p):cntS T [] y x=1:=(uniq_iff h.valid (fits_nil T) h.hx h.hy).1 h.uniq
theorem Stab.cov (h:Stab T D x y p):covB T [] x p 0 p.length=true:=by
 have he:endL T (x:Int) (p.take p.length)=(y:Int):=by rw[List.take_length];exact h.sp.ch.fin
 rw[cov_iff h.fol.bare (Nat.zero_le _) (Nat.le_refl _) (u:=x) rfl he]
 have:partL p 0 p.length=p:=by unfold partL;simp
 rw[this]
 exact⟨h.sp,h.cnt⟩
theorem Stab.part (h:Stab T D x y p) {i k:Nat} (hik:i≤k) (hk:k<p.length):sgB T D (tailN T (p.getD i 0).toNat) (headN T (p.getD k 0).toNat)=true:=by
 have hF:=h.fol
 have ha:=hF.arcs
 have hc:=cov_sub hF.bare (i:=0) (j:=p.length) (i':=i) (j':=k+1) (Nat.zero_le _) (by omega) (by omega) (Nat.le_refl _) h.cov
 obtain⟨u,hu,huN⟩:=end_node h.valid hF.node ha i (by omega)
 obtain⟨v,hv,hvN⟩:=end_node h.valid hF.node ha (k+1) (by omega)
 rw[part_tail hF (by omega) hu,←endL_step T x p k hk,hv]
 rw[←stands_cov hF (by omega) (by omega) hu hv,Bool.and_eq_true]at hc
 exact hc.1
theorem Stab.next (h:Stab T D x y p) {i u:Nat} (hi:i<p.length) (hu:endL T x (p.take i)=(u:Int)):nextL T [] u y=[p.getD i 0]∧nextL T D u y=[p.getD i 0]∧(u:Int)<T.nodes:=by
 have hF:=h.fol
 have hv:=h.valid
 have ha:=hF.arcs
 obtain⟨u',hu',huN⟩:=end_node hv hF.node ha i (by omega)
 have:u'=u:=by omega
 subst this
 have hfin:endL T (x:Int) (p.take p.length)=(y:Int):=by rw[List.take_length];exact h.sp.ch.fin
 have hch:=hF.bare.ch (i:=0) (j:=i) (Nat.zero_le _) (by omega) (u:=x) rfl hu
 have hpp:partL p 0 i++partL p i p.length=p:=by rw[←part_split p (Nat.zero_le _) (by omega)];unfold partL;simp
 have hsp:=h.sp
 rw[←hpp]at hsp
 obtain⟨s1,s2⟩:=hsp.suffix hv h.hy h.cnt hch
 have hdr:partL p i p.length=p.getD i 0::p.drop (i+1):=by
  unfold partL
  rw[List.take_of_length_le (by simp),drop_cons p i hi]
 rw[hdr]at s1
 have hup:∀c∈p.getD i 0::p.drop (i+1),downN D c.toNat=false:=fun c hc=>by
  rw[←drop_cons p i hi]at hc
  exact h.up c (List.mem_of_mem_drop hc)
 have hchD:=s1.ch.mask hup
 have hd0:=s1.cost hv h.hy
 generalize p.getD i 0=a0 at*
 generalize p.drop (i+1)=q at*
 cases s1 with
 | @cons _ a m _ hn hm hq=>
  obtain⟨b,hb,_,_⟩:=cnt_one hv h.hy huN hn.ne s2
  have hab:=next_of hn ((sound_of hv).cost a hn.arc).1
  rw[hb]at hab
  simp only[List.mem_singleton]at hab
  rw[←hab]at hb
  refine⟨hb,?_,huN⟩
  have hDle:=hchD.le hv h.hy
  have mono:∀k:Nat,(k:Int)<T.nodes→0≤dN T D y k→0≤dN T [] y k∧dN T [] y k≤dN T D y k:=fun k hk h0=>by
   have hs:=spath_sp hv h.hy hk h0
   have:=hs.ch.bare.le hv h.hy
   rw[←(hs.cost hv h.hy).1]at this
   exact this
  have hmu:=mono u' huN hDle.1
  have heq:dN T D y u'=dN T [] y u':=by omega
  have hall:∀c∈nextL T D u' y,c=(a:Int):=fun c hc=>by
   obtain⟨k,rfl,hk⟩:=next_mem hc
   obtain⟨z,hz,hzN⟩:=head_nat hv hk.arc
   have g:=hk.dN hz
   have g2:=mono z hzN g.1
   have hs:=spath_sp (D:=[]) hv h.hy hzN g2.1
   have hch2:Ch T [] y u' ((k:Int)::spathL T [] z y):=.cons hk.arc hk.tail (by simp[downN]) hz (by
    rcases hk.pass with e|e
    ·left
     have:z=y:=by omega
     subst this
     exact hs.self
    ·right
     rw[hz,Int.toNat_natCast]at e
     exact e) hs.ch
   have g3:=hch2.le hv h.hy
   rw[costL_cons,←(hs.cost hv h.hy).1,Int.toNat_natCast]at g3
   have hnr:Nearer T [] u' y k:=⟨hk.arc,hk.tail,by simp[downN],hk.ne,by rw[hz,Int.toNat_natCast];exact g2.1,hk.pass,by
    rw[hz,Int.toNat_natCast]
    show dN T [] y u'=dN T [] y z+costN T k
    omega⟩
   have:=next_of hnr ((sound_of hv).cost k hk.arc).1
   rw[hb]at this
   simpa using this
  obtain⟨k,hk⟩:=next_ex (D:=D) hv huN h.hy hn.ne hDle.1
  have hmem:=next_of hk ((sound_of hv).cost k hk.arc).1
  have hso:=next_sorted T D u' y
  cases hx:nextL T D u' y with
  |nil=>rw[hx]at hmem;cases hmem
  |cons c l=>
   rw[hx]at hall hso
   have hc:=hall c (by simp)
   subst hc
   cases l with
   |nil=>rfl
   |cons c2 l=>
    have:=hall c2 (by simp)
    have h3:=(List.pairwise_cons.1 hso).1 c2 (by simp)
    omega
end
end PW
end Go.Proofs.YtnegbdpggideiaaGreatDoor

namespace Go.Proofs.YtnegbdpggideiaaGreatDoor
set_option linter.unusedVariables false
set_option linter.unusedSimpArgs false
namespace PW
open Go.RowKit Reg Mem Net
def ringL (k:Nat):List Lnk:=(List.range k).map fun(i:Nat)=>⟨(i:Int),(((i+1) % 4:Nat):Int),1,1,0,1,0⟩
def ringT:Topo:=⟨4,[],ringL 4⟩
def ringD (d:Nat):List Int:=match d with
 |0=>[0,1,2,1]
 |1=>[1,0,1,2]
 |2=>[2,1,0,1]
 |_=>[1,2,1,0]
theorem ring_valid:validB ringT=true:=by kernel_rfl
def wayB (T:Topo) (n:Nat) (out:List Int) (a:Nat):Bool:=decide (0≤at' out (arcY T false a))&&(decide (arcY T false a=(n:Int))|| !overN T (arcY T false a).toNat)
theorem way_iff (n:Nat) (out:List Int) (a:Nat):Net.Way ringT [] n false out a↔wayB ringT n out a=true:=by
 unfold Net.Way wayB
 have:downN [] a=false:=by simp[downN]
 simp[this]
theorem lnksP_snoc (l:List Lnk) (e:Lnk):lnksP l++lnkP e=lnksP (l++[e]):=by simp[lnksP]
theorem ringL_step (k:Nat):ringL (k+1)=ringL k++[⟨(k:Int),(((k+1) % 4:Nat):Int),1,1,0,1,0⟩]:=by simp[ringL,List.range_succ]
theorem y_build2 {P:Program} {σ:Sto} {t:Tms} {o:Oper} {ty:TypeId} {v0 v1 c0 c1:Value} (ho:o.op= .build ty #[(0,.const v0),(1,.const v1)]) (hb:P.built ty [(0,v0),(1,v1)]=some #[c0,c1]):Yield P σ t o (.agg [.raw c0,.raw c1]):=by
 intro F base E ρ w hρ hS hT
 have hrun:=run_build (P:=P) w ty #[(0,v0),(1,v1)] #[c0,c1] hb
 have h0:ρ (.const v0)=v0:=hρ.const v0
 have h1:ρ (.const v1)=v1:=hρ.const v1
 have hr:(execOp ρ o).run P w= .ok (.value (.agg #[c0,c1])) w:=by
  simp only[execOp,ho,Sem.run_bind,List.map_toArray,List.map_cons,List.map_nil,h0,h1,hrun,Result.andThen_ok,Sem.run_pure]
 rw[hr]
 refine upon_val (.agg #[c0,c1] _ rfl (fun i x u k1 k2=>?_))
 match i,k1,k2 with
 |0,k1,k2=>simp at k1 k2;subst k1;subst k2;exact .raw _
 |1,k1,k2=>simp at k1 k2;subst k1;subst k2;exact .raw _
 |_+2,k1,k2=>simp at k2
end PW
end Go.Proofs.YtnegbdpggideiaaGreatDoor

namespace Go.Proofs.YtnegbdpggideiaaGreatDoor
set_option linter.unusedVariables false
set_option linter.unusedSimpArgs false
namespace PW
open Go.RowKit Reg Mem Net
end PW
end Go.Proofs.YtnegbdpggideiaaGreatDoor

namespace Go.Proofs.YtnegbdpggideiaaGreatDoor
set_option linter.unusedVariables false
set_option linter.unusedSimpArgs false
namespace PW
open Go.RowKit Reg Mem Net
section
variable {P:Program} {σ:Sto} {t:Tms} {o:Oper}
theorem CanS.nils {f:FuncId} {a:PV} {l:List PV} {R:PV→Sto→Prop} (h:CanS P f (a::boolsV []::l) σ R):CanS P f (a:: .raw (.slice none 0 0)::l) σ R:=fun F base E w vs hS hR=>by
 refine h F base E w vs hS ⟨hR.1,fun i c u h1 h2=>?_⟩
 match i,h2 with
 |0,h2=>exact hR.2 0 c u h1 h2
 |1,h2=>
  simp at h2
  subst h2
  have:=hR.2 1 c _ h1 rfl
  cases this
  exact .nils
 |i+2,h2=>exact hR.2 (i+2) c u h1 h2
end
end PW
end Go.Proofs.YtnegbdpggideiaaGreatDoor

namespace Go.Proofs.YtnegbdpggideiaaGreatDoor
set_option linter.unusedVariables false
set_option linter.unusedSimpArgs false
namespace PW
open Go.RowKit Reg Mem Net
def nextC (T:Topo) (D:List Bool) (L:List Int) (m d:Nat):List Int:=if m=d∨L.getD m 0<0 then [] else passL T D L (L.getD m 0) d (outL T m)
def cntC (T:Topo) (D:List Bool) (L:List Int) (d:Nat):Nat→Nat→Int
 |0,m=>if m=d then 1 else 0
 |f+1,m=>if m=d then 1 else(nextC T D L m d).foldl (fun c a=>min 2 (c+cntC T D L d f (headN T a.toNat).toNat)) 0
def covC (y u:Nat) (c:Int):Bool:=decide ((ringD y).getD u 0=c)&&(decide (nodeE ringT [] (u:Int) (y:Int)=0)&&decide (cntC ringT [] (ringD y) y ((ringD y).getD u 0).toNat u=1))
end PW
end Go.Proofs.YtnegbdpggideiaaGreatDoor

namespace Go.Proofs.YtnegbdpggideiaaGreatDoor
set_option linter.unusedVariables false
set_option linter.unusedSimpArgs false
namespace PW
open Go.RowKit Reg Mem Net
instance (l:List Seg):IsFlatL (segsP l):=⟨fun i u h=>by
 obtain⟨s,_,hs⟩:=List.mem_flatMap.1 (List.mem_of_getElem? h)
 simp only[segP,List.mem_cons,List.not_mem_nil,or_false]at hs
 rcases hs with rfl|rfl
 ·infer_instance
 ·infer_instance⟩
end PW
end Go.Proofs.YtnegbdpggideiaaGreatDoor

namespace Go.Proofs.YtnegbdpggideiaaGreatDoor
set_option linter.unusedVariables false
set_option linter.unusedSimpArgs false
namespace PW
open Go.RowKit Reg Mem Net
section
variable {H:Type} {enc:TypeId×Value→H} {W:World}
end
end PW
end Go.Proofs.YtnegbdpggideiaaGreatDoor

namespace Go.Proofs.YtnegbdpggideiaaGreatDoor
set_option linter.unusedVariables false
set_option linter.unusedSimpArgs false
namespace PW
open Go.RowKit Reg Mem Net Go.WideShapes
structure Cas where
 T:Topo
 D:List Bool
 n:Int
 p:List Int
 l:List Seg
def casP (c:Cas):List PV:=topoP c.T++[boolsV c.D,num c.n,intsV c.p,segsV c.l]
def casV (c:Cas):PV:=.agg (casP c)
instance (c:Cas):IsPureL (casP c):=by unfold casP;unfold topoP;simp only[List.cons_append,List.nil_append];infer_instance
instance (c:Cas):IsPure (casV c):=by unfold casV;infer_instance
section
variable {H:Type} {enc:TypeId×Value→H} {W:World}
set_option maxRecDepth 10000 in
theorem rd_topo3 {n:Nat} {cs:List Value} {y:DataW H×List MemPlace} (h:DataW.trod enc Tryz.prog W 0 (fun _=>true) true n 25 cs=some y) (hl:cs.length=3):∃T:Topo,RepL EN W cs (topoP T):=by
 have c0':Tryz.prog.cellsOf 3=1:=by kernel_rfl
 have c1':Tryz.prog.cellsOf 22=1:=by kernel_rfl
 have c2':Tryz.prog.cellsOf 23=1:=by kernel_rfl
 obtain⟨xs,m,_,_,_,hlen,hf⟩:=DataW.trod_struct Tryz.underlying25 h
 match cs,hl with
 | [c0,c1,c2],_=>
  match xs,hlen with
  | [y0,y1,y2],_=>
   have f0:DataW.trod enc Tryz.prog W 0 (fun _=>true) true m 3 (([c0,c1,c2].drop 0).take (Tryz.prog.cellsOf 3))=some y0:=hf 0 _ rfl
   rw[c0']at f0
   have f1:DataW.trod enc Tryz.prog W 0 (fun _=>true) true m 22 (([c0,c1,c2].drop 1).take (Tryz.prog.cellsOf 22))=some y1:=hf 1 _ rfl
   rw[c1']at f1
   have f2:DataW.trod enc Tryz.prog W 0 (fun _=>true) true m 23 (([c0,c1,c2].drop 2).take (Tryz.prog.cellsOf 23))=some y2:=hf 2 _ rfl
   rw[c2']at f2
   obtain⟨a,ha⟩:=rd_int f0
   obtain⟨B,hB⟩:=rd_bools f1
   obtain⟨L,hL⟩:=rd_slice (f:=lnkP) (s:=7) Tryz.underlying23 (by kernel_rfl) (by omega) (fun n cs y hy hl=>rd_link hy hl) f2
   simp at ha
   subst ha
   exact⟨⟨a,B,L⟩,RepL.cons (.raw _)<|RepL.cons hB<|RepL.cons hL (RepL.nil _ _)⟩
end
end PW
end Go.Proofs.YtnegbdpggideiaaGreatDoor

namespace Go.Proofs.YtnegbdpggideiaaGreatDoor
set_option linter.unusedVariables false
set_option linter.unusedSimpArgs false
namespace PW
open Go.RowKit Reg Mem Net Go.WideShapes
structure Qry where
 T:Topo
 D:List Bool
 x:Int
 y:Int
def qryP (c:Qry):List PV:=topoP c.T++[boolsV c.D,num c.x,num c.y]
def qryV (c:Qry):PV:=.agg (qryP c)
instance (c:Qry):IsPureL (qryP c):=by unfold qryP;unfold topoP;simp only[List.cons_append,List.nil_append];infer_instance
instance (c:Qry):IsPure (qryV c):=by unfold qryV;infer_instance
structure Wy where
 T:Topo
 D:List Bool
 p:List Int
 n:Int
def wyP (c:Wy):List PV:=topoP c.T++[boolsV c.D,intsV c.p,num c.n]
def wyV (c:Wy):PV:=.agg (wyP c)
instance (c:Wy):IsPureL (wyP c):=by unfold wyP;unfold topoP;simp only[List.cons_append,List.nil_append];infer_instance
instance (c:Wy):IsPure (wyV c):=by unfold wyV;infer_instance
section
variable {H:Type} {enc:TypeId×Value→H} {W:World}
end
end PW
end Go.Proofs.YtnegbdpggideiaaGreatDoor

namespace Go.Proofs.YtnegbdpggideiaaGreatDoor
set_option linter.unusedVariables false
set_option linter.unusedSimpArgs false
namespace PW
open Go.RowKit Reg Mem Net
end PW
end Go.Proofs.YtnegbdpggideiaaGreatDoor

namespace Go.Proofs.YtnegbdpggideiaaGreatDoor
set_option linter.unusedVariables false
set_option linter.unusedSimpArgs false
namespace PW
open Go.RowKit Reg Mem Net
theorem Ch.ups {T:Topo} {D:List Bool} {d m:Nat} {q:List Int} (h:Ch T D d m q):∀a∈q,downN D a.toNat=false:=by
 induction h with
 |nil=>intro z hz;cases hz
 | @cons n a m p ha ht hu hm ho hp ih=>
  intro z hz
  rcases List.mem_cons.1 hz with rfl|hz
  ·rw[Int.toNat_natCast];exact hu
  ·exact ih z hz
theorem lst_pos {T:Topo} {D:List Bool} {n:Int} {p:List Int} (hp:0<p.length):0<(lstL T D n p).length:=by
 unfold lstL
 obtain⟨f,hf⟩:∃f,p.length=f+1:=⟨p.length - 1,by omega⟩
 rw[hf]
 simp only[lstF]
 rw[if_pos (by omega)]
 cases topD (covB T D n p 0) 0 p.length<;>simp
end PW
end Go.Proofs.YtnegbdpggideiaaGreatDoor

namespace Go.Proofs.YtnegbdpggideiaaGreatDoor
set_option linter.unusedVariables false
set_option linter.unusedSimpArgs false
namespace PW
open Go.RowKit Reg Mem Net
def cutL:List Seg→List Seg
 | []=>[]
 |s::l=>if s.kind=2 then l else s::l
noncomputable def entX (T:Topo) (D:List Bool) (n d:Int):Ent:=
 if spE T D n d=0∧n≠d then⟨[(spathL T D n.toNat d.toNat).getD 0 0],true,cutL (lstL T [] n (spathL T D n.toNat d.toNat))⟩ else⟨[],false,[]⟩
structure Pth (T:Topo) (D:List Bool) (x y:Nat) (p:List Int):Prop where
 valid:validB T=true
 fits:fitsB T D=true
 ne:x≠y
 hx:(x:Int)<T.nodes
 hy:(y:Int)<T.nodes
 sp:SP T D y x p
theorem pth_of {T:Topo} {D:List Bool} {n d:Int} (h:spE T D n d=0) (hne:n≠d):∃a b:Nat,n=(a:Int)∧d=(b:Int)∧Pth T D a b (spathL T D a b):=by
 have hf:fitsB T D=true:=by
  have h':=h
  unfold spE at h'
  split at h'
  ·rename_i h1;exact(nodeE_zero h1).2.1
  ·rename_i h1;exact absurd h' h1
 obtain⟨a,b,rfl,rfl,ha,hb,hv,hsp⟩:=spE_facts h
 simp only[Int.toNat_natCast]at hsp
 exact⟨a,b,rfl,rfl,hv,hf,fun e=>hne (by rw[e]),ha,hb,hsp⟩
section
variable {T:Topo} {D:List Bool} {x y:Nat} {p:List Int}
theorem Pth.pos (h:Pth T D x y p):0<p.length:=by
 have hsp:=h.sp
 cases hsp with
 |nil=>exact absurd rfl h.ne
 |cons _ _ _=>simp
theorem Pth.fol (h:Pth T D x y p):Fol T D x p:=⟨h.valid,h.fits,nodeB_iff.2 ⟨by omega,h.hx⟩,ch_walk h.sp.ch,h.sp.ch.ups⟩
theorem Pth.zero (h:Pth T D x y p):folE T D x p=0:=fol_zero h.fol
theorem Pth.len (h:Pth T D x y p):(p.length:Int)<T.nodes:=h.sp.len_lt h.valid h.hy
theorem Pth.head (h:Pth T D x y p):p.getD 0 0∈nextL T D x y:=by
 have hsp:=h.sp
 cases hsp with
 |nil=>exact absurd rfl h.ne
 | @cons n a m q h1 hm hq=>exact next_of h1 ((sound_of h.valid).cost a h1.arc).1
theorem Pth.near (h:Pth T D x y p):∃a:Nat,p.getD 0 0=(a:Int)∧Nearer T D x y a:=next_mem h.head
theorem Pth.lst (h:Pth T D x y p):0<(lstL T [] x p).length∧(lstL T [] x p).length≤p.length:=⟨lst_pos h.pos,lst_len _ _⟩
theorem Pth.ck (h:Pth T D x y p):ckE T D (lstL T [] x p) x p=true:=by
 have hF:=h.fol
 unfold ckE
 rw[if_pos h.zero,ck_iff hF.bare _ 0 (Nat.zero_le _),Bool.and_eq_true]
 exact⟨ex_lst hF.bare _ 0 (Nat.zero_le _) (by omega),deg_lst hF.bare _ 0 (Nat.zero_le _)⟩
theorem lst_head {n:Int} (hp:0<p.length):∃s l,lstL T [] n p=s::l∧(s.kind=1∨s=⟨2,p.getD 0 0⟩):=by
 unfold lstL
 obtain⟨f,hf⟩:∃f,p.length=f+1:=⟨p.length - 1,by omega⟩
 rw[hf]
 simp only[lstF]
 rw[if_pos (by omega)]
 cases topD (covB T [] n p 0) 0 p.length with
 |none=>exact⟨_,_,rfl,.inr rfl⟩
 |some j=>exact⟨_,_,rfl,.inl rfl⟩
theorem cut_len (l:List Seg):(cutL l).length≤l.length:=by
 cases l with
 |nil=>simp[cutL]
 |cons s l=>simp only[cutL];split<;>simp
theorem cut_mem {l:List Seg} {s:Seg} (h:s∈cutL l):s∈l:=by
 cases l with
 |nil=>cases h
 |cons a l=>simp only[cutL]at h;split at h<;>simp_all
theorem lst_ok (hF:Fol T D x p):∀(f i:Nat),∀s∈lstF T [] x p f i,segB T s=true
 |0,i,s,hs=>by simp[lstF]at hs
 |f+1,i,s,hs=>by
  simp only[lstF]at hs
  split at hs
  ·rename_i hi
   cases ht:topD (covB T [] x p i) i p.length with
   |none=>
    rw[ht]at hs
    simp only[List.mem_cons]at hs
    rcases hs with rfl|hs
    ·unfold segB;simp only[if_neg (show ¬(2:Int)=1 by decide),if_pos rfl];exact hF.arcs _ (getD_mem hi)
    ·exact lst_ok hF f (i+1) s hs
   |some j=>
    rw[ht]at hs
    simp only[List.mem_cons]at hs
    obtain⟨h1,h2,h3,h4⟩:=topD_is _ _ ht
    rcases hs with rfl|hs
    ·obtain⟨u,hu,huN⟩:=end_node hF.valid hF.node hF.arcs j h2
     unfold segB;simp only[if_pos rfl];rw[hu];exact nodeB_iff.2 ⟨by omega,huN⟩
    ·exact lst_ok hF f j s hs
  ·cases hs
theorem Pth.whole (h:Pth T D x y p):ckE T D (cutL (lstL T [] x p)) x p=true∨ckE T D (⟨2,p.getD 0 0⟩::cutL (lstL T [] x p)) x p=true:=by
 obtain⟨s,l,hl,hs⟩:=lst_head (T:=T) (n:=(x:Int)) h.pos
 have hc:=h.ck
 rw[hl]at hc ⊢
 rcases hs with hs|rfl
 ·left
  simp only[cutL]
  rw[if_neg (by omega)]
  exact hc
 ·right
  exact hc
end
theorem ent_yes {T:Topo} {D:List Bool} {x y:Nat} (h:Pth T D x y (spathL T D x y)):entX T D x y=⟨[(spathL T D x y).getD 0 0],true,cutL (lstL T [] x (spathL T D x y))⟩:=by
 unfold entX
 rw[if_pos]
 ·simp only[Int.toNat_natCast]
 ·refine⟨?_,fun e=>h.ne (by omega)⟩
  rw[spE_zero h.valid h.fits h.hx h.hy,if_neg]
  have:=(h.sp.cost h.valid h.hy).2
  omega
theorem ent_no {T:Topo} {D:List Bool} {n d:Int} (h:¬(spE T D n d=0∧n≠d)):entX T D n d=⟨[],false,[]⟩:=if_neg h
theorem ent_cases (T:Topo) (D:List Bool) (n d:Int):(entX T D n d=⟨[],false,[]⟩∧¬(spE T D n d=0∧n≠d))∨∃a b:Nat,n=(a:Int)∧d=(b:Int)∧Pth T D a b (spathL T D a b)∧entX T D n d=⟨[(spathL T D a b).getD 0 0],true,cutL (lstL T [] a (spathL T D a b))⟩:=by
 by_cases h:spE T D n d=0∧n≠d
 ·obtain⟨a,b,rfl,rfl,hp⟩:=pth_of h.1 h.2
  exact .inr ⟨a,b,rfl,rfl,hp,ent_yes hp⟩
 ·exact .inl ⟨ent_no h,h⟩
theorem ent_push (T:Topo) (D:List Bool) (n d:Int) (h12:T.nodes≤12):(entX T D n d).push.length≤32:=by
 rcases ent_cases T D n d with⟨h,_⟩|⟨a,b,rfl,rfl,hp,h⟩
 ·rw[h];simp
 ·rw[h]
  have:=cut_len (lstL T [] a (spathL T D a b))
  have:=hp.lst.2
  have:=hp.len
  show(cutL _).length≤32
  omega
theorem ent_ok (T:Topo) (D:List Bool) (n d:Int) (h12:T.nodes≤12):entOK T n d (entX T D n d)=true:=by
 have hpl:=ent_push T D n d h12
 rcases ent_cases T D n d with⟨h,_⟩|⟨a,b,rfl,rfl,hp,h⟩
 ·rw[h]
  unfold entOK
  have:leaveB T n []=true:=decide_eq_true fun i hi=>by simp at hi
  simp only[this]
  simp
 ·rw[h]at hpl ⊢
  obtain⟨k,hk,hn⟩:=hp.near
  have h1:leaveB T (a:Int) [(spathL T D a b).getD 0 0]=true:=leave_of (by simp) fun c hc=>by
   simp only[List.mem_singleton]at hc
   subst hc
   rw[hk]
   exact⟨arcB_iff.2 ⟨by omega,by have:=hn.arc;omega⟩,by rw[Int.toNat_natCast];exact hn.tail⟩
  have h2:decide (((b:Nat):Int)=(a:Int))=false:=decide_eq_false (by have:=hp.ne;omega)
  have h3:(cutL (lstL T [] a (spathL T D a b))).all (segB T)=true:=List.all_eq_true.2 fun s hs=>lst_ok hp.fol _ 0 s (cut_mem hs)
  unfold entOK
  simp only[h1,h2,h3,if_true]
  simp only[Bool.true_and,Bool.false_and,Bool.not_false,Bool.and_true,Bool.and_eq_true,decide_eq_true_eq]
  exact⟨rfl,by have:(cutL (lstL T [] a (spathL T D a b))).length≤32:=hpl;omega⟩
noncomputable def trnL (T:Topo) (D:List Bool) (n:Int) (k:Nat):List Ent:=(List.range k).map fun(d:Nat)=>entX T D n (d:Int)
theorem trnL_len (T:Topo) (D:List Bool) (n:Int) (k:Nat):(trnL T D n k).length=k:=by simp[trnL]
theorem trnL_get {T:Topo} {D:List Bool} {n:Int} {k d:Nat} (h:d<k):(trnL T D n k)[d]? =some (entX T D n (d:Int)):=by simp[trnL,h]
theorem toL_get {T:Topo} {D:List Bool} {n k d:Nat} (h:d<k):(toL T D n k)[d]? =some ⟨nextL T D n d,false,[]⟩:=by simp[toL,h]
noncomputable def trnT (T:Topo) (D:List Bool) (n:Nat):Tab:=⟨n,trnL T D n T.nodes.toNat,downL D (outL T n)⟩
theorem trn_valid {T:Topo} {D:List Bool} (hv:validB T=true) (h12:T.nodes≤12) {n:Nat} (hn:(n:Int)<T.nodes):tabOK T (trnT T D n)=true:=by
 unfold tabOK trnT
 have h1:nodeB T (n:Int)=true:=nodeB_iff.2 ⟨by omega,hn⟩
 have hN:=(sound_of hv).nodes
 have h2:decide (((trnL T D n T.nodes.toNat).length:Int)=T.nodes)=true:=decide_eq_true (by rw[trnL_len];omega)
 have h3:leaveB T n (downL D (outL T n))=true:=leave_out T n _
 have h4:entsOK T n (trnL T D n T.nodes.toNat)=true:=entsOK_all fun d e he=>by
  have hd:d<T.nodes.toNat:=by
   have:=(List.getElem?_eq_some_iff.1 he).1
   rwa [trnL_len]at this
  rw[trnL_get hd]at he
  cases he
  exact ent_ok T D n d h12
 rw[hv,h1,h2,h3,h4]
 rfl
theorem Stab.same {T:Topo} {D:List Bool} {x y:Nat} {p:List Int} (h:Stab T D x y p):spathL T D x y=p∧Pth T D x y p∧lstL T [] x p=[⟨1,(y:Int)⟩]:=by
 have hv:=h.valid
 have hch:=h.sp.ch.mask h.up
 have h1:=hch.le hv h.hy
 have h0:=h.sp.cost hv h.hy
 have hq:=spath_sp (D:=D) hv h.hy h.hx h1.1
 have hqc:=hq.cost hv h.hy
 have hqb:=hq.ch.bare
 have h2:=hqb.le hv h.hy
 have hq':=hqb.sp hv h.hy (by omega)
 have he:spathL T D x y=p:=hq'.unique hv h.hy h.sp h.cnt
 have hP:Pth T D x y p:=⟨hv,h.fits,h.ne,h.hx,h.hy,by rw[←he];exact hq⟩
 refine⟨he,hP,?_⟩
 unfold lstL
 obtain⟨f,hf⟩:∃f,p.length=f+1:=⟨p.length - 1,by have:=h.pos;omega⟩
 rw[hf,lst_some (j:=p.length) h.pos h.pos (Nat.le_refl _) h.cov (fun k h3 h4=>by omega),lst_end _ _ (Nat.le_refl _),List.take_length,h.sp.ch.fin]
theorem Stab.ent {T:Topo} {D:List Bool} {x y:Nat} {p:List Int} (h:Stab T D x y p):nextL T [] x y=[p.getD 0 0]∧nextL T D x y=[p.getD 0 0]∧entX T D x y=⟨[p.getD 0 0],true,[⟨1,(y:Int)⟩]⟩:=by
 obtain⟨h1,h2,h3⟩:=h.same
 obtain⟨h4,h5,_⟩:=h.next (i:=0) h.pos (u:=x) rfl
 refine⟨h4,h5,?_⟩
 rw[←h1]at h2
 rw[ent_yes h2,h1,h3]
 rfl
end PW
end Go.Proofs.YtnegbdpggideiaaGreatDoor

namespace Go.Proofs.YtnegbdpggideiaaGreatDoor
set_option linter.unusedVariables false
set_option linter.unusedSimpArgs false
namespace PW
open Go.RowKit Reg Mem Net Rng
section
variable {P:Program} {σ:Sto} {t:Tms} {o:Oper} {N L:Nat} {ops:Array Oper}
theorem WR_nilq {rest:List Oper} {K:St→Prop} {d:Nat} {x y:Operand} {ty tz:TypeId} {xs:List PV} (ho:o.op= .binOp .eql ty x y tz) (hk:slK1 P ty=true) (hx:evalO t x=some (.slice 0 xs)) (hy:evalO t y=some (.raw (.slice none 0 0))) (hd:o.dst=some d) (hw:wantB ops t o=some true) (hN:Nat.blt d N=true)
  (h:∀b,WR P N L ops rest ⟨(d,.raw (.bool b))::t,σ⟩ K):WR P N L ops (o::rest) ⟨t,σ⟩ K:=by
 refine WR_step hw fun F base E a w hs next Q hn=>?_
 obtain⟨e,hu⟩:=slK1_spec hk
 have h1:=evalO_rep (isEval a) hs.tmp hx
 have h2:=evalO_rep (isEval a) hs.tmp hy
 generalize hz:a.eval x=z at h1
 generalize hz':a.eval y=z' at h2
 cases h2
 obtain⟨p,c,rfl,_,_⟩:=rep_cap h1
 have hrun:=Lib.run_eql_slice_nil w ty e p 0 c 0 0 hu
 have hg:∀a n c b m d,(eqGuard .eql ty x y (.slice a n c) (.slice b m d)).run P w= .ok () w:=fun _ _ _ _ _ _=>rfl
 have hU:StepUpon P w (fun v w'=>Rep E w' v (.raw (.bool p.isNone))) ((execOp a.eval o).run P w):=by
  simp only[execOp,ho,hz,hz',Sem.run_bind,Sem.run_pure,Result.andThen_ok,hg,hrun]
  exact upon_val (.raw _)
 refine upon_of hU fun v w' hE hv=>hn _ _ _ E (h p.isNone) ?_ (.ext hE) (Below.ofExt hE hs.sat.bl)
 rw[hd]
 exact hs.put (hs.sat.ext hE) (.ext hE) hN hv
theorem y_sliceMax {ty e s n h:Nat} {x hi' mx:Operand} {xs:List PV} {k k':IntKind} {hii mi:Int} (ho:o.op= .slice ty x none (some hi') (some mx)) (he:elK P ty=some (e,s)) (hx:evalO t x=some (.slice n xs)) (hhi:evalO t hi'=some (.raw (.int k hii))) (hmx:evalO t mx=some (.raw (.int k' mi))) (hxl:xs.length=n*s) (hli:hii=(h:Int)) (hmi:mi=(h:Int)) (hl:h≤n):
  Yield P σ t o (.slice h (xs.take (h*s))):=by
 intro F base E ρ w hρ hS hT
 have h1:=evalO_rep hρ hT hx
 have h2:=evalO_rep hρ hT hhi
 have h3:=evalO_rep hρ hT hmx
 obtain⟨hu,i,hi,hs⟩:=elK_spec he
 generalize hz:ρ x=v at h1
 generalize hz':ρ hi'=u at h2
 generalize hz2:ρ mx=u2 at h3
 cases h2
 cases h3
 subst hli
 subst hmi
 obtain⟨a,c,rfl,hc1,hc2⟩:=rep_cap h1
 have hR:=rep_sliced (s:=s) (l:=0) h1 hxl (Nat.zero_le _) hl (Nat.le_refl h) (Nat.le_trans hl hc1)
 have hrun:(Instr.sliceAt ty (.slice a n c) none (some (.int k (h:Int))) (some (.int k' (h:Int)))).run P w= .ok (.slice (if h=0 then a else a.map (·.add (0*s))) (h - 0) (h - 0)) w:=by
  have:h≤c:=Nat.le_trans hl hc1
  simp[Instr.sliceAt,run_underlying hu,Instr.slice,Instr.sliceBounds,Instr.sliceBound,asIntOf,this,sizeOf,typeInfo,hi]
 simp only[execOp,ho,hz,hz',hz2,Option.map_some,Option.map_none,Sem.run_bind,hrun,Result.andThen_ok,Sem.run_pure]
 refine upon_val ?_
 simpa using hR
end
theorem slS:slK1 Tryz.prog 39=true:=by kernel_rfl
set_option maxRecDepth 10000 in
set_option maxHeartbeats 1000000 in
theorem sclone_can (l:List Seg) (hl:l.length≤1000):Can Tryz.prog 142 [segsV l] (· =segsV l):=by
 refine can_of Tryz.func142 rfl Tryz.ntmps142 rfl ?_
 refine W_cs (.a 1 rfl<|.k [0] rfl) ?_
 refine W_seq ?_
 refine W_rs (WR.mono (K:=fun s=>∃b:Bool,s=⟨[(0,segsV l),(4,.raw (.bool b))],[]⟩∧(b=true→l=[])) ?_ ?_)
 ·cases l with
  |nil=>exact WR_a 1 rfl<|WR_nilq rfl slS rfl rfl rfl rfl rfl fun b=>WR_k [0,4] rfl ⟨b,rfl,fun _=>rfl⟩
  |cons a l=>exact WR_a 1 rfl<|WR_val (y_notNil rfl slS rfl rfl (Nat.succ_pos _)) rfl rfl rfl<|WR_k [0,4] rfl ⟨_,rfl,fun h=>by cases h⟩
 rintro _ ⟨b,rfl,hb⟩
 refine W_cond rfl (fun hc=>?_) (fun hc=>?_)
 ·have:l=[]:=hb hc
  subst this
  refine W_cs (.a 1 rfl<|.k [2] rfl) ?_
  refine W_ret ?_
  exact⟨_,_,ResL.of rfl,Pur.nils,rfl⟩
 ·refine W_skip ?_
  refine W_rs ?_
  refine WR_l (l_emptySlice rfl (fok.sl.get rfl)) rfl<|WR_a 1 rfl<|WR_l (l_append rfl (fok.rk.get rfl) rfl rfl rfl (segsP_len l) (by unfold maxLen;omega)) rfl<|WR_a 1 rfl<|WR_k [2] rfl ?_
  refine W_ret ?_
  refine⟨_,_,ResL.of rfl,Pur.ownL (xs:=segsP l) (ys:=segsP l) rfl PurL.pure,?_⟩
  rw[Nat.zero_add];rfl
theorem y_segTail {P:Program} {σ:Sto} {t:Tms} {o:Oper} {ty:TypeId} {x lo:Operand} {s:Seg} {l:List Seg} {k:IntKind} (ho:o.op= .slice ty x (some lo) none none) (he:elK P ty=some (103,2)) (hx:evalO t x=some (.slice (s::l).length (segsP (s::l)))) (hlo:evalO t lo=some (.raw (.int k 1))):Yield P σ t o (.slice l.length (segsP l)):=by
 have h:=y_sliceLo (l:=1) (σ:=σ) ho he hx hlo (segsP_len _) rfl (by simp)
 have e:((segsP (s::l)).drop (1*2)).take (((s::l).length - 1)*2)=segsP l:=by
  show(segsP l).take _=_
  refine List.take_of_length_le ?_
  rw[segsP_len];simp
 rw[e]at h
 exact h
theorem ent_err {T:Topo} {D:List Bool} {n d:Int} (h:spE T D n d≠0):entX T D n d=⟨[],false,[]⟩:=ent_no fun hh=>h hh.1
theorem sp_node {T:Topo} {D:List Bool} {n d:Int} (h:spE T D n d≠0) (h':spE T D n d≠11):nodeE T D n d=spE T D n d:=by
 unfold spE at*
 split at h<;>simp_all
theorem sp_err {T:Topo} {D:List Bool} {n d:Int} (h:spE T D n d=0∨spE T D n d=11):nodeE T D n d=0:=by
 unfold spE at h
 split at h
 ·assumption
 ·rename_i hh
  rcases h with h|h
  ·exact h
  ·exfalso
   unfold nodeE chkE at h
   split at h<;>(try split at h)<;>(try split at h)<;>omega
def entE (e:Int) (x:Ent):PV:=.tuple [entV x,num e]
set_option maxRecDepth 10000 in
set_option maxHeartbeats 1000000 in
theorem pent_can (T:Topo) (D:List Bool) (n d:Int) (hlk:T.links.length≤256) (h12:T.nodes≤12):Can Tryz.prog 124 [topoV T,boolsV D,num n,num d] (· =entE (nodeE T D n d) (entX T D n d)):=by
 obtain⟨c1,hc1⟩:∃q,decide (spE T D n d≠0)=q:=⟨_,rfl⟩
 obtain⟨c2,hc2⟩:∃q,decide (spE T D n d≠11)=q:=⟨_,rfl⟩
 refine can_of Tryz.func124 rfl Tryz.ntmps124 rfl ?_
 refine W_rs ?_
 refine WR_a 3 rfl<|WR_k [1,2,3,4,8] rfl ?_
 refine W_cs (.a 4 rfl<|.c rfl (pcpath_can T D n d) rfl<|.a 5 rfl<|.k [1,2,4,8,10,11] rfl) ?_
 refine W_seq ?_
 refine W_csK 27 (.raw (.bool (c1&&c2))) [1,2,4,8,10,11] rfl ?_ ?_
 ·refine .a 1 rfl<|.v (y_q rfl (hc1)) rfl<|.a 1 rfl<|?_
  cases c1
  ·exact .a 3 rfl<|.k [27,1,2,4,8,10,11] rfl
  ·exact .a 1 rfl<|.v (y_q rfl (hc2)) rfl<|.a 1 rfl<|.k [27,1,2,4,8,10,11] rfl
 refine W_cond rfl (fun h1=>?_) (fun h1=>?_)
 ·obtain⟨rfl,rfl⟩:=Bool.and_eq_true_iff.1 h1
  have e1:=tt hc1
  rw[ent_err e1,sp_node e1 (tt hc2)]
  refine W_rs ?_
  refine WR_a 4 rfl<|WR_k [8,9] rfl ?_
  refine W_ret ?_
  exact⟨_,_,ResL.of rfl,Pur.tupleL (PurL.cons (Pur.aggL (PurL.cons Pur.nils<|PurL.cons Pur.pure<|PurL.cons Pur.nils PurL.nil)) (PurL.cons Pur.pure PurL.nil)),rfl⟩
 ·have e2:spE T D n d=0∨spE T D n d=11:=by
   rcases Bool.and_eq_false_iff.1 h1 with h|h
   ·subst h;exact .inl (Classical.byContradiction (ff hc1))
   ·subst h;exact .inr (Classical.byContradiction (ff hc2))
  rw[sp_err e2]
  clear h1 hc1 hc2
  obtain⟨P,hP⟩:∃P,(if spE T D n d=0 then spathL T D n.toNat d.toNat else [])=P:=⟨_,rfl⟩
  rw[hP]
  refine W_skip ?_
  refine W_seq ?_
  refine W_cs (.a 3 rfl<|.k [1,2,4,8,10,32] rfl) ?_
  refine W_cond rfl (fun h2=>?_) (fun h2=>?_)
  ·have hno:¬(spE T D n d=0∧n≠d):=by
    rintro⟨h3,h4⟩
    rw[if_pos h3]at hP
    obtain⟨a,b,rfl,rfl,hp⟩:=pth_of h3 h4
    have:=tt h2
    have:=hp.pos
    rw[←hP]at*
    simp only[Int.toNat_natCast]at*
    omega
   rw[ent_no hno]
   refine W_rs ?_
   refine WR_a 3 rfl<|WR_k [8,9] rfl ?_
   refine W_ret ?_
   exact⟨_,_,ResL.of rfl,Pur.tupleL (PurL.cons (Pur.aggL (PurL.cons Pur.nils<|PurL.cons Pur.pure<|PurL.cons Pur.nils PurL.nil)) (PurL.cons Pur.pure PurL.nil)),rfl⟩
  ·obtain⟨p0,q,rfl⟩:∃p0 q,P=p0::q:=by
    cases P with
    |nil=>exact absurd rfl (ff h2)
    |cons p0 q=>exact⟨_,_,rfl⟩
   have h3:spE T D n d=0:=by
    rcases e2 with h|h
    ·exact h
    ·rw[h]at hP;simp at hP
   rw[if_pos h3]at hP
   have h4:n≠d:=by
    rintro rfl
    obtain⟨a,b,ha,hb,_,_,hv',hsp⟩:=spE_facts h3
    have:a=b:=by omega
    subst this
    have:=hsp.self
    rw[this]at hP
    cases hP
   obtain⟨a,b,rfl,rfl,hp⟩:=pth_of h3 h4
   simp only[Int.toNat_natCast]at hP
   have hent:=ent_yes hp
   rw[hP]at hp hent
   have hpl:=hp.len
   obtain⟨s,l,hl,hs⟩:=lst_head (T:=T) (n:=(a:Int)) hp.pos
   have hll:=hp.lst.2
   rw[hl]at hent hll
   have hsl:=slist_can T D (p0::q) a (by simp only[List.length_cons]at hpl ⊢;omega) hlk h12
   rw[hl]at hsl
   unfold segsE at hsl
   rw[hp.zero,if_pos rfl]at hsl
   clear h2 e2 hl hs hp hP h3 h4
   simp only[List.length_cons]at hll hpl
   rw[show(p0::q).getD 0 0=p0 from rfl]at hent
   refine W_skip ?_
   refine W_cs (.a 4 rfl<|.c rfl (hsl) rfl<|.a 5 rfl<|.k [8,10,12] rfl) ?_
   refine W_seq ?_
   refine W_cs (.a 1 rfl<|.v (y_ix (0) rfl (by omega) (by simp only[List.length_cons];omega)) rfl<|.a 1 rfl<|.v (y_ld rfl ((show(segsP (s::l))[0]? =some (num s.kind) from rfl))) rfl<|.a 1 rfl<|.k [8,10,12,46] rfl) ?_
   refine W_cond rfl (fun h5=>?_) (fun h5=>?_)
   ·have hc:cutL (s::l)=l:=if_pos (tt h5)
    rw[hc]at hent
    have hlm:l.length≤32:=by omega
    refine W_chain (.a 1 rfl<|.v (y_segTail rfl (fok.el.get rfl) rfl rfl) rfl<|.a 1 rfl<|.k [8,10,12] rfl) ?_
    refine W_seq ?_
    refine W_cs (.a 3 rfl<|.k [8,10,12,51] rfl) ?_
    refine W_cond rfl (fun h6=>?_) (fun h6=>?_)
    ·exact absurd (tt h6) (by omega)
    ·clear h6
     refine W_skip ?_
     refine W_dfs 5 20 mixed (
      .val [10] rfl (y_a rfl) rfl rfl<|
      .val [53] rfl (y_sliceMax (h:=1) rfl (fok.el.get rfl) rfl rfl rfl (show(intsP (p0::q)).length=_ by simp[intsP]) rfl rfl (by simp)) rfl rfl<|
      .val [12] rfl (y_a rfl) rfl rfl<|
      .val [55] rfl (y_c rfl (sclone_can _ (by omega))) rfl rfl<|
      .val [54,56] rfl (y_a rfl) rfl rfl<|
      .nil) (by kernel_rfl) rfl rfl (keepT_sub (ks:=[8,57]) rfl) ?_
     refine WR_a 2 rfl<|WR_k [8,9] rfl ?_
     refine W_ret ?_
     exact⟨_,_,ResL.of rfl,Pur.tupleL (PurL.cons (Pur.aggL (PurL.cons (Pur.pure (p:=intsV [p0]))<|PurL.cons Pur.pure<|PurL.cons (Pur.pure (p:=segsV _)) PurL.nil)) (PurL.cons Pur.pure PurL.nil)),by rw[hent];rfl⟩
   ·have hc:cutL (s::l)=s::l:=if_neg (ff h5)
    rw[hc]at hent
    have hlm:(s::l).length≤32:=by simp only[List.length_cons];omega
    refine W_skip ?_
    refine W_seq ?_
    refine W_cs (.a 3 rfl<|.k [8,10,12,51] rfl) ?_
    refine W_cond rfl (fun h6=>?_) (fun h6=>?_)
    ·exact absurd (tt h6) (by omega)
    ·clear h6
     refine W_skip ?_
     refine W_dfs 5 20 mixed (
      .val [10] rfl (y_a rfl) rfl rfl<|
      .val [53] rfl (y_sliceMax (h:=1) rfl (fok.el.get rfl) rfl rfl rfl (show(intsP (p0::q)).length=_ by simp[intsP]) rfl rfl (by simp)) rfl rfl<|
      .val [12] rfl (y_a rfl) rfl rfl<|
      .val [55] rfl (y_c rfl (sclone_can _ (by omega))) rfl rfl<|
      .val [54,56] rfl (y_a rfl) rfl rfl<|
      .nil) (by kernel_rfl) rfl rfl (keepT_sub (ks:=[8,57]) rfl) ?_
     refine WR_a 2 rfl<|WR_k [8,9] rfl ?_
     refine W_ret ?_
     exact⟨_,_,ResL.of rfl,Pur.tupleL (PurL.cons (Pur.aggL (PurL.cons (Pur.pure (p:=intsV [p0]))<|PurL.cons Pur.pure<|PurL.cons (Pur.pure (p:=segsV _)) PurL.nil)) (PurL.cons Pur.pure PurL.nil)),by rw[hent];rfl⟩
end PW
end Go.Proofs.YtnegbdpggideiaaGreatDoor

namespace Go.Proofs.YtnegbdpggideiaaGreatDoor
set_option linter.unusedVariables false
set_option linter.unusedSimpArgs false
namespace PW
open Go.RowKit Reg Mem
section
variable {P:Program} {σ:Sto} {t:Tms} {o:Oper}
theorem y_capNil {ty e s:Nat} {x:Operand} (ho:o.op= .call {callee:=.builtin .cap,args:= #[x],argTypes:= #[ty]}) (he:elK P ty=some (e,s)) (hx:evalO t x=some (.raw (.slice none 0 0))):Yield P σ t o (.raw (.int .i64 0)):=by
 intro F base E ρ w hρ _ hT
 have h1:=evalO_rep hρ hT hx
 obtain⟨hu,_⟩:=elK_spec he
 generalize hz:ρ x=z at h1
 cases h1
 simp[execOp,ho,resolve,invoke,builtin,Builtin.cap_,hz,run_underlying hu,goInt]
 exact upon_val (.raw _)
theorem y_sliceNil {ty e s:Nat} {x hi':Operand} {k:IntKind} (ho:o.op= .slice ty x none (some hi') none) (he:elK P ty=some (e,s)) (hx:evalO t x=some (.raw (.slice none 0 0))) (hhi:evalO t hi'=some (.raw (.int k 0))):Yield P σ t o (.raw (.slice none 0 0)):=by
 intro F base E ρ w hρ _ hT
 have h1:=evalO_rep hρ hT hx
 have h2:=evalO_rep hρ hT hhi
 obtain⟨hu,inf,hinf,hs⟩:=elK_spec he
 generalize hz:ρ x=z at h1
 generalize hz':ρ hi'=z' at h2
 cases h1
 cases h2
 have hr:(execOp ρ o).run P w= .ok (.value (.slice none 0 0)) w:=by
  simp[execOp,ho,hz,hz',Instr.sliceAt,run_underlying hu,Instr.slice,Instr.sliceBounds,Instr.sliceBound,asIntOf,sizeOf,typeInfo,hinf]
 rw[hr]
 exact upon_val (.raw _)
theorem run_growNil {P:Program} (w:World) (t tx ty e:TypeId) (i:TypeInfo) (z:Value) (ht:P.underlying t=some (.slice e)) (hx:P.underlying tx=some (.int .i64)) (hi:P.info? e=some i) (hz:i.zero=some z) (hp:0<i.size) (n:Nat)
  (h0:0<n) (h63:(n:Int)≤9223372036854775807) (h48:n*i.bytes≤281474976710656):
  (Builtin.append_ #[t,tx] ty #[.slice none 0 0,.int .i64 (n:Int)]).run P w=
   .ok (.slice (some ⟨w.heap.size,0,none⟩) n (grownCap w n 0 e)) (w.drew.alloc (.cells (Builtin.zeroCells z.cells n++Builtin.zeroCells z.cells (grownCap w n 0 e - n)) e)):=by
 have hn:n≠0:=by omega
 have hp':i.size≠0:=by omega
 have h63':¬(9223372036854775807<(n:Int)):=by omega
 have h48':¬(281474976710656<Builtin.nextslicecap n 0*i.bytes):=by rw[nextslicecap_zero h0];omega
 have hw:IntKind.i64.wrap (n:Int)=n:=wrap_in (by unfold In64;omega)
 have hb:¬(281474976710656<(n:Int)*(i.bytes:Int)):=by
  have:((n*i.bytes:Nat):Int)≤281474976710656:=by omega
  rw[Int.natCast_mul]at this
  omega
 have hneg:¬((n:Int)<0):=by omega
 simp[Builtin.append_,run_underlying ht,run_underlying hx,sizeOf,typeInfo,zeroValue,hi,hz,asInt,asIntOf,hw,hb,hneg,hn,hp',h63',h48',Question.forced,run_firstCells_none,newRow,grownCap]
 exact fun h=>absurd h (Nat.mul_ne_zero hn hp')
theorem l_growNil {ty tx e s by':Nat} {z:List Value} {x y:Operand} {n:Nat} {m:Int} (ho:o.op= .call {callee:=.builtin .append,args:= #[x,y],argTypes:= #[ty,tx]}) (hk:rowK P ty=some (e,s,by',z)) (htx:P.underlying tx=some (.int .i64)) (hx:evalO t x=some (.raw (.slice none 0 0))) (hy:evalO t y=some (.raw (.int .i64 m))) (hm:m=(n:Int)) (h0:0<n) (hn:n≤maxLen∧n*by'≤281474976710656):
  Loud P σ t o (.own σ.length) (σ++[some (.row e s n (zeros (z.map .raw) n))]):=by
 intro F base E ρ w hρ hS hT
 have h1:=evalO_rep hρ hT hx
 have h2:=evalO_rep hρ hT hy
 generalize hz1:ρ x=v1 at h1
 generalize hz2:ρ y=v2 at h2
 cases h1;cases h2
 subst hm
 obtain⟨hu,i,z',hi,hs,hby,hz,hzz,hzs,hpos⟩:=rowK_spec hk
 have hsm:n≤9223372036854775807:=by have:=hn.1;simp only[maxLen]at this;omega
 have hrun:=run_growNil (P:=P) w ty tx o.type e i z' hu htx hi hz (by omega) n h0 (by omega) (by rw[hby];exact hn.2)
 have hr:(execOp ρ o).run P w= .ok (.value (.slice (some ⟨w.heap.size,0,none⟩) n (grownCap w n 0 e))) (w.drew.alloc (.cells (Builtin.zeroCells z'.cells n++Builtin.zeroCells z'.cells (grownCap w n 0 e - n)) e)):=by
  simp only[execOp,ho,resolve,invoke,builtin,Sem.run_bind,Sem.run_pure,Result.andThen_ok,List.map_toArray,List.map_cons,List.map_nil,hz1,hz2,hrun]
 have hge:=grownCap_ge w n 0 e
 have hcm:grownCap w n 0 e≤maxLen:=grownCap_le_maxLen w n 0 e hn.1
 have hzc:(Builtin.zeroCells z'.cells n).size=n*s:=by rw[size_zeroCells,hzs]
 have hown:(w.drew.alloc (.cells (Builtin.zeroCells z'.cells n++Builtin.zeroCells z'.cells (grownCap w n 0 e - n)) e)).ownsRow base e s (.slice (some ⟨w.heap.size,0,none⟩) n (grownCap w n 0 e)) n (Builtin.zeroCells z'.cells n).toList:=by
  refine⟨by rw[Array.length_toList,hzc],.inr ⟨w.heap.size,_,_,rfl,hS.bl,heap_alloc_new w.drew _,hge,hcm,?_,?_⟩⟩
  ·simp only[Array.size_append,size_zeroCells,hzs,←Nat.add_mul]
   congr 1
   omega
  ·simp only[Array.toList_append]
   rw[←hzc,←Array.length_toList]
   exact List.take_left
 have hg:w.grownBy (w.drew.alloc (.cells (Builtin.zeroCells z'.cells n++Builtin.zeroCells z'.cells (grownCap w n 0 e - n)) e)) none:=⟨rfl,rfl,rfl,by simp,fun k hk _=>heap_alloc_old w.drew _ hk⟩
 have hR:RepL E w (Builtin.zeroCells z'.cells n).toList (zeros (z.map .raw) n):=by
  rw[←hzz];exact zeros_rep z'.cells n (n*z'.cells.size) rfl
 obtain⟨a1,a2,a3,a4⟩:=lay_row hS (ext_of_grown hg) (fun b h=>by simp[blockOf]at h;omega) hown hR
 exact⟨_,_,_,.inl hr,a1,a2,a3,a4⟩
end
end PW
end Go.Proofs.YtnegbdpggideiaaGreatDoor

namespace Go.Proofs.YtnegbdpggideiaaGreatDoor
set_option linter.unusedVariables false
set_option linter.unusedSimpArgs false
namespace PW
open Go.RowKit Reg Mem Net Rng
set_option maxRecDepth 10000 in
set_option maxHeartbeats 1000000 in
theorem iclone_can (l:List Int) (hl:l.length≤1000):Can Tryz.prog 144 [intsV l] (· =intsV l):=by
 refine can_of Tryz.func144 rfl Tryz.ntmps144 rfl ?_
 refine W_cs (.a 1 rfl<|.k [0] rfl) ?_
 refine W_seq ?_
 refine W_rs (WR.mono (K:=fun s=>∃b:Bool,s=⟨[(0,intsV l),(4,.raw (.bool b))],[]⟩∧(b=true→l=[])) ?_ ?_)
 ·cases l with
  |nil=>exact WR_a 1 rfl<|WR_nilq rfl slI rfl rfl rfl rfl rfl fun b=>WR_k [0,4] rfl ⟨b,rfl,fun _=>rfl⟩
  |cons a l=>exact WR_a 1 rfl<|WR_val (y_notNil rfl slI rfl rfl (Nat.succ_pos _)) rfl rfl rfl<|WR_k [0,4] rfl ⟨_,rfl,fun h=>by cases h⟩
 rintro _ ⟨b,rfl,hb⟩
 refine W_cond rfl (fun hc=>?_) (fun hc=>?_)
 ·have:l=[]:=hb hc
  subst this
  refine W_cs (.a 1 rfl<|.k [2] rfl) ?_
  refine W_ret ?_
  exact⟨_,_,ResL.of rfl,Pur.nils,rfl⟩
 ·refine W_skip ?_
  refine W_rs ?_
  refine WR_l (l_emptySlice rfl (fok.sl.get rfl)) rfl<|WR_a 1 rfl<|WR_l (l_append rfl (fok.rk.get rfl) rfl rfl rfl (show(intsP l).length=l.length*1 by simp[intsP]) (by unfold maxLen;omega)) rfl<|WR_a 1 rfl<|WR_k [2] rfl ?_
  refine W_ret ?_
  refine⟨_,_,ResL.of rfl,Pur.ownL (xs:=intsP l) (ys:=intsP l) rfl PurL.pure,?_⟩
  rw[Nat.zero_add];rfl
set_option maxRecDepth 10000 in
set_option maxHeartbeats 1000000 in
theorem sgrow_can (n:Nat) (hn:n≤1000):CanS Tryz.prog 172 [.raw (.slice none 0 0),num n] [] (fun r σ'=>r= .own 0∧σ'=[some (.row 103 2 0 [])]):=by
 refine canS_of Tryz.func172 rfl Tryz.ntmps172 rfl ?_
 refine W_cs (.a 1 rfl<|.k [0,1] rfl) ?_
 refine W_seq ?_
 refine W_cs (.a 2 rfl<|.k [0,1,6] rfl) ?_
 refine W_cond rfl (fun h1=>?_) (fun h1=>?_)
 ·exact absurd (tt h1) (by omega)
 ·clear h1
  refine W_skip ?_
  refine W_seq ?_
  refine W_cs (.a 2 rfl<|.v (y_capNil rfl (fok.el.get rfl) rfl) rfl<|.a 1 rfl<|.v (y_lenNil rfl (fok.el.get rfl) rfl) rfl<|.v (y_ar rfl) rfl<|.v (y_ar rfl) rfl<|.a 1 rfl<|.k [0,1] rfl) ?_
  refine W_cs (.a 2 rfl<|.k [0,1,16] rfl) ?_
  refine W_cond rfl (fun h2=>?_) (fun h2=>?_)
  ·have hpos:0<n:=by have:=tt h2;omega
   refine W_region ?_
   refine WR_a 2 rfl<|WR_v (y_capNil rfl (fok.el.get rfl) rfl) rfl<|WR_v (y_sliceNil rfl (fok.el.get rfl) rfl rfl) rfl<|WR_a 1 rfl<|WR_l (l_growNil (n:=n) rfl (fok.rk.get rfl) Tryz.underlying3 rfl rfl (by omega) hpos (by unfold maxLen;omega)) rfl<|WR_a 1 rfl<|WR_v (y_lenNil rfl (fok.el.get rfl) rfl) rfl<|WR_l (l_sliceHiOwn (h:=0) rfl (fok.el.get rfl) rfl rfl rfl rfl (by omega)) rfl<|WR_a 1 rfl<|WR_k [0] rfl ?_
   refine W_ren [1] (.c 0<|.nil) (.kept rfl (.row RenL.nil)<|.nil) rfl rfl ?_
   refine W_cs (.a 2 rfl<|.k [4] rfl) ?_
   refine W_ret ?_
   exact⟨_,ResL.of rfl,rfl,rfl⟩
  ·refine W_adopt 0 103 2 rfl ?_
   refine W_skip ?_
   refine W_cs (.a 2 rfl<|.k [4] rfl) ?_
   refine W_ret ?_
   exact⟨_,ResL.of rfl,rfl,rfl⟩
def catL (A B:List Seg) (i:Nat):List Seg:=if i=0 then [] else if i=1 then A else A++B
def nthL (A B:List Seg) (i:Nat):List Seg:=if i=0 then A else B
theorem cat_step (A B:List Seg) {i:Nat} (h:i<2):catL A B (i+1)=catL A B i++nthL A B i:=by
 rcases(show i=0∨i=1 by omega)with rfl|rfl<;>rfl
theorem cat_len (A B:List Seg) (i:Nat):(catL A B i).length≤A.length+B.length:=by
 unfold catL
 split
 ·simp
 ·split<;>simp
set_option maxRecDepth 10000 in
set_option maxHeartbeats 1000000 in
theorem sconcat_can (A B:List Seg) (hl:A.length+B.length≤1000):Can Tryz.prog 145 [.slice 2 [segsV A,segsV B]] (· =segsV (A++B)):=by
 refine can_of Tryz.func145 rfl Tryz.ntmps145 rfl ?_
 have hg:=sgrow_can (A++B).length (by simpa using hl)
 refine W_cs (.a 1 rfl<|.k [0] rfl) ?_
 refine W_cs (.a 1 rfl<|.k [0,3] rfl) ?_
 refine W_seq ?_
 refine W_cs (.a 3 rfl<|.k [0,3,9,10,11] rfl) ?_
 refine W_block ?_
 refine W_k [0,3,9,10,11] rfl ?_
 refine W_loop (fun r s=>∃i,i≤2∧r=2 - i∧s=⟨[(0,.slice 2 [segsV A,segsV B]),(3,num (catL A B i).length),(9,.slice 2 [segsV A,segsV B]),(10,num 2),(11,num i)],[]⟩) 2 ⟨0,by omega,by omega,rfl⟩ ?_
 rintro r s ⟨i,hi,rfl,rfl⟩
 refine W_cs (.a 1 rfl<|.k [0,3,9,10,11,12] rfl) ?_
 refine W_seq ?_
 refine W_cond rfl (fun h1=>?_) (fun h1=>?_)
 ·have hlt:i<2:=by have:=tt h1;omega
  have hc1:=cat_len A B i
  have hc2:=cat_len A B (i+1)
  have hst:=congrArg List.length (cat_step A B hlt)
  rw[List.length_append]at hst
  have hget:[segsV A,segsV B][i]? =some (segsV (nthL A B i)):=by
   rcases(show i=0∨i=1 by omega)with rfl|rfl<;>rfl
  clear h1
  refine W_skip ?_
  refine W_seq ?_
  refine W_block ?_
  refine W_cs (.v (y_ix (i) rfl) rfl<|.v (y_ld rfl (hget)) rfl<|.a 1 rfl<|.k [0,3,5,9,10,11] rfl) ?_
  refine W_cs (.a 3 rfl<|.v (y_ar rfl (hc:=(show((catL A B i).length:Int)+((nthL A B i).length:Int)=((catL A B (i+1)).length:Int) by omega)) (hn:=(by unfold In64;omega))) rfl<|.a 1 rfl<|.k [0,3,9,10,11] rfl) ?_
  refine W_cs (.a 2 rfl<|.k [0,3,9,10,11,20] rfl) ?_
  refine W_cond rfl (fun h2=>?_) (fun h2=>?_)
  ·exact absurd (tt h2) (by omega)
  ·clear h2
   refine W_skip ?_
   refine W_chain (.v (y_ar rfl) rfl<|.a 1 rfl<|.k [0,3,9,10,11] rfl) ?_
   exact⟨2 - (i+1),by omega,i+1,by omega,rfl,rfl⟩
 ·have hie:i=2:=by have:=ff h1;omega
  subst hie
  have hcat:catL A B 2=A++B:=rfl
  rw[hcat]
  clear h1
  refine W_exit ?_
  refine W_rs ?_
  refine WR_a 1 rfl<|WR_cS rfl rfl (CanS.mono hg (fun r σ' h=>?_))
  obtain⟨rfl,rfl⟩:=h
  refine WR_a 1 rfl<|WR_k [0,6] rfl ?_
  refine W_seq ?_
  refine W_cs (.a 3 rfl<|.k [6,25,26,27] rfl) ?_
  refine W_block ?_
  refine W_k [6,25,26,27] rfl ?_
  refine W_loop (fun r s=>∃i,i≤2∧r=2 - i∧s=⟨[(6,.own 0),(25,.slice 2 [segsV A,segsV B]),(26,num 2),(27,num i)],[some (.row 103 2 (catL A B i).length (segsP (catL A B i)))]⟩) 2 ⟨0,by omega,by omega,rfl⟩ ?_
  rintro r s ⟨i,hi,rfl,rfl⟩
  refine W_cs (.a 1 rfl<|.k [6,25,26,27,28] rfl) ?_
  refine W_seq ?_
  refine W_cond rfl (fun h1=>?_) (fun h1=>?_)
  ·have hlt:i<2:=by have:=tt h1;omega
   have hc1:=cat_len A B i
   have hc2:=cat_len A B (i+1)
   have hst:=cat_step A B hlt
   have hsl:=congrArg List.length hst
   rw[List.length_append]at hsl
   have hget:[segsV A,segsV B][i]? =some (segsV (nthL A B i)):=by
    rcases(show i=0∨i=1 by omega)with rfl|rfl<;>rfl
   clear h1
   refine W_skip ?_
   refine W_seq ?_
   refine W_block ?_
   refine W_cs (.v (y_ix (i) rfl) rfl<|.v (y_ld rfl (hget)) rfl<|.a 1 rfl<|.k [6,8,25,26,27] rfl) ?_
   refine W_region ?_
   refine WR_a 2 rfl<|WR_l (l_append rfl (fok.rk.get rfl) rfl rfl rfl (segsP_len _) (show _≤maxLen∧_*16≤140737488355328 by unfold maxLen;omega)) rfl<|WR_a 1 rfl ?_
   refine WR_ren [1] (.c 6<|.c 25<|.c 26<|.c 27<|.nil) (.kept rfl (.rowP rfl (rfl))<|.nil) rfl rfl (WR_nil ?_)
   refine W_chain (.v (y_ar rfl) rfl<|.a 1 rfl<|.k [6,25,26,27] rfl) ?_
   refine⟨2 - (i+1),by omega,i+1,by omega,rfl,?_⟩
   rw[hst,List.length_append]
   unfold segsP
   rw[List.flatMap_append]
   rfl
  ·have hie:i=2:=by have:=ff h1;omega
   subst hie
   have hcat:catL A B 2=A++B:=rfl
   rw[hcat]
   clear h1
   refine W_exit ?_
   refine W_cs (.a 2 rfl<|.k [2] rfl) ?_
   refine W_ret ?_
   exact⟨_,_,ResL.of rfl,Pur.ownL rfl PurL.pure,rfl⟩
end PW
end Go.Proofs.YtnegbdpggideiaaGreatDoor

namespace Go.Proofs.YtnegbdpggideiaaGreatDoor
set_option linter.unusedVariables false
set_option linter.unusedSimpArgs false
namespace PW
open Go.RowKit Reg Mem Net Rng
def ixI (v:Int):List Int→Nat→Int
 | [],_=> -1
 |a::l,i=>bif decide (v=a) then(i:Int) else ixI v l (i+1)
theorem ixI_iff (v:Int):∀(l:List Int) (i:Nat),0≤ixI v l i↔v∈l
 | [],i=>by simp[ixI]
 |a::l,i=>by
  simp only[ixI]
  by_cases h:v=a
  ·rw[decide_eq_true h,cond_true]
   exact⟨fun _=>by rw[h];exact List.mem_cons_self,fun _=>by omega⟩
  ·rw[decide_eq_false h,cond_false,ixI_iff v l (i+1),List.mem_cons]
   exact⟨.inr,fun h'=>h'.resolve_left h⟩
theorem ixI_mem (v:Int) (l:List Int) (i:Nat):decide (0≤ixI v l i)=decide (v∈l):=decide_eq_decide.2 (ixI_iff v l i)
set_option maxRecDepth 10000 in
set_option maxHeartbeats 1000000 in
theorem sindex_can (l:List Int) (v:Int) (hl:l.length≤1000):Can Tryz.prog 143 [intsV l,num v] (· =num (ixI v l 0)):=by
 refine can_of Tryz.func143 rfl Tryz.ntmps143 rfl ?_
 refine W_cs (.a 1 rfl<|.k [0,1] rfl) ?_
 refine W_seq ?_
 refine W_cs (.a 3 rfl<|.k [0,1,7,8] rfl) ?_
 refine W_block ?_
 refine W_k [0,1,7,8] rfl ?_
 refine W_loop (fun r s=>∃i,i≤l.length∧r=l.length - i∧ixI v l 0=ixI v (l.drop i) i∧s=⟨[(0,intsV l),(1,num v),(7,num l.length),(8,num i)],[]⟩) l.length ⟨0,by omega,by omega,rfl,rfl⟩ ?_
 rintro r s ⟨i,hi,rfl,hx,rfl⟩
 refine W_cs (.a 1 rfl<|.k [0,1,7,8,9] rfl) ?_
 refine W_seq ?_
 refine W_cond rfl (fun h1=>?_) (fun h1=>?_)
 ·have hlt:i<l.length:=by have:=tt h1;omega
  rw[drop_cons l i hlt]at hx
  simp only[ixI]at hx
  obtain⟨q,hq⟩:∃q,decide (v=l.getD i 0)=q:=⟨_,rfl⟩
  rw[hq]at hx
  refine W_skip ?_
  refine W_seq ?_
  refine W_block ?_
  refine W_cs (.a 2 rfl<|.k [0,1,5,7,8] rfl) ?_
  refine W_cs (.a 3 rfl<|.v (y_ix (i) rfl) rfl<|.v (y_ld rfl (ints_get l i hlt)) rfl<|.v (y_q rfl (hq)) rfl<|.k [0,1,5,7,8,16] rfl) ?_
  refine W_cond rfl (fun h2=>?_) (fun h2=>?_)
  ·subst h2
   rw[cond_true]at hx
   rw[hx]
   refine W_cs (.a 2 rfl<|.k [4] rfl) ?_
   refine W_ret ?_
   exact⟨_,_,ResL.of rfl,Pur.pure,rfl⟩
  ·subst h2
   rw[cond_false]at hx
   refine W_skip ?_
   refine W_chain (.v (y_ar rfl) rfl<|.a 1 rfl<|.k [0,1,7,8] rfl) ?_
   exact⟨l.length - (i+1),by omega,i+1,by omega,rfl,hx,rfl⟩
 ·have hie:i=l.length:=by have:=ff h1;omega
  subst hie
  rw[List.drop_length]at hx
  rw[hx]
  refine W_exit ?_
  refine W_cs (.a 1 rfl<|.k [4] rfl) ?_
  refine W_ret ?_
  exact⟨_,_,ResL.of rfl,Pur.pure,rfl⟩
set_option maxRecDepth 10000 in
set_option maxHeartbeats 1000000 in
theorem scontains_can (l:List Int) (v:Int) (hl:l.length≤1000):Can Tryz.prog 104 [intsV l,num v] (· =flag (decide (v∈l))):=by
 obtain⟨q,hq⟩:∃q,decide (v∈l)=q:=⟨_,rfl⟩
 have hm:=(ixI_mem v l 0).trans hq
 rw[hq]
 refine can_of Tryz.func104 rfl Tryz.ntmps104 rfl ?_
 refine W_cs (.a 1 rfl<|.k [0,1] rfl) ?_
 refine W_cs (.a 2 rfl<|.c rfl (sindex_can l v hl) rfl<|.v (y_q rfl (hm)) rfl<|.a 1 rfl<|.k [4] rfl) ?_
 refine W_ret ?_
 exact⟨_,_,ResL.of rfl,Pur.pure,rfl⟩
structure Pkt where
 id:Int
 src:Int
 dst:Int
 flow:Int
 stack:List Seg
 hops:Int
def pktP (p:Pkt):List PV:=[num p.id,num p.src,num p.dst,num p.flow,segsV p.stack,num p.hops]
def pktV (p:Pkt):PV:=.agg (pktP p)
instance (p:Pkt):IsPureL (pktP p):=by unfold pktP;infer_instance
instance (p:Pkt):IsPure (pktV p):=by unfold pktV;infer_instance
structure Out where
 arcs:List Int
 pkt:Pkt
 why:Int
def outV (r:Out):PV:=.tuple [intsV r.arcs,pktV r.pkt,num r.why]
def dropO (p:Pkt) (r:Int):Out:=⟨[],p,r⟩
def leaveO (p:Pkt) (s:List Seg) (arcs:List Int):Out:=⟨arcs,⟨p.id,p.src,p.dst,p.flow,s,p.hops+1⟩,0⟩
def enterO (p:Pkt) (s:List Seg) (e:Ent):Out:=
 if e.rep then(if 32<(e.push++s.drop 1).length then dropO p 5 else leaveO p (e.push++s.drop 1) e.arcs) else leaveO p s e.arcs
set_option maxRecDepth 10000 in
set_option maxHeartbeats 1000000 in
theorem with_can (p:Pkt) (s:List Seg) (hl:s.length≤1000):Can Tryz.prog 102 [pktV p,segsV s] (· =pktV ⟨p.id,p.src,p.dst,p.flow,s,p.hops⟩):=by
 refine can_of Tryz.func102 rfl Tryz.ntmps102 rfl ?_
 refine W_rs ?_
 refine WR_l (l_box rfl rfl rfl) rfl<|WR_a 1 rfl<|WR_k [1,2,4] rfl ?_
 refine W_rs ?_
 refine WR_a 1 rfl<|WR_c rfl (sclone_can s hl) rfl<|WR_a 2 rfl<|WR_k [2,4] rfl ?_
 refine W_rs ?_
 refine WR_a 2 rfl<|WR_k [4] rfl ?_
 refine W_ret ?_
 exact⟨_,_,ResL.of rfl,Pur.pure (p:=pktV ⟨p.id,p.src,p.dst,p.flow,s,p.hops⟩),rfl⟩
set_option maxRecDepth 10000 in
set_option maxHeartbeats 1000000 in
theorem drop_can (p:Pkt) (r:Int) (hl:p.stack.length≤1000):Can Tryz.prog 101 [pktV p,num r] (· =outV (dropO p r)):=by
 refine can_of Tryz.func101 rfl Tryz.ntmps101 rfl ?_
 refine W_rs ?_
 refine WR_a 4 rfl<|WR_k [1,2,5] rfl ?_
 refine W_rs ?_
 refine WR_a 2 rfl<|WR_v (y_ld rfl ((rfl:(pktP p)[4]? =some (segsV p.stack)))) rfl<|WR_c rfl (with_can p p.stack hl) rfl<|WR_a 4 rfl<|WR_k [4,5,6] rfl ?_
 refine W_ret ?_
 exact⟨_,_,ResL.of rfl,Pur.tupleL (PurL.cons Pur.nils<|PurL.cons (Pur.pure (p:=pktV p))<|PurL.cons Pur.pure PurL.nil),rfl⟩
set_option maxRecDepth 10000 in
set_option maxHeartbeats 1000000 in
theorem leave_can (p:Pkt) (s:List Seg) (arcs:List Int) (hl:s.length≤1000) (ha:arcs.length≤1000) (hh:0≤p.hops∧p.hops≤1000):Can Tryz.prog 105 [pktV p,segsV s,intsV arcs] (· =outV (leaveO p s arcs)):=by
 refine can_of Tryz.func105 rfl Tryz.ntmps105 rfl ?_
 refine W_rs ?_
 refine WR_l (l_box rfl rfl rfl) rfl<|WR_a 3 rfl<|WR_k [1,2,3,7] rfl ?_
 refine W_rs ?_
 refine WR_a 2 rfl<|WR_c rfl (with_can p s hl) rfl<|WR_a 1 rfl<|WR_k [2,3,7] rfl ?_
 refine W_rs ?_
 refine WR_a 2 rfl<|WR_v (y_ar rfl (hn:=(show In64 (p.hops+1) by unfold In64;omega))) rfl<|WR_a 2 rfl<|WR_k [2,3,7] rfl ?_
 refine W_dfs 4 20 mixed (
  .val [2] rfl (y_a rfl) rfl rfl<|
  .val [16] rfl (y_c rfl (iclone_can arcs ha)) rfl rfl<|
  .val [3] rfl (y_a rfl) rfl rfl<|
  .val [17] rfl (y_a rfl) rfl rfl<|
  .nil) (by kernel_rfl) rfl rfl (keepT_sub (ks:=[6,7,18]) rfl) ?_
 refine WR_a 2 rfl<|WR_k [6,7,8] rfl ?_
 refine W_ret ?_
 exact⟨_,_,ResL.of rfl,Pur.tupleL (PurL.cons (Pur.pure (p:=intsV arcs))<|PurL.cons (Pur.pure (p:=pktV ⟨p.id,p.src,p.dst,p.flow,s,p.hops+1⟩))<|PurL.cons Pur.pure PurL.nil),rfl⟩
end PW
end Go.Proofs.YtnegbdpggideiaaGreatDoor

namespace Go.Proofs.YtnegbdpggideiaaGreatDoor
set_option linter.unusedVariables false
set_option linter.unusedSimpArgs false
namespace PW
open Go.RowKit Reg Mem Net Rng
theorem leave_len {T:Topo} {n:Int} {L:List Int} (hl:T.links.length≤256) (h:leaveB T n L=true):L.length≤512:=by
 have h:=of_decide_eq_true h
 have key:∀i:Nat,i<L.length→(i:Int)≤L.getD i 0:=by
  intro i
  induction i with
  |zero=>intro hi;have:=(arcB_iff.1 (h 0 hi).1).1;omega
  |succ i ih=>
   intro hi
   have h1:=ih (by omega)
   have h2:=(h (i+1) hi).2.2 (by omega)
   rw[Nat.add_sub_cancel]at h2
   omega
 rcases Nat.eq_zero_or_pos L.length with h0|h0
 ·omega
 ·have h1:=key (L.length - 1) (by omega)
  have h2:=arcB_iff.1 (h (L.length - 1) (by omega)).1
  omega
set_option maxRecDepth 10000 in
set_option maxHeartbeats 1000000 in
theorem enter_can (p:Pkt) (s:List Seg) (e:Ent) (hs:s.length≤40) (hp:e.push.length≤40) (ha:e.arcs.length≤1000) (hps:p.stack.length≤1000) (hh:0≤p.hops∧p.hops≤1000):Can Tryz.prog 106 [pktV p,segsV s,entV e] (· =outV (enterO p s e)):=by
 obtain⟨c,hc⟩:∃q,e.rep=q:=⟨_,rfl⟩
 have hE:enterO p s e=if c then(if 32<(e.push++s.drop 1).length then dropO p 5 else leaveO p (e.push++s.drop 1) e.arcs) else leaveO p s e.arcs:=by unfold enterO;rw[hc]
 rw[hE]
 refine can_of Tryz.func106 rfl Tryz.ntmps106 rfl ?_
 refine W_rs ?_
 refine WR_a 5 rfl<|WR_k [1,3,5,7] rfl ?_
 refine W_seq ?_
 refine W_cs (.a 1 rfl<|.v (y_ld rfl ((show(entP e)[1]? =some (flag c) by rw[←hc];rfl))) rfl<|.k [1,3,5,7,11] rfl) ?_
 refine W_cond rfl (fun h1=>?_) (fun h1=>?_)
 ·subst h1
  simp only[if_true]
  refine W_cs (.a 2 rfl<|.k [3,5,7,9] rfl) ?_
  refine W_seq ?_
  refine W_cs (.a 3 rfl<|.k [3,5,7,9,15] rfl) ?_
  refine W_cond rfl (fun h2=>?_) (fun h2=>?_)
  ·obtain⟨a,l,rfl⟩:∃a l,s=a::l:=by
    cases s with
    |nil=>exact absurd (tt h2) (by simp)
    |cons a l=>exact⟨a,l,rfl⟩
   simp only[List.drop_succ_cons,List.drop_zero]
   obtain⟨s',hs',hsl⟩:∃s',l=s'∧s'.length≤40:=⟨l,rfl,by simp at hs;omega⟩
   refine W_chain (.a 1 rfl<|.v (y_segTail rfl (fok.el.get rfl) rfl rfl) rfl<|.a 1 rfl<|.k [3,5,7,9] rfl) ?_
   rw[hs']
   refine W_cs (.a 4 rfl<|.c rfl (sconcat_can e.push s' (by omega)) rfl<|.a 1 rfl<|.k [1,3,5,7] rfl) ?_
   refine W_cs (.a 3 rfl<|.k [1,3,5,7,25] rfl) ?_
   refine W_cond rfl (fun h3=>?_) (fun h3=>?_)
   ·have h3:=tt h3
    rw[if_pos (by omega)]
    refine W_rs ?_
    refine WR_a 1 rfl<|WR_c rfl (drop_can p 5 hps) rfl<|WR_a 6 rfl<|WR_k [6,7,8] rfl ?_
    refine W_ret ?_
    exact⟨_,_,ResL.of rfl,Pur.tupleL (PurL.cons (Pur.pure (p:=intsV []))<|PurL.cons (Pur.pure (p:=pktV p))<|PurL.cons Pur.pure PurL.nil),rfl⟩
   ·have h3:=ff h3
    rw[if_neg (by omega)]
    refine W_skip ?_
    refine W_rs ?_
    refine WR_a 4 rfl<|WR_c rfl (leave_can p _ e.arcs (by first|(simp only[List.length_append];omega)|omega) ha hh) rfl<|WR_a 6 rfl<|WR_k [6,7,8] rfl ?_
    refine W_ret ?_
    exact⟨_,_,ResL.of rfl,Pur.tupleL (PurL.cons (Pur.pure (p:=intsV e.arcs))<|PurL.cons (Pur.pure (p:=pktV ⟨p.id,p.src,p.dst,p.flow,_,p.hops+1⟩))<|PurL.cons Pur.pure PurL.nil),rfl⟩
  ·obtain rfl:s=[]:=by
    cases s with
    |nil=>rfl
    |cons a l=>exact absurd (ff h2) (by simp)
   simp only[List.drop_nil]
   obtain⟨s',hs',hsl⟩:∃s',([]:List Seg)=s'∧s'.length≤40:=⟨[],rfl,by simp⟩
   refine W_skip ?_
   rw[hs']
   refine W_cs (.a 4 rfl<|.c rfl (sconcat_can e.push s' (by omega)) rfl<|.a 1 rfl<|.k [1,3,5,7] rfl) ?_
   refine W_cs (.a 3 rfl<|.k [1,3,5,7,25] rfl) ?_
   refine W_cond rfl (fun h3=>?_) (fun h3=>?_)
   ·have h3:=tt h3
    rw[if_pos (by omega)]
    refine W_rs ?_
    refine WR_a 1 rfl<|WR_c rfl (drop_can p 5 hps) rfl<|WR_a 6 rfl<|WR_k [6,7,8] rfl ?_
    refine W_ret ?_
    exact⟨_,_,ResL.of rfl,Pur.tupleL (PurL.cons (Pur.pure (p:=intsV []))<|PurL.cons (Pur.pure (p:=pktV p))<|PurL.cons Pur.pure PurL.nil),rfl⟩
   ·have h3:=ff h3
    rw[if_neg (by omega)]
    refine W_skip ?_
    refine W_rs ?_
    refine WR_a 4 rfl<|WR_c rfl (leave_can p _ e.arcs (by first|(simp only[List.length_append];omega)|omega) ha hh) rfl<|WR_a 6 rfl<|WR_k [6,7,8] rfl ?_
    refine W_ret ?_
    exact⟨_,_,ResL.of rfl,Pur.tupleL (PurL.cons (Pur.pure (p:=intsV e.arcs))<|PurL.cons (Pur.pure (p:=pktV ⟨p.id,p.src,p.dst,p.flow,_,p.hops+1⟩))<|PurL.cons Pur.pure PurL.nil),rfl⟩
 ·subst h1
  simp only[Bool.false_eq_true,if_false]
  refine W_skip ?_
  refine W_rs ?_
  refine WR_a 4 rfl<|WR_c rfl (leave_can p _ e.arcs (by first|(simp only[List.length_append];omega)|omega) ha hh) rfl<|WR_a 6 rfl<|WR_k [6,7,8] rfl ?_
  refine W_ret ?_
  exact⟨_,_,ResL.of rfl,Pur.tupleL (PurL.cons (Pur.pure (p:=intsV e.arcs))<|PurL.cons (Pur.pure (p:=pktV ⟨p.id,p.src,p.dst,p.flow,_,p.hops+1⟩))<|PurL.cons Pur.pure PurL.nil),rfl⟩
def entAt (x:Tab) (v:Int):Ent:=x.ents.getD v.toNat entD
def skipS (h:Seg):List Seg→List Seg
 | []=>[]
 |a::l=>if a=h then skipS h l else a::l
def goO (T:Topo) (x:Tab) (p:Pkt) (s:List Seg) (v:Int) (K:Out):Out:=if(nodeB T v&&decide (0<((entAt x v).arcs.length:Int)))=true then enterO p s (entAt x v) else K
def roundO (T:Topo) (x:Tab) (p:Pkt) (s:List Seg) (K:Out):Out:=
 if(decide ((s.length:Int)=0)&&decide (p.dst=x.node))=true then⟨[],⟨p.id,p.src,p.dst,p.flow,[],p.hops⟩, -1⟩
 else if(decide (255≤p.hops)||decide (p.hops<0))=true then dropO p 4
 else match s with
  | []=>goO T x p [] p.dst (dropO p 1)
  |a::l=>if a.kind=1 then goO T x p (a::l) a.num K
   else if a.kind=2 then(if(!(arcB T a.num)||decide (tailN T a.num.toNat≠x.node))=true then dropO p 2 else if a.num∈x.down then K else leaveO p l [a.num])
   else dropO p 1
def stepO (T:Topo) (x:Tab) (p:Pkt):Out:=
 if((!tabOK T x)|| !(nodeB T p.dst))=true then dropO p 1
 else if 32<(p.stack.length:Int) then dropO p 5
 else roundO T x p (skipS ⟨1,x.node⟩ p.stack) (roundO T x p [] (dropO p 1))
theorem ent_small {T:Topo} {x:Tab} (h:tabOK T x=true) {v:Int} (hv:nodeB T v=true):∃k:Nat,v=(k:Int)∧x.ents[k]? =some (entAt x v)∧(entAt x v).push.length≤40∧(entAt x v).arcs.length≤1000:=by
 unfold tabOK at h
 simp only[Bool.and_eq_true,decide_eq_true_eq]at h
 obtain⟨⟨⟨⟨h1,h2⟩,h3⟩,h4⟩,h5⟩:=h
 have hll:=links_le h1
 obtain⟨v0,v1⟩:=nodeB_iff.1 hv
 obtain⟨k,rfl⟩:=Int.eq_ofNat_of_zero_le v0
 have hk:k<x.ents.length:=by omega
 have hg:x.ents[k]? =some (entAt x (k:Int)):=by
  unfold entAt
  rw[Int.toNat_natCast,List.getD_eq_getElem?_getD,List.getElem?_eq_getElem hk]
  rfl
 have ho:=(of_decide_eq_true h5) k hk
 rw[ents_getD _ _ _ hg]at ho
 unfold entOK at ho
 simp only[Bool.and_eq_true]at ho
 refine⟨k,rfl,hg,?_,?_⟩
 ·have:=ho.2
  split at this
  ·simp only[Bool.and_eq_true,decide_eq_true_eq]at this;omega
  ·simp only[decide_eq_true_eq]at this;omega
 ·have:=leave_len hll ho.1.1;omega
theorem down_small {T:Topo} {x:Tab} (h:tabOK T x=true):x.down.length≤1000:=by
 unfold tabOK at h
 simp only[Bool.and_eq_true]at h
 have:=leave_len (links_le h.1.1.1.1) h.1.2
 omega
set_option maxRecDepth 10000 in
set_option maxHeartbeats 2000000 in
theorem step_can (T : Topo) (x : Tab) (p : Pkt) (hps : p.stack.length ≤ 1000) : Can Tryz.prog 47 [topoV T, tabV x, pktV p] (· = outV (stepO T x p)) := by
  obtain ⟨c1, hc1⟩ : ∃ q, tabOK T x = q := ⟨_, rfl⟩
  obtain ⟨c2, hc2⟩ : ∃ q, nodeB T p.dst = q := ⟨_, rfl⟩
  obtain ⟨n, hn⟩ : ∃ n, x.node = n := ⟨_, rfl⟩
  unfold stepO
  rw [hc1, hc2]
  refine can_of Tryz.func47 rfl Tryz.ntmps47 rfl ?_
  refine W_rs ?_
  refine WR_a 6 rfl <| WR_k [3, 4, 5, 7] rfl ?_
  refine W_scope ?_
  refine W_seq ?_
  refine W_csK 22 (.raw (.bool ((!c1) || !c2))) [3, 4, 5, 7] rfl ?_ ?_
  · refine .a 2 rfl <| .c rfl (hc1 ▸ tvalid_can T x) rfl <| .a 2 rfl <| ?_
    cases c1
    · exact .a 6 rfl <| .k [22, 3, 4, 5, 7] rfl
    · exact .a 3 rfl <| .c rfl (hc2 ▸ node_can T p.dst) rfl <| .a 2 rfl <| .k [22, 3, 4, 5, 7] rfl
  refine W_cond rfl (fun h1 => ?_) (fun h1 => ?_)
  · rw [if_pos h1]
    refine W_rs ?_
    refine WR_a 1 rfl <| WR_c rfl (drop_can p 1 hps) rfl <| WR_a 6 rfl <| WR_k [6, 7, 8] rfl ?_
    refine W_ret ?_
    exact ⟨_, _, ResL.of rfl, Pur.tupleL (PurL.cons (Pur.pure (p := intsV [])) <| PurL.cons (Pur.pure (p := pktV p)) <| PurL.cons Pur.pure PurL.nil), rfl⟩
  · rw [if_neg (by rw [h1]; simp)]
    obtain ⟨rfl, rfl⟩ : c1 = true ∧ c2 = true := by revert h1; cases c1 <;> cases c2 <;> simp
    refine W_skip ?_
    refine W_seq ?_
    refine W_cs (.a 1 rfl <| .v (y_ld rfl ((rfl : (pktP p)[4]? = some (segsV p.stack)))) rfl <| .a 2 rfl <| .k [3, 4, 5, 7, 31] rfl) ?_
    refine W_cond rfl (fun h2 => ?_) (fun h2 => ?_)
    · rw [if_pos (tt h2)]
      refine W_rs ?_
      refine WR_a 1 rfl <| WR_c rfl (drop_can p 5 hps) rfl <| WR_a 6 rfl <| WR_k [6, 7, 8] rfl ?_
      refine W_ret ?_
      exact ⟨_, _, ResL.of rfl, Pur.tupleL (PurL.cons (Pur.pure (p := intsV [])) <| PurL.cons (Pur.pure (p := pktV p)) <| PurL.cons Pur.pure PurL.nil), rfl⟩
    · rw [if_neg (ff h2)]
      have h32 : p.stack.length ≤ 32 := by have := ff h2; omega
      refine W_skip ?_
      refine W_cs (.a 1 rfl <| .v (y_ld rfl ((rfl : (pktP p)[4]? = some (segsV p.stack)))) rfl <| .a 1 rfl <| .k [3, 4, 5, 7, 9] rfl) ?_
      refine W_rs ?_
      refine WR_a 1 rfl <| WR_v (y_ld rfl ((show (tabP x)[0]? = some (num n) by rw [← hn]; rfl))) rfl <| WR_a 3 rfl <| WR_k [3, 4, 5, 7, 9, 10] rfl ?_
      refine W_seq ?_
      refine W_block ?_
      refine W_k [3, 4, 5, 7, 9, 10] rfl ?_
      refine W_loop (fun r st => ∃ s : List Seg, s.length ≤ 32 ∧ r = s.length ∧ skipS ⟨1, n⟩ p.stack = skipS ⟨1, n⟩ s ∧ st = ⟨[(3, .pin (topoP T) 0), (4, .pin (tabP x) 0), (5, .pin (pktP p) 0), (7, .ptr 0 0), (9, segsV s), (10, .ptr 1 0)], [some (.cells 66 [num 0, num 0, num 0, num 0, .raw (.slice none 0 0), num 0]), some (.cells 103 [num 1, num n])]⟩) p.stack.length ⟨p.stack, h32, rfl, rfl, rfl⟩ ?_
      rintro r st ⟨s, hs, rfl, hsk, rfl⟩
      obtain ⟨e1, he1⟩ : ∃ q, decide (0 < (s.length : Int)) = q := ⟨_, rfl⟩
      obtain ⟨a, ha⟩ : ∃ a, s.getD 0 ⟨0, 0⟩ = a := ⟨_, rfl⟩
      obtain ⟨e2, he2⟩ : ∃ q, decide (a = (⟨1, n⟩ : Seg)) = q := ⟨_, rfl⟩
      refine W_seq ?_
      refine W_drsK mixed (by kernel_rfl) 51 (.raw (.bool (e1 && e2))) [3, 4, 5, 7, 9, 10] rfl ?_ ?_
      · refine .a 2 rfl <| .v [43] (y_q rfl (he1)) rfl rfl <| .a 1 rfl <| ?_
        cases e1
        · exact .a 6 rfl <| .k [51, 3, 4, 5, 7, 9, 10] rfl
        · exact .a 1 rfl <| .v [46] (y_ix (0) rfl (by omega) (by have := tt he1; omega)) rfl rfl <| .v [47] (y_la rfl (segs_drop s 0 a (by rw [← ha]; have := tt he1; rw [List.getD_eq_getElem?_getD, List.getElem?_eq_getElem (by omega)]; rfl)) rfl) rfl rfl <| .a 1 rfl <| .v [48, 49] (y_segEql rfl rfl (b := ⟨1, n⟩) rfl he2) rfl rfl <| .a 1 rfl <| .k [51, 3, 4, 5, 7, 9, 10] rfl
      refine W_cond rfl (fun h3 => ?_) (fun h3 => ?_)
      · obtain ⟨rfl, rfl⟩ := Bool.and_eq_true_iff.1 h3
        obtain ⟨l, rfl⟩ : ∃ l, s = (⟨1, n⟩ : Seg) :: l := by
          have h4 := tt he2
          cases s with
          | nil => exact absurd (tt he1) (by simp)
          | cons b l => exact ⟨l, by rw [← h4, ← ha]; rfl⟩
        simp only [skipS, if_true] at hsk
        refine W_skip ?_
        refine W_block ?_
        refine W_chain (.a 1 rfl <| .v (y_segTail rfl (fok.el.get rfl) rfl rfl) rfl <| .a 1 rfl <| .k [3, 4, 5, 7, 9, 10] rfl) ?_
        exact ⟨l.length, by simp, l, by simp at hs; omega, rfl, hsk, rfl⟩
      · have hsk : skipS ⟨1, n⟩ p.stack = s := by
          rw [hsk]
          cases s with
          | nil => rfl
          | cons b l =>
            have e1t : e1 = true := by rw [← he1]; simp
            rw [e1t, Bool.true_and] at h3
            rw [h3] at he2
            have h5 := ff he2
            simp only [skipS]
            rw [if_neg (by rw [← ha] at h5; exact h5)]
        rw [hn, hsk]
        clear he1 ha he2 h3
        refine W_exit ?_
        refine W_seq ?_
        refine W_label ?_
        refine W_block ?_
        refine W_k [3, 4, 5, 7, 9] rfl ?_
        refine W_loop (fun r st => ∃ (s' : List Seg) (z : PV), PLe z (segsV s') ∧ s'.length ≤ 32 ∧ r = s'.length ∧ roundO T x p s (roundO T x p [] (dropO p 1)) = roundO T x p s' (roundO T x p [] (dropO p 1)) ∧ st = ⟨[(3, .pin (topoP T) 0), (4, .pin (tabP x) 0), (5, .pin (pktP p) 0), (7, .ptr 0 0), (9, z)], [some (.cells 66 [num 0, num 0, num 0, num 0, .raw (.slice none 0 0), num 0]), some (.cells 103 [num 1, num n])]⟩) s.length ⟨s, _, PLe.refl _, hs, rfl, rfl, rfl⟩ ?_
        clear hsk hs
        rintro r st ⟨s', z, hz, hs, rfl, hR, rfl⟩
        refine W_sub (t' := [(3, .pin (topoP T) 0), (4, .pin (tabP x) 0), (5, .pin (pktP p) 0), (7, .ptr 0 0), (9, segsV s')]) ?_ ?_
        · exact Sub.cons rfl <| Sub.cons rfl <| Sub.cons rfl <| Sub.cons rfl <| Sub.consLe rfl hz <| Sub.nil _
        clear hz
        rw [hR]
        clear hR
        obtain ⟨K0, hK0⟩ : ∃ K, roundO T x p [] (dropO p 1) = K := ⟨_, rfl⟩
        rw [hK0]
        obtain ⟨R, hS⟩ : ∃ R, roundO T x p s' K0 = R := ⟨_, rfl⟩
        rw [hS]
        have hRR := hS
        unfold roundO at hRR
        obtain ⟨c5, hc5⟩ : ∃ q, decide ((s'.length : Int) = 0) = q := ⟨_, rfl⟩
        obtain ⟨c6, hc6⟩ : ∃ q, decide (p.dst = n) = q := ⟨_, rfl⟩
        obtain ⟨c7, hc7⟩ : ∃ q, decide (255 ≤ p.hops) = q := ⟨_, rfl⟩
        obtain ⟨c8, hc8⟩ : ∃ q, decide (p.hops < 0) = q := ⟨_, rfl⟩
        rw [hc5, hn, hc6, hc7, hc8] at hRR
        refine W_block ?_
        refine W_seq ?_
        refine W_csK 63 (.raw (.bool (c5 && c6))) [3, 4, 5, 7, 9] rfl ?_ ?_
        · refine .a 2 rfl <| .v (y_q rfl (hc5)) rfl <| .a 1 rfl <| ?_
          cases c5
          · exact .a 6 rfl <| .k [63, 3, 4, 5, 7, 9] rfl
          · exact .a 1 rfl <| .v (y_ld rfl ((rfl : (pktP p)[2]? = some (num p.dst)))) rfl <| .a 1 rfl <| .v (y_ld rfl ((show (tabP x)[0]? = some (num n) by rw [← hn]; rfl))) rfl <| .v (y_q rfl (hc6)) rfl <| .a 1 rfl <| .k [63, 3, 4, 5, 7, 9] rfl
        refine W_cond rfl (fun h1 => ?_) (fun h1 => ?_)
        · rw [if_pos h1] at hRR
          subst hRR
          refine W_rs ?_
          refine WR_a 1 rfl <| WR_v (y_cP rfl (PurL.cons Pur.pure <| PurL.cons Pur.nils PurL.nil) (with_can p [] (by simp))) rfl <| WR_a 3 rfl <| WR_k [6, 7, 8] rfl ?_
          refine W_ret ?_
          exact ⟨_, _, ResL.of rfl, Pur.tupleL (PurL.cons Pur.nils <| PurL.cons (Pur.pure (p := pktV ⟨p.id, p.src, p.dst, p.flow, [], p.hops⟩)) <| PurL.cons Pur.pure PurL.nil), rfl⟩
        · rw [if_neg (by rw [h1]; simp)] at hRR
          refine W_skip ?_
          refine W_seq ?_
          refine W_csK 73 (.raw (.bool (c7 || c8))) [3, 4, 5, 7, 9] rfl ?_ ?_
          · refine .a 1 rfl <| .v (y_ld rfl ((rfl : (pktP p)[5]? = some (num p.hops)))) rfl <| .v (y_q rfl (hc7)) rfl <| .a 1 rfl <| ?_
            cases c7
            · exact .a 1 rfl <| .v (y_ld rfl ((rfl : (pktP p)[5]? = some (num p.hops)))) rfl <| .v (y_q rfl (hc8)) rfl <| .a 1 rfl <| .k [73, 3, 4, 5, 7, 9] rfl
            · exact .a 4 rfl <| .k [73, 3, 4, 5, 7, 9] rfl
          refine W_cond rfl (fun h2 => ?_) (fun h2 => ?_)
          · rw [if_pos h2] at hRR
            subst hRR
            refine W_rs ?_
            refine WR_a 1 rfl <| WR_c rfl (drop_can p 4 hps) rfl <| WR_a 6 rfl <| WR_k [6, 7, 8] rfl ?_
            refine W_ret ?_
            exact ⟨_, _, ResL.of rfl, Pur.tupleL (PurL.cons (Pur.pure (p := intsV [])) <| PurL.cons (Pur.pure (p := pktV p)) <| PurL.cons Pur.pure PurL.nil), rfl⟩
          · rw [if_neg (by rw [h2]; simp)] at hRR
            have hh : 0 ≤ p.hops ∧ p.hops ≤ 1000 := by
              obtain ⟨h3, h4⟩ := Bool.or_eq_false_iff.1 h2
              rw [← hc7] at h3
              rw [← hc8] at h4
              have := ff h3
              have := ff h4
              omega
            clear hc5 hc6 hc7 hc8 h1 h2
            refine W_skip ?_
            obtain ⟨v, hv⟩ : ∃ v, p.dst = v := ⟨_, rfl⟩
            refine W_cs (.a 1 rfl <| .v (y_ld rfl ((show (pktP p)[2]? = some (num v) by rw [← hv]; rfl))) rfl <| .a 1 rfl <| .k [3, 4, 5, 7, 9, 11] rfl) ?_
            refine W_seq ?_
            refine W_cs (.a 3 rfl <| .k [3, 4, 5, 7, 9, 11, 83] rfl) ?_
            refine W_cond rfl (fun h3 => ?_) (fun h3 => ?_)
            · have hne : 0 < s'.length := by have := tt h3; omega
              obtain ⟨a, l, hs'⟩ : ∃ a l, s' = a :: l := by
                cases s' with
                | nil => exact absurd hne (by simp)
                | cons a l => exact ⟨a, l, rfl⟩
              have h0 : s'[0]? = some a := by rw [hs']; rfl
              rw [hs'] at hRR
              dsimp only at hRR
              rw [← hs'] at hRR
              clear hv
              obtain ⟨v, hv⟩ : ∃ v, a.num = v := ⟨_, rfl⟩
              rw [hv] at hRR
              refine W_cs (.a 1 rfl <| .v (y_ix (0) rfl (by omega) (by omega)) rfl <| .a 1 rfl <| .v (y_ld rfl (((segs_n s' 0 a h0).trans (by rw [hv])))) rfl <| .a 1 rfl <| .k [3, 4, 5, 7, 9, 11] rfl) ?_
              refine W_cs (.a 1 rfl <| .v (y_ix (0) rfl (by omega) (by omega)) rfl <| .a 1 rfl <| .v (y_ld rfl ((segs_k s' 0 a h0))) rfl <| .k [3, 4, 5, 7, 9, 11, 91] rfl) ?_
              refine W_block ?_
              refine W_cs (.a 2 rfl <| .k [3, 4, 5, 7, 9, 11, 91, 97] rfl) ?_
              refine W_cond rfl (fun h4 => ?_) (fun h4 => ?_)
              · rw [if_pos (tt h4)] at hRR
                obtain ⟨K1, hK1, hK1n, hK1p⟩ : ∃ K1, K1 = K0 ∧ (s'.length = 0 → K1 = dropO p 1) ∧ (0 < s'.length → K1 = K0) := ⟨_, rfl, fun h => absurd h (by omega), fun h => rfl⟩
                rw [← hK1] at hRR
                clear hK1 h3 h4 hs' hv h0
                refine W_skip ?_
                refine W_seq ?_
                obtain ⟨c11, hc11⟩ : ∃ q, nodeB T v = q := ⟨_, rfl⟩
                have hnc := node_can T v
                rw [hc11] at hnc
                unfold goO at hRR
                have hes : c11 = true → x.ents[v.toNat]? = some (entAt x v) ∧ (entAt x v).push.length ≤ 40 ∧ (entAt x v).arcs.length ≤ 1000 ∧ v < (x.ents.length : Int) ∧ 0 ≤ v := fun h => by
                  obtain ⟨k, rfl, g1, g2, g3⟩ := ent_small hc1 (hc11.trans h)
                  have := (List.getElem?_eq_some_iff.1 g1).1
                  exact ⟨g1, g2, g3, by omega, by omega⟩
                obtain ⟨e, he⟩ : ∃ e, entAt x v = e := ⟨_, rfl⟩
                obtain ⟨c12, hc12⟩ : ∃ q, decide (0 < (e.arcs.length : Int)) = q := ⟨_, rfl⟩
                rw [he] at hes hRR
                rw [hc11, hc12] at hRR
                refine W_seqM (Q1 := fun st => st = ⟨[(143, flag (c11 && c12)), (3, .pin (topoP T) 0), (4, .pin (tabP x) 0), (5, .pin (pktP p) 0), (7, .ptr 0 0), (9, segsV s'), (11, num v)], [some (.cells 66 [num 0, num 0, num 0, num 0, .raw (.slice none 0 0), num 0]), some (.cells 103 [num 1, num n])]⟩) ?_ ?_
                · cases c11
                  · refine W_chain (.a 2 rfl <| .c rfl (hnc) rfl <| .a 10 rfl <| .k [143, 3, 4, 5, 7, 9, 11] rfl) ?_
                    rfl
                  · refine W_chain (.a 2 rfl <| .c rfl (hnc) rfl <| .a 2 rfl <| .v (y_ld rfl ((rfl : (tabP x)[1]? = some (entsV x.ents)))) rfl <| .a 1 rfl <| .v (y_ix ((v.toNat * 3)) rfl (hes rfl).2.2.2.2 (hes rfl).2.2.2.1) rfl <| .a 1 rfl <| .v (y_ld rfl ((ents_get x.ents v.toNat 0 e (hes rfl).1 (by omega)))) rfl <| .a 1 rfl <| .v (y_q rfl (hc12)) rfl <| .a 1 rfl <| .k [143, 3, 4, 5, 7, 9, 11] rfl) ?_
                    rfl
                rintro _ rfl
                refine W_cond rfl (fun h8 => ?_) (fun h8 => ?_)
                · rw [if_pos h8] at hRR
                  obtain ⟨g1, g2, g3, g4, g5⟩ := hes (Bool.and_eq_true_iff.1 h8).1
                  subst hRR
                  refine W_dfs 12 20 mixed (
                    .val [5] rfl (y_a rfl) rfl rfl <|
                    .val [9] rfl (y_a rfl) rfl rfl <|
                    .val [4] rfl (y_a rfl) rfl rfl <|
                    .val [146] rfl (y_ld rfl ((rfl : (tabP x)[1]? = some (entsV x.ents)))) rfl rfl <|
                    .val [11] rfl (y_a rfl) rfl rfl <|
                    .val [147, 148] rfl (y_ix ((v.toNat * 3)) rfl g5 g4) rfl rfl <|
                    .val [149] rfl (y_la rfl ((ents_drop x.ents v.toNat e g1)) rfl) rfl rfl <|
                    .val [144, 145, 150] rfl (y_c rfl (enter_can p s' e (by omega) g2 g3 hps hh)) rfl rfl <|
                    .val [151] rfl (y_a rfl) rfl rfl <|
                    .val [151] rfl (y_a rfl) rfl rfl <|
                    .val [151] rfl (y_a rfl) rfl rfl <|
                    .val [152] rfl (y_a rfl) rfl rfl <|
                    .nil) (by kernel_rfl) rfl rfl (keepT_sub (ks := [6, 7, 153, 154]) rfl) ?_
                  refine WR_a 2 rfl <| WR_k [6, 7, 8] rfl ?_
                  refine W_ret ?_
                  exact ⟨_, _, ResL.of rfl, Pur.tupleL (PurL.cons (Pur.pure (p := intsV (enterO p s' e).arcs)) <| PurL.cons (Pur.pure (p := pktV (enterO p s' e).pkt)) <| PurL.cons Pur.pure PurL.nil), rfl⟩
                · rw [if_neg (by rw [h8]; simp)] at hRR
                  refine W_skip ?_
                  refine W_seq ?_
                  refine W_cs (.a 3 rfl <| .k [3, 4, 5, 7, 157] rfl) ?_
                  refine W_cond rfl (fun h9 => ?_) (fun h9 => ?_)
                  · rw [hK1n (by have := tt h9; omega)] at hRR
                    subst hRR
                    refine W_rs ?_
                    refine WR_a 1 rfl <| WR_c rfl (drop_can p 1 hps) rfl <| WR_a 6 rfl <| WR_k [6, 7, 8] rfl ?_
                    refine W_ret ?_
                    exact ⟨_, _, ResL.of rfl, Pur.tupleL (PurL.cons (Pur.pure (p := intsV [])) <| PurL.cons (Pur.pure (p := pktV p)) <| PurL.cons Pur.pure PurL.nil), rfl⟩
                  · have hne : 0 < s'.length := by have := ff h9; omega
                    rw [hK1p hne] at hRR
                    refine W_skip ?_
                    refine W_chain (.a 1 rfl <| .k [3, 4, 5, 7, 9] rfl) ?_
                    exact ⟨0, hne, [], _, PLe.nils, by simp, rfl, hRR.symm.trans (hK0.symm.trans rfl), rfl⟩
              · rw [if_neg (ff h4)] at hRR
                refine W_cs (.a 2 rfl <| .k [3, 4, 5, 7, 9, 11, 99] rfl) ?_
                refine W_cond rfl (fun h5 => ?_) (fun h5 => ?_)
                · rw [if_pos (tt h5)] at hRR
                  obtain ⟨c9, hc9⟩ : ∃ q, arcB T v = q := ⟨_, rfl⟩
                  obtain ⟨c10, hc10⟩ : ∃ q, decide (tailN T v.toNat ≠ n) = q := ⟨_, rfl⟩
                  have hac := arc_can T (by have h := hc1; unfold tabOK at h; simp only [Bool.and_eq_true] at h; have := links_le h.1.1.1.1; omega) v
                  rw [hc9] at hac
                  rw [hc9, hc10] at hRR
                  refine W_seq ?_
                  refine W_drsK mixed (by kernel_rfl) 112 (.raw (.bool ((!c9) || c10))) [3, 4, 5, 7, 9, 11] rfl ?_ ?_
                  · refine .a 2 rfl <| .v [101, 102] (y_c rfl (hac)) rfl rfl <| .a 2 rfl <| ?_
                    cases c9
                    · exact .a 7 rfl <| .k [112, 3, 4, 5, 7, 9, 11] rfl
                    · exact .a 2 rfl <| .v [106, 107] (y_c rfl (tailI_can T v hc9)) rfl rfl <| .a 1 rfl <| .v [109] (y_ld rfl ((show (tabP x)[0]? = some (num n) by rw [← hn]; rfl))) rfl rfl <| .v [108, 110] (y_q rfl (hc10)) rfl rfl <| .a 1 rfl <| .k [112, 3, 4, 5, 7, 9, 11] rfl
                  refine W_cond rfl (fun h6 => ?_) (fun h6 => ?_)
                  · rw [if_pos h6] at hRR
                    subst hRR
                    refine W_rs ?_
                    refine WR_a 1 rfl <| WR_c rfl (drop_can p 2 hps) rfl <| WR_a 6 rfl <| WR_k [6, 7, 8] rfl ?_
                    refine W_ret ?_
                    exact ⟨_, _, ResL.of rfl, Pur.tupleL (PurL.cons (Pur.pure (p := intsV [])) <| PurL.cons (Pur.pure (p := pktV p)) <| PurL.cons Pur.pure PurL.nil), rfl⟩
                  · rw [if_neg (by rw [h6]; simp)] at hRR
                    refine W_skip ?_
                    refine W_seq ?_
                    refine W_cs (.a 1 rfl <| .v (y_ld rfl ((rfl : (tabP x)[2]? = some (intsV x.down)))) rfl <| .a 1 rfl <| .c rfl (scontains_can x.down v (down_small hc1)) rfl <| .k [3, 4, 5, 7, 9, 11, 121] rfl) ?_
                    refine W_cond rfl (fun h7 => ?_) (fun h7 => ?_)
                    · rw [if_pos (tt h7)] at hRR
                      refine W_cs (.a 1 rfl <| .k [3, 4, 5, 7, 9] rfl) ?_
                      refine W_exit ?_
                      exact ⟨0, hne, [], _, PLe.nils, by simp, rfl, hRR.symm.trans (hK0.symm.trans rfl), rfl⟩
                    · rw [if_neg (ff h7)] at hRR
                      subst hRR
                      subst hs'
                      refine W_skip ?_
                      refine W_dfs 10 20 mixed (
                        .val [5] rfl (y_a rfl) rfl rfl <|
                        .val [9] rfl (y_a rfl) rfl rfl <|
                        .val [123] rfl (y_segTail rfl (fok.el.get rfl) rfl rfl) rfl rfl <|
                        .val [11] rfl (y_a rfl) rfl rfl <|
                        .val [125] rfl (y_a rfl) rfl rfl <|
                        .val [122, 124, 126] rfl (y_c rfl (leave_can p l [v] (by simp at hs; omega) (by simp) hh)) rfl rfl <|
                        .val [127] rfl (y_a rfl) rfl rfl <|
                        .val [127] rfl (y_a rfl) rfl rfl <|
                        .val [127] rfl (y_a rfl) rfl rfl <|
                        .val [128] rfl (y_a rfl) rfl rfl <|
                        .nil) (by kernel_rfl) rfl rfl (keepT_sub (ks := [6, 7, 129, 130]) rfl) ?_
                      refine WR_a 2 rfl <| WR_k [6, 7, 8] rfl ?_
                      refine W_ret ?_
                      exact ⟨_, _, ResL.of rfl, Pur.tupleL (PurL.cons (Pur.pure (p := intsV [v])) <| PurL.cons (Pur.pure (p := pktV (leaveO p l [v]).pkt)) <| PurL.cons Pur.pure PurL.nil), rfl⟩
                · rw [if_neg (ff h5)] at hRR
                  subst hRR
                  refine W_rs ?_
                  refine WR_a 1 rfl <| WR_c rfl (drop_can p 1 hps) rfl <| WR_a 6 rfl <| WR_k [6, 7, 8] rfl ?_
                  refine W_ret ?_
                  exact ⟨_, _, ResL.of rfl, Pur.tupleL (PurL.cons (Pur.pure (p := intsV [])) <| PurL.cons (Pur.pure (p := pktV p)) <| PurL.cons Pur.pure PurL.nil), rfl⟩
            · have hs' : s' = [] := by
                cases s' with
                | nil => rfl
                | cons a l => exact absurd (ff h3) (by simp)
              rw [hs'] at hRR
              dsimp only at hRR
              rw [← hs', hv] at hRR
              obtain ⟨K1, hK1, hK1n, hK1p⟩ : ∃ K1, K1 = dropO p 1 ∧ (s'.length = 0 → K1 = dropO p 1) ∧ (0 < s'.length → K1 = K0) := ⟨_, rfl, fun _ => rfl, fun h => absurd h (by rw [hs']; simp)⟩
              rw [← hK1] at hRR
              clear hK1 h3 hs' hv
              refine W_skip ?_
              refine W_seq ?_
              obtain ⟨c11, hc11⟩ : ∃ q, nodeB T v = q := ⟨_, rfl⟩
              have hnc := node_can T v
              rw [hc11] at hnc
              unfold goO at hRR
              have hes : c11 = true → x.ents[v.toNat]? = some (entAt x v) ∧ (entAt x v).push.length ≤ 40 ∧ (entAt x v).arcs.length ≤ 1000 ∧ v < (x.ents.length : Int) ∧ 0 ≤ v := fun h => by
                obtain ⟨k, rfl, g1, g2, g3⟩ := ent_small hc1 (hc11.trans h)
                have := (List.getElem?_eq_some_iff.1 g1).1
                exact ⟨g1, g2, g3, by omega, by omega⟩
              obtain ⟨e, he⟩ : ∃ e, entAt x v = e := ⟨_, rfl⟩
              obtain ⟨c12, hc12⟩ : ∃ q, decide (0 < (e.arcs.length : Int)) = q := ⟨_, rfl⟩
              rw [he] at hes hRR
              rw [hc11, hc12] at hRR
              refine W_seqM (Q1 := fun st => st = ⟨[(143, flag (c11 && c12)), (3, .pin (topoP T) 0), (4, .pin (tabP x) 0), (5, .pin (pktP p) 0), (7, .ptr 0 0), (9, segsV s'), (11, num v)], [some (.cells 66 [num 0, num 0, num 0, num 0, .raw (.slice none 0 0), num 0]), some (.cells 103 [num 1, num n])]⟩) ?_ ?_
              · cases c11
                · refine W_chain (.a 2 rfl <| .c rfl (hnc) rfl <| .a 10 rfl <| .k [143, 3, 4, 5, 7, 9, 11] rfl) ?_
                  rfl
                · refine W_chain (.a 2 rfl <| .c rfl (hnc) rfl <| .a 2 rfl <| .v (y_ld rfl ((rfl : (tabP x)[1]? = some (entsV x.ents)))) rfl <| .a 1 rfl <| .v (y_ix ((v.toNat * 3)) rfl (hes rfl).2.2.2.2 (hes rfl).2.2.2.1) rfl <| .a 1 rfl <| .v (y_ld rfl ((ents_get x.ents v.toNat 0 e (hes rfl).1 (by omega)))) rfl <| .a 1 rfl <| .v (y_q rfl (hc12)) rfl <| .a 1 rfl <| .k [143, 3, 4, 5, 7, 9, 11] rfl) ?_
                  rfl
              rintro _ rfl
              refine W_cond rfl (fun h8 => ?_) (fun h8 => ?_)
              · rw [if_pos h8] at hRR
                obtain ⟨g1, g2, g3, g4, g5⟩ := hes (Bool.and_eq_true_iff.1 h8).1
                subst hRR
                refine W_dfs 12 20 mixed (
                  .val [5] rfl (y_a rfl) rfl rfl <|
                  .val [9] rfl (y_a rfl) rfl rfl <|
                  .val [4] rfl (y_a rfl) rfl rfl <|
                  .val [146] rfl (y_ld rfl ((rfl : (tabP x)[1]? = some (entsV x.ents)))) rfl rfl <|
                  .val [11] rfl (y_a rfl) rfl rfl <|
                  .val [147, 148] rfl (y_ix ((v.toNat * 3)) rfl g5 g4) rfl rfl <|
                  .val [149] rfl (y_la rfl ((ents_drop x.ents v.toNat e g1)) rfl) rfl rfl <|
                  .val [144, 145, 150] rfl (y_c rfl (enter_can p s' e (by omega) g2 g3 hps hh)) rfl rfl <|
                  .val [151] rfl (y_a rfl) rfl rfl <|
                  .val [151] rfl (y_a rfl) rfl rfl <|
                  .val [151] rfl (y_a rfl) rfl rfl <|
                  .val [152] rfl (y_a rfl) rfl rfl <|
                  .nil) (by kernel_rfl) rfl rfl (keepT_sub (ks := [6, 7, 153, 154]) rfl) ?_
                refine WR_a 2 rfl <| WR_k [6, 7, 8] rfl ?_
                refine W_ret ?_
                exact ⟨_, _, ResL.of rfl, Pur.tupleL (PurL.cons (Pur.pure (p := intsV (enterO p s' e).arcs)) <| PurL.cons (Pur.pure (p := pktV (enterO p s' e).pkt)) <| PurL.cons Pur.pure PurL.nil), rfl⟩
              · rw [if_neg (by rw [h8]; simp)] at hRR
                refine W_skip ?_
                refine W_seq ?_
                refine W_cs (.a 3 rfl <| .k [3, 4, 5, 7, 157] rfl) ?_
                refine W_cond rfl (fun h9 => ?_) (fun h9 => ?_)
                · rw [hK1n (by have := tt h9; omega)] at hRR
                  subst hRR
                  refine W_rs ?_
                  refine WR_a 1 rfl <| WR_c rfl (drop_can p 1 hps) rfl <| WR_a 6 rfl <| WR_k [6, 7, 8] rfl ?_
                  refine W_ret ?_
                  exact ⟨_, _, ResL.of rfl, Pur.tupleL (PurL.cons (Pur.pure (p := intsV [])) <| PurL.cons (Pur.pure (p := pktV p)) <| PurL.cons Pur.pure PurL.nil), rfl⟩
                · have hne : 0 < s'.length := by have := ff h9; omega
                  rw [hK1p hne] at hRR
                  refine W_skip ?_
                  refine W_chain (.a 1 rfl <| .k [3, 4, 5, 7, 9] rfl) ?_
                  exact ⟨0, hne, [], _, PLe.nils, by simp, rfl, hRR.symm.trans (hK0.symm.trans rfl), rfl⟩
end PW
end Go.Proofs.YtnegbdpggideiaaGreatDoor

namespace Go.Proofs.YtnegbdpggideiaaGreatDoor
set_option linter.unusedVariables false
set_option linter.unusedSimpArgs false
namespace PW
open Go.RowKit Reg Mem Net
section
variable {T:Topo} {D:List Bool}
theorem Ch.snoc {d n:Nat} {q:List Int} (h:Ch T D d n q):∀ {a x:Nat},(q=[]∨overN T d=false)→a<2*T.links.length→tailN T a=(d:Int)→downN D a=false→headN T a=(x:Int)→Ch T D x n (q++[(a:Int)]):=by
 induction h with
 |nil=>intro a x _ h1 h2 h3 h4;exact .cons h1 h2 h3 h4 (.inl rfl) .nil
 | @cons n b m p hb ht hu hm ho hp ih=>
  intro a x hov h1 h2 h3 h4
  have hov':overN T d=false:=by rcases hov with h|h;cases h;exact h
  refine .cons hb ht hu hm ?_ (ih (.inr hov') h1 h2 h3 h4)
  rcases ho with h|h
  ·have:=hp.to h
   subst this
   exact .inr hov'
  ·exact .inr h
theorem fwd_ch (hv:validB T=true) {n:Nat} (hn:(n:Int)<T.nodes) {d m:Nat} {p:List Int} (h:Ch T D d m p) (h0:0≤at' (distL T D n true) (m:Int)) (ho:p=[]∨m=n∨overN T m=false):0≤at' (distL T D n true) (d:Int):=by
 have hI:=distL_is (sound_of hv) D true hn
 induction h with
 |nil=>exact h0
 | @cons m a m' p ha ht hu hm hov hp ih=>
  have hw:=hI.closed a ha ⟨hu,by simp only[arcY,if_true];rw[ht];exact h0,by
   simp only[arcY,if_true];rw[ht]
   rcases ho with h|h|h
   ·cases h
   ·exact .inl (by rw[h])
   ·exact .inr (by simpa using h)⟩
  simp only[arcX,if_true]at hw
  rw[hm]at hw
  refine ih hw.1 ?_
  rcases hov with h|h
  ·exact .inl h
  ·exact .inr (.inr h)
theorem fwd_to (hv:validB T=true) {n:Nat} (hn:(n:Int)<T.nodes):∀(k x:Nat),(x:Int)<T.nodes→0≤at' (distL T D n true) (x:Int)→at' (distL T D n true) (x:Int)≤k→0≤dN T D x n:=by
 have hS:=sound_of hv
 have hI:=distL_is hS D true hn
 intro k
 induction k with
 |zero=>
  intro x hx h0 hk
  rcases hI.supp x hx h0 with h|⟨a,ha,hX,hW,hs⟩
  ·subst h;rw[dN_self hv hn];exact Int.le_refl _
  ·have:=(hS.cost a ha).1
   have:=hW.2.1
   omega
 |succ k ih=>
  intro x hx h0 hk
  rcases hI.supp x hx h0 with h|⟨a,ha,hX,hW,hs⟩
  ·subst h;rw[dN_self hv hn];exact Int.le_refl _
  ·simp only[arcX,arcY,if_true]at hX hs
   obtain⟨hu,hy0,hyo⟩:=hW
   simp only[arcY,if_true]at hy0 hyo
   have hc:=(hS.cost a ha).1
   have ht:=hS.tail a ha
   obtain⟨y,hy⟩:=Int.eq_ofNat_of_zero_le ht.1
   rw[hy]at hy0 hyo hs ht
   have hyN:(y:Int)<T.nodes:=ht.2
   have h1:=ih y hyN hy0 (by omega)
   have hsp:=spath_sp (D:=D) hv hyN hn h1
   have hc2:=hsp.ch.snoc (a:=a) (x:=x) (by
    rcases hyo with h|h
    ·have:y=n:=by omega
     subst this
     exact .inl hsp.self
    ·exact .inr (by simpa using h)) ha hy hu hX
   exact(hc2.le hv hx).1
theorem fwd_iff (hv:validB T=true) {n d:Nat} (hn:(n:Int)<T.nodes) (hd:(d:Int)<T.nodes):0≤(distL T D n true).getD d 0↔0≤dN T D d n:=by
 have hS:=sound_of hv
 have hI:=distL_is hS D true hn
 have hl:=hI.len
 have e:(distL T D n true).getD d 0=at' (distL T D n true) (d:Int):=by
  unfold at'
  rw[Int.toNat_natCast,List.getD_eq_getElem?_getD,List.getD_eq_getElem?_getD,List.getElem?_eq_getElem (by omega)]
  rfl
 rw[e]
 constructor
 ·intro h0
  exact fwd_to hv hn (at' (distL T D n true) (d:Int)).toNat d hd h0 (by have:=Int.toNat_of_nonneg h0;omega)
 ·intro h0
  have hsp:=spath_sp (D:=D) hv hd hn h0
  refine fwd_ch hv hn hsp.ch ?_ (.inr (.inl rfl))
  rw[hI.root]
  exact Int.le_refl _
end
end PW
end Go.Proofs.YtnegbdpggideiaaGreatDoor

namespace Go.Proofs.YtnegbdpggideiaaGreatDoor
set_option linter.unusedVariables false
set_option linter.unusedSimpArgs false
namespace PW
open Go.RowKit Reg Mem Net Rng
def grpN (T:Topo) (a:Nat):Int:=(lnk T.links (a / 2)).grp
noncomputable def rchB (T:Topo) (D:List Bool) (n d:Int):Bool:=decide (spE T D n d=0)
noncomputable def asmF (T:Topo) (a:Nat) (d:Int):Int×Int:=
 if(decide (0<grpN T a)&&rchB T (maskL T 3 (grpN T a)) (tailN T a) d)=true then(3,grpN T a)
 else if(decide (headN T a≠d)&&rchB T (maskL T 2 (headN T a)) (tailN T a) d)=true then(2,headN T a)
 else(1,((a / 2:Nat):Int))
def ownM (T:Topo) (M:List Bool) (n:Int):List Bool:=(List.range (2*T.links.length)).map fun a=>downN M a&&decide (tailN T a=n)
def orM (T:Topo) (D E:List Bool):List Bool:=(List.range (2*T.links.length)).map fun a=>downN D a||downN E a
theorem map_down {f:Nat→Bool} {n a:Nat}:downN ((List.range n).map f) a=(decide (a<n)&&f a):=by
 unfold downN
 rw[List.getD_eq_getElem?_getD,List.getElem?_map]
 by_cases h:a<n
 ·rw[List.getElem?_range h];simp[h]
 ·rw[List.getElem?_eq_none (by simp;omega)];simp[h]
theorem map_fits {T:Topo} {f:Nat→Bool}:fitsB T ((List.range (2*T.links.length)).map f)=true:=by simp[fitsB]
theorem own_down {T:Topo} {M:List Bool} {n:Int} {a:Nat}:downN (ownM T M n) a=(decide (a<2*T.links.length)&&(downN M a&&decide (tailN T a=n))):=map_down
theorem mask_fits (T:Topo) (k x:Int):fitsB T (maskL T k x)=true:=map_fits
theorem or_fits (T:Topo) (D E:List Bool):fitsB T (orM T D E)=true:=map_fits
theorem rch_iff {T:Topo} {D:List Bool} {x y:Nat} (hv:validB T=true) (hf:fitsB T D=true) (hx:(x:Int)<T.nodes) (hy:(y:Int)<T.nodes):rchB T D x y=true↔0≤dN T D y x:=by
 unfold rchB
 rw[decide_eq_true_eq,spE_zero hv hf hx hy]
 split<;>omega
theorem grp_range {T:Topo} (hv:validB T=true) {a:Nat} (ha:a<2*T.links.length):0≤grpN T a∧grpN T a≤64:=by
 have h:=valid_link hv (a / 2) (by omega)
 unfold grpN
 unfold linkOK at h
 rw[Bool.and_eq_true]at h
 unfold withinB at h
 exact of_decide_eq_true h.2
theorem asm_comp {T:Topo} (hv:validB T=true) {a:Nat} (ha:a<2*T.links.length) (d:Int):compB T (asmF T a d).1 (asmF T a d).2=true:=by
 have hg:=grp_range hv ha
 unfold asmF
 split
 ·rename_i h
  rw[Bool.and_eq_true,decide_eq_true_eq]at h
  show compB T 3 (grpN T a)=true
  unfold compB
  simp only[if_neg (show ¬(3:Int)=1 by decide),if_neg (show ¬(3:Int)=2 by decide),if_true,Bool.and_eq_true,decide_eq_true_eq]
  exact⟨by omega,by omega⟩
 ·split
  ·obtain⟨h0,h1⟩:=(sound_of hv).head a ha
   show compB T 2 (headN T a)=true
   unfold compB
   simp only[if_neg (show ¬(2:Int)=1 by decide),if_true]
   exact nodeB_iff.2 ⟨h0,h1⟩
  ·show compB T 1 ((a / 2:Nat):Int)=true
   unfold compB
   simp only[if_true,Bool.and_eq_true,decide_eq_true_eq]
   exact⟨by omega,by omega⟩
def hitL (own:List Bool) (l:List Int):Option Int:=l.find? fun a=>downN own a.toNat
noncomputable def mixM (T:Topo) (own:List Bool) (n d:Int) (a:Nat):List Bool:=
 if rchB T (orM T (maskL T (asmF T a d).1 (asmF T a d).2) own) n d=true then orM T (maskL T (asmF T a d).1 (asmF T a d).2) own else own
noncomputable def repX (T:Topo) (own:List Bool) (n d:Nat):Ent:=match hitL own (nextL T [] n d)with
 |none=>⟨nextL T [] n d,false,[]⟩
 |some a=>entX T (mixM T own n d a.toNat) n d
noncomputable def repL (T:Topo) (own:List Bool) (n k:Nat):List Ent:=(List.range k).map fun d=>repX T own n d
theorem repL_step (T:Topo) (own:List Bool) (n k:Nat):repL T own n (k+1)=repL T own n k++[repX T own n k]:=by simp[repL,List.range_succ]
theorem repL_len (T:Topo) (own:List Bool) (n k:Nat):(repL T own n k).length=k:=by simp[repL]
theorem repL_get {T:Topo} {own:List Bool} {n k d:Nat} (h:d<k):(repL T own n k)[d]? =some (repX T own n d):=by simp[repL,h]
noncomputable def repT (T:Topo) (M:List Bool) (n:Nat):Tab:=⟨n,repL T (ownM T M n) n T.nodes.toNat,downL M (outL T n)⟩
section
variable {T:Topo} {M own:List Bool} {n d:Nat}
theorem mix_fits (hf:fitsB T own=true) (a:Nat):fitsB T (mixM T own n d a)=true:=by
 unfold mixM;split
 ·exact or_fits _ _ _
 ·exact hf
theorem hit_some {l:List Int} {a:Int} (h:hitL own l=some a):a∈l∧downN own a.toNat=true:=⟨List.mem_of_find?_eq_some h,by have:=List.find?_some (p:=fun a:Int=>downN own a.toNat) h;exact this⟩
theorem rep_ok (hv:validB T=true) (h12:T.nodes≤12):entOK T n d (repX T own n d)=true:=by
 unfold repX
 cases hitL own (nextL T [] n d)with
 |some b=>exact ent_ok _ _ _ _ h12
 |none=>
  unfold entOK
  simp only[leave_next,Bool.true_and]
  by_cases hdn:d=n
  ·subst hdn;rw[next_self];simp
  ·rw[decide_eq_false (by omega)];simp
theorem rep_valid (hv:validB T=true) (h12:T.nodes≤12) (hn:(n:Int)<T.nodes):tabOK T (repT T M n)=true:=by
 unfold tabOK repT
 have h1:nodeB T (n:Int)=true:=nodeB_iff.2 ⟨by omega,hn⟩
 have hN:=(sound_of hv).nodes
 have h2:decide (((repL T (ownM T M n) n T.nodes.toNat).length:Int)=T.nodes)=true:=decide_eq_true (by rw[repL_len];omega)
 have h3:leaveB T n (downL M (outL T n))=true:=leave_out T n _
 have h4:entsOK T n (repL T (ownM T M n) n T.nodes.toNat)=true:=entsOK_all fun d e he=>by
  have hd:d<T.nodes.toNat:=by
   have:=(List.getElem?_eq_some_iff.1 he).1
   rwa [repL_len]at this
  rw[repL_get hd]at he
  cases he
  exact rep_ok hv h12
 rw[hv,h1,h2,h3,h4]
 rfl
end
end PW
end Go.Proofs.YtnegbdpggideiaaGreatDoor

namespace Go.Proofs.YtnegbdpggideiaaGreatDoor
set_option linter.unusedVariables false
set_option linter.unusedSimpArgs false
namespace PW
open Go.RowKit Reg Mem Net
section
variable {T:Topo} {D:List Bool}
theorem Stab.tail {n y m:Nat} {a:Int} {p:List Int} (h:Stab T D n y (a::p)) (hm:headN T a.toNat=(m:Int)):(p=[]∧m=y)∨Stab T D m y p:=by
 have hsp:=h.sp
 cases hsp with
 | @cons n a m' p hnr hh hp=>
  rw[Int.toNat_natCast,hh]at hm
  have e:m'=m:=by omega
  subst e
  cases p with
  |nil=>cases hp;exact .inl ⟨rfl,rfl⟩
  |cons b p=>
   refine .inr ?_
   have hpt:=h.part (i:=1) (k:=p.length+1) (by omega) (by simp)
   have hb:∃b':Nat,b=(b':Int)∧tailN T b'=(m':Int):=by
    cases hp with
    |cons hn2 _ _=>exact⟨_,rfl,hn2.tail⟩
   obtain⟨b',rfl,hbt⟩:=hb
   have hfin:=h.sp.ch.fin
   have hlast:headN T (((a:Int)::(b':Int)::p).getD (p.length+1) 0).toNat=(y:Int):=by
    rw[←hfin]
    have:=endL_step T (n:Int) ((a:Int)::(b':Int)::p) (p.length+1) (by simp)
    rw[←this,List.take_of_length_le (by simp)]
   rw[hlast]at hpt
   have e1:tailN T (((a:Int)::(b':Int)::p).getD 1 0).toNat=(m':Int):=hbt
   rw[e1]at hpt
   obtain⟨u,v,e3,e4,hs,_⟩:=stab_of hpt
   have e5:m'=u:=by omega
   have e6:y=v:=by omega
   subst e5;subst e6
   have:=hs.sp.unique hs.valid hs.hy hp hs.cnt
   rw[this]at hs
   exact hs
theorem Stab.fewer {E:List Bool} {n y:Nat} {p:List Int} (h:Stab T D n y p) (hf:fitsB T E=true) (hE:∀a,downN D a=false→downN E a=false):Stab T E n y p:=
 ⟨h.valid,hf,h.ne,h.hx,h.hy,h.uniq,h.sp,fun a ha=>hE _ (h.up a ha)⟩
inductive Lst (T:Topo) (D:List Bool) (d:Nat):Nat→List Seg→List Int→Prop
 |nil:Lst T D d d [] []
 |node {n y:Nat} {p q:List Int} {l:List Seg}:Stab T D n y p→Lst T D d y l q→Lst T D d n (⟨1,(y:Int)⟩::l) (p++q)
 |arc {n a m:Nat} {q:List Int} {l:List Seg}:a<2*T.links.length→tailN T a=(n:Int)→downN D a=false→headN T a=(m:Int)→Lst T D d m l q→Lst T D d n (⟨2,(a:Int)⟩::l) ((a:Int)::q)
theorem Lst.len {d n:Nat} {l:List Seg} {q:List Int} (h:Lst T D d n l q):l.length≤q.length:=by
 induction h with
 |nil=>exact Nat.le_refl _
 |node hs _ ih=>have:=hs.pos;simp only[List.length_cons,List.length_append];omega
 |arc _ _ _ _ _ ih=>simp only[List.length_cons];omega
theorem Lst.skip {d n:Nat} {l:List Seg} {q:List Int} (h:Lst T D d n l q):skipS ⟨1,(n:Int)⟩ l=l:=by
 cases h with
 |nil=>rfl
 |node hs _=>
  have hne:=hs.ne
  simp only[skipS]
  rw[if_neg (fun e=>by cases e;exact hne rfl)]
 |arc _ _ _ _ _=>
  simp only[skipS]
  rw[if_neg (fun e=>by cases e)]
structure Tame (T:Topo) (D:List Bool) (n:Nat) (x:Tab):Prop where
 ok:tabOK T x=true
 node:x.node=(n:Int)
 down:∀a:Nat,(a:Int)∈x.down→downN D a=true
 stab:∀(y:Nat) p,Stab T D n y p→(entAt x (y:Int)).arcs=[p.getD 0 0]∧((entAt x (y:Int)).rep=true→(entAt x (y:Int)).push=[⟨1,(y:Int)⟩])
end
end PW
end Go.Proofs.YtnegbdpggideiaaGreatDoor

namespace Go.Proofs.YtnegbdpggideiaaGreatDoor
set_option linter.unusedVariables false
set_option linter.unusedSimpArgs false
namespace Rng
open Go.RowKit Go.Shelf Net
attribute [local go_sem] Oper.semAt_some
end Rng
end Go.Proofs.YtnegbdpggideiaaGreatDoor

namespace Go.Proofs.YtnegbdpggideiaaGreatDoor
set_option linter.unusedVariables false
set_option linter.unusedSimpArgs false
namespace PW
open Go.RowKit Reg Mem
inductive Up (k:Nat):PV→PV→Prop
 |pure {p:PV} [IsPure p]:Up k p p
 |own {i j:Nat}:j=k+i→Up k (.own i) (.own j)
 |ptr {i j o:Nat}:j=k+i→Up k (.ptr i o) (.ptr j o)
 |agg {xs ys:List PV} (hl:ys.length=xs.length) (hs:∀(j:Nat) x y,xs[j]? =some x→ys[j]? =some y→Up k x y):Up k (.agg xs) (.agg ys)
 |tuple {xs ys:List PV} (hl:ys.length=xs.length) (hs:∀(j:Nat) x y,xs[j]? =some x→ys[j]? =some y→Up k x y):Up k (.tuple xs) (.tuple ys)
 |func {f:FuncId} {xs ys:List PV} (hl:ys.length=xs.length) (hs:∀(j:Nat) x y,xs[j]? =some x→ys[j]? =some y→Up k x y):Up k (.func f xs) (.func f ys)
def UpL (k:Nat) (xs ys:List PV):Prop:=ys.length=xs.length∧∀(j:Nat) x y,xs[j]? =some x→ys[j]? =some y→Up k x y
theorem UpL.nil {k:Nat}:UpL k [] []:=⟨rfl,fun j x y h=>by simp at h⟩
theorem UpL.cons {k:Nat} {x y:PV} {xs ys:List PV} (h:Up k x y) (hs:UpL k xs ys):UpL k (x::xs) (y::ys):=⟨by simp[hs.1],fun j a b h1 h2=>by
 cases j with
 |zero=>simp at h1 h2;subst h1;subst h2;exact h
 |succ j=>exact hs.2 j a b (by simpa using h1) (by simpa using h2)⟩
theorem UpL.pure {k:Nat} {xs:List PV} [h:IsPureL xs]:UpL k xs xs:=⟨rfl,fun j x y h1 h2=>by
 rw[h1]at h2;cases h2
 haveI:=h.out j x h1
 exact Up.pure⟩
theorem Up.aggL {k:Nat} {xs ys:List PV} (h:UpL k xs ys):Up k (.agg xs) (.agg ys):=.agg h.1 h.2
theorem Up.tupleL {k:Nat} {xs ys:List PV} (h:UpL k xs ys):Up k (.tuple xs) (.tuple ys):=.tuple h.1 h.2
inductive BUp (k:Nat):Blk→Blk→Prop
 |cells {ty:TypeId} {xs ys:List PV}:UpL k xs ys→BUp k (.cells ty xs) (.cells ty ys)
 |row {e s n:Nat} {xs ys:List PV}:UpL k xs ys→BUp k (.row e s n xs) (.row e s n ys)
 |mp {kv:List (Value×PV)} [IsPureL (kv.map (·.2))]:BUp k (.mp kv) (.mp kv)
def BUpL (k:Nat) (xs ys:List Blk):Prop:=ys.length=xs.length∧∀(j:Nat) x y,xs[j]? =some x→ys[j]? =some y→BUp k x y
theorem BUpL.nil {k:Nat}:BUpL k [] []:=⟨rfl,fun j x y h=>by simp at h⟩
theorem BUpL.cons {k:Nat} {x y:Blk} {xs ys:List Blk} (h:BUp k x y) (hs:BUpL k xs ys):BUpL k (x::xs) (y::ys):=⟨by simp[hs.1],fun j a b h1 h2=>by
 cases j with
 |zero=>simp at h1 h2;subst h1;subst h2;exact h
 |succ j=>exact hs.2 j a b (by simpa using h1) (by simpa using h2)⟩
section
variable {E E1 E2:Env} {w:World} {k:Nat}
theorem Up.rep (hat:∀i,i<E1.L→E2.at_ (k+i)=E1.at_ i∧k+i<E2.L) (hM:∀b,E2.M b→E1.M b) {p q:PV} (h:Up k p q):∀v,Rep E1 w v p→Rep E2 w v q:=by
 induction h with
 | @pure p hp=>
  intro v h
  have:=hp.out E1 E2.M w v hM h
  exact this.goes (E:=EF E2.M) (E':=E2) (w:=w) (w':=w) ⟨Nat.zero_le _,fun i hi=>absurd hi (Nat.not_lt_zero i),fun _ _ h=>h,Nat.le_refl _,fun _ _ _=>rfl⟩
 | @own i j hij=>
  intro v h
  subst hij
  cases h with
  |own _ hi _ h hs=>exact .own _ (hat i hi).2 v ((hat i hi).1.trans h) hs
 | @ptr i j o hij=>
  intro v h
  subst hij
  cases h with
  |ptr _ _ b hi h=>exact .ptr _ o b (hat i hi).2 (by rw[(hat i hi).1];exact h)
 | @agg xs ys hl _ ih=>
  intro v h
  cases h with
  |agg cs _ hl' hr=>exact .agg cs ys (hl'.trans hl.symm) (fun j c u h1 h2=>by
    have hj:j<xs.length:=by rw[←hl];exact(List.getElem?_eq_some_iff.1 h2).1
    exact ih j xs[j] u (by simp[hj]) h2 c (hr j c _ h1 (by simp[hj])))
 | @tuple xs ys hl _ ih=>
  intro v h
  cases h with
  |tuple cs _ hl' hr=>exact .tuple cs ys (hl'.trans hl.symm) (fun j c u h1 h2=>by
    have hj:j<xs.length:=by rw[←hl];exact(List.getElem?_eq_some_iff.1 h2).1
    exact ih j xs[j] u (by simp[hj]) h2 c (hr j c _ h1 (by simp[hj])))
 | @func f xs ys hl _ ih=>
  intro v h
  cases h with
  |func _ cs _ hl' hr=>exact .func f cs ys (hl'.trans hl.symm) (fun j c u h1 h2=>by
    have hj:j<xs.length:=by rw[←hl];exact(List.getElem?_eq_some_iff.1 h2).1
    exact ih j xs[j] u (by simp[hj]) h2 c (hr j c _ h1 (by simp[hj])))
theorem UpL.rep (hat:∀i,i<E1.L→E2.at_ (k+i)=E1.at_ i∧k+i<E2.L) (hM:∀b,E2.M b→E1.M b) {xs ys:List PV} (h:UpL k xs ys) {cs:List Value} (hs:RepL E1 w cs xs):RepL E2 w cs ys:=⟨hs.1.trans h.1.symm,fun j c u h1 h2=>by
 have hj:j<xs.length:=by rw[←h.1];exact(List.getElem?_eq_some_iff.1 h2).1
 exact(h.2 j xs[j] u (by simp[hj]) h2).rep hat hM c (hs.2 j c _ h1 (by simp[hj]))⟩
theorem BUp.sat {base base':Nat} (hb:base'≤base) (hat:∀i,i<E1.L→E2.at_ (k+i)=E1.at_ i∧k+i<E2.L) (hM:∀b,E2.M b→E1.M b) {v:Value} {x y:Blk} (h:BUp k x y) (hs:BlkSat base E1 w v x):BlkSat base' E2 w v y:=by
 cases h with
 |cells h1=>
  obtain⟨b,cs,h2,h3,h4,h5⟩:=hs
  exact⟨b,cs,h2,by omega,h4,h1.rep hat hM h5⟩
 |row h1=>
  obtain⟨cs,h2,h3⟩:=hs
  refine⟨cs,⟨h2.1,?_⟩,h1.rep hat hM h3⟩
  rcases h2.2 with h|⟨g,cap,cur,a1,a2,a3⟩
  ·exact .inl h
  ·exact .inr ⟨g,cap,cur,a1,by omega,a3⟩
 | @mp kv hp=>
  obtain⟨r,es,ck,h2,h3,h4,h5,h6⟩:=hs
  exact⟨r,es,ck,h2,by omega,h4,h5,UpL.pure (k:=k).rep hat hM h6⟩
end
theorem CanS.frame {P:Program} {f:FuncId} {ps:List PV} {σ:Sto} {R:PV→Sto→Prop} [IsPureL ps]
  (h:CanS P f ps [] (fun r σ1=>∃bs,σ1=bs.map some∧∃r' bs',Up σ.length r r'∧BUpL σ.length bs bs'∧R r' (σ++bs'.map some))):CanS P f ps σ R:=fun F base E w vs hS hR=>by
 refine(h E.M w.heap.size (EF E.M) w vs (Sat.start E.M w (fun b hb=>hS.lt hb) hS.gl) (hR.pure (fun _ h=>h))).mono ?_
 rintro e w' ⟨v,r,σ1,E1,rfl,⟨bs,rfl,r',bs',hu,hbu,hRr⟩,hS1,hg1,hB1,hv⟩
 have hE:Ext w w':=hB1
 have hL1:E1.L=bs.length:=by rw[hS1.len];simp
 have hlen:((List.range bs.length).map E1.at_).length=bs'.length:=by rw[List.length_map,List.length_range,hbu.1]
 have hget:∀(i:Nat) v,((List.range bs.length).map E1.at_)[i]? =some v→i<bs.length∧v=E1.at_ i:=fun i v hi=>by
  have hi':i<bs.length:=by have:=(List.getElem?_eq_some_iff.1 hi).1;simpa using this
  rw[List.getElem?_map,List.getElem?_range hi']at hi
  cases hi
  exact⟨hi',rfl⟩
 have hbk:∀i,i<bs.length→∃x,bs[i]? =some x∧(bs.map some)[i]? =some (some x):=fun i hi=>⟨bs[i],by simp[hi],by simp[hi]⟩
 have hat:∀i,i<E1.L→(E.pushAll ((List.range bs.length).map E1.at_)).at_ (σ.length+i)=E1.at_ i∧σ.length+i<(E.pushAll ((List.range bs.length).map E1.at_)).L:=fun i hi=>by
  rw[hL1]at hi
  refine⟨?_,?_⟩
  ·simp only[Env.pushAll,hS.len]
   rw[if_neg (by omega),Nat.add_sub_cancel_left,List.getD_eq_getElem?_getD,List.getElem?_map,List.getElem?_range hi]
   rfl
  ·simp only[Env.pushAll,hS.len,List.length_map,List.length_range];omega
 have hM:∀b,(E.pushAll ((List.range bs.length).map E1.at_)).M b→E1.M b:=fun b hb=>by
  rcases hb with hb|⟨v,hv1,hv2⟩
  ·exact(hS1.mm b).2 (.inl hb)
  ·obtain⟨i,hi⟩:=List.getElem?_of_mem hv1
   obtain⟨hi1,rfl⟩:=hget i v hi
   obtain⟨x,_,hx⟩:=hbk i hi1
   exact(hS1.mm b).2 (.inr ⟨i,x,hx,hv2⟩)
 have hp:=hS.pushAll hE ((List.range bs.length).map E1.at_) bs' hlen
  (fun v hv1 b hb=>by
   obtain⟨i,hi⟩:=List.getElem?_of_mem hv1
   obtain⟨hi1,rfl⟩:=hget i v hi
   obtain⟨x,_,hx⟩:=hbk i hi1
   exact((hS1.blk i x hx).lt hb).1)
  (fun i j u v b hi hj hu hv=>by
   obtain⟨hi1,rfl⟩:=hget i u hi
   obtain⟨hj1,rfl⟩:=hget j v hj
   obtain⟨x,_,hx⟩:=hbk i hi1
   obtain⟨y,_,hy⟩:=hbk j hj1
   exact hS1.inj i j x y b hx hy hu hv)
  (fun i v blk hi hb=>by
   obtain⟨hi1,rfl⟩:=hget i v hi
   obtain⟨x,hx0,hx⟩:=hbk i hi1
   exact(hbu.2 i x blk hx0 hb).sat hS.bl hat hM (hS1.blk i x hx))
 exact⟨v,r',_,_,rfl,hRr,hp.1,hp.2,Below.ofExt hE hS.bl,hu.rep hat hM v hv⟩
end PW
end Go.Proofs.YtnegbdpggideiaaGreatDoor
