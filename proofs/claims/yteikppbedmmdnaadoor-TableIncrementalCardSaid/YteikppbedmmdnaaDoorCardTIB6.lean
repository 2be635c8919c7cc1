/- Texts of the proof, part 6. -/
import Derived.ChangeKeysEq
import Derived.Test.YteikppbedmmdnaaDoorCardTIB5
set_option linter.unusedVariables false
set_option linter.unusedSimpArgs false
set_option maxRecDepth 10000
set_option maxHeartbeats 1000000
namespace Go.Proofs.YteikppbedmmdnaaDoor
namespace PW
section
open Go.RowKit cX Mem
section
variable {P:Program} {kt e:TypeId}
theorem oW(a b:Int):(a==b)=decide (a=b):=Bool.eq_iff_iff.2 (by simp)
theorem tw(b:Bool)(n:Nat)(hu:P.underlying kt=some (.int .i64))(a:Int)(w:World):(Instr.checkKey b (n+1) kt (.int .i64 a)).run P w= .ok () w:=by
 simp only[Instr.checkKey,Sem.run_bind,run_underlying hu,Result.andThen_ok,Sem.run_pure]
theorem eq_int(n:Nat)(hu:P.underlying kt=some (.int .i64))(a b:Int)(w:World):(Op.equalIn (n+1) kt (.int .i64 a) (.int .i64 b)).run P w= .ok (decide (a=b)) w:=by
 simp only[Op.equalIn,Sem.run_bind,run_underlying hu,Result.andThen_ok,if_true,Sem.run_pure,oW]
theorem uq(hu:P.underlying kt=some (.int .i64)):fB P kt (fun n:Int=>Value.int .i64 n) where
 uL:=fun b a w=>tw b 9999 hu a w
 eql:=fun a b w=>eq_int _ hu a b w
 now:=⟨_,hu,.inl fun a b=>by simp only[Instr.sameNow,if_true,oW]⟩
 bits:=fun a=>by unfold Instr.sameBits;simp
end
open Net
def ew(T:au)(D:List Bool)(d:Nat)(v:PV)(tch:PV):List PV:=[num T.nodes,br T.over,.slice T.aa.length (bA T.aa),br D,num d,v,tch]
instance (T:au) (D:List Bool) (d:Nat) (v tch:PV) [IsPure v] [IsPure tch]:av (ew T D d v tch):=by unfold ew;infer_instance
structure eI (T:au) (D:List Bool) (N d:Nat):Prop where
 valid:aW T=true
 nodes:T.nodes=(N:Int)
 mask:D.length=2*T.aa.length
 over:T.over.length=N
 dest:d<N
def jU(T:au)(D:List Bool)(n a:Nat):Bool:= !db D a&&(decide (aA T a=(n:Int))|| !cU T (aA T a).toNat)
theorem ij{T:au}{D:List Bool}{n a:Nat}:jU T D n a=true↔ny T D n a:=by
 unfold jU ny
 cases db D a<;>cases cU T (aA T a).toNat<;>simp
theorem tB{T:au}{D:List Bool}{n a:Nat}(h:jU T D n a=false):¬ny T D n a:=fun h'=>by rw[ij.2 h']at h;cases h
theorem gx{T:au}{D:List Bool}{N d:Nat}(hT:eI T D N d)(v:PV)(tch:PV)[IsPure v][IsPure tch](a:Nat)(ha:a<2*T.aa.length):Can Tryd.prog 29 [.bY (ew T D d v tch) 0,num a] (· =flag (jU T D d a)):=by
 have hll:=cq hT.valid
 obtain⟨hd0,hhN⟩:=(bz hT.valid).head a ha
 obtain⟨h,hh⟩:=Int.eq_ofNat_of_zero_le hd0
 have hm:=hT.mask
 have ho:=hT.over
 have hn:=hT.nodes
 obtain⟨p1,hp1⟩:∃q,db D a=q:=⟨_,rfl⟩
 obtain⟨p2,hp2⟩:∃q,decide ((h:Int)=(d:Int))=q:=⟨_,rfl⟩
 obtain⟨p3,hp3⟩:∃q,cU T h=q:=⟨_,rfl⟩
 have hu:jU T D d a=(!p1 &&(p2|| !p3)):=by unfold jU;rw[hh,Int.toNat_natCast,hp1,hp2,hp3]
 rw[hu]
 refine bE Tryd.func29 I Tryd.ntmps29 I<|ag (.a 1 I<|.k [0,1] I)<|ag (.a 5 I<|.c rfl (hh▸e0 T a ha (by omega)) I<|.a 1 I<|.k [0,1,5] I)<|bF 4 (.raw (.bool (!p1 &&(p2|| !p3)))) [] I ?_ ?_
 ·refine .a 5 I<|.v (aY (a) I) I<|.v (aV I ((show(aT D)[a]? =some (flag p1) by rw[←hp1];exact fg D a (by omega)))) I<|.a 2 I<|?_
  cases p1
  ·refine .a 5 I<|.v (cJ I (hp2)) I<|.a 1 I<|?_
   cases p2
   ·exact .a 6 I<|.v (aY (h) I) I<|.v (aV I ((show(aT T.over)[h]? =some (flag p3) by rw[←hp3];exact fg T.over h (by omega)))) I<|.a 4 I<|.k [4] I
   ·exact .a 12 I<|.k [4] I
  ·exact .a 19 I<|.k [4] I
 exact aF<|⟨_,_,aK.of I,aZ.pure,rfl⟩
def mM(T:au)(D:List Bool)(d:Nat)(out:List Int)(lost A:Nat→Prop)(v:Int):Prop:=
 (v= -1∧∀a,A a→ny T D d a→0≤at' out (aA T a)→lost (aA T a).toNat)∨
 (0≤v∧(∃a,A a∧ny T D d a∧0≤at' out (aA T a)∧¬lost (aA T a).toNat∧v=at' out (aA T a)+bg T a)∧∀a,A a→ny T D d a→0≤at' out (aA T a)→¬lost (aA T a).toNat→v≤at' out (aA T a)+bg T a)
theorem rQ{T:au}{D:List Bool}{d:Nat}{out:List Int}{lost:Nat→Prop}:mM T D d out lost (fun _=>False) (-1):=.inl ⟨rfl,fun _ h=>h.elim⟩
theorem lN{T:au}{D:List Bool}{d:Nat}{out:List Int}{lost A A':Nat→Prop}{v:Int}(h:mM T D d out lost A v)(hA:∀a,A' a↔A a):mM T D d out lost A' v:=by
 rcases h with⟨h1,h2⟩|⟨h1,⟨a,h2,h3⟩,h4⟩
 ·exact .inl ⟨h1,fun a ha=>h2 a ((hA a).1 ha)⟩
 ·exact .inr ⟨h1,⟨a,(hA a).2 h2,h3⟩,fun a ha=>h4 a ((hA a).1 ha)⟩
theorem rU{T:au}{D:List Bool}{d:Nat}{out:List Int}{lost A A':Nat→Prop}{v:Int}{a:Nat}(h:mM T D d out lost A v)(hA:∀b,A' b↔A b∨b=a)(hs:ny T D d a→0≤at' out (aA T a)→lost (aA T a).toNat):mM T D d out lost A' v:=by
 rcases h with⟨h1,h2⟩|⟨h1,⟨b,h2,h3⟩,h4⟩
 ·refine .inl ⟨h1,fun b hb k1 k2=>?_⟩
  rcases(hA b).1 hb with hb|rfl
  ·exact h2 b hb k1 k2
  ·exact hs k1 k2
 ·refine .inr ⟨h1,⟨b,(hA b).2 (.inl h2),h3⟩,fun c hc k1 k2 k3=>?_⟩
  rcases(hA c).1 hc with hc|rfl
  ·exact h4 c hc k1 k2 k3
  ·exact absurd (hs k1 k2) k3
theorem rM{T:au}{D:List Bool}{d:Nat}{out:List Int}{lost A A':Nat→Prop}{v:Int}{a:Nat}(h:mM T D d out lost A v)(hA:∀b,A' b↔A b∨b=a)(k1:ny T D d a)(k2:0≤at' out (aA T a))(k3:¬lost (aA T a).toNat)(hc:0≤bg T a)(hv:v<0∨at' out (aA T a)+bg T a<v):mM T D d out lost A' (at' out (aA T a)+bg T a):=by
 refine .inr ⟨by omega,⟨a,(hA a).2 (.inr rfl),k1,k2,k3,rfl⟩,fun c hc' e1 e2 e3=>?_⟩
 rcases(hA c).1 hc' with hc'|rfl
 ·rcases h with⟨_,h2⟩|⟨h1,_,h4⟩
  ·exact absurd (h2 c hc' e1 e2) e3
  ·have:=h4 c hc' e1 e2 e3;omega
 ·exact Int.le_refl _
theorem qX{T:au}{D:List Bool}{d:Nat}{out:List Int}{lost A A':Nat→Prop}{v:Int}{a:Nat}(h:mM T D d out lost A v)(hA:∀b,A' b↔A b∨b=a)(hv:0≤v∧v≤at' out (aA T a)+bg T a):mM T D d out lost A' v:=by
 rcases h with⟨h1,_⟩|⟨h1,⟨b,h2,h3⟩,h4⟩
 ·omega
 ·refine .inr ⟨h1,⟨b,(hA b).2 (.inl h2),h3⟩,fun c hc k1 k2 k3=>?_⟩
  rcases(hA c).1 hc with hc|rfl
  ·exact h4 c hc k1 k2 k3
  ·exact hv.2
theorem tD:oy Tryd.prog 94=some (3,4):=by kernel_rfl
theorem vq:uK Tryd.prog 4=some (.bool false):=by kernel_rfl
abbrev kO(n:Int):Value:=.int .i64 n
theorem tC:fB Tryd.prog 3 kO:=uq Tryd.underlying3
def gf(L:List Int):List (Int×PV):=L.map fun n=>(n,flag true)
def iU(L:List Int):cy:=.mp (dU kO (gf L))
theorem iR(k:Int):∀L:List Int,(gm k (gf L)).getD (flag false)=flag (decide (k∈L))
 | []=>by simp[gf,gm]
 |a::L=>by
  have ih:=iR k L
  unfold gf at ih ⊢
  simp only[List.map_cons,gm]
  split
  ·rename_i h;simp[h]
  ·rename_i h
   rw[ih]
   congr 2
   simp[Ne.symm h,h]
   first|done|exact fun e=>absurd e.symm h|exact fun e=>absurd e h
theorem nz(k:Int):∀L:List Int,gH k (flag true) (gf L)=gf (if k∈L then L else L++[k])
 | []=>by simp[gf,gH]
 |a::L=>by
  have ih:=nz k L
  unfold gf at ih ⊢
  simp only[List.map_cons,gH]
  split
  ·rename_i h
   subst h
   simp
  ·rename_i h
   rw[ih]
   by_cases hm:k∈L
   ·rw[if_pos hm,if_pos (List.mem_cons_of_mem _ hm)];rfl
   ·rw[if_neg hm,if_neg (by simp[hm];first|exact fun e=>h e.symm|exact fun e=>h e)];rfl
instance (L:List Int):av ((dU kO (gf L)).map (·.2)):=by
 have:(dU kO (gf L)).map (·.2)=L.map fun _=>flag true:=by simp[dU,gf]
 rw[this]
 exact av.map _ _ fun _=>inferInstance
instance (L:List Int):dw ((dU kO (gf L)).map (·.2)):=by
 have:(dU kO (gf L)).map (·.2)=L.map fun _=>flag true:=by simp[dU,gf]
 rw[this]
 exact⟨fun i u hu=>by
  simp only[List.getElem?_map,Option.map_eq_some_iff]at hu
  obtain⟨a,_,rfl⟩:=hu
  infer_instance⟩
def kB(b:Bool)(L:List Int):Option cy:=if b then some (iU L) else none
def uE(b:Bool):PV:=if b then .own 0 else .raw (.map none)
theorem qw(b:Bool)(L:List Int):gk (kB b L):=fun x hx=>by
 cases b
 ·cases hx
 ·cases hx
  exact(inferInstance:av ((dU kO (gf L)).map (·.2)))
section
variable {P:Program} {σ:ba} {t:bo} {o:Oper}
theorem uo{κ:Type}[DecidableEq κ]{enc:κ→Value}{kt:TypeId}{mt et:Nat}{x ix:Operand}{z:Value}{k:κ}{pk:PV}(hK:fB P kt enc)(ho:o.op= .lookup mt x ix false)(hm:oy P mt=some (kt,et))(hz:uK P et=some z)(hx:aj t x=some (.raw (.map none)))(hp:aj t ix=some pk)(hk:pJ pk (enc k)):aH P σ t o (.raw z):=by
 intro F base E ρ w hρ hS hT
 have h1:=ae hρ hT hx
 have h2:=hk _ _ _ (ae hρ hT hp)
 generalize hv:ρ x=v at h1
 cases h1
 have hf:(Instr.findKey kt (enc k) #[].toList).run P w= .ok none w:=by
  obtain⟨d,hd,_⟩:=hK.now
  simp[Instr.findKey,run_underlying hd,Instr.findNow]
 simp only[execOp,ho,hv,h2,Instr.lookup,Sem.run_bind,run_underlying (eP hm),Result.andThen_ok,Sem.run_pure,hK.uL,hf,mL hz,Bool.false_eq_true,if_false]
 exact aJ (.raw z)
end
theorem u1{b:Bool}{L:List Int}{σ:ba}{t:bo}{o:Oper}{x ix:Operand}{k:Int}{r:Bool}(ho:o.op= .lookup 94 x ix false)(hx:aj t x=some (uE b))(hi:σ[0]? =some (kB b L))(hp:aj t ix=some (num k))(hr:(b&&decide (k∈L))=r):aH Tryd.prog σ t o (flag r):=by
 cases b
 ·subst hr
  exact uo tC (k:=k) ho tD vq hx hp (mz _)
 ·refine sw tC (k:=k) ho tD vq hx hi hp (mz _) ?_
  rw[iR]
  simp at hr
  rw[←hr]
theorem dD(out:List Int)(x:Nat)(h:x<out.length):(aI out)[x]? =some (num (at' out (x:Int))):=by
 rw[aN out x h]
 simp[at',List.getD_eq_getElem?_getD,h]
def u7(T:au)(D:List Bool)(N d:Nat)(v tch:PV)(ay lv:PV):PV:=.agg [.bY (ew T D d v tch) 0,ay,dr (bp (aE T) N (2*T.aa.length)),dr (bp (aA T) N (2*T.aa.length)),lv]
theorem dR{l:List Int}{j a:Nat}(h:j<l.length)(ha:l.getD j 0=(a:Int))(b:Nat):(b:Int)∈l.take (j+1)↔(b:Int)∈l.take j∨b=a:=by
 rw[ef l j 0 h,List.mem_append,ha]
 simp only[List.mem_singleton,Int.natCast_inj]
theorem nb{T:au}{D:List Bool}{N d:Nat}(hT:eI T D N d)(out:List Int)(hout:out.length=N)(hub:∀x:Nat,(x:Int)<T.nodes→at' out (x:Int)≤100000000)(b:Bool)(L:List Int)(tch ay:PV)[IsPure tch][IsPure ay](n:Nat)(hn:n<N):
  aG Tryd.prog 61 [u7 T D N d (aL out) tch ay (uE b),num n] [kB b L] (fun r σ'=>∃v,r=num v∧mM T D d out (fun y=>b=true∧(y:Int)∈L) (fun a=>a<2*T.aa.length∧aE T a=(n:Int)) v∧σ'=[kB b L]):=by
 have hll:=cq hT.valid
 have hS:=bz hT.valid
 have hnn:=hT.nodes
 have hll2:=dK T true n
 have hrl:=cw (aE T) N (2*T.aa.length)
 have hrow:(bp (aE T) N (2*T.aa.length)).getD n []=ao T true n:=cH _ _ _ _ hn
 refine bc Tryd.func61 I Tryd.ntmps61 I ?_
 unfold u7
 refine a7<|bD (fQ I I I) I<|ax 1 I<|aO [1,2] I ?_
 refine ag (.a 1 I<|.k [1,2,5] I)<|al<|ag (.a 3 I<|.v (aY (n) I) I<|.v (aV I ((show((bp (aE T) N (2*T.aa.length)).map aL)[n]? =some (aL (ao T true n)) by rw[←hrow];simp[hrl,hn]))) I<|.a 2 I<|.k [2,5,14,15,16] I)<|aw<|fx [2,5,14,15,16] I<|bx (fun r s=>∃j v,j≤(ao T true n).length∧mM T D d out (fun y=>b=true∧(y:Int)∈L) (fun a=>(a:Int)∈(ao T true n).take j) v∧r=(ao T true n).length - j∧s=⟨[(2,.ptr 1 0),(5,num v),(14,aL (ao T true n)),(15,num (ao T true n).length),(16,num j)],[kB b L,some (.cells 96 [.bY (ew T D d (aL out) tch) 0,ay,dr (bp (aE T) N (2*T.aa.length)),dr (bp (aA T) N (2*T.aa.length)),uE b])]⟩) (ao T true n).length ⟨0, -1,by omega,lN rQ (fun a=>by simp),by omega,rfl⟩ ?_
 rintro r s ⟨j,v,hj,hb,rfl,rfl⟩
 refine ag (.a 1 I<|.k [2,5,14,15,16,17] I)<|al<|ak I (fun hc=>?_) (fun hc=>?_)
 ·have hlt:j<(ao T true n).length:=by have:=of_decide_eq_true hc;omega
  obtain⟨a,ha,ham,hay⟩:=ev T true n j hlt
  obtain⟨m,hm⟩:=Int.eq_ofNat_of_zero_le (hS.head a ham).1
  have hmN:m<N:=by have:=(hS.head a ham).2;omega
  have hcb:=hS.cost a ham
  have hA:=dR hlt ha
  have hum:=hub m (by omega)
  refine an<|al<|aw<|ag (.v (aY (j) I) I<|.v (aV I ((aN _ j hlt).trans (by rw[ha]))) I<|.a 1 I<|.k [2,5,7,14,15,16] I)<|ag (.a 6 I<|.c rfl (hm▸e0 T a ham (by omega)) I<|.a 1 I<|.k [2,5,7,8,14,15,16] I)<|al ?_
  obtain⟨p1,hp1⟩:∃q,jU T D d a=q:=⟨_,rfl⟩
  obtain⟨p2,hp2⟩:∃q,decide (at' out (m:Int)<0)=q:=⟨_,rfl⟩
  obtain⟨p3,hp3⟩:∃q,(b&&decide ((m:Int)∈L))=q:=⟨_,rfl⟩
  refine bF 48 (.raw (.bool (!p1 ||p2||p3))) [2,5,7,8,14,15,16] I ?_ ?_
  ·refine .a 3 I<|.c rfl (hp1▸gx hT (aL out) tch a ham) I<|.a 2 I<|?_
   cases p1
   ·exact .a 16 I<|.k [48,2,5,7,8,14,15,16] I
   ·refine .a 6 I<|.v (aY (m) I) I<|.v (aV I (dD out m (by omega))) I<|.v (cJ I (hp2)) I<|.a 2 I<|?_
    cases p2
    ·exact .a 3 I<|.v (u1 I I I I hp3) I<|.a 1 I<|.k [48,2,5,7,8,14,15,16] I
    ·exact .a 5 I<|.k [48,2,5,7,8,14,15,16] I
  refine ak I (fun hc=>?_) (fun hc=>?_)
  ·have hb2:mM T D d out (fun y=>b=true∧(y:Int)∈L) (fun a=>(a:Int)∈(ao T true n).take (j+1)) v:=rU hb hA fun k1 k2=>by
    rw[hm]at k2 ⊢
    rw[Int.toNat_natCast]
    rw[ij.2 k1]at hp1
    rw[decide_eq_false (by omega)]at hp2
    rw[←hp1,←hp2]at hc
    simp at hc
    rw[hc]at hp3
    simpa using hp3
   refine bn<|aD (.v (bw I) I<|.a 1 I<|.k [2,5,14,15,16] I) ?_
   exact⟨(ao T true n).length - (j+1),by omega,j+1,_,by omega,hb2,rfl,rfl⟩
  ·have hno:p1=true∧p2=false∧p3=false:=by revert hc;cases p1<;>cases p2<;>cases p3<;>simp
   obtain⟨rfl,rfl,rfl⟩:=hno
   have hu:=ij.1 hp1
   have h0m:0≤at' out (m:Int):=by have:=of_decide_eq_false hp2;omega
   have h0:0≤at' out (aA T a):=by rw[hm];exact h0m
   have hnl:¬(b=true∧(((aA T a).toNat:Nat):Int)∈L):=by
    rw[hm,Int.toNat_natCast]
    rintro⟨k1,k2⟩
    rw[k1]at hp3
    simp at hp3
    exact hp3 k2
   refine an<|jk mixed (by kernel_rfl) (.a 6 I<|.v [53,54] (aY (m) I) I I<|.v [55] (aV I (dD out m (by omega))) I I<|.a 6 I<|.v [61,62] (fu I (eW T a ham)) I I<|.v [56,63] (bw I (hc:=rfl) (hn:=by unfold In64;omega)) I I<|.a 1 I<|.k [2,5,9,14,15,16] I) ?_
   obtain⟨p1,hp1⟩:∃q,decide (v<0)=q:=⟨_,rfl⟩
   obtain⟨p2,hp2⟩:∃q,decide (at' out (m:Int)+bg T a<v)=q:=⟨_,rfl⟩
   refine bF 71 (.raw (.bool (p1||p2))) [2,5,9,14,15,16] I ?_ ?_
   ·refine .a 1 I<|.v (cJ I (hp1)) I<|.a 1 I<|?_
    cases p1
    ·exact .a 2 I<|.v (cJ I (hp2)) I<|.a 1 I<|.k [71,2,5,9,14,15,16] I
    ·exact .a 4 I<|.k [71,2,5,9,14,15,16] I
   refine ak I (fun hc=>?_) (fun hc=>?_)
   ·have hb2:mM T D d out (fun y=>b=true∧(y:Int)∈L) (fun a=>(a:Int)∈(ao T true n).take (j+1)) (at' out (m:Int)+bg T a):=by
     rw[←hm]
     refine rM hb hA hu h0 hnl (by omega) ?_
     rw[hm]
     rcases Bool.or_eq_true_iff.1 hc with h|h
     ·rw[h]at hp1;exact .inl (of_decide_eq_true hp1)
     ·rw[h]at hp2;exact .inr (of_decide_eq_true hp2)
    refine aD (.a 2 I<|.k [2,5,14,15,16] I) ?_
    refine aD (.v (bw I) I<|.a 1 I<|.k [2,5,14,15,16] I) ?_
    exact⟨(ao T true n).length - (j+1),by omega,j+1,_,by omega,hb2,rfl,rfl⟩
   ·have hb2:mM T D d out (fun y=>b=true∧(y:Int)∈L) (fun a=>(a:Int)∈(ao T true n).take (j+1)) v:=by
     refine qX hb hA ?_
     rw[hm]
     obtain⟨c1,c2⟩:=Bool.or_eq_false_iff.1 hc
     rw[c1]at hp1
     rw[c2]at hp2
     have:=of_decide_eq_false hp1
     have:=of_decide_eq_false hp2
     omega
    refine an<|aD (.v (bw I) I<|.a 1 I<|.k [2,5,14,15,16] I) ?_
    exact⟨(ao T true n).length - (j+1),by omega,j+1,_,by omega,hb2,rfl,rfl⟩
 ·have hje:j=(ao T true n).length:=by have:=of_decide_eq_false hc;omega
  refine bn<|ag (.a 2 I<|.k [4] I)<|bO [0] (.cons 4 I Ren.pure .nil) (.same (qw b L) I .nil) I I ?_
  exact aF<|⟨_,aK.of I,v,rfl,lN hb (fun a=>by rw[hje,List.take_length];exact(df T true n a).symm),rfl⟩
instance (L:List Int):dw (aI L):=⟨fun i u hu=>by
 simp only[aI,List.getElem?_map,Option.map_eq_some_iff]at hu
 obtain⟨a,_,rfl⟩:=hu
 infer_instance⟩
instance (L:List Bool):dw (aT L):=⟨fun i u hu=>by
 simp only[aT,List.getElem?_map,Option.map_eq_some_iff]at hu
 obtain⟨a,_,rfl⟩:=hu
 infer_instance⟩
instance (L:List fw):dw (bA L):=⟨fun i u hu=>by
 have hm:u∈bA L:=List.mem_of_getElem? hu
 obtain⟨a,_,ha⟩:=List.mem_flatMap.1 hm
 simp only[eS,List.mem_cons,List.not_mem_nil,or_false]at ha
 rcases ha with rfl|rfl|rfl|rfl|rfl|rfl|rfl<;>infer_instance⟩
inductive Nw (σ:ba):PV→PV→Prop
 |flat {p:PV} [fP p]:Nw σ p p
 |cd:Nw σ (.raw (.slice none 0 0)) (.slice 0 [])
 |own {i e s n:Nat} {xs ys:List PV} (h:σ[i]? =some (some (.row e s n xs))) (hl:xs.length=ys.length) (hs:∀(j:Nat) x y,xs[j]? =some x→ys[j]? =some y→Nw σ x y):Nw σ (.own i) (.slice n ys)
 |agg {xs ys:List PV} (hl:xs.length=ys.length) (hs:∀(j:Nat) x y,xs[j]? =some x→ys[j]? =some y→Nw σ x y):Nw σ (.agg xs) (.agg ys)
 |tuple {xs ys:List PV} (hl:xs.length=ys.length) (hs:∀(j:Nat) x y,xs[j]? =some x→ys[j]? =some y→Nw σ x y):Nw σ (.tuple xs) (.tuple ys)
def l2(σ:ba)(xs ys:List PV):Prop:=xs.length=ys.length∧∀(j:Nat) x y,xs[j]? =some x→ys[j]? =some y→Nw σ x y
section
variable {σ:ba}
theorem l2.nil:l2 σ [] []:=⟨rfl,fun j x y h=>by simp at h⟩
theorem l2.cons{x y:PV}{xs ys:List PV}(h:Nw σ x y)(hs:l2 σ xs ys):l2 σ (x::xs) (y::ys):=⟨by simp[hs.1],fun j a b h1 h2=>by
 cases j with
 |zero=>simp at h1 h2;subst h1;subst h2;exact h
 |succ j=>exact hs.2 j a b (by simpa using h1) (by simpa using h2)⟩
theorem l2.flat{xs:List PV}[h:dw xs]:l2 σ xs xs:=⟨rfl,fun j x y h1 h2=>by
 rw[h1]at h2;cases h2
 haveI:=h.out j x h1
 exact Nw.flat⟩
theorem Nw.du{i e s n:Nat}{xs ys:List PV}(h:σ[i]? =some (some (.row e s n xs)))(hs:l2 σ xs ys):Nw σ (.own i) (.slice n ys):=.own h hs.1 hs.2
theorem Nw.fv{xs ys:List PV}(hs:l2 σ xs ys):Nw σ (.agg xs) (.agg ys):=.agg hs.1 hs.2
theorem Nw.rep{base:Nat}{E1 E:Env}{w:World}(hS:Sat (fun _=>False) base σ E1 w)(hE:∀b,E.M b→b<base){p q:PV}(h:Nw σ p q):∀v,bK E1 w v p→bK E w v q:=by
 induction h with
 | @flat p hp=>intro v h;exact hp.out _ _ _ _ v h
 |cd=>intro v h;cases h;exact .cd
 | @own i e s n xs ys hs hl _ ih=>
  intro v h
  cases h with
  |own _ hi _ h _=>
   obtain⟨cs,k1,k2⟩:=hS.blk i _ hs
   have k3:aB E w cs ys:=⟨k2.1.trans hl,fun j c u h1 h2=>by
    have hj:j<xs.length:=by rw[hl];exact(List.getElem?_eq_some_iff.1 h2).1
    exact ih j xs[j] u (by simp[hj]) h2 c (k2.2 j c _ h1 (by simp[hj]))⟩
   have k4:=k1
   rcases k1.2 with⟨hv',h0⟩|⟨g,cap,cur,hv',hb,hg,hn,hc,hs',ht⟩
   ·rw[hv']at h;subst h;subst h0
    have:ys=[]:=by
     have:=k4.1;simp at this;subst this
     exact List.eq_nil_of_length_eq_zero k3.1.symm
    subst this
    exact .cd
   ·rw[hv']at h;subst h
    by_cases h0:n=0
    ·subst h0
     have:ys=[]:=by
      have:=k4.1;simp at this;subst this
      exact List.eq_nil_of_length_eq_zero k3.1.symm
     subst this
     exact .empty _ _ hc
    ·refine .slice g 0 n cap cs ys (by omega) hn hc (Array.getElem?_eq_some_iff.1 hg).1 (fun hM=>by have:=hE g hM;omega) (fun j x hx=>?_) k3.1 k3.2
     have:=k4.cells (g:=g) (by rw[hv'];rfl) j x hx
     rw[Addr.add_lit]at this
     exact this
 | @agg xs ys hl _ ih=>
  intro v h
  cases h with
  |agg cs _ hl' hr=>exact .agg cs ys (hl'.trans hl) (fun j c u h1 h2=>by
    have hj:j<xs.length:=by rw[hl];exact(List.getElem?_eq_some_iff.1 h2).1
    exact ih j xs[j] u (by simp[hj]) h2 c (hr j c _ h1 (by simp[hj])))
 | @tuple xs ys hl _ ih=>
  intro v h
  cases h with
  |tuple cs _ hl' hr=>exact .tuple cs ys (hl'.trans hl) (fun j c u h1 h2=>by
    have hj:j<xs.length:=by rw[hl];exact(List.getElem?_eq_some_iff.1 h2).1
    exact ih j xs[j] u (by simp[hj]) h2 c (hr j c _ h1 (by simp[hj])))
theorem o8(e1 e:TypeId)(rs:List (List Int)):Nw (eV e1 e rs) (.own 0) (dr rs):=by
 refine Nw.du rfl ⟨by simp[cN],fun i a b h1 h2=>?_⟩
 have hi:i<rs.length:=by have:=(List.getElem?_eq_some_iff.1 h2).1;simpa using this
 rw[ep _ _ hi]at h1
 cases h1
 have:b=aL (rs.getD i []):=by simpa[hi]using h2.symm
 subst this
 exact Nw.du (ey e1 e rs i hi) l2.flat
end
section
variable {P:Program} {σ:ba} {t:bo} {o:Oper}
theorem fE{Φ:kq}[hP:Has P Φ]{f:Nat}{ps qs:List PV}{q:PV}(h:gj Φ t o.op=some (f,ps))(hq:aq σ ps qs)(hc:aG P f qs [] (fun r σ1=>Nw σ1 r q)):aH P σ t o q:=by
 obtain⟨x,args,ats,cap,ps',ho,hf,hx',ha,rfl⟩:=ej hP.ok h
 intro F base E ρ w hρ hS hT
 have h1:=ae hρ hT hx'
 have h2:=dp hρ hT ha
 generalize hz:ρ x=z at h1
 cases h1 with
 |func _ cs _ hl hr=>
  rw[de hf ho hz w]
  refine⟨Ext.refl _,?_⟩
  have h3:aB E w (args.map ρ++cs).toList (ps'++cap):=by
   rw[Array.toList_append,Array.toList_map]
   exact h2.append ⟨by simpa using hl,fun i x u k1 k2=>hr i x u (by simpa using k1) k2⟩
  refine(hc (fun _=>False) w.heap.size (EF fun _=>False) w _ (Sat.start _ w (fun _ h=>h.elim) (hS.gl.sub fun _ h=>h.elim)) (hq.rep hS (fun _ h=>h.elim) (fun _ h=>h.elim) h3)).mono ?_
  rintro e w' ⟨v,r,σ1,E1,rfl,hn,hS1,_,hb,hv⟩
  exact⟨_,rfl,hb,hn.rep hS1 (fun b hb=>hS.lt hb) v hv⟩
variable {N L:Nat} {ops:Array Oper}
theorem mq{rest:List Oper}{K:St→Prop}{d:Nat}{x y:Operand}{ty tz:TypeId}{xs:List PV}(ho:o.op= .binOp .eql ty x y tz)(hk:oO P ty=true)(hx:aj t x=some (.slice 0 xs))(hy:aj t y=some (.raw (.slice none 0 0)))(hd:o.dst=some d)(hw:cu ops t o=some true)(hN:Nat.blt d N=true)
  (h:∀b,WR P N L ops rest ⟨(d,.raw (.bool b))::t,σ⟩ K):WR P N L ops (o::rest) ⟨t,σ⟩ K:=by
 refine gd hw fun F base E a w hs next Q hn=>?_
 obtain⟨e,hu⟩:=lh hk
 have h1:=ae (cn a) hs.tmp hx
 have h2:=ae (cn a) hs.tmp hy
 generalize hz:a.eval x=z at h1
 generalize hz':a.eval y=z' at h2
 cases h2
 obtain⟨p,c,rfl,_,_⟩:=pr h1
 have hrun:=Lib.run_eql_slice_nil w ty e p 0 c 0 0 hu
 have hg:∀a n c b m d,(eqGuard .eql ty x y (.slice a n c) (.slice b m d)).run P w= .ok () w:=fun _ _ _ _ _ _=>rfl
 have hU:dz P w (fun v w'=>bK E w' v (.raw (.bool p.isNone))) ((execOp a.eval o).run P w):=by
  simp only[execOp,ho,hz,hz',Sem.run_bind,Sem.run_pure,Result.andThen_ok,hg,hrun]
  exact aJ (.raw _)
 refine iy hU fun v w' hE hv=>hn _ _ _ E (h p.isNone) ?_ (.ext hE) (Below.eX hE hs.sat.bl)
 rw[hd]
 exact hs.put (hs.sat.ext hE) (.ext hE) hN hv
end
theorem tY:oO Tryd.prog 43=true:=by kernel_rfl
theorem nK(l:List Int)(hl:l.length≤1000):aG Tryd.prog 44 [aL l] [] (fun r σ'=>r= .own 0∧σ'=[some (.row 3 1 l.length (aI l))]):=by
 refine bc Tryd.func44 I Tryd.ntmps44 I<|ag (.a 1 I<|.k [0] I)<|al<|a7 (WR.mono (K:=fun s=>∃b:Bool,s=⟨[(0,aL l),(4,.raw (.bool b))],[]⟩∧(b=true→l=[])) ?_ ?_)
 ·cases l with
  |nil=>exact ax 1 rfl<|mq rfl tY rfl rfl rfl rfl rfl fun b=>aO [0,4] rfl ⟨b,rfl,fun _=>rfl⟩
  |cons a l=>exact ax 1 rfl<|aC (j3 rfl tY rfl rfl (Nat.succ_pos _)) rfl rfl rfl<|aO [0,4] rfl ⟨_,rfl,fun h=>by cases h⟩
 rintro _ ⟨b,rfl,hb⟩
 refine ak I (fun hc=>?_) (fun hc=>?_)
 ·have:l=[]:=hb hc
  subst this
  refine ag (.a 1 I<|.k [2] I)<|ee 2 3 1 I ?_
  exact aF<|⟨_,aK.of I,rfl,rfl⟩
 ·refine an<|a7<|bD (fe I (bB.sl.get I)) I<|ax 1 I<|bD (aU I (bB.rk.get I) I I I (show(aI l).length=l.length*1 by simp[aI]) (by unfold maxLen;omega)) I<|ax 1 I<|aO [2] I ?_
  refine bO [1] (.cons 2 I (Ren.own (i:=0) I) .nil) (.kept rfl (.row ab.pure) .nil) I I ?_
  exact aF<|⟨_,aK.of I,rfl,by rw[Nat.zero_add];rfl⟩
theorem nE(l:List Int)(hl:l.length≤1000):aG Tryd.prog 44 [aL l] [] (fun r σ'=>Nw σ' r (aL l)):=aG.mono (nK l hl) (by rintro r σ' ⟨rfl,rfl⟩;exact Nw.du rfl l2.flat)
theorem tP:oO Tryd.prog 22=true:=by kernel_rfl
theorem mP(l:List Bool)(hl:l.length≤1000):aG Tryd.prog 26 [br l] [] (fun r σ'=>r= .own 0∧σ'=[some (.row 4 1 l.length (aT l))]):=by
 refine bc Tryd.func26 I Tryd.ntmps26 I<|ag (.a 1 I<|.k [0] I)<|al<|a7 (WR.mono (K:=fun s=>∃b:Bool,s=⟨[(0,br l),(4,.raw (.bool b))],[]⟩∧(b=true→l=[])) ?_ ?_)
 ·cases l with
  |nil=>exact ax 1 rfl<|mq rfl tP rfl rfl rfl rfl rfl fun b=>aO [0,4] rfl ⟨b,rfl,fun _=>rfl⟩
  |cons a l=>exact ax 1 rfl<|aC (j3 rfl tP rfl rfl (Nat.succ_pos _)) rfl rfl rfl<|aO [0,4] rfl ⟨_,rfl,fun h=>by cases h⟩
 rintro _ ⟨b,rfl,hb⟩
 refine ak I (fun hc=>?_) (fun hc=>?_)
 ·have:l=[]:=hb hc
  subst this
  refine ag (.a 1 I<|.k [2] I)<|ee 2 4 1 I ?_
  exact aF<|⟨_,aK.of I,rfl,rfl⟩
 ·refine an<|a7<|bD (fe I (bB.sl.get I)) I<|ax 1 I<|bD (aU I (bB.rk.get I) I I I (show(aT l).length=l.length*1 by simp[aT]) (by unfold maxLen;omega)) I<|ax 1 I<|aO [2] I ?_
  refine bO [1] (.cons 2 I (Ren.own (i:=0) I) .nil) (.kept rfl (.row ab.pure) .nil) I I ?_
  exact aF<|⟨_,aK.of I,rfl,by rw[Nat.zero_add];rfl⟩
theorem jj(l:List Bool)(hl:l.length≤1000)(σ:ba):aG Tryd.prog 26 [br l] σ (fun r σ'=>r= .own σ.length∧σ'=σ++[some (.row 4 1 l.length (aT l))]):=by
 refine aG.frame (aG.mono (mP l hl) ?_)
 rintro r σ' ⟨rfl,rfl⟩
 exact⟨[.row 4 1 l.length (aT l)],rfl,_,_,Up.own rfl,gB.cons (.row kr.pure) gB.nil,by simp,rfl⟩
theorem tN:oO Tryd.prog 23=true:=by kernel_rfl
theorem mX(l:List fw)(hl:l.length≤1000):aG Tryd.prog 43 [.slice l.length (bA l)] [] (fun r σ'=>r= .own 0∧σ'=[some (.row 54 7 l.length (bA l))]):=by
 refine bc Tryd.func43 I Tryd.ntmps43 I<|ag (.a 1 I<|.k [0] I)<|al<|a7 (WR.mono (K:=fun s=>∃b:Bool,s=⟨[(0,.slice l.length (bA l)),(4,.raw (.bool b))],[]⟩∧(b=true→l=[])) ?_ ?_)
 ·cases l with
  |nil=>exact ax 1 rfl<|mq rfl tN rfl rfl rfl rfl rfl fun b=>aO [0,4] rfl ⟨b,rfl,fun _=>rfl⟩
  |cons a l=>exact ax 1 rfl<|aC (j3 rfl tN rfl rfl (Nat.succ_pos _)) rfl rfl rfl<|aO [0,4] rfl ⟨_,rfl,fun h=>by cases h⟩
 rintro _ ⟨b,rfl,hb⟩
 refine ak I (fun hc=>?_) (fun hc=>?_)
 ·have:l=[]:=hb hc
  subst this
  refine ag (.a 1 I<|.k [2] I)<|ee 2 54 7 I ?_
  exact aF<|⟨_,aK.of I,rfl,rfl⟩
 ·refine an<|a7<|bD (fe I (bB.sl.get I)) I<|ax 1 I<|bD (aU I (bB.rk.get I) I I I (show(bA l).length=l.length*7 by exact ja l) (by unfold maxLen;omega)) I<|ax 1 I<|aO [2] I ?_
  refine bO [1] (.cons 2 I (Ren.own (i:=0) I) .nil) (.kept rfl (.row ab.pure) .nil) I I ?_
  exact aF<|⟨_,aK.of I,rfl,by rw[Nat.zero_add];rfl⟩
theorem mY(l:List fw)(hl:l.length≤1000)(σ:ba):aG Tryd.prog 43 [.slice l.length (bA l)] σ (fun r σ'=>r= .own σ.length∧σ'=σ++[some (.row 54 7 l.length (bA l))]):=by
 refine aG.frame (aG.mono (mX l hl) ?_)
 rintro r σ' ⟨rfl,rfl⟩
 exact⟨[.row 54 7 l.length (bA l)],rfl,_,_,Up.own rfl,gB.cons (.row kr.pure) gB.nil,by simp,rfl⟩
theorem mO(T:au)(hl:T.aa.length≤1000)(ho:T.over.length≤1000):aG Tryd.prog 18 [bI T] [] (fun r σ'=>r= .agg [num T.nodes,.own 2,.own 3]∧σ'=[some (.cells 25 [num T.nodes,.own 2,.own 3]),some (.cells 25 [num T.nodes,.own 2,.own 3]),some (.row 4 1 T.over.length (aT T.over)),some (.row 54 7 T.aa.length (bA T.aa))]):=by
 refine bc Tryd.func18 I Tryd.ntmps18 I<|a7<|bD (fQ I I I) I<|ax 1 I<|aO [1,2] I ?_
 refine a7<|ax 2 I<|bh I I (aG.mono (jj T.over ho _) (fun _ σ' h=>?_))
 obtain⟨rfl,rfl⟩:=h
 refine ax 2 I<|aO [1,2] I ?_
 refine a7<|ax 2 I<|bh I I (aG.mono (mY T.aa hl _) (fun _ σ' h=>?_))
 obtain⟨rfl,rfl⟩:=h
 refine ax 2 I<|aO [1,2] I ?_
 refine a7<|ax 2 I<|aO [2] I ?_
 exact aF<|⟨_,aK.of I,rfl,rfl⟩
theorem jv(T:au)(hl:T.aa.length≤1000)(ho:T.over.length≤1000)(σ:ba):aG Tryd.prog 18 [bI T] σ (fun r σ'=>r= .agg [num T.nodes,.own (σ.length+2),.own (σ.length+3)]∧σ'=σ++[some (.cells 25 [num T.nodes,.own (σ.length+2),.own (σ.length+3)]),some (.cells 25 [num T.nodes,.own (σ.length+2),.own (σ.length+3)]),some (.row 4 1 T.over.length (aT T.over)),some (.row 54 7 T.aa.length (bA T.aa))]):=by
 refine aG.frame (aG.mono (mO T hl ho) ?_)
 rintro r σ' ⟨rfl,rfl⟩
 have hc:kr σ.length [num T.nodes,.own 2,.own 3] [num T.nodes,.own (σ.length+2),.own (σ.length+3)]:=kr.cons .pure<|kr.cons (.own rfl)<|kr.cons (.own rfl) kr.nil
 refine⟨[.cells 25 [num T.nodes,.own 2,.own 3],.cells 25 [num T.nodes,.own 2,.own 3],.row 4 1 T.over.length (aT T.over),.row 54 7 T.aa.length (bA T.aa)],rfl,_,[.cells 25 [num T.nodes,.own (σ.length+2),.own (σ.length+3)],.cells 25 [num T.nodes,.own (σ.length+2),.own (σ.length+3)],.row 4 1 T.over.length (aT T.over),.row 54 7 T.aa.length (bA T.aa)],Up.fv hc,gB.cons (.cells hc)<|gB.cons (.cells hc)<|gB.cons (.row kr.pure)<|gB.cons (.row kr.pure) gB.nil,rfl,rfl⟩
theorem gu(T:au)(hv:aW T=true):aG Tryd.prog 23 [bI T] [] (fun r σ'=>Nw σ' r (dr (bp (aA T) T.nodes.toNat (2*T.aa.length)))):=by
 have hbd:=cr hv
 have hS:=bz hv
 obtain⟨n,hn⟩:∃n:Nat,T.nodes=(n:Int):=⟨T.nodes.toNat,by omega⟩
 rw[show T.nodes.toNat=n by omega]
 refine bc Tryd.func23 I Tryd.ntmps23 I<|ag (.a 2 I<|.k [1] I)<|a7<|ax 2 I<|bD (b9 I (bB.rk.get I) I I hn hn ⟨by unfold maxLen;omega,by omega⟩) I<|ax 1 I<|aO [1,3] I ?_
 refine fR 43 3 n ?_
 refine al<|ag (.a 1 I<|.c rfl (c8 T (by omega)) I<|.a 1 I<|.k [1,3,10,11] I)<|aw<|fx [1,3,10,11] I<|bx (fun r s=>∃k,k≤2*T.aa.length∧r=2*T.aa.length - k∧s=⟨[(1,.bY (da T) 0),(3,.own 0),(10,num (2*(T.aa.length:Int))),(11,num k)],eV 43 3 (bp (aA T) n k)⟩) (2*T.aa.length) ⟨0,by omega,by omega,by rw[gJ];rfl⟩ ?_
 rintro r s ⟨k,hk,rfl,rfl⟩
 refine ag (.a 1 I<|.k [1,3,10,11,12] I)<|al<|ak I (fun hc=>?_) (fun hc=>?_)
 ·have hlt:k<2*T.aa.length:=by have:=of_decide_eq_true hc;omega
  obtain⟨hd0,hhN⟩:=hS.head k hlt
  obtain⟨m,hm⟩:=Int.eq_ofNat_of_zero_le hd0
  have hmn:m<n:=by omega
  have hrl:=cw (aA T) n k
  have hgl:((bp (aA T) n k).getD m []).length≤k:=by
   rw[cH _ _ _ _ hmn]
   simp only[List.length_map]
   exact Nat.le_trans (List.length_filter_le _ _) (by simp)
  refine an<|al<|aw<|ag (.a 2 I<|.k [1,3,4,10,11] I)<|ag (.a 2 I<|.c rfl (hm▸e0 T k hlt (by omega)) I<|.a 1 I<|.k [1,3,4,5,10,11] I)<|aR<|ax 4 I<|aM (aY (m) I) I<|aM (aV I (ep _ m (by omega))) I<|ax 2 I<|bD (aU I (bB.rk.get I) I (ey _ _ _ m (by omega)) I I ⟨by unfold maxLen;omega,by omega⟩) I<|aM (aY (m) I) I<|bq (dy I (bB.tk.get I) I I I (by show m<(cN _).length;simp[cN];omega)) I I<|aO [1,3,10,11] I ?_
  refine bO (qN (bp (aA T) n k).length m) (.cons 1 I Ren.pure<|.cons 3 I (Ren.own (i:=0) I)<|.cons 10 I Ren.pure<|.cons 11 I Ren.pure<|.nil) (jT 43 3 (bp (aA T) n k) m (by omega) (k:Int)) (iT _ _) I ?_
  rw[←gC (aA T) n k m hm hmn]
  refine aD (.v (bw I) I<|.a 1 I<|.k [1,3,10,11] I) ?_
  exact⟨2*T.aa.length - (k+1),by omega,k+1,by omega,rfl,rfl⟩
 ·have hke:k=2*T.aa.length:=by have:=of_decide_eq_false hc;omega
  subst hke
  exact bn<|ag (.a 2 I<|.k [2] I)<|aF<|⟨_,aK.of I,o8 _ _ _⟩
theorem l3(T:au)(hv:aW T=true):aG Tryd.prog 45 [bI T] [] (fun r σ'=>Nw σ' r (dr (bp (aE T) T.nodes.toNat (2*T.aa.length)))):=by
 have hbd:=cr hv
 have hS:=bz hv
 obtain⟨n,hn⟩:∃n:Nat,T.nodes=(n:Int):=⟨T.nodes.toNat,by omega⟩
 rw[show T.nodes.toNat=n by omega]
 refine bc Tryd.func45 I Tryd.ntmps45 I<|ag (.a 2 I<|.k [1] I)<|a7<|ax 2 I<|bD (b9 I (bB.rk.get I) I I hn hn ⟨by unfold maxLen;omega,by omega⟩) I<|ax 1 I<|aO [1,3] I ?_
 refine fR 43 3 n ?_
 refine al<|ag (.a 1 I<|.c rfl (c8 T (by omega)) I<|.a 1 I<|.k [1,3,10,11] I)<|aw<|fx [1,3,10,11] I<|bx (fun r s=>∃k,k≤2*T.aa.length∧r=2*T.aa.length - k∧s=⟨[(1,.bY (da T) 0),(3,.own 0),(10,num (2*(T.aa.length:Int))),(11,num k)],eV 43 3 (bp (aE T) n k)⟩) (2*T.aa.length) ⟨0,by omega,by omega,by rw[gJ];rfl⟩ ?_
 rintro r s ⟨k,hk,rfl,rfl⟩
 refine ag (.a 1 I<|.k [1,3,10,11,12] I)<|al<|ak I (fun hc=>?_) (fun hc=>?_)
 ·have hlt:k<2*T.aa.length:=by have:=of_decide_eq_true hc;omega
  obtain⟨hd0,hhN⟩:=hS.tail k hlt
  obtain⟨m,hm⟩:=Int.eq_ofNat_of_zero_le hd0
  have hmn:m<n:=by omega
  have hrl:=cw (aE T) n k
  have hgl:((bp (aE T) n k).getD m []).length≤k:=by
   rw[cH _ _ _ _ hmn]
   simp only[List.length_map]
   exact Nat.le_trans (List.length_filter_le _ _) (by simp)
  refine an<|al<|aw<|ag (.a 2 I<|.k [1,3,4,10,11] I)<|ag (.a 2 I<|.c rfl (hm▸dV T k hlt) I<|.a 1 I<|.k [1,3,4,5,10,11] I)<|aR<|ax 4 I<|aM (aY (m) I) I<|aM (aV I (ep _ m (by omega))) I<|ax 2 I<|bD (aU I (bB.rk.get I) I (ey _ _ _ m (by omega)) I I ⟨by unfold maxLen;omega,by omega⟩) I<|aM (aY (m) I) I<|bq (dy I (bB.tk.get I) I I I (by show m<(cN _).length;simp[cN];omega)) I I<|aO [1,3,10,11] I ?_
  refine bO (qN (bp (aE T) n k).length m) (.cons 1 I Ren.pure<|.cons 3 I (Ren.own (i:=0) I)<|.cons 10 I Ren.pure<|.cons 11 I Ren.pure<|.nil) (jT 43 3 (bp (aE T) n k) m (by omega) (k:Int)) (iT _ _) I ?_
  rw[←gC (aE T) n k m hm hmn]
  refine aD (.v (bw I) I<|.a 1 I<|.k [1,3,10,11] I) ?_
  exact⟨2*T.aa.length - (k+1),by omega,k+1,by omega,rfl,rfl⟩
 ·have hke:k=2*T.aa.length:=by have:=of_decide_eq_false hc;omega
  subst hke
  exact bn<|ag (.a 2 I<|.k [2] I)<|aF<|⟨_,aK.of I,o8 _ _ _⟩
open Heap
def ca(m:Nat)(b:Bool)(N n:Nat)(K P O:List Int):ba:=
 match b with
 |false=>[some (.cells 120 [.own (m+1),.own (m+2),.own (m+3)]),some (.row 3 1 N (aI K)),some (.row 3 1 N (aI P)),some (.row 3 1 n (aI O))]
 |true=>[some (.cells 120 [.own (m+1),.own (m+2),.own (m+4)]),some (.row 3 1 N (aI K)),some (.row 3 1 N (aI P)),none,some (.row 3 1 n (aI O))]
def gv(m:Nat):List Nat:=[0,m,m+1,m+2,m+3]
theorem kp:gk none:=fun _ h=>by cases h
theorem lB{m:Nat}(h:0<m):dh (gv m)=true:=by simp[gv,dh];omega
section
variable {A:ba} {m N n:Nat} {K P O:List Int}
theorem jF(A:ba)(h:A.length=m)(b:Bool)(k:Nat):(A++ca m b N n K P O)[m+k]? =(ca m b N n K P O)[k]? :=by
 rw[List.getElem?_append_right (by omega),show m+k - A.length=k by omega]
theorem pe(A:ba)(h:A.length=m):(A++ca m false N n K P O).length=m+4:=by simp[ca,h]
theorem lG(h:A.length=m)(h0:0<m):((gv m).all fun i=>Nat.blt i (A++ca m false N n K P O).length)=true:=by
 rw[pe A h]
 simp[gv]
theorem pG(h:A.length=m):rl (A++ca m false N n K P O) (gv m) (un (gv m) (cL false none N n K P O)) (cL false none N n K P O) (gv m):=by
 have g:=fun k=>jF (N:=N) (n:=n) (K:=K) (P:=P) (O:=O) A h false k
 refine .gone<|.kept (g 0) (.cells (cR.cons (Vw.own rfl)<|cR.cons (Vw.own rfl)<|cR.cons (Vw.own rfl) cR.nil))<|.kept (g 1) (.row cR.pure)<|.kept (g 2) (.row cR.pure)<|.kept (g 3) (.row cR.pure) .nil
theorem uG{i:Nat}(hi:i<m):un (gv m) (cL false none N n K P O) i=true:=by
 have e:∀j,m≤j→Nat.beq j i=false:=fun j hj=>by
  rw[Bool.eq_false_iff];intro h;have:=Nat.eq_of_beq_eq_true h;omega
 simp[gv,cL,un,e m (by omega),e (m+1) (by omega),e (m+2) (by omega),e (m+3) (by omega)]
theorem nh{n':Nat}{K' P' O':List Int}(h:A.length=m)(b:Bool):vy (A++ca m false N n K P O) (gv m) (cL false none N n K P O) (cL b none N n' K' P' O') (A++ca m b N n' K' P' O'):=by
 have hl:(A++ca m false N n K P O).length=m+4:=pe A h
 refine⟨?_,fun i b2 hb2=>?_⟩
 ·rw[hl];cases b<;>simp[ca,cL,gv,h]
 ·by_cases hi:i<m
  ·left
   refine⟨by omega,uG hi,?_⟩
   rw[List.getElem?_append_left (by omega)]at hb2 ⊢
   exact hb2
  ·obtain⟨k,rfl⟩:∃k,i=m+k:=⟨i - m,by omega⟩
   right
   rw[jF A h b k]at hb2
   have hbk:∀j,j<5→bk (gv m) (A++ca m false N n K P O).length j=(gv m).getD j 0:=fun j hj=>by unfold bk;rw[if_pos (by simpa[gv]using hj)]
   have hb5:bk (gv m) (A++ca m false N n K P O).length 5=m+4:=by unfold bk;rw[if_neg (by simp[gv]),hl];simp[gv]
   cases b with
   |false=>
    match k,hb2 with
    |0,hb2=>cases hb2;exact⟨1,_,rfl,.cells (ed.cons (Mv.own (hbk 2 (by omega)))<|ed.cons (Mv.own (hbk 3 (by omega)))<|ed.cons (Mv.own (hbk 4 (by omega))) ed.nil),.inl ⟨by simp[gv],by omega,rfl⟩⟩
    |1,hb2=>cases hb2;exact⟨2,_,rfl,.row ed.flat,.inl ⟨by simp[gv],by omega,rfl⟩⟩
    |2,hb2=>cases hb2;exact⟨3,_,rfl,.row ed.flat,.inl ⟨by simp[gv],by omega,rfl⟩⟩
    |3,hb2=>cases hb2;exact⟨4,_,rfl,.row ed.flat,.inl ⟨by simp[gv],by omega,rfl⟩⟩
    |_+4,hb2=>simp[ca]at hb2
   |true=>
    match k,hb2 with
    |0,hb2=>cases hb2;exact⟨1,_,rfl,.cells (ed.cons (Mv.own (hbk 2 (by omega)))<|ed.cons (Mv.own (hbk 3 (by omega)))<|ed.cons (Mv.own hb5) ed.nil),.inl ⟨by simp[gv],by omega,rfl⟩⟩
    |1,hb2=>cases hb2;exact⟨2,_,rfl,.row ed.flat,.inl ⟨by simp[gv],by omega,rfl⟩⟩
    |2,hb2=>cases hb2;exact⟨3,_,rfl,.row ed.flat,.inl ⟨by simp[gv],by omega,rfl⟩⟩
    |3,hb2=>cases hb2
    |4,hb2=>cases hb2;exact⟨5,_,rfl,.row ed.flat,.inr ⟨by simp[gv],by rw[hl];simp[gv]⟩⟩
    |_+5,hb2=>simp[ca]at hb2
theorem mH(h:A.length=m)(qs:List PV)[av qs]:cR (A++ca m false N n K P O) (gv m) (un (gv m) (cL false none N n K P O)) (.ptr m 0::qs) (.ptr 1 0::qs):=cR.cons (Vw.ptr rfl) cR.pure
theorem iI(A:ba)(hA:A.length=m)(h0:0<m)(h:iH N n K P O)(hN:N≤65536)(i:Nat)(hi:i<N)(key:Int):
  aG Tryd.prog 57 [.ptr m 0,num i,num key] (A++ca m false N n K P O) (fun _ σ'=>∃(b:Bool) (n':Nat) (P' O':List Int),σ'=A++ca m b N n' (K.set i key) P' O'∧iH N n' (K.set i key) P' O'∧∀j,bf O' j↔bf O j∨j=(i:Int)):=by
 refine aG.view (gv m) (lB h0) (mH hA _) (pG hA) (lG hA h0) (aG.mono (iw none kp K P O h hN i hi key) ?_)
 rintro r σ1 ⟨b,n',P',O',rfl,h1,h2⟩
 exact⟨.any,_,.any,nh hA b,b,n',P',O',rfl,h1,h2⟩
theorem lQ(A:ba)(hA:A.length=m)(h0:0<m)(h:iH N n K P O)(hN:N≤65536):
  aG Tryd.prog 58 [.ptr m 0] (A++ca m false N n K P O) (fun r σ'=>∃(b ok:Bool) (i n':Nat) (key:Int) (K' P' O':List Int),r= .tuple [num i,num key,flag ok]∧σ'=A++ca m b N n' K' P' O'∧
   ((ok=false∧n=0)∨(ok=true∧i<N∧bf O (i:Int)∧(∀j:Nat,bf O (j:Int)→K.getD i 0≤K.getD j 0)∧key=K.getD i 0∧K'=K.set i 0∧iH N n' K' P' O'∧∀j:Nat,bf O' (j:Int)↔bf O (j:Int)∧j≠i))):=by
 refine aG.view (gv m) (lB h0) (mH hA _) (pG hA) (lG hA h0) (aG.mono (lX none kp K P O h hN) ?_)
 rintro r σ1 ⟨b,ok,i,n',key,K',P',O',rfl,rfl,h1⟩
 exact⟨_,_,.flat,nh hA b,b,ok,i,n',key,K',P',O',rfl,rfl,h1⟩
theorem lu(A:ba)(hA:A.length=m)(h0:0<m)(hN:N≤65536):
  aG Tryd.prog 56 [num N] A (fun r σ'=>r= .tuple [.ptr m 0,num 0]∧σ'=A++ca m false N 0 (List.replicate N 0) (List.replicate N 0) []):=by
 refine aG.view (σ0:=[none]) [0] I cR.pure (.gone .nil) (by simp;omega) (aG.mono (ml N none kp hN) ?_)
 rintro r σ1 ⟨rfl,rfl⟩
 have hb:∀k,bk [0] A.length (k+1)=m+k:=fun k=>by unfold bk;rw[if_neg (by simp)];simp[hA]
 refine⟨.tuple [.ptr m 0,num 0],_,Mv.eo (ed.cons (Mv.ptr (hb 0))<|ed.cons .flat ed.nil),⟨?_,fun i b2 hb2=>?_⟩,rfl,rfl⟩
 ·simp[ca,cL]
 ·by_cases hi:i<m
  ·left
   rw[List.getElem?_append_left (by omega)]at hb2
   exact⟨by omega,rfl,hb2⟩
  ·obtain⟨k,rfl⟩:∃k,i=m+k:=⟨i - m,by omega⟩
   right
   rw[jF A hA false k]at hb2
   match k,hb2 with
   |0,hb2=>cases hb2;exact⟨1,_,rfl,.cells (ed.cons (Mv.own (hb 1))<|ed.cons (Mv.own (hb 2))<|ed.cons (Mv.own (hb 3)) ed.nil),.inr ⟨by simp,by simp[hA]⟩⟩
   |1,hb2=>cases hb2;exact⟨2,_,rfl,.row ed.flat,.inr ⟨by simp,by simp[hA]⟩⟩
   |2,hb2=>cases hb2;exact⟨3,_,rfl,.row ed.flat,.inr ⟨by simp,by simp[hA]⟩⟩
   |3,hb2=>cases hb2;exact⟨4,_,rfl,.row ed.flat,.inr ⟨by simp,by simp[hA]⟩⟩
   |_+4,hb2=>simp[ca]at hb2
theorem tA(A:ba)(hA:A.length=m)(h:iH N n K P O):aZ (A++ca m false N n K P O) (.ptr m 0) (kx K P O):=by
 have g:=fun k=>jF (N:=N) (n:=n) (K:=K) (P:=P) (O:=O) A hA false k
 have h1:=h.1.len
 have h2:=h.2.2.1
 have h3:=h.2.1
 subst h2;subst h3
 unfold kx aL
 rw[h1]
 exact aZ.ot (g 0) (aq.cons (aZ.du (g 1) aq.pure) (aq.cons (aZ.du (g 2) aq.pure) (aq.cons (aZ.du (g 3) aq.pure) aq.nil)))
end
def kJ(T:au)(D:List Bool)(d N:Nat)(out:List Int)(tch:PV)(L:List Int):ba:=[some (.cells 63 [num T.nodes,.own 1,.own 2,.own 3,num d,.own 4,tch]),some (.row 4 1 T.over.length (aT T.over)),some (.row 54 7 T.aa.length (bA T.aa)),some (.row 4 1 D.length (aT D)),some (.row 3 1 N (aI out)),some (iU L)]
def gi(T:au)(N:Nat)(ay:List Int)(lv:PV):List PV:=[.ptr 0 0,aL ay,dr (bp (aE T) N (2*T.aa.length)),dr (bp (aA T) N (2*T.aa.length)),lv]
def iN(T:au)(D:List Bool)(d N:Nat)(out:List Int)(tch:PV)(ay L:List Int):ba:=[some (.cells 63 [num T.nodes,.own 1,.own 2,.own 3,num d,.own 4,tch]),some (.row 4 1 T.over.length (aT T.over)),some (.row 54 7 T.aa.length (bA T.aa)),some (.row 4 1 D.length (aT D)),some (.row 3 1 N (aI out)),some (iU L),some (.cells 96 (gi T N ay (.own 5)))]
section
variable {σ:ba} {T:au} {D:List Bool} {d N:Nat} {out:List Int} {tch:PV}
structure eZ (σ:ba) (T:au) (D:List Bool) (d N:Nat) (out:List Int) (tch:PV):Prop where
 h0:σ[0]? =some (some (.cells 63 [num T.nodes,.own 1,.own 2,.own 3,num d,.own 4,tch]))
 h1:σ[1]? =some (some (.row 4 1 T.over.length (aT T.over)))
 h2:σ[2]? =some (some (.row 54 7 T.aa.length (bA T.aa)))
 h3:σ[3]? =some (some (.row 4 1 D.length (aT D)))
 h4:σ[4]? =some (some (.row 3 1 N (aI out)))
theorem eZ.eN(h:eZ σ T D d N out tch):aZ σ (.agg [num T.nodes,.own 1,.own 2]) (bI T):=aZ.fv (aq.cons aZ.pure<|aq.cons (aZ.du h.h1 aq.pure)<|aq.cons (aZ.du h.h2 aq.pure) aq.nil)
theorem eZ.bY(h:eZ σ T D d N out tch)(hout:out.length=N)[IsPure tch]:aZ σ (.ptr 0 0) (.bY (ew T D d (aL out) tch) 0):=by
 subst hout
 exact aZ.ot h.h0 (aq.cons aZ.pure<|aq.cons (aZ.du h.h1 aq.pure)<|aq.cons (aZ.du h.h2 aq.pure)<|aq.cons (aZ.du h.h3 aq.pure)<|aq.cons aZ.pure<|aq.cons (aZ.du h.h4 aq.pure)<|aq.cons aZ.pure aq.nil)
theorem eZ.vw(h:eZ σ T D d N out tch)(hout:out.length=N)[IsPure tch]{fs:List Nat}{u:Nat→Bool}(hu:∀i,i<5→u i=true):Vw σ fs u (.ptr 0 0) (.bY (ew T D d (aL out) tch) 0):=by
 subst hout
 exact Vw.uP h.h0 (hu 0 (by omega)) (cR.cons .pure<|cR.cons (Vw.pc h.h1 (hu 1 (by omega)) cR.pure)<|cR.cons (Vw.pc h.h2 (hu 2 (by omega)) cR.pure)<|cR.cons (Vw.pc h.h3 (hu 3 (by omega)) cR.pure)<|cR.cons .pure<|cR.cons (Vw.pc h.h4 (hu 4 (by omega)) cR.pure)<|cR.cons .pure cR.nil)
theorem oL(h:eZ σ T D d N out tch)(hT:eI T D N d)(hout:out.length=N)(hub:∀x:Nat,(x:Int)<T.nodes→at' out (x:Int)≤100000000)[IsPure tch]{L:List Int}(h5:σ[5]? =some (some (iU L)))(ay:List Int)(n:Nat)(hn:n<N):
  aG Tryd.prog 61 [.agg (gi T N ay (.own 5)),num n] σ (fun r σ'=>∃v,r=num v∧mM T D d out (fun y=>(y:Int)∈L) (fun a=>a<2*T.aa.length∧aE T a=(n:Int)) v∧σ'=σ):=by
 have hl:5<σ.length:=(List.getElem?_eq_some_iff.1 h5).1
 have hne:∀i,i<5→un [5] [kB true L] i=true:=fun i hi=>by
  have:Nat.beq 5 i=false:=by rw[Bool.eq_false_iff];intro h;have:=Nat.eq_of_beq_eq_true h;omega
  simp[un,kB,this]
 refine aG.view (σ0:=[kB true L]) [5] I (cR.cons (Vw.fv (cR.cons (h.vw hout hne)<|cR.cons .pure<|cR.cons .pure<|cR.cons .pure<|cR.cons (Vw.own rfl) cR.nil))<|cR.cons .pure cR.nil) (.kept h5 .mp .nil) (by simp;omega) (aG.mono (nb hT out hout hub true L tch (aL ay) n hn) ?_)
 rintro r σ1 ⟨v,rfl,hb,rfl⟩
 refine⟨num v,σ,.flat,⟨by simp,fun i b2 hb2=>?_⟩,v,rfl,?_,rfl⟩
 ·by_cases hi:i=5
  ·subst hi
   rw[h5]at hb2
   cases hb2
   exact .inr ⟨0,_,rfl,.mp,.inl ⟨by simp,hl,rfl⟩⟩
  ·left
   refine⟨(List.getElem?_eq_some_iff.1 hb2).1,?_,hb2⟩
   have:Nat.beq 5 i=false:=by rw[Bool.eq_false_iff];intro h;exact hi (Nat.eq_of_beq_eq_true h).symm
   simp[un,kB,this]
 ·simpa using hb
theorem mj(A:ba)(ay L:List Int):eZ (iN T D d N out tch ay L++A) T D d N out tch:=⟨rfl,rfl,rfl,rfl,rfl⟩
theorem kj{P:Program}{M:Nat}{c:Code}{t t':bo}{Q:Exit→St→Prop}{b:Bool}{n:Nat}{K Pl O ay L:List Int}[IsPure tch](hT:gw [0,1,2,3,4,5,6,7,8,9,11] t t')(h:W P M 6 c ⟨t',iN T D d N out tch ay L++ca 7 false N n K Pl O⟩ Q)(hT0:b=false→t=t'):W P M 6 c ⟨t,iN T D d N out tch ay L++ca 7 b N n K Pl O⟩ Q:=by
 cases b
 ·rw[hT0 rfl];exact h
 ·refine bO [0,1,2,3,4,5,6,7,8,9,11] hT (.kept rfl (.cells (ab.c<|ab.c<|ab.c<|ab.c<|ab.c<|ab.c<|ab.c ab.nil))<|.kept rfl (.row ab.pure)<|.kept rfl (.row ab.pure)<|.kept rfl (.row ab.pure)<|.kept rfl (.row ab.pure)<|.kept rfl .mp<|.kept rfl (.cells (ab.c<|ab.c<|ab.c<|ab.c<|ab.c ab.nil))<|.kept rfl (.cells (ab.c<|ab.c<|ab.c ab.nil))<|.kept rfl (.row ab.pure)<|.kept rfl (.row ab.pure)<|.kept rfl (.row ab.pure) .nil) I I h
end
theorem uc{i:Nat}{L:List Int}{σ:ba}{t:bo}{o:Oper}{x ix:Operand}{k:Int}{r:Bool}(ho:o.op= .lookup 94 x ix false)(hx:aj t x=some (.own i))(hi:σ[i]? =some (some (iU L)))(hp:aj t ix=some (num k))(hr:decide (k∈L)=r):aH Tryd.prog σ t o (flag r):=by
 refine sw tC (k:=k) ho tD vq hx hi hp (mz _) ?_
 rw[iR,hr]
def jQ(k:Int)(L:List Int):List Int:=if k∈L then L else L++[k]
theorem qT(k:Int)(L:List Int)(x:Int):x∈jQ k L↔x∈L∨x=k:=by
 unfold jQ
 split
 ·rename_i h
  constructor
  ·exact .inl
  ·rintro(h'|rfl)
   ·exact h'
   ·exact h
 ·simp
theorem sv(k:Int)(L:List Int):cy.mp (dU kO (gH k (flag true) (gf L)))=iU (jQ k L):=by unfold iU jQ;rw[nz]
def gg(L out:List Int)(k:Nat):List Int:=(List.range out.length).map fun x=>if x<k∧(x:Int)∈L then -1 else out.getD x (-1)
theorem hJ(L out:List Int)(k:Nat):(gg L out k).length=out.length:=by simp[gg]
theorem nv(L out:List Int)(k x:Nat)(hx:x<out.length):at' (gg L out k) (x:Int)=if x<k∧(x:Int)∈L then -1 else at' out (x:Int):=by
 simp[at',gg,List.getD_eq_getElem?_getD,hx]
theorem qj(L out:List Int):gg L out 0=out:=by
 refine List.ext_getElem (hJ _ _ _) fun x h1 h2=>?_
 simp[gg,List.getD_eq_getElem?_getD,h2]
theorem rN{L out:List Int}{k:Nat}(h:(k:Int)∈L)(hk:k<out.length):(gg L out k).set k (-1)=gg L out (k+1):=by
 refine List.ext_getElem (by simp[gg]) fun x h1 h2=>?_
 rw[List.getElem_set]
 simp only[gg,List.getElem_map,List.getElem_range]
 by_cases e:k=x
 ·subst e;rw[if_pos rfl,if_pos ⟨by omega,h⟩]
 ·rw[if_neg e]
  by_cases e2:x<k
  ·simp[e2,show x<k+1 by omega]
  ·simp[e2,show ¬x<k+1 by omega]
theorem s4{L out:List Int}{k:Nat}(h:¬(k:Int)∈L):gg L out k=gg L out (k+1):=by
 refine List.ext_getElem (by simp[gg]) fun x h1 h2=>?_
 simp only[gg,List.getElem_map,List.getElem_range]
 by_cases e:x=k
 ·subst e;simp[h]
 ·by_cases e2:x<k
  ·simp[e2,show x<k+1 by omega]
  ·simp[e2,show ¬x<k+1 by omega]
theorem sL(L out:List Int):Cut (fun y=>(y:Int)∈L) out (gg L out out.length):=⟨hJ _ _ _,fun x hx=>⟨fun h=>by rw[nv _ _ _ _ hx,if_pos ⟨hx,h⟩],fun h=>by rw[nv _ _ _ _ hx,if_neg (fun e=>h e.2)]⟩⟩
theorem sg{T₀ T:au}{D₀ D:List Bool}{N d:Nat}{S:Nat→Prop}(hT:eI T D N d)(h2:tT T₀ D₀ T D d S)(out:List Int)(hd:cC T₀ D₀ d false out)(hout:out.length=N)(hub:∀x:Nat,(x:Int)<T.nodes→at' out (x:Int)≤4194240)(tch:PV)[IsPure tch]
    (ay:List Int) (hal:ay.length≤1000) (harc:∀a∈ay,0≤a∧a<2*(T.aa.length:Int)) (hS:∀a,S a→a<2*T.aa.length→∃c:Nat,(c:Int)∈ay∧aE T c=aE T a):
    aG Tryd.prog 46 [.agg (gi T N ay (.own 5))] (kJ T D d N out tch []) (fun _ σ'=>∃L out1 done b,mE T D d out (fun y=>(y:Int)∈L) (fun _=>False) done b (fun _=>False)∧Cut (fun y=>(y:Int)∈L) out out1∧σ'=kJ T D d N out1 tch L):=by
  have hll:=cq hT.valid
  have hSd:=bz hT.valid
  have hnn:=hT.nodes
  have hN64:N≤64:=by have:=hSd.nodes;omega
  have hrl:=cw (aA T) N (2*T.aa.length)
  have hub8:∀x:Nat,(x:Int)<T.nodes→at' out (x:Int)≤100000000:=fun x hx=>by have:=hub x hx;omega
  refine bc Tryd.func46 I Tryd.ntmps46 I<|a7<|bD (fQ I I I) I<|aO [1] I ?_
  refine a7<|ax 5 I<|aM (aV I ((show some (num T.nodes)=some (num (N:Int)) by rw[hnn]))) I<|bh I I (aG.mono (lu (m:=7) (iN T D d N out tch ay []) I (by omega) (by omega)) (fun _ σ' h=>?_))
  obtain⟨rfl,rfl⟩:=h
  refine ax 5 I<|aO [1,2] I ?_
  refine al<|ag (.a 4 I<|.k [1,2,26,27,28] I)<|aw<|fx [1,2,26,27,28] I<|bx (fun r s=>∃k q K P O,k≤ay.length∧iH N q K P O∧(∀y:Nat,bf O (y:Int)↔∃c:Nat,(c:Int)∈ay.take k∧aE T c=(y:Int)∧y≠d∧0≤at' out (y:Int))∧(∀y:Nat,bf O (y:Int)→K.getD y 0=at' out (y:Int))∧r=ay.length - k∧s=⟨[(1,.ptr 6 0),(2,.ptr 7 0),(26,aL ay),(27,num ay.length),(28,num k)],iN T D d N out tch ay []++ca 7 false N q K P O⟩) ay.length ⟨0,0,_,_,_,by omega,jC N,fun y=>⟨fun⟨p,hp,_⟩=>by simp at hp,fun⟨c,hc,_⟩=>by simp at hc⟩,fun y ⟨p,hp,_⟩=>by simp at hp,by omega,rfl⟩ ?_
  rintro r s ⟨k,q,K,P,O,hk,hok,hheld,hkey,rfl,rfl⟩
  refine ag (.a 1 I<|.k [1,2,26,27,28,29] I)<|al<|ak I (fun hc=>?_) (fun hc=>?_)
  · have hlt:k<ay.length:=by have:=of_decide_eq_true hc;omega
    obtain⟨ha0,ha1⟩:=harc _ (c7 (d:=0) hlt)
    obtain⟨a,ha⟩:=Int.eq_ofNat_of_zero_le ha0
    have ham:a<2*T.aa.length:=by omega
    obtain⟨m,hm⟩:=Int.eq_ofNat_of_zero_le (hSd.tail a ham).1
    have hmN:m<N:=by have:=(hSd.tail a ham).2;omega
    have hA:=dR hlt ha
    have hstep:∀y:Nat,(∃c:Nat,(c:Int)∈ay.take (k+1)∧aE T c=(y:Int)∧y≠d∧0≤at' out (y:Int))↔bf O (y:Int)∨(y=m∧m≠d∧0≤at' out (m:Int)):=fun y=>by
      rw[hheld y]
      constructor
      · rintro⟨c,h1,h2,h3,h4⟩
        rcases(hA c).1 h1 with h1|rfl
        · exact .inl ⟨c,h1,h2,h3,h4⟩
        · have:y=m:=by rw[hm]at h2;omega
          subst this
          exact .inr ⟨rfl,h3,h4⟩
      · rintro(⟨c,h1,h2,h3,h4⟩|⟨rfl,h3,h4⟩)
        · exact⟨c,(hA c).2 (.inl h1),h2,h3,h4⟩
        · exact⟨a,(hA a).2 (.inr rfl),hm,h3,h4⟩
    refine an<|al<|aw<|ag (.v (aY (k) I) I<|.v (aV I ((aN ay k hlt).trans (by rw[ha]))) I<|.a 1 I<|.k [1,2,5,26,27,28] I)<|ag (.a 6 I<|.v (iG I (aq.cons (mj _ _ _).eN (aq.cons aZ.pure aq.nil)) (hm▸dV T a ham)) I<|.a 1 I<|.k [1,2,6,26,27,28] I) ?_
    obtain⟨p1,hp1⟩:∃q,decide ((m:Int)≠(d:Int))=q:=⟨_,rfl⟩
    obtain⟨p2,hp2⟩:∃q,decide (0≤at' out (m:Int))=q:=⟨_,rfl⟩
    refine bF 56 (.raw (.bool (p1&&p2))) [1,2,6,26,27,28] I ?_ ?_
    · refine .a 6 I<|.v (cJ I (hp1)) I<|.a 1 I<|?_
      cases p1
      · exact .a 10 I<|.k [56,1,2,6,26,27,28] I
      · exact .a 6 I<|.v (aY (m) I) I<|.v (aV I (dD out m (by omega))) I<|.v (cJ I (hp2)) I<|.a 1 I<|.k [56,1,2,6,26,27,28] I
    refine ak I (fun hc=>?_) (fun hc=>?_)
    · obtain⟨c1,c2⟩:=Bool.and_eq_true_iff.1 hc
      rw[c1]at hp1
      rw[c2]at hp2
      have hmd:m≠d:=by have:=of_decide_eq_true hp1;omega
      have hm0:=of_decide_eq_true hp2
      refine aR<|ax 8 I<|aM (aY (m) I) I<|aM (aV I (dD out m (by omega))) I<|bh I I (aG.mono (iI (m:=7) (iN T D d N out tch ay []) I (by omega) hok (by omega) m hmN _) (fun _ σ' h=>?_))
      obtain⟨b3,n3,P3,O3,rfl,hok3,hH3⟩:=h
      refine aO [1,2,26,27,28] I ?_
      refine kj (.c 1<|.c 2<|.c 26<|.c 27<|.c 28 .nil) ?_ (fun _=>rfl)
      have hhn:∀y:Nat,bf O3 (y:Int)↔∃c:Nat,(c:Int)∈ay.take (k+1)∧aE T c=(y:Int)∧y≠d∧0≤at' out (y:Int):=fun y=>by
        rw[hstep y,hH3 y]
        constructor
        · rintro(h|h)
          · exact .inl h
          · exact .inr ⟨by omega,hmd,hm0⟩
        · rintro(h|⟨rfl,_⟩)
          · exact .inl h
          · exact .inr rfl
      have hkey3:∀y:Nat,bf O3 (y:Int)→(K.set m (at' out (m:Int))).getD y 0=at' out (y:Int):=fun y hy=>by
        rw[l8 _ _ _ _ (by rw[hok.2.2.1];exact hmN)]
        split
        · rename_i e;rw[e]
        · rename_i e
          exact hkey y (((hH3 y).1 hy).resolve_right (by omega))
      refine aD (.v (bw I) I<|.a 1 I<|.k [1,2,26,27,28] I) ?_
      first
        |exact⟨ay.length - (k+1),by omega,k+1,n3,_,P3,O3,by omega,hok3,hhn,hkey3,rfl,rfl⟩
        |exact⟨ay.length - (k+1),by omega,k+1,q,K,P,O,by omega,hok,hhn,hkey,rfl,rfl⟩
    · have hno:¬(m≠d∧0≤at' out (m:Int)):=fun⟨e1,e2⟩=>by
        rw[decide_eq_true (by omega)]at hp1
        rw[decide_eq_true e2]at hp2
        rw[←hp1,←hp2]at hc
        cases hc
      have hhn:∀y:Nat,bf O (y:Int)↔∃c:Nat,(c:Int)∈ay.take (k+1)∧aE T c=(y:Int)∧y≠d∧0≤at' out (y:Int):=fun y=>by
        rw[hstep y]
        exact⟨.inl,fun h=>h.elim id fun h=>absurd h.2 hno⟩
      refine an<|aD (.v (bw I) I<|.a 1 I<|.k [1,2,26,27,28] I) ?_
      first
        |exact⟨ay.length - (k+1),by omega,k+1,n3,_,P3,O3,by omega,hok3,hhn,hkey3,rfl,rfl⟩
        |exact⟨ay.length - (k+1),by omega,k+1,q,K,P,O,by omega,hok,hhn,hkey,rfl,rfl⟩
  · have hke:k=ay.length:=by have:=of_decide_eq_false hc;omega
    rw[hke,List.take_length]at hheld
    have hL0:mE T D d out (fun y=>(y:Int)∈([]:List Int)) (fun y=>bf O (y:Int)) (List.replicate N (-1)) 0 (fun _=>False):=by
      have:=pW (H:=fun y=>bf O (y:Int)) h2 hSd hnn.symm hd (fun y hy=>by
        obtain⟨c,hc1,hc2,hc3,hc4⟩:=(hheld y).1 hy
        have:=harc _ hc1
        have:=hSd.tail c (by omega)
        exact⟨by omega,hc3,hc4⟩) (fun a x hs ha hx hxd hx0=>by
        obtain⟨c,hc1,hc2⟩:=hS a hs ha
        exact(hheld x).2 ⟨c,hc1,by rw[hc2,hx],hxd,hx0⟩)
      simpa using this
    clear hheld
    refine bn<|al<|aw<|fx [1,2] I<|bx (fun r s=>∃L done b q K P O,mE T D d out (fun y=>(y:Int)∈L) (fun y=>bf O (y:Int)) done b (fun _=>False)∧iH N q K P O∧(∀y:Nat,bf O (y:Int)→K.getD y 0=at' out (y:Int))∧r=N - dF done∧s=⟨[(1,.ptr 6 0),(2,.ptr 7 0)],iN T D d N out tch ay L++ca 7 false N q K P O⟩) (N - dF (List.replicate N (-1))) ⟨[],_,_,q,K,P,O,hL0,hok,hkey,rfl,rfl⟩ ?_
    clear hL0 hok hkey
    rintro r s ⟨L,done,b,q,K,P,O,hL,hok,hkey,rfl,rfl⟩
    refine aw<|a7<|ax 1 I<|bh I I (aG.mono (lQ (m:=7) (iN T D d N out tch ay L) I (by omega) hok (by omega)) (fun _ σ' h=>?_))
    obtain⟨b3,ok,i,n1,key,K1,P1,O1,rfl,rfl,hpop⟩:=h
    refine ax 7 I<|aO [1,2,7,8,9] I ?_
    refine kj (.c 1<|.c 2<|.c 7<|.c 8<|.c 9 .nil) ?_ (fun _=>rfl)
    refine al<|ag (.a 2 I<|.k [1,2,7,8,76] I)<|ak I (fun hc=>?_) (fun hc=>?_)
    · have hok0:ok=false:=by cases ok;rfl;cases hc
      have hq0:q=0:=by
        rcases hpop with⟨_,h⟩|⟨h,_⟩
        · exact h
        · rw[hok0]at h;cases h
      have hLE:mE T D d out (fun y=>(y:Int)∈L) (fun _=>False) done b (fun _=>False):=by
        have hno:∀y:Nat,¬bf O (y:Int):=fun y ⟨p,hp,_⟩=>by have:=hok.2.1;omega
        exact⟨hL.gF,fun y hy=>hy.elim,hL.gone,hL.j8,fun x h1 h2 h3 h4=>.inr ((hL.sup x h1 h2 h3 h4).resolve_left (hno x))⟩
      refine bO [0,1,2,3,4,5,6] (.c 1 .nil) (.kept rfl (.cells (ab.c<|ab.c<|ab.c<|ab.c<|ab.c<|ab.c<|ab.c ab.nil))<|.kept rfl (.row ab.pure)<|.kept rfl (.row ab.pure)<|.kept rfl (.row ab.pure)<|.kept rfl (.row ab.pure)<|.kept rfl .mp<|.kept rfl (.cells (ab.c<|ab.c<|ab.c<|ab.c<|ab.c ab.nil)) .nil) I I ?_
      refine bn<|ag (.a 7 I<|.k [1,143,144] I)<|aw<|fx [1,143,144] I<|bx (fun r s=>∃k,k≤N∧r=N - k∧s=⟨[(1,.ptr 6 0),(143,num N),(144,num k)],iN T D d N (gg L out k) tch ay L⟩) N ⟨0,by omega,by omega,by rw[qj];rfl⟩ ?_
      rintro r s ⟨k,hk,rfl,rfl⟩
      refine ag (.a 1 I<|.k [1,143,144,145] I)<|al<|ak I (fun hc=>?_) (fun hc=>?_)
      · have hlt:k<N:=by have:=of_decide_eq_true hc;omega
        refine an<|al<|aw<|ag (.a 2 I<|.k [1,14,143,144] I) ?_
        obtain⟨p1,hp1⟩:∃q,decide ((k:Int)∈L)=q:=⟨_,rfl⟩
        refine ag (.a 3 I<|.v (uc I I I I hp1) I<|.k [1,14,143,144,150] I)<|ak I (fun hc=>?_) (fun hc=>?_)
        · have hst:=rN (out:=out) (of_decide_eq_true (hp1.trans hc)) (by omega)
          refine aR<|ax 6 I<|aM (aY (k) I) I<|bq ((by first|exact bu I (bB.tk.get I) I I I (by rw[hJ];omega)|exact bm I (bB.tk.get I) I I I (by rw[hJ];omega))) I I<|aO [1,143,144] I ?_
          refine aD (.v (bw I) I<|.a 1 I<|.k [1,143,144] I) ?_
          refine⟨N - (k+1),by omega,k+1,by omega,rfl,?_⟩
          rw[←hst]
          rfl
        · have hst:=s4 (out:=out) (of_decide_eq_false (hp1.trans hc))
          refine an<|aD (.v (bw I) I<|.a 1 I<|.k [1,143,144] I) ?_
          refine⟨N - (k+1),by omega,k+1,by omega,rfl,?_⟩
          rw[←hst]
          rfl
      · have hke:k=N:=by have:=of_decide_eq_false hc;omega
        subst hke
        refine bO [0,1,2,3,4,5] .nil (.kept rfl (.cells (ab.c<|ab.c<|ab.c<|ab.c<|ab.c<|ab.c<|ab.c ab.nil))<|.kept rfl (.row ab.pure)<|.kept rfl (.row ab.pure)<|.kept rfl (.row ab.pure)<|.kept rfl (.row ab.pure)<|.kept rfl .mp .nil) I I ?_
        exact bn<|⟨_,aK.of I,L,_,done,b,hLE,sL L out,by rw[hout];rfl⟩
    · have hok1:ok=true:=by cases ok;cases hc;rfl
      rcases hpop with⟨h,_⟩|⟨_,hiN,hHi,hmin,rfl,rfl,hok',hH'⟩
      · rw[hok1]at h;cases h
      have hki:=hkey i hHi
      rw[hki]
      have hmin':∀j:Nat,bf O (j:Int)→at' out (i:Int)≤at' out (j:Int):=fun j hj=>by rw[←hki,←hkey j hj];exact hmin j hj
      have hi0:=(hL.held i hHi).2.2.1
      have hkey1:∀y:Nat,bf O1 (y:Int)→(K.set i 0).getD y 0=at' out (y:Int):=fun y hy=>by
        obtain⟨e1,e2⟩:=(hH' y).1 hy
        rw[l8 _ _ _ _ (by rw[hok.2.2.1];exact hiN),if_neg e2]
        exact hkey y e1
      generalize K.set i 0=K1 at hok' hkey1
      have hdl:done.length=N:=by have:=hL.gF;omega
      have hmeas:dF (done.set i 0)=dF done+1→N - dF (done.set i 0)<N - dF done:=fun h=>by have:=dJ (done.set i 0);rw[List.length_set]at this;omega
      refine an<|al<|a7<|ax 2 I<|bh I I (aG.mono (oL (mj _ _ _) hT hout hub8 (L:=L) I ay i hiN) (fun _ σ' h=>?_))
      obtain⟨v,rfl,hb,rfl⟩:=h
      refine ax 1 I<|aO [1,2,7,8,10] I ?_
      obtain⟨p1,hp1⟩:∃q,decide (0≤v)=q:=⟨_,rfl⟩
      obtain⟨p2,hp2⟩:∃q,decide (v≤at' out (i:Int))=q:=⟨_,rfl⟩
      refine bF 86 (.raw (.bool (p1&&p2))) [1,2,7,8] I ?_ ?_
      · refine .a 1 I<|.v (cJ I (hp1)) I<|.a 1 I<|?_
        cases p1
        · exact .a 4 I<|.k [86,1,2,7,8] I
        · exact .a 2 I<|.v (cJ I (hp2)) I<|.a 1 I<|.k [86,1,2,7,8] I
      refine ak I (fun hc=>?_) (fun hc=>?_)
      · obtain⟨c1,c2⟩:=Bool.and_eq_true_iff.1 hc
        rw[c1]at hp1
        rw[c2]at hp2
        have hv0:=of_decide_eq_true hp1
        have hvi:=of_decide_eq_true hp2
        obtain⟨hL1,hcnt⟩:mE T D d out (fun y=>(y:Int)∈L) (fun y=>bf O1 (y:Int)) (done.set i 0) (at' out (i:Int)) (fun _=>False)∧dF (done.set i 0)=dF done+1:=by
          rcases hb with⟨h1,_⟩|⟨_,⟨a,⟨k1,k2⟩,k3,k4,k5,k6⟩,_⟩
          · omega
          · exact r5 hL hHi hmin' hH' k1 k2 ⟨k3,k4,by omega⟩ k5
        refine fL (.cons (k:=1) I<|.cons (k:=2) I<|Sub.nil _) ?_
        refine bn ?_
        first
          |exact⟨_,hmeas hcnt,_,_,_,_,_,_,_,hLe,hok2,hkey2,rfl,rfl⟩
          |exact⟨_,hmeas hcnt,_,_,_,_,_,_,_,hL1,hok',hkey1,rfl,rfl⟩
      · obtain ⟨hL1, hcnt⟩ := rf (lost' := fun y => (y : Int) ∈ jQ (i : Int) L) hSd hL hHi hmin' hH' (fun j => by rw [qT]; constructor <;> (rintro (h | h); exact .inl h; exact .inr (by omega)))
        refine an<|a7<|ax 3 I<|bq (rv tC (k:=(i:Int)) I tD rfl rfl rfl (mz _) I) I I<|aO [1,2,7,8] I ?_
        refine dI (σ':=iN T D d N out tch ay (jQ (i:Int) L)++ca 7 false N n1 K1 P1 O1) (by unfold iN;rw[←sv];rfl) ?_
        have hll:=dK T false i
        have hL2:mE T D d out (fun y=>(y:Int)∈jQ (i:Int) L) (fun y=>bf O1 (y:Int)) (done.set i 0) (at' out (i:Int)) (fun a=>aA T a=(i:Int)∧(a:Int)∉(ao T false i).take 0):=pb hL1 (fun a _ h=>⟨h,by simp⟩)
        have hrow:(bp (aA T) N (2*T.aa.length)).getD i []=ao T false i:=cH _ _ _ _ hiN
        refine ag (.a 3 I<|.v (aY (i) I) I<|.v (aV I ((show((bp (aA T) N (2*T.aa.length)).map aL)[i]? =some (aL (ao T false i)) by rw[←hrow];simp[hrl,hiN]))) I<|.a 2 I<|.k [1,2,8,94,95,96] I)<|aw<|fx [1,2,8,94,95,96] I<|bx (fun r s=>∃j q K P O,j≤(ao T false i).length∧mE T D d out (fun y=>(y:Int)∈jQ (i:Int) L) (fun y=>bf O (y:Int)) (done.set i 0) (at' out (i:Int)) (fun a=>aA T a=(i:Int)∧(a:Int)∉(ao T false i).take j)∧iH N q K P O∧(∀y:Nat,bf O (y:Int)→K.getD y 0=at' out (y:Int))∧r=(ao T false i).length - j∧s=⟨[(1,.ptr 6 0),(2,.ptr 7 0),(8,num (at' out (i:Int))),(94,aL (ao T false i)),(95,num (ao T false i).length),(96,num j)],iN T D d N out tch ay (jQ (i:Int) L)++ca 7 false N q K P O⟩) (ao T false i).length ⟨0,n1,K1,P1,O1,by omega,hL2,hok',hkey1,by omega,rfl⟩ ?_
        clear hL2 hok' hkey1 hL1 hmin' hmin hHi hH' hkey hok
        rintro r s ⟨j,q2,K2,P2,O2,hj,hL2,hok2,hkey2,rfl,rfl⟩
        refine ag (.a 1 I<|.k [1,2,8,94,95,96,97] I)<|al<|ak I (fun hc=>?_) (fun hc=>?_)
        · have hlt:j<(ao T false i).length:=by have:=of_decide_eq_true hc;omega
          obtain⟨a,ha,ham,hay⟩:=ev T false i j hlt
          have hah:aA T a=(i:Int):=hay
          obtain⟨m,hm⟩:=Int.eq_ofNat_of_zero_le (hSd.tail a ham).1
          have hmN:m<N:=by have:=(hSd.tail a ham).2;omega
          have hA:=dR hlt ha
          have hSS:∀c,c<2*T.aa.length→(aA T c=(i:Int)∧(c:Int)∉(ao T false i).take j)→(aA T c=(i:Int)∧(c:Int)∉(ao T false i).take (j+1))∨c=a:=fun c _ ⟨e1,e2⟩=>by
            by_cases e:c=a
            · exact .inr e
            · exact .inl ⟨e1,fun h=>((hA c).1 h).elim e2 e⟩
          refine an<|al<|aw<|ag (.v (aY (j) I) I<|.v (aV I ((aN _ j hlt).trans (by rw[ha]))) I<|.a 1 I<|.k [1,2,8,12,94,95,96] I)<|ag (.a 6 I<|.v (iG I (aq.cons (mj _ _ _).eN (aq.cons aZ.pure aq.nil)) (hm▸dV T a ham)) I<|.a 1 I<|.k [1,2,8,13,94,95,96] I) ?_
          obtain⟨p1,hp1⟩:∃q,decide ((m:Int)≠(d:Int))=q:=⟨_,rfl⟩
          obtain⟨p2,hp2⟩:∃q,decide (at' out (i:Int)<at' out (m:Int))=q:=⟨_,rfl⟩
          refine bF 125 (.raw (.bool (p1&&p2))) [1,2,8,13,94,95,96] I ?_ ?_
          · refine .a 6 I<|.v (cJ I (hp1)) I<|.a 1 I<|?_
            cases p1
            · exact .a 11 I<|.k [125,1,2,8,13,94,95,96] I
            · exact .a 6 I<|.v (aY (m) I) I<|.v (aV I (dD out m (by omega))) I<|.a 1 I<|.v (cJ I (hp2)) I<|.a 1 I<|.k [125,1,2,8,13,94,95,96] I
          refine ak I (fun hc=>?_) (fun hc=>?_)
          · obtain⟨c1,c2⟩:=Bool.and_eq_true_iff.1 hc
            rw[c1]at hp1
            rw[c2]at hp2
            have hmd:m≠d:=by have:=of_decide_eq_true hp1;omega
            have hmi:=of_decide_eq_true hp2
            refine aR<|ax 8 I<|aM (aY (m) I) I<|aM (aV I (dD out m (by omega))) I<|bh I I (aG.mono (iI (m:=7) (iN T D d N out tch ay (jQ (i:Int) L)) I (by omega) hok2 (by omega) m hmN _) (fun _ σ' h=>?_))
            obtain⟨b3,n3,P3,O3,rfl,hok3,hH3⟩:=h
            refine aO [1,2,8,94,95,96] I ?_
            refine kj (.c 1<|.c 2<|.c 8<|.c 94<|.c 95<|.c 96 .nil) ?_ (fun _=>rfl)
            have hL3:=oX (H':=fun y=>bf O3 (y:Int)) hSd hL2 ham hah hm hSS (fun y=>(hH3 y).trans ⟨fun h=>h.imp id (fun e=>⟨by omega,hmd,hmi⟩),fun h=>h.imp id (fun e=>by have:=e.1;omega)⟩) hi0
            have hkey3:∀y:Nat,bf O3 (y:Int)→(K2.set m (at' out (m:Int))).getD y 0=at' out (y:Int):=fun y hy=>by
              rw[l8 _ _ _ _ (by rw[hok2.2.2.1];exact hmN)]
              split
              · rename_i e;rw[e]
              · rename_i e
                exact hkey2 y (((hH3 y).1 hy).resolve_right (by omega))
            refine aD (.v (bw I) I<|.a 1 I<|.k [1,2,8,94,95,96] I) ?_
            first
              |exact⟨(ao T false i).length - (j+1),by omega,j+1,n3,_,P3,O3,by omega,hL3,hok3,hkey3,rfl,rfl⟩
              |exact⟨(ao T false i).length - (j+1),by omega,j+1,q2,K2,P2,O2,by omega,hL3,hok2,hkey2,rfl,rfl⟩
          · have hno:¬(m≠d∧at' out (i:Int)<at' out (m:Int)):=fun⟨e1,e2⟩=>by
              rw[decide_eq_true (by omega)]at hp1
              rw[decide_eq_true e2]at hp2
              rw[←hp1,←hp2]at hc
              cases hc
            have hL3:=oX (H':=fun y=>bf O2 (y:Int)) hSd hL2 ham hah hm hSS (fun y=>⟨.inl,fun h=>h.elim id fun h=>absurd h.2 hno⟩) hi0
            refine an<|aD (.v (bw I) I<|.a 1 I<|.k [1,2,8,94,95,96] I) ?_
            first
              |exact⟨(ao T false i).length - (j+1),by omega,j+1,n3,_,P3,O3,by omega,hL3,hok3,hkey3,rfl,rfl⟩
              |exact⟨(ao T false i).length - (j+1),by omega,j+1,q2,K2,P2,O2,by omega,hL3,hok2,hkey2,rfl,rfl⟩
        · have hje:j=(ao T false i).length:=by have:=of_decide_eq_false hc;omega
          have hLe:mE T D d out (fun y=>(y:Int)∈jQ (i:Int) L) (fun y=>bf O2 (y:Int)) (done.set i 0) (at' out (i:Int)) (fun _=>False):=pb hL2 (fun a ha ⟨e1,e2⟩=>e2 (by rw[hje,List.take_length];exact(df T false i a).2 ⟨ha,e1⟩))
          refine fL (.cons (k:=1) I<|.cons (k:=2) I<|Sub.nil _) ?_
          refine bn ?_
          first
            |exact⟨_,hmeas hcnt,_,_,_,_,_,_,_,hLe,hok2,hkey2,rfl,rfl⟩
            |exact⟨_,hmeas hcnt,_,_,_,_,_,_,_,hL1,hok',hkey1,rfl,rfl⟩
end
end PW
end Go.Proofs.YteikppbedmmdnaaDoor
namespace Go.Proofs.YteikppbedmmdnaaDoor
namespace Net
theorem oc{T:au}{D:List Bool}{n:Nat}{out K:List Int}{H:Nat→Prop}{done:List Int}{b:Int}{S S':Nat→Prop}(h:lU T D n out K H done b S)(hS:∀c,c<2*T.aa.length→S c→S' c∨¬ny T D n c):lU T D n out K H done b S':=
 {h with sF:=fun a ha hs hu=>h.sF a ha (fun e=>(hS a ha e).elim hs (fun f=>f hu)) hu}
end Net
namespace PW
open Go.RowKit cX Mem Net Heap
theorem nn{T:au}{D:List Bool}{n:Nat}{out K K':List Int}{H H':Nat→Prop}{done:List Int}{S S':Nat→Prop}(hT:Sound T)(h:lU T D n out K H done 0 S){m:Nat}{v:Int}(hmN:(m:Int)<T.nodes)(hb:mM T D n out (fun _=>False) (fun a=>a<2*T.aa.length∧aE T a=(m:Int)) v)(ho:kU n out K H m v K' H')
  (hS:∀c,c<2*T.aa.length→S c→S' c∨aE T c=(m:Int)):lU T D n out K' H' done 0 S':=by
 refine la hT h hmN ho (fun c hc hs=>?_) (fun hv=>?_)
 ·rcases hS c hc hs with h1|h1
  ·exact .inl h1
  ·refine .inr ⟨h1,fun k1 k2=>?_⟩
   rcases hb with⟨_,h2⟩|⟨h2,_,h3⟩
   ·exact(h2 c ⟨hc,h1⟩ k1 k2).elim
   ·exact⟨h2,h3 c ⟨hc,h1⟩ k1 k2 (fun f=>f)⟩
 ·rcases hb with⟨h2,_⟩|⟨_,⟨a,⟨h3,h4⟩,h5,h6,_,h7⟩,_⟩
  ·omega
  ·obtain⟨y,hy⟩:=Int.eq_ofNat_of_zero_le (hT.head a h3).1
   have:=h.ub y (by have:=(hT.head a h3).2;omega)
   have:=hT.cost a h3
   rw[←hy]at*
   exact⟨hv,by omega,a,h3,h4,h5,h6,by omega⟩
def gh(T:au)(D:List Bool)(d N:Nat)(out:List Int)(tch:PV)(ay L:List Int):ba:=[some (.cells 63 [num T.nodes,.own 1,.own 2,.own 3,num d,.own 4,tch]),some (.row 4 1 T.over.length (aT T.over)),some (.row 54 7 T.aa.length (bA T.aa)),some (.row 4 1 D.length (aT D)),some (.row 3 1 N (aI out)),some (iU L),some (.cells 96 (gi T N ay (.raw (.map none)))),some (.cells 109 [.ptr 8 0])]
section
variable {σ:ba} {T:au} {D:List Bool} {d N:Nat} {out:List Int} {tch:PV}
theorem fW(A:ba)(ay L:List Int):eZ (gh T D d N out tch ay L++A) T D d N out tch:=⟨rfl,rfl,rfl,rfl,rfl⟩
theorem iC{P:Program}{M:Nat}{c:Code}{t t':bo}{Q:Exit→St→Prop}{b:Bool}{n:Nat}{K Pl O ay L:List Int}[IsPure tch](hT:gw [0,1,2,3,4,5,6,7,8,9,10,12] t t')(h:W P M 6 c ⟨t',gh T D d N out tch ay L++ca 8 false N n K Pl O⟩ Q)(hT0:b=false→t=t'):W P M 6 c ⟨t,gh T D d N out tch ay L++ca 8 b N n K Pl O⟩ Q:=by
 cases b
 ·rw[hT0 rfl];exact h
 ·refine bO [0,1,2,3,4,5,6,7,8,9,10,12] hT (.kept rfl (.cells (ab.c<|ab.c<|ab.c<|ab.c<|ab.c<|ab.c<|ab.c ab.nil))<|.kept rfl (.row ab.pure)<|.kept rfl (.row ab.pure)<|.kept rfl (.row ab.pure)<|.kept rfl (.row ab.pure)<|.kept rfl .mp<|.kept rfl (.cells (ab.c<|ab.c<|ab.c<|ab.c<|ab.c ab.nil))<|.kept rfl (.cells (ab.c ab.nil))<|.kept rfl (.cells (ab.c<|ab.c<|ab.c ab.nil))<|.kept rfl (.row ab.pure)<|.kept rfl (.row ab.pure)<|.kept rfl (.row ab.pure) .nil) I I h
theorem lg(h:eZ σ T D d N out tch)(hT:eI T D N d)(hout:out.length=N)(hub:∀x:Nat,(x:Int)<T.nodes→at' out (x:Int)≤100000000)[IsPure tch](h5:5<σ.length)(ay:List Int)(n:Nat)(hn:n<N):
  aG Tryd.prog 61 [.agg (gi T N ay (.raw (.map none))),num n] σ (fun r σ'=>∃v,r=num v∧mM T D d out (fun _=>False) (fun a=>a<2*T.aa.length∧aE T a=(n:Int)) v∧σ'=σ):=by
 refine aG.view (σ0:=[kB false []]) [5] I (cR.cons (Vw.fv (cR.cons (h.vw hout (fun _ _=>rfl))<|cR.cons .pure<|cR.cons .pure<|cR.cons .pure<|cR.cons .pure cR.nil))<|cR.cons .pure cR.nil) (.gone .nil) (by simp;omega) (aG.mono (nb hT out hout hub false [] tch (aL ay) n hn) ?_)
 rintro r σ1 ⟨v,rfl,hb,rfl⟩
 refine⟨num v,σ,.flat,⟨by simp,fun i b2 hb2=>.inl ⟨(List.getElem?_eq_some_iff.1 hb2).1,rfl,hb2⟩⟩,v,rfl,?_,rfl⟩
 simpa using hb
end
theorem iL{T:au}{D:List Bool}{N d:Nat}(hT:eI T D N d)(out:List Int)(hout:out.length=N)(tch:PV)[IsPure tch](ay L:List Int){q:Nat}{K P O:List Int}(hok:iH N q K P O)(n:Nat)(hn:n<N)(v:Int):
  aG Tryd.prog 62 [num n,num v,.ptr 6 0,.ptr 7 0] (gh T D d N out tch ay L++ca 8 false N q K P O) (fun _ σ'=>∃(b:Bool) (q':Nat) (K' P' O':List Int),σ'=gh T D d N out tch ay L++ca 8 b N q' K' P' O'∧iH N q' K' P' O'∧kU d out K (fun y=>bf O (y:Int)) n v K' (fun y=>bf O' (y:Int))):=by
 have hN64:N≤64:=by have:=(bz hT.valid).nodes;have:=hT.nodes;omega
 obtain⟨p1,hp1⟩:∃q,decide ((n:Int)=(d:Int))=q:=⟨_,rfl⟩
 obtain⟨p2,hp2⟩:∃q,decide (v<0)=q:=⟨_,rfl⟩
 obtain⟨p3,hp3⟩:∃q,decide (0≤at' out (n:Int))=q:=⟨_,rfl⟩
 obtain⟨p4,hp4⟩:∃q,decide (at' out (n:Int)≤v)=q:=⟨_,rfl⟩
 refine bc Tryd.func62 I Tryd.ntmps62 I<|al<|bF 41 (.raw (.bool ((p1||p2)||(p3&&p4)))) [0,1,3] I ?_ ?_
 ·refine .a 6 I<|.v (cJ I (hp1)) I<|.a 1 I<|?_
  cases p1
  ·refine .a 1 I<|.v (cJ I (hp2)) I<|.a 2 I<|?_
   cases p2
   ·refine .a 6 I<|.v (aY (n) I) I<|.v (aV I (dD out n (by omega))) I<|.v (cJ I (hp3)) I<|.a 1 I<|?_
    cases p3
    ·exact .a 12 I<|.k [41,0,1,3] I
    ·exact .a 6 I<|.v (aY (n) I) I<|.v (aV I (dD out n (by omega))) I<|.a 1 I<|.v (cJ I (hp4)) I<|.a 2 I<|.k [41,0,1,3] I
   ·exact .a 22 I<|.k [41,0,1,3] I
  ·exact .a 26 I<|.k [41,0,1,3] I
 refine ak I (fun hc=>?_) (fun hc=>?_)
 ·have hno:n=d∨v<0∨(0≤at' out (n:Int)∧at' out (n:Int)≤v):=by
   rcases Bool.or_eq_true_iff.1 hc with h|h
   ·rcases Bool.or_eq_true_iff.1 h with h|h
    ·rw[h]at hp1;exact .inl (by have:=of_decide_eq_true hp1;omega)
    ·rw[h]at hp2;exact .inr (.inl (of_decide_eq_true hp2))
   ·obtain⟨h1,h2⟩:=Bool.and_eq_true_iff.1 h
    rw[h1]at hp3
    rw[h2]at hp4
    exact .inr (.inr ⟨of_decide_eq_true hp3,of_decide_eq_true hp4⟩)
  exact aF<|⟨_,aK.of I,false,q,K,P,O,rfl,hok,.none hno⟩
 ·have hyes:n≠d∧0≤v∧(at' out (n:Int)<0∨v<at' out (n:Int)):=by
   obtain⟨h,h3⟩:=Bool.or_eq_false_iff.1 hc
   obtain⟨h1,h2⟩:=Bool.or_eq_false_iff.1 h
   rw[h1]at hp1
   rw[h2]at hp2
   have e1:=of_decide_eq_false hp1
   have e2:=of_decide_eq_false hp2
   refine⟨by omega,by omega,?_⟩
   rcases Bool.and_eq_false_iff.1 h3 with h|h
   ·rw[h]at hp3;have:=of_decide_eq_false hp3;omega
   ·rw[h]at hp4;have:=of_decide_eq_false hp4;omega
  clear hp1 hp2 hp3 hp4 hc
  refine an ?_
  obtain⟨p5,hp5⟩:∃q,(!decide (P.getD n 0=0))=q:=⟨_,rfl⟩
  obtain⟨kv,hkv⟩:∃z,(if P.getD n 0=0 then 0 else K.getD n 0)=z:=⟨_,rfl⟩
  have hkc:=l6 K P O hok.1.len hok.2.2.1 (by omega) n hn
  rw[hp5,hkv]at hkc
  refine ag (.a 2 I<|.v (iG I (aq.cons (tA (m:=8) (gh T D d N out tch ay L) I hok) (aq.cons aZ.pure aq.nil)) (hkc)) I<|.a 5 I<|.k [0,1,3,6,7] I) ?_
  obtain⟨p6,hp6⟩:∃q,decide (v<kv)=q:=⟨_,rfl⟩
  refine bF 54 (.raw (.bool ((!p5)||p6))) [0,1,3] I ?_ ?_
  ·refine .a 3 I<|?_
   cases p5
   ·exact .a 4 I<|.k [54,0,1,3] I
   ·exact .a 2 I<|.v (cJ I (hp6)) I<|.a 1 I<|.k [54,0,1,3] I
  refine ak I (fun hc=>?_) (fun hc=>?_)
  ·have hnew:bf O (n:Int)→v<K.getD n 0:=fun hh=>by
    have e:P.getD n 0≠0:=fun e=>(hok.1.zero hn).1 e hh
    rw[if_neg e]at hkv
    have h3:p5=true:=by rw[←hp5];simp only[e,decide_false,Bool.not_false]
    rw[h3]at hc
    have h4:p6=true:=by simpa using hc
    rw[h4]at hp6
    have:=of_decide_eq_true hp6
    omega
   refine aR<|ax 3 I<|bh I I (aG.mono (iI (m:=8) (gh T D d N out tch ay L) I (by omega) hok (by omega) n hn _) (fun _ σ' h=>?_))
   obtain⟨b3,n3,P3,O3,rfl,hok3,hH3⟩:=h
   refine aO [] I ?_
   first
    |exact⟨_,aK.of rfl,b3,n3,_,P3,O3,rfl,hok3,.new hyes.1 hyes.2.1 hyes.2.2 hnew (by rw[hok.2.2.1];exact hn) (fun y=>(hH3 y).trans ⟨fun h=>h.imp id (fun e=>by omega),fun h=>h.imp id (fun e=>by omega)⟩)⟩
    |exact⟨_,aK.of rfl,false,q,K,P,O,rfl,hok,.uz hold hle⟩
  ·obtain⟨c3,c4⟩:=Bool.or_eq_false_iff.1 hc
   have h3:p5=true:=by cases p5;cases c3;rfl
   rw[h3]at hp5
   rw[c4]at hp6
   have e:P.getD n 0≠0:=fun e=>by rw[e]at hp5;cases hp5
   have hold:bf O (n:Int):=Classical.byContradiction fun hh=>e ((hok.1.zero hn).2 hh)
   have hle:K.getD n 0≤v:=by rw[if_neg e]at hkv;have:=of_decide_eq_false hp6;omega
   refine an ?_
   first
    |exact⟨_,aK.of rfl,b3,n3,_,P3,O3,rfl,hok3,.new hyes.1 hyes.2.1 hyes.2.2 hnew (by rw[hok.2.2.1];exact hn) (fun y=>(hH3 y).trans ⟨fun h=>h.imp id (fun e=>by omega),fun h=>h.imp id (fun e=>by omega)⟩)⟩
    |exact⟨_,aK.of rfl,false,q,K,P,O,rfl,hok,.uz hold hle⟩
end PW
end Go.Proofs.YteikppbedmmdnaaDoor
namespace Go.Proofs.YteikppbedmmdnaaDoor
namespace PW
section
open Go.RowKit cX Mem Net Heap
instance (a:Option Nat):dj (.raw (.map a)):=⟨fun _ _ _ h=>by cases h;rfl⟩
theorem kH{l:List Int}{j a:Nat}(h:j<l.length)(ha:l.getD j 0=(a:Int))(b:Nat)(hb:(b:Int)∈l.drop j):(b:Int)∈l.drop (j+1)∨b=a:=by
 rw[List.drop_eq_getElem_cons h]at hb
 rcases List.mem_cons.1 hb with h1|h1
 ·right
  have:l.getD j 0=l[j]:=by simp[List.getD_eq_getElem?_getD,h]
  rw[this]at ha
  omega
 ·exact .inl h1
set_option maxHeartbeats 2000000 in
theorem sD{T:au}{D:List Bool}{N d:Nat}(hT:eI T D N d)(out0:List Int)(tch:PV)[IsPure tch]
  (ay:List Int) (hal:ay.length≤1000) (harc:∀a∈ay,0≤a∧a<2*(T.aa.length:Int)) (L:List Int)
  (hG0:lU T D d out0 (List.replicate N 0) (fun y=>bf [] (y:Int)) (List.replicate N (-1)) 0 (fun a=>(((aE T a).toNat:Nat):Int)∈L∨∃c:Nat,(c:Int)∈ay∧aE T c=aE T a)):
  aG Tryd.prog 47 [.agg (gi T N ay (.own 5))] (kJ T D d N out0 tch L) (fun _ σ'=>σ'=kJ T D d N (aP T D d false) tch L):=by
 have hll:=cq hT.valid
 have hSd:=bz hT.valid
 have hnn:=hT.nodes
 have hN64:N≤64:=by have:=hSd.nodes;omega
 have hrl:=cw (aA T) N (2*T.aa.length)
 have hout0:out0.length=N:=by have:=hG0.len;omega
 have hub:∀ {out K:List Int} {H:Nat→Prop} {dn:List Int} {b:Int} {S:Nat→Prop},lU T D d out K H dn b S→∀x:Nat,(x:Int)<T.nodes→at' out (x:Int)≤100000000:=fun h x hx=>by
  have h1:=h.ub x hx
  have h2:=h.gF
  have h3:=dJ ‹List Int›
  rename_i out K H dn b S
  have h3:=dJ dn
  omega
 refine bc Tryd.func47 I Tryd.ntmps47 I<|a7<|bD (fQ I I I) I<|aO [1] I ?_
 refine a7<|ax 5 I<|aM (aV I ((show some (num T.nodes)=some (num (N:Int)) by rw[hnn]))) I<|bh I I (aG.mono (lu (m:=7) (kJ T D d N out0 tch L++[some (.cells 96 (gi T N ay (.own 5)))]) I (by omega) (by omega)) (fun _ σ' h=>?_))
 obtain⟨rfl,rfl⟩:=h
 refine ax 6 I<|aO [1,2] I ?_
 refine bO [0,1,2,3,4,5,6,11,7,8,9,10] (σ':=kJ T D d N out0 tch L++[some (.cells 96 (gi T N ay (.own 5))),some (.cells 109 [.ptr 8 0])]++ca 8 false N 0 (List.replicate N 0) (List.replicate N 0) []) (.c 1<|.c 2 .nil) (.kept rfl (.cells (ab.c<|ab.c<|ab.c<|ab.c<|ab.c<|ab.c<|ab.c ab.nil))<|.kept rfl (.row ab.pure)<|.kept rfl (.row ab.pure)<|.kept rfl (.row ab.pure)<|.kept rfl (.row ab.pure)<|.kept rfl .mp<|.kept rfl (.cells (ab.c<|ab.c<|ab.c<|ab.c<|ab.c ab.nil))<|.kept rfl (.cells (ab.c ab.nil))<|.kept rfl (.cells (ab.c<|ab.c<|ab.c ab.nil))<|.kept rfl (.row ab.pure)<|.kept rfl (.row ab.pure)<|.kept rfl (.row ab.pure) .nil) I I ?_
 refine ag (.a 2 I<|.k [1,2,4] I)<|ag (.a 3 I<|.k [1,2,4,5] I)<|a7<|ax 1 I<|bq (dy I (bB.tk.get I) I I I (by show 4<5;omega)) I I<|aO [1,2,4,5] I ?_
 refine dI (σ':=gh T D d N out0 tch ay L++ca 8 false N 0 (List.replicate N 0) (List.replicate N 0) []) I ?_
 refine al<|ag (.a 7 I<|.k [1,2,4,5,34,35] I)<|aw<|fx [1,2,4,5,34,35] I<|bx (fun r s=>∃k q K P O,k≤N∧lU T D d out0 K (fun y=>bf O (y:Int)) (List.replicate N (-1)) 0 (fun a=>(k≤(aE T a).toNat∧(((aE T a).toNat:Nat):Int)∈L)∨∃c:Nat,(c:Int)∈ay∧aE T c=aE T a)∧iH N q K P O∧r=N - k∧s=⟨[(1,.ptr 6 0),(2,.ptr 7 0),(4,.func 62 [.ptr 6 0,.ptr 7 0]),(5,.own 5),(34,num N),(35,num k)],gh T D d N out0 tch ay L++ca 8 false N q K P O⟩) N ⟨0,0,_,_,_,by omega,fi hG0 (fun a _ h=>h.imp (fun h=>⟨by omega,h⟩) id),jC N,by omega,rfl⟩ ?_
 rintro r s ⟨k,q,K,P,O,hk,hG,hok,rfl,rfl⟩
 refine ag (.a 1 I<|.k [1,2,4,5,34,35,36] I)<|al<|ak I (fun hc=>?_) (fun hc=>?_)
 ·have hlt:k<N:=by have:=of_decide_eq_true hc;omega
  refine an<|al<|aw<|ag (.a 2 I<|.k [1,2,4,5,6,34,35] I) ?_
  obtain⟨p1,hp1⟩:∃q,decide ((k:Int)∈L)=q:=⟨_,rfl⟩
  refine ag (.a 2 I<|.v (uc I I I I hp1) I<|.k [1,2,4,5,6,34,35,40] I)<|ak I (fun hc=>?_) (fun hc=>?_)
  ·refine aR<|ax 4 I<|bh I I (aG.mono (lg (fW _ _ _) hT hout0 (hub hG) (by simp[gh,ca]) ay k hlt) (fun _ σ' h=>?_))
   obtain⟨v,rfl,hb,rfl⟩:=h
   refine bh I I (aG.mono (iL hT out0 hout0 tch ay L hok k hlt v) (fun _ σ' h=>?_))
   obtain⟨b3,n3,K3,P3,O3,rfl,hok3,hof⟩:=h
   refine aO [1,2,4,5,34,35] I ?_
   refine iC (.c 1<|.c 2<|.cons 4 I (Ren.km (ab.c<|ab.c ab.nil))<|.c 5<|.c 34<|.c 35 .nil) ?_ (fun _=>rfl)
   have hG2:=nn (S':=fun a=>(k+1≤(aE T a).toNat∧(((aE T a).toNat:Nat):Int)∈L)∨∃c:Nat,(c:Int)∈ay∧aE T c=aE T a) hSd hG (by omega) hb hof (fun a ha h=>by
    rcases h with⟨h1,h2⟩|h
    ·rcases Nat.lt_or_ge k (aE T a).toNat with h3|h3
     ·exact .inl (.inl ⟨by omega,h2⟩)
     ·right
      have:=hSd.tail a ha
      omega
    ·exact .inl (.inr h))
   refine aD (.v (bw I) I<|.a 1 I<|.k [1,2,4,5,34,35] I) ?_
   first
    |exact⟨N - (k+1),by omega,k+1,n3,K3,P3,O3,by omega,hG2,hok3,rfl,rfl⟩
    |exact⟨N - (k+1),by omega,k+1,q,K,P,O,by omega,hG2,hok,rfl,rfl⟩
  ·have hkL:=of_decide_eq_false (hp1.trans hc)
   have hG2:=fi (S':=fun a=>(k+1≤(aE T a).toNat∧(((aE T a).toNat:Nat):Int)∈L)∨∃c:Nat,(c:Int)∈ay∧aE T c=aE T a) hG (fun a ha h=>h.imp (fun⟨h1,h2⟩=>⟨by
    rcases Nat.lt_or_ge k (aE T a).toNat with h3|h3
    ·omega
    ·have:(aE T a).toNat=k:=by omega
     rw[this]at h2
     exact absurd h2 hkL,h2⟩) id)
   refine an<|aD (.v (bw I) I<|.a 1 I<|.k [1,2,4,5,34,35] I) ?_
   first
    |exact⟨N - (k+1),by omega,k+1,n3,K3,P3,O3,by omega,hG2,hok3,rfl,rfl⟩
    |exact⟨N - (k+1),by omega,k+1,q,K,P,O,by omega,hG2,hok,rfl,rfl⟩
 ·have hke:k=N:=by have:=of_decide_eq_false hc;omega
  have hG1:=fi (S':=fun a=>∃c:Nat,(c:Int)∈ay.drop 0∧aE T c=aE T a) hG (fun a ha h=>h.elim (fun h=>by have:=hSd.tail a ha;omega) id)
  refine bn<|al<|ag (.a 4 I<|.k [1,2,4,49,50,51] I)<|aw<|fx [1,2,4,49,50,51] I<|bx (fun r s=>∃k q K P O,k≤ay.length∧lU T D d out0 K (fun y=>bf O (y:Int)) (List.replicate N (-1)) 0 (fun a=>∃c:Nat,(c:Int)∈ay.drop k∧aE T c=aE T a)∧iH N q K P O∧r=ay.length - k∧s=⟨[(1,.ptr 6 0),(2,.ptr 7 0),(4,.func 62 [.ptr 6 0,.ptr 7 0]),(49,aL ay),(50,num ay.length),(51,num k)],gh T D d N out0 tch ay L++ca 8 false N q K P O⟩) ay.length ⟨0,q,K,P,O,by omega,hG1,hok,by omega,rfl⟩ ?_
  clear hG1 hG hok hG0
  rintro r s ⟨k,q,K,P,O,hk,hG,hok,rfl,rfl⟩
  refine ag (.a 1 I<|.k [1,2,4,49,50,51,52] I)<|al<|ak I (fun hc=>?_) (fun hc=>?_)
  ·have hlt:k<ay.length:=by have:=of_decide_eq_true hc;omega
   obtain⟨ha0,ha1⟩:=harc _ (c7 (d:=0) hlt)
   obtain⟨a,ha⟩:=Int.eq_ofNat_of_zero_le ha0
   have ham:a<2*T.aa.length:=by omega
   obtain⟨m,hm⟩:=Int.eq_ofNat_of_zero_le (hSd.tail a ham).1
   have hmN:m<N:=by have:=(hSd.tail a ham).2;omega
   refine an<|al<|aw<|ag (.v (aY (k) I) I<|.v (aV I ((aN ay k hlt).trans (by rw[ha]))) I<|.a 1 I<|.k [1,2,4,8,49,50,51] I)<|ag (.a 6 I<|.v (iG I (aq.cons (fW _ _ _).eN (aq.cons aZ.pure aq.nil)) (hm▸dV T a ham)) I<|.a 1 I<|.k [1,2,4,9,49,50,51] I)<|aR<|ax 4 I<|bh I I (aG.mono (lg (fW _ _ _) hT hout0 (hub hG) (by simp[gh,ca]) ay m hmN) (fun _ σ' h=>?_))
   obtain⟨v,rfl,hb,rfl⟩:=h
   refine bh I I (aG.mono (iL hT out0 hout0 tch ay L hok m hmN v) (fun _ σ' h=>?_))
   obtain⟨b3,n3,K3,P3,O3,rfl,hok3,hof⟩:=h
   refine aO [1,2,4,49,50,51] I ?_
   refine iC (.c 1<|.c 2<|.cons 4 I (Ren.km (ab.c<|ab.c ab.nil))<|.c 49<|.c 50<|.c 51 .nil) ?_ (fun _=>rfl)
   have hG2:=nn (S':=fun a=>∃c:Nat,(c:Int)∈ay.drop (k+1)∧aE T c=aE T a) hSd hG (by omega) hb hof (fun e he ⟨c,h1,h2⟩=>by
    rcases kH hlt ha c h1 with h3|rfl
    ·exact .inl ⟨c,h3,h2⟩
    ·exact .inr (by rw[←h2,hm]))
   refine aD (.v (bw I) I<|.a 1 I<|.k [1,2,4,49,50,51] I) ?_
   exact⟨ay.length - (k+1),by omega,k+1,n3,K3,P3,O3,by omega,hG2,hok3,rfl,rfl⟩
  ·have hke:k=ay.length:=by have:=of_decide_eq_false hc;omega
   have hG1:=fi (S':=fun _=>False) hG (fun a ha ⟨c,h1,_⟩=>by rw[hke,List.drop_length]at h1;simp at h1)
   refine bn<|aw<|fx [1,2,4] I<|bx (fun r s=>∃out dn b q K P O,lU T D d out K (fun y=>bf O (y:Int)) dn b (fun _=>False)∧iH N q K P O∧r=N - dF dn∧s=⟨[(1,.ptr 6 0),(2,.ptr 7 0),(4,.func 62 [.ptr 6 0,.ptr 7 0])],gh T D d N out tch ay L++ca 8 false N q K P O⟩) (N - dF (List.replicate N (-1))) ⟨out0,_,_,q,K,P,O,hG1,hok,rfl,rfl⟩ ?_
   clear hG1 hG hok
   rintro r s ⟨out,dn,b,q,K,P,O,hG,hok,rfl,rfl⟩
   have hol:out.length=N:=by have:=hG.len;omega
   have hdl:dn.length=N:=by have:=hG.gF;omega
   refine aw<|a7<|ax 1 I<|bh I I (aG.mono (lQ (m:=8) (gh T D d N out tch ay L) I (by omega) hok (by omega)) (fun _ σ' h=>?_))
   obtain⟨b3,ok,i,n1,key,K1,P1,O1,rfl,rfl,hpop⟩:=h
   refine ax 7 I<|aO [1,2,4,10,11,12] I ?_
   refine iC (.c 1<|.c 2<|.cons 4 I (Ren.km (ab.c<|ab.c ab.nil))<|.c 10<|.c 11<|.c 12 .nil) ?_ (fun _=>rfl)
   refine al<|ag (.a 2 I<|.k [1,2,4,10,11,76] I)<|ak I (fun hc=>?_) (fun hc=>?_)
   ·have hok0:ok=false:=by cases ok;rfl;cases hc
    have hq0:q=0:=by
     rcases hpop with⟨_,h⟩|⟨h,_⟩
     ·exact h
     ·rw[hok0]at h;cases h
    have hdist:aP T D d false=out:=eE hSd (tn hSd hG (fun y ⟨p,hp,_⟩=>by have:=hok.2.1;omega))
    refine bO [0,1,2,3,4,5] .nil (.kept rfl (.cells (ab.c<|ab.c<|ab.c<|ab.c<|ab.c<|ab.c<|ab.c ab.nil))<|.kept rfl (.row ab.pure)<|.kept rfl (.row ab.pure)<|.kept rfl (.row ab.pure)<|.kept rfl (.row ab.pure)<|.kept rfl .mp .nil) I I ?_
    exact aF<|⟨_,aK.of I,by rw[hdist];rfl⟩
   ·have hok1:ok=true:=by cases ok;cases hc;rfl
    rcases hpop with⟨h,_⟩|⟨_,hiN,hHi,hmin,rfl,rfl,hok',hH'⟩
    ·rw[hok1]at h;cases h
    obtain⟨hG1,hcnt,hati,hk0,hku,hcl⟩:=sZ hSd hG hHi hmin (by rw[hok.2.2.1];exact hiN) hH'
    have hrow:(bp (aA T) N (2*T.aa.length)).getD i []=ao T false i:=cH _ _ _ _ hiN
    refine an<|a7<|ax 7 I<|aM (aY (i) I) I<|bq ((by first|exact bu I (bB.tk.get I) I I I (by first|omega|(simp;omega))|exact bm I (bB.tk.get I) I I I (by first|omega|(simp;omega)))) I I<|aO [1,2,4,10,11] I ?_
    refine dI (σ':=gh T D d N (out.set i (K.getD i 0)) tch ay L++ca 8 false N n1 (K.set i 0) P1 O1) I ?_
    have hol1:(out.set i (K.getD i 0)).length=N:=by simpa using hol
    generalize K.getD i 0=key at hG1 hati hk0 hku hol1
    generalize out.set i key=out1 at hG1 hati hol1
    generalize K.set i 0=K1 at hG1 hok'
    have hmeas:N - dF (dn.set i 0)<N - dF dn:=by omega
    have hku':key≤4194240+65535*(dF (dn.set i 0):Int):=by omega
    have hdl1:(dn.set i 0).length=N:=by simpa using hdl
    have hcn:=dJ (dn.set i 0)
    generalize dn.set i 0=dn1 at hG1 hmeas hku' hdl1 hcn
    clear hG hok hHi hmin hH' hcnt hcl hku
    refine ag (.a 3 I<|.v (aY (i) I) I<|.v (aV I ((show((bp (aA T) N (2*T.aa.length)).map aL)[i]? =some (aL (ao T false i)) by rw[←hrow];simp[hrl,hiN]))) I<|.a 2 I<|.k [1,2,4,11,89,90,91] I) ?_
    have hll2:=dK T false i
    have hG2:lU T D d out1 K1 (fun y=>bf O1 (y:Int)) dn1 key (fun a=>aA T a=(i:Int)∧(a:Int)∉(ao T false i).take 0):=fi hG1 (fun a _ h=>⟨h,by simp⟩)
    refine aw<|fx [1,2,4,11,89,90,91] I<|bx (fun r s=>∃j q K P O,j≤(ao T false i).length∧lU T D d out1 K (fun y=>bf O (y:Int)) dn1 key (fun a=>aA T a=(i:Int)∧(a:Int)∉(ao T false i).take j)∧iH N q K P O∧r=(ao T false i).length - j∧s=⟨[(1,.ptr 6 0),(2,.ptr 7 0),(4,.func 62 [.ptr 6 0,.ptr 7 0]),(11,num key),(89,aL (ao T false i)),(90,num (ao T false i).length),(91,num j)],gh T D d N out1 tch ay L++ca 8 false N q K P O⟩) (ao T false i).length ⟨0,n1,K1,P1,O1,by omega,hG2,hok',by omega,rfl⟩ ?_
    clear hG2 hG1 hok'
    rintro r s ⟨j,q2,K2,P2,O2,hj,hG2,hok2,rfl,rfl⟩
    refine ag (.a 1 I<|.k [1,2,4,11,89,90,91,92] I)<|al<|ak I (fun hc=>?_) (fun hc=>?_)
    ·have hlt:j<(ao T false i).length:=by have:=of_decide_eq_true hc;omega
     obtain⟨a,ha,ham,hay⟩:=ev T false i j hlt
     have hah:aA T a=(i:Int):=hay
     obtain⟨m,hm⟩:=Int.eq_ofNat_of_zero_le (hSd.tail a ham).1
     have hmN:m<N:=by have:=(hSd.tail a ham).2;omega
     have hcb:=hSd.cost a ham
     have hA:=dR hlt ha
     have hSS:∀c,c<2*T.aa.length→(aA T c=(i:Int)∧(c:Int)∉(ao T false i).take j)→(aA T c=(i:Int)∧(c:Int)∉(ao T false i).take (j+1))∨c=a:=fun c _ ⟨e1,e2⟩=>by
      by_cases e:c=a
      ·exact .inr e
      ·exact .inl ⟨e1,fun h=>((hA c).1 h).elim e2 e⟩
     refine an<|al<|aw<|ag (.v (aY (j) I) I<|.v (aV I ((aN _ j hlt).trans (by rw[ha]))) I<|.a 1 I<|.k [1,2,4,11,14,89,90,91] I) ?_
     obtain⟨p1,hp1⟩:∃q,jU T D d a=q:=⟨_,rfl⟩
     have huc:=gx hT (aL out1) tch a ham
     rw[hp1]at huc
     refine ag (.a 3 I<|.v (iG I (aq.cons ((fW _ _ _).bY hol1) (aq.cons aZ.pure aq.nil)) (huc)) I<|.k [1,2,4,11,14,89,90,91,98] I)<|ak I (fun hc=>?_) (fun hc=>?_)
     ·have hu:=ij.1 (hp1.trans hc)
      refine gb 17 20 mixed (
       .val [4] I (bb I) I I<|
       .val [1] I (bb I) I I<|
       .val [100] I (bb I) I I<|
       .val [101] I (bb I) I I<|
       .val [102] I (bb I) I I<|
       .val [103] I (bb I) I I<|
       .val [14] I (bb I) I I<|
       .val [104,105] I (iG I (aq.cons (fW _ _ _).eN (aq.cons aZ.pure aq.nil)) (hm▸dV T a ham)) I I<|
       .val [11] I (bb I) I I<|
       .val [1] I (bb I) I I<|
       .val [108] I (bb I) I I<|
       .val [109] I (bb I) I I<|
       .val [110] I (bb I) I I<|
       .val [111] I (bb I) I I<|
       .val [14] I (bb I) I I<|
       .val [112,113] I (iG I (aq.cons (fW _ _ _).eN (aq.cons aZ.pure aq.nil)) (eW T a ham)) I I<|
       .val [107,114] I (bw I (hn:=by unfold In64;omega)) I I<|
       .nil) (by kernel_rfl) I I (aQ (ks:=[1,2,4,11,89,90,91,99,106,115]) I) ?_
      refine bh I I (aG.mono (iL hT out1 hol1 tch ay L hok2 m hmN (key+bg T a)) (fun _ σ' h=>?_))
      obtain⟨b3,n3,K3,P3,O3,rfl,hok3,hof⟩:=h
      refine aO [1,2,4,11,89,90,91] I ?_
      refine iC (.c 1<|.c 2<|.cons 4 I (Ren.km (ab.c<|ab.c ab.nil))<|.c 11<|.c 89<|.c 90<|.c 91 .nil) ?_ (fun _=>rfl)
      have hG3:=la (S':=fun c=>aA T c=(i:Int)∧(c:Int)∉(ao T false i).take (j+1)) hSd hG2 (by omega) hof (fun c hc h=>(hSS c hc h).imp id (fun e=>by
       subst e
       refine⟨hm,fun _ _=>?_⟩
       rw[hah,hati]
       omega)) (fun _=>⟨by omega,by omega,a,ham,hm,hu,by rw[hah,hati];exact hk0,by rw[hah,hati];omega⟩)
      refine aD (.v (bw I) I<|.a 1 I<|.k [1,2,4,11,89,90,91] I) ?_
      first
       |exact⟨(ao T false i).length - (j+1),by omega,j+1,n3,K3,P3,O3,by omega,hG3,hok3,rfl,rfl⟩
       |exact⟨(ao T false i).length - (j+1),by omega,j+1,q2,K2,P2,O2,by omega,hG3,hok2,rfl,rfl⟩
     ·have hnu:=tB (hp1.trans hc)
      have hG3:=oc (S':=fun c=>aA T c=(i:Int)∧(c:Int)∉(ao T false i).take (j+1)) hG2 (fun c hc h=>(hSS c hc h).imp id (fun e=>by rw[e];exact hnu))
      refine an<|aD (.v (bw I) I<|.a 1 I<|.k [1,2,4,11,89,90,91] I) ?_
      first
       |exact⟨(ao T false i).length - (j+1),by omega,j+1,n3,K3,P3,O3,by omega,hG3,hok3,rfl,rfl⟩
       |exact⟨(ao T false i).length - (j+1),by omega,j+1,q2,K2,P2,O2,by omega,hG3,hok2,rfl,rfl⟩
    ·have hje:j=(ao T false i).length:=by have:=of_decide_eq_false hc;omega
     have hGe:=fi (S':=fun _=>False) hG2 (fun a ha ⟨e1,e2⟩=>e2 (by rw[hje,List.take_length];exact(df T false i a).2 ⟨ha,e1⟩))
     refine fL (.cons (k:=1) I<|.cons (k:=2) I<|.cons (k:=4) I<|Sub.nil _) ?_
     exact bn<|⟨_,hmeas,out1,dn1,key,_,_,_,_,hGe,hok2,rfl,rfl⟩
end
section
open Go.RowKit cX Mem
structure GD where
 p:PV
 r:Option Nat
 lo:Nat
 hi:Nat
section
variable {P:Program} {N L:Nat}
inductive GK (P:Program) (N:Nat) (ops:Array Oper) (σs:List ba) (T:bo) (o:Oper):GD→Prop
 |val {p:PV} {d lo hi:Nat} (ks:List Nat) (hks:(ks.all fun k=>(o.looksAt ops).contains k)=true) (hw:cu ops T o=some true) (hy:∀r σ,lo≤r→r≤hi→σs[r]? =some σ→aH P σ (dc T ks) o p) (hd:o.dst=some d) (hN:Nat.blt d N=true):GK P N ops σs T o ⟨p,none,lo,hi⟩
 |skip {d lo hi:Nat} (hw:cu ops T o=some false) (hd:o.dst=some d) (hN:Nat.blt d N=true):GK P N ops σs T o ⟨.raw undef,none,lo,hi⟩
 |jb {p:PV} {d r lo hi:Nat} {σ σ':ba} (ks:List Nat) (hks:(ks.all fun k=>(o.looksAt ops).contains k)=true) (hw:cu ops T o=some true) (h1:σs[r]? =some σ) (h2:σs[r+1]? =some σ') (hy:dN P σ (dc T ks) o p σ') (hd:o.dst=some d) (hN:Nat.blt d N=true):GK P N ops σs T o ⟨p,some r,lo,hi⟩
 |lH {p:PV} {r lo hi:Nat} {σ σ':ba} (ks:List Nat) (hks:(ks.all fun k=>(o.looksAt ops).contains k)=true) (hw:cu ops T o=some true) (h1:σs[r]? =some σ) (h2:σs[r+1]? =some σ') (hy:dN P σ (dc T ks) o p σ') (hd:o.dst=none):GK P N ops σs T o ⟨p,some r,lo,hi⟩
inductive GL (P:Program) (N:Nat) (ops:Array Oper) (σs:List ba) (T:bo):List Oper→List GD→Prop
 |nil:GL P N ops σs T [] []
 |cons {o:Oper} {g:GD} {l:List Oper} {gs:List GD}:GK P N ops σs T o g→GL P N ops σs T l gs→GL P N ops σs T (o::l) (g::gs)
theorem GL.get{ops:Array Oper}{σs:List ba}{T:bo}:∀ {l:List Oper} {gs:List GD},GL P N ops σs T l gs→gs.length=l.length∧∀(i:Nat) o g,l[i]? =some o→gs[i]? =some g→GK P N ops σs T o g
 |_,_,.nil=>⟨rfl,fun i o g h=>by simp at h⟩
 |_,_,.cons h hs=>by
  obtain⟨h1,h2⟩:=hs.get
  refine⟨by simp[h1],fun i o g ho hg=>?_⟩
  cases i with
  |zero=>simp at ho hg;subst ho;subst hg;exact h
  |succ i=>exact h2 i o g (by simpa using ho) (by simpa using hg)
def cF(gs:List GD)(i:Nat):Option Nat:=(gs[i]?).bind (·.r)
structure vP (ops:Array Oper) (f m:Nat) (gs:List GD):Prop where
 len:gs.length=ops.size
 gr:∀i,i<ops.size→∀k∈gr ops i,k<i
 ss:∀i j d,i<ops.size→j<ops.size→a6 ops i=some d→a6 ops j=some d→i=j
 rd:∀j,j<ops.size→∀k∈bT ops j,∀i,i<ops.size→a6 ops i=some k→cg ops f j i=true
 jb:∀(i:Nat) g r,gs[i]? =some g→g.r=some r→r<m∧(r=0∨∃j,j<ops.size∧cF gs j=some (r - 1)∧cg ops f i j=true)
 quiet:∀(i:Nat) g,gs[i]? =some g→g.r=none→(g.lo=0∨∃j,j<ops.size∧cF gs j=some (g.lo - 1)∧cg ops f i j=true)∧(m≤g.hi∨∃j,j<ops.size∧cF gs j=some g.hi∧cg ops f j i=true)
 one:∀i j r,i<ops.size→j<ops.size→cF gs i=some r→cF gs j=some r→i=j
 has:∀r,r<m→∃j,j<ops.size∧cF gs j=some r
structure pw (base N:Nat) (F:Nat→Prop) (l:List Oper) (gs:List GD) (σs:List ba) (t:bo) (ls:Array Bool) (r:Nat) (E:Env) (a:Act) (w:World):Prop where
 size:ls.size=l.length
 down:Down l.toArray ls
 rk:∀i s,i<l.length→cF gs i=some s→(ls.getD i true=true↔s<r)
 sat:∃σ,σs[r]? =some σ∧Sat F base σ E w
 gI:a.defers=[]
 tmps:a.tmps.size=N
 t0:cZ E w a.eval t
 sO:∀j d g,j<l.length→ls.getD j true=true→a6 l.toArray j=some d→gs[j]? =some g→bK E w (a.eval (.tmp d)) g.p
theorem iM(ls:Array Bool)(i j:Nat)(b:Bool)(hi:i<ls.size):(ls.setIfInBounds i true).getD j b=if j=i then true else ls.getD j b:=by
 by_cases e:j=i
 ·subst e;simp[hi]
 ·rw[if_neg e]
  simp only[Array.getD_eq_getD_getElem?,Array.getElem?_setIfInBounds_ne (Ne.symm e)]
theorem oJ{ls:Array Bool}{i:Nat}(hi:i<ls.size)(b c:Bool):ls.getD i b=ls.getD i c:=by simp[hi]
section
variable {l:List Oper} {gs:List GD} {σs:List ba} {t T:bo} {f m base:Nat} {F:Nat→Prop}
theorem pw.put(hG:vP l.toArray f m gs)(hfr:∀i d,i<l.length→a6 l.toArray i=some d→look d t=none){ls:Array Bool}{r r':Nat}{E E':Env}{a:Act}{w w':World}(h:pw base N F l gs σs t ls r E a w){i:Nat}{g:GD}{v:Value}(hi:i<l.length)(hu:ls.getD i true=false)(hk:∀k∈gr l.toArray i,ls.getD k false=true)(hg:gs[i]? =some g)(hgo:bJ E w E' w')
  (hs:∃σ,σs[r']? =some σ∧Sat F base σ E' w') (hr:(g.r=none∧r'=r)∨(g.r=some r∧r'=r+1)) {o:Oper} (ho:l[i]? =some o) (hdN:∀d,o.dst=some d→d<N) (hv:∀d,o.dst=some d→bK E' w' v g.p):
  pw base N F l gs σs t (ls.setIfInBounds i true) r' E' (a.put o.dst v) w':=by
 have hil:i<ls.size:=by rw[h.size];exact hi
 have hrk:cF gs i=g.r:=by simp only[cF,hg,Option.bind_some]
 have hdi:a6 l.toArray i=o.dst:=by simp only[a6,List.getElem?_toArray,ho,Option.bind_some]
 refine⟨by simpa using h.size,fun j hj hjs k hkj=>?_,fun j s hj hs'=>?_,hs,by cases o.dst<;>simpa[Act.put]using h.gI,by cases o.dst<;>simpa[Act.put]using h.tmps,fun k p hkp=>?_,fun j d g' hj hjl hd hg'=>?_⟩
 ·rw[iM _ _ _ _ hil]at hj ⊢
  split
  ·rfl
  ·by_cases e:j=i
   ·subst e;exact hk k hkj
   ·rw[if_neg e]at hj
    exact h.down j hj hjs k hkj
 ·rw[iM _ _ _ _ hil]
  by_cases e:j=i
  ·subst e
   rw[if_pos rfl]
   rw[hrk]at hs'
   rcases hr with⟨h1,_⟩|⟨h1,h2⟩
   ·rw[h1]at hs';cases hs'
   ·rw[h1]at hs';cases hs';exact⟨fun _=>by omega,fun _=>rfl⟩
  ·rw[if_neg e,h.rk j s hj hs']
   rcases hr with⟨_,h2⟩|⟨h1,h2⟩
   ·rw[h2]
   ·have:s≠r:=fun e'=>e (hG.one j i r (by simpa using hj) (by simpa using hi) (by rw[hs',e']) (by rw[hrk,h1]))
    omega
 ·have hne:∀d,o.dst=some d→k≠d:=fun d hd e=>by
   subst e
   rw[hfr i k hi (by rw[hdi,hd])]at hkp;cases hkp
  have:(a.put o.dst v).eval (.tmp k)=a.eval (.tmp k):=Act.eval_put fun d hd heq=>by cases heq;exact hne _ hd rfl
  rw[this]
  exact(h.t0 k p hkp).goes hgo
 ·rw[iM _ _ _ _ hil]at hjl
  by_cases e:j=i
  ·subst e
   rw[hdi]at hd
   rw[hg]at hg';cases hg'
   rw[hd,dT a (by rw[h.tmps];exact hdN d hd),if_pos rfl]
   exact hv d hd
  ·rw[if_neg e]at hjl
   have hne:∀d',o.dst=some d'→d≠d':=fun d' hd' e'=>by
    subst e'
    exact e (hG.ss j i d (by simpa using hj) (by simpa using hi) hd (by rw[hdi,hd']))
   have:(a.put o.dst v).eval (.tmp d)=a.eval (.tmp d):=Act.eval_put fun d' hd' heq=>by cases heq;exact hne _ hd' rfl
   rw[this]
   exact(h.sO j d g' hj hjl hd hg').goes hgo
end
theorem il:∀(n k:Nat),k≤n→aS (Array.replicate n false) k=k
 |n,0,_=>rfl
 |n,k+1,h=>by
  simp only[aS]
  rw[il n k (by omega)]
  simp[show k<n by omega]
theorem yz{P:Program}{σs:List ba}{t:bo}{o:Oper}{p:PV}{lo hi:Nat}(h:∀σ∈(σs.drop lo).take (hi+1 - lo),aH P σ t o p):∀r σ,lo≤r→r≤hi→σs[r]? =some σ→aH P σ t o p:=fun r σ h1 h2 hs=>by
 refine h σ (List.mem_of_getElem? (i:=r - lo) ?_)
 rw[List.getElem?_take,if_pos (by omega),List.getElem?_drop,show lo+(r - lo)=r by omega]
 exact hs
theorem jf{α:Type}{p:α→Prop}:∀x∈([]:List α),p x:=fun _ h=>by cases h
theorem cM{α:Type}{p:α→Prop}{a:α}{l:List α}(h:p a)(hs:∀x∈l,p x):∀x∈a::l,p x:=fun x hx=>by
 rcases List.mem_cons.1 hx with rfl|h'
 ·exact h
 ·exact hs x h'
end
end
end PW
end Go.Proofs.YteikppbedmmdnaaDoor
