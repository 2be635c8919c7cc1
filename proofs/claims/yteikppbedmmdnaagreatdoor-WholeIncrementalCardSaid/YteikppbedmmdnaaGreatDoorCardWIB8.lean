/- Texts of the proof, part 8. -/
import Derived.WideShapes
import Derived.Deep.AppendSrc
import Derived.Test.YteikppbedmmdnaaGreatDoorCardWIB7
set_option linter.unusedVariables false
set_option linter.unusedSimpArgs false
set_option maxRecDepth 10000
set_option maxHeartbeats 1000000
namespace Go.Proofs.YteikppbedmmdnaaGreatDoor
namespace PW
section
open Go.RowKit cj Mem Net
theorem Hh:qM Tryz.prog 108=some (3,43):=by kernel_rfl
theorem Gf:qM Tryz.prog 109=some (80,4):=by kernel_rfl
theorem Li:Gc Tryz.prog 43=some (.slice none 0 0):=by kernel_rfl
theorem Lw:Gc Tryz.prog 4=some (.bool false):=by kernel_rfl
theorem Kr:qe Tryz.prog 43=true:=by kernel_rfl
abbrev encI(n:Int):Value:=.int .i64 n
abbrev Gv(p:Int×Int):Value:=.agg (pS p)
theorem Hy:gm Tryz.prog 3 encI:=FZ Tryz.underlying3
theorem Gh:gm Tryz.prog 80 Gv:=by
 have h:(Tryz.prog.info? 3).map (·.size)=some 1:=by kernel_rfl
 obtain⟨i,h1,h2⟩:=Option.map_eq_some_iff.1 h
 exact Ge Tryz.underlying80 Tryz.underlying3 h1 h2
theorem Ew(a b:Int):Tryz.prog.built 80 [(0,.int .i64 a),(1,.int .i64 b)]=some #[.int .i64 a,.int .i64 b]:=by kernel_rfl
theorem DI{P:Program}{σ:bN}{t:b9}{o:Oper}{ty:TypeId}{x y:Operand}{a b:Int}(ho:o.op= .build ty #[(0,x),(1,y)])(hx:aA t x=some (num a))(hy:aA t y=some (num b))(hb:P.built ty [(0,.int .i64 a),(1,.int .i64 b)]=some #[.int .i64 a,.int .i64 b]):bh P σ t o (.agg [num a,num b]):=by
 intro F base E ρ w hρ hS hT
 have hrun:=run_build (P:=P) w ty #[(0,.int .i64 a),(1,.int .i64 b)] #[.int .i64 a,.int .i64 b] hb
 have h0:ρ x= .int .i64 a:=eF (aq hρ hT hx)
 have h1:ρ y= .int .i64 b:=eF (aq hρ hT hy)
 have hr:(execOp ρ o).run P w= .ok (.value (.agg #[.int .i64 a,.int .i64 b])) w:=by
  simp only[execOp,ho,Sem.run_bind,List.map_toArray,List.map_cons,List.map_nil,h0,h1,hrun,Result.andThen_ok,Sem.run_pure]
 rw[hr]
 refine bd (.agg #[.int .i64 a,.int .i64 b] _ rfl (fun i x u k1 k2=>?_))
 match i,k1,k2 with
 |0,k1,k2=>simp at k1 k2;subst k1;subst k2;exact .raw _
 |1,k1,k2=>simp at k1 k2;subst k1;subst k2;exact .raw _
 |_+2,k1,k2=>simp at k2
section
variable {κ:Type} [DecidableEq κ]
theorem tR(k:κ)(p:PV):∀l:List (κ×PV),cV k (gJ k p l)=some p
 | []=>by simp[gJ,cV]
 |(a,q)::l=>by
  unfold gJ
  split
  ·rename_i h;simp[cV,h]
  ·rename_i h;simp only[cV,if_neg h];exact tR k p l
theorem Ft{P:Program}{σ:bN}{t:b9}{o:Oper}{x y:Operand}{ty tz:TypeId}{m:Option PV}(ho:o.op= .binOp .eql ty x y tz)(hk:qe P ty=true)(hx:aA t x=some (m.getD (.raw (.slice none 0 0))))(hy:aA t y=some (.raw (.slice none 0 0)))(hm:∀v,m=some v→∃n xs,v= .slice n xs∧0<n):bh P σ t o (.raw (.bool m.isNone)):=by
 cases m with
 |none=>exact Gp ho hk hx hy
 |some v=>
  obtain⟨n,xs,rfl,hn⟩:=hm v rfl
  exact je ho hk hx hy hn
end
def kg(T:ah)(D:List Bool)(dm:List (Int×PV)):Prop:=∀k v,(k,v)∈dm→∃d:Nat,k=(d:Int)∧(d:Int)<T.nodes∧v=aw (aO T D d false)
def kF(T:ah)(D:List Bool)(um:List ((Int×Int)×PV)):Prop:=∀k v,(k,v)∈um→v=flag (fw T D k.1 k.2)
theorem kg.pure{T:ah}{D:List Bool}{dm:List (Int×PV)}(h:kg T D dm):jO (some (.mp (eA encI dm))):=fun b hb=>by
 cases hb
 refine⟨fun i u hu=>?_⟩
 have hm:=List.mem_of_getElem? hu
 simp only[eA,List.map_map,List.mem_map,Function.comp]at hm
 obtain⟨⟨k,v⟩,hkv,rfl⟩:=hm
 obtain⟨d,_,_,hv⟩:=h k v hkv
 show IsPure v
 rw[hv]
 infer_instance
theorem kF.pure{T:ah}{D:List Bool}{um:List ((Int×Int)×PV)}(h:kF T D um):jO (some (.mp (eA Gv um))):=fun b hb=>by
 cases hb
 refine⟨fun i u hu=>?_⟩
 have hm:=List.mem_of_getElem? hu
 simp only[eA,List.map_map,List.mem_map,Function.comp]at hm
 obtain⟨⟨k,v⟩,hkv,rfl⟩:=hm
 show IsPure v
 rw[h k v hkv]
 infer_instance
theorem kg.set{T:ah}{D:List Bool}{dm:List (Int×PV)}(h:kg T D dm){d:Nat}(hd:(d:Int)<T.nodes):kg T D (gJ (d:Int) (aw (aO T D d false)) dm):=fun k v hk=>by
 rcases rQ hk with e|e
 ·cases e;exact⟨d,rfl,hd,rfl⟩
 ·exact h k v e
theorem kF.set{T:ah}{D:List Bool}{um:List ((Int×Int)×PV)}(h:kF T D um)(a b:Int):kF T D (gJ (a,b) (flag (fw T D a b)) um):=fun k v hk=>by
 rcases rQ hk with e|e
 ·cases e;rfl
 ·exact h k v e
theorem kg.look{T:ah}{D:List Bool}{dm:List (Int×PV)}(h:kg T D dm){d:Nat}{v:PV}(hl:cV (d:Int) dm=some v):v=aw (aO T D d false):=by
 obtain⟨d',h1,_,h2⟩:=h _ _ (iX hl)
 have:d'=d:=by omega
 subst this
 exact h2
def u6(T:ah)(n:Int)(p:List Int):List Int:=n::p.map fun a=>aB T a.toNat
def vy(T:ah)(p:List Int):List Int:=(List.range (p.length+1)).map fun i=>cP T (p.take i)
theorem vG(T:ah)(n:Int)(p:List Int):(u6 T n p).length=p.length+1:=by simp[u6]
theorem AJ(T:ah)(p:List Int):(vy T p).length=p.length+1:=by simp[vy]
theorem FM(T:ah)(n:Int)(p:List Int)(k:Nat)(h:k<p.length):u6 T n (p.take (k+1))=u6 T n (p.take k)++[aB T (p.getD k 0).toNat]:=by
 rw[dr p k 0 h];simp[u6]
theorem Fu(T:ah)(p:List Int)(k:Nat)(h:k<p.length):vy T (p.take (k+1))=vy T (p.take k)++[cP T (p.take (k+1))]:=by
 unfold vy
 rw[show(p.take (k+1)).length+1=(p.take k).length+1+1 by simp;omega,List.range_succ,List.map_append]
 congr 1
 ·refine List.map_congr_left fun i hi=>?_
  have:=List.mem_range.1 hi
  rw[List.take_take,List.take_take,Nat.min_eq_left (by simp at this;omega),Nat.min_eq_left (by simp at this;omega)]
 ·simp only[List.map_cons,List.map_nil,List.take_take]
  rw[Nat.min_eq_left (by simp;omega),show(p.take k).length+1=k+1 by simp;omega]
theorem uQ(T:ah)(n:Int)(p:List Int)(i:Nat)(h:i≤p.length):(u6 T n p).getD i 0=cE T n (p.take i):=by
 cases i with
 |zero=>rfl
 |succ i=>
  rw[gU T n p i (by omega)]
  simp only[u6,List.getD_cons_succ]
  rw[List.getD_eq_getElem?_getD,List.getElem?_map,List.getElem?_eq_getElem (by omega),List.getD_eq_getElem?_getD,List.getElem?_eq_getElem (by omega)]
  rfl
theorem Al(T:ah)(p:List Int)(i:Nat)(h:i≤p.length):(vy T p).getD i 0=cP T (p.take i):=by
 unfold vy
 rw[List.getD_eq_getElem?_getD,List.getElem?_map,List.getElem?_range (by omega)]
 rfl
def ft(T:ah)(D:List Bool)(n:Int)(p:List Int):Int:=if(au T&&bR T D)=true then(if dK T n p=0 then(if p.any (fun a=>bF D a.toNat) then 7 else 0) else dK T n p) else 1
abbrev K7(T:ah)(D:List Bool)(p:List Int)(i:Nat):Option cK:=some (.cells 111 (bI T++[bq D,aw p,.own i,.own (i+1),.own (i+2),.own (i+3)]))
def CT(T:ah)(D:List Bool)(p ns cs:List Int)(dm:List (Int×PV))(um:List ((Int×Int)×PV)):bN:=
 [eZ ns,eZ cs,some (.mp (eA encI dm)),some (.mp (eA Gv um)),K7 T D p 0]
theorem mK{T:ah}:∀ {f:Bool} {n:Int} {l:List Int},dp T f n l=0→∀a∈l,dS T a=true
 |f,n,[],_,a,ha=>by cases ha
 |f,n,b::l,h,a,ha=>by
  simp only[dp]at h
  split at h
  ·omega
  ·split at h
   ·omega
   ·rename_i h1 _
    rcases List.mem_cons.1 ha with rfl|ha
    ·simpa using h1
    ·exact mK h a ha
theorem nw{T:ah}{n:Int}{p:List Int}(h:dK T n p=0):au T=true∧bH T n=true∧dp T true n p=0:=by
 unfold dK at h
 split at h
 ·rename_i h1
  split at h
  ·rename_i h2;exact⟨h1,h2,h⟩
  ·omega
 ·omega
theorem ik{T:ah}(hv:au T=true){p:List Int}(ha:∀a∈p,dS T a=true):∀k,k≤p.length→0≤cP T (p.take k)∧cP T (p.take k)≤65535*k
 |0,_=>by simp[gR]
 |k+1,h=>by
  have:=ik hv ha k (by omega)
  rw[ku T p k (by omega)]
  have:=(iT hv (ha _ (cf (d:=0) (show k<p.length by omega)))).1
  omega
set_option maxHeartbeats 2000000 in
theorem yS(T:ah)(D:List Bool)(p:List Int)(n:Int)(hp:p.length≤1000)(hlk:T.ae.length≤256):aW Tryz.prog 50 [aZ T,bq D,aw p,num n] [] (fun r σ'=>(ft T D n p≠0∧r= .tuple [.raw (.pointer none),num (ft T D n p)])∨(ft T D n p=0∧r= .tuple [.ptr 4 0,num 0]∧σ'=CT T D p (u6 T n p) (vy T p) [] [])):=by
 obtain⟨q1,hq1⟩:∃q,au T=q:=⟨_,rfl⟩
 obtain⟨q2,hq2⟩:∃q,bR T D=q:=⟨_,rfl⟩
 refine bO Tryz.func50 I Tryz.ntmps50 I<|af (.a 3 I<|.k [1,2,3,4] I)<|an<|bP 25 (.raw (.bool ((!q1)|| !q2))) [1,2,3,4] I ?_ ?_
 ·refine .a 1 I<|.c rfl (hq1▸eo T) I<|.a 2 I<|?_
  cases q1
  ·exact .a 5 I<|.k [25,1,2,3,4] I
  ·exact .a 2 I<|.c rfl (hq2▸lD T D (by omega)) I<|.a 2 I<|.k [25,1,2,3,4] I
 refine aj I (fun hc=>?_) (fun hc=>?_)
 ·have he:ft T D n p=1:=by unfold ft;rw[hq1,hq2];cases q1<;>cases q2<;>first|rfl|cases hc
  exact af (.a 2 I<|.k [8,9] I)<|az<|⟨_,aE.of I,.inl ⟨by rw[he];decide,by rw[he];rfl⟩⟩
 ·have hv:au T=true:=by rw[hq1];cases q1;cases hc;rfl
  have hf:bR T D=true:=by rw[hq2];cases q2;cases q1<;>cases hc;rfl
  have hvf:(au T&&bR T D)=true:=by rw[hv,hf];rfl
  refine ak<|an<|af (.a 3 I<|.c rfl (xG T n p (by omega)) I<|.a 7 I<|.k [1,2,3,4,12] I)<|af (.a 2 I<|.k [1,2,3,4,12,35] I)<|aj I (fun hx=>?_) (fun hx=>?_)
  ·have hx1:dK T n p≠0:=tt hx
   have he:ft T D n p=dK T n p:=by unfold ft;rw[if_pos hvf,if_neg hx1]
   exact af (.a 3 I<|.k [8,9] I)<|az<|⟨_,aE.of I,.inl ⟨by rw[he];exact hx1,by rw[he];rfl⟩⟩
  ·have hx1:dK T n p=0:=Classical.byContradiction (ff hx)
   obtain⟨_,hn,hw⟩:=nw hx1
   have ha:=mK hw
   have hcb:=ik hv ha
   refine ak<|aR<|ax 4 I<|cg (iP (xs:=[_]) I (bG.sl.get I) ⟨Nat.le_of_ble_eq_true rfl,Nat.le_of_ble_eq_true rfl⟩ rfl rfl) I<|cg (iP (xs:=[_]) I (bG.sl.get I) ⟨Nat.le_of_ble_eq_true rfl,Nat.le_of_ble_eq_true rfl⟩ rfl rfl) I<|cg (kl encI rfl) I<|cg (kl Gv rfl) I<|ax 1 I<|cg (eV I I I) I<|ax 1 I<|aH [1,2,4,13] I ?_
   refine af (.a 1 I<|.k [1,2,4,13,14] I)<|an<|af (.a 3 I<|.k [1,4,13,14,47,48,49] I)<|ay<|eY [1,4,13,14,47,48,49] I<|br (fun r st=>∃k:Nat,k≤p.length∧r=p.length - k∧(∀a∈p.take k,bF D a.toNat=false)∧st=⟨[(1,bq D),(4,.bg (bI T) 0),(13,.ptr 4 0),(14,num (cP T (p.take k))),(47,aw p),(48,num p.length),(49,num k)],CT T D p (u6 T n (p.take k)) (vy T (p.take k)) [] []⟩) p.length ⟨0,by omega,by omega,by simp,rfl⟩ ?_
   rintro r st ⟨k,hk,rfl,hdn,rfl⟩
   have hck:=hcb k hk
   have hl1:=vG T n (p.take k)
   have hl2:=AJ T (p.take k)
   have hl3:(p.take k).length=k:=by simp;omega
   refine af (.a 1 I<|.k [1,4,13,14,47,48,49,50] I)<|an<|aj I (fun hy=>?_) (fun hy=>?_)
   ·have hlt:k<p.length:=by have:=tt hy;omega
    have hmem:=cf (d:=0) hlt
    have hab:=ha _ hmem
    obtain⟨hac,m,hm,hmN⟩:=iT hv hab
    have hst1:=FM T n p k hlt
    have hst2:=Fu T p k hlt
    have hst3:=ku T p k hlt
    have hab2:=hab
    simp only[dS,decide_eq_true_eq]at hab2
    obtain⟨a,hae⟩:∃a:Nat,p.getD k 0=(a:Int):=⟨(p.getD k 0).toNat,by omega⟩
    have ham:a<2*T.ae.length:=by omega
    have hD:D.length=0∨a<D.length:=by simp only[bR,decide_eq_true_eq]at hf;omega
    rw[hae,Int.toNat_natCast]at hm hac hst1 hst3
    have hh:=ed T a ham (by omega)
    rw[hm]at hh
    refine ak<|an<|ay<|af (.v (aJ (k) I) I<|.v (aK I ((aC p k hlt).trans (by rw[hae]))) I<|.a 1 I<|.k [1,4,13,14,16,47,48,49] I)<|an<|af (.a 2 I<|.c rfl (jl D a hD) I<|.k [1,4,13,14,16,47,48,49,55] I)<|aj I (fun hz=>?_) (fun hz=>?_)
    ·have he:ft T D n p=7:=by
      unfold ft
      rw[if_pos hvf,if_pos hx1,if_pos]
      exact List.any_eq_true.2 ⟨_,hmem,by rw[hae];exact hz⟩
     exact af (.a 2 I<|.k [8,9] I)<|az<|⟨_,aE.of I,.inl ⟨by rw[he];decide,by rw[he];rfl⟩⟩
    ·have hdn2:∀a∈p.take (k+1),bF D a.toNat=false:=fun x hx=>by
      rw[dr p k 0 hlt]at hx
      rcases List.mem_append.1 hx with h|h
      ·exact hdn x h
      ·simp only[List.mem_singleton]at h;rw[h,hae];exact hz
     refine ak<|af (.a 3 I<|.c rfl (gi T a ham) I<|.v (aU I (hn:=by unfold In64;omega)) I<|.a 1 I<|.k [1,4,13,14,16,47,48,49] I)<|lT 9 20 mixed (
      .late [13] I (nz rfl rfl) inferInstance rfl rfl<|
      .val [13] I (bn I) I I<|
      .val [62] I (bn I) I I<|
      .val [63] I (bn I) I I<|
      .val [64] I (bn I) I I<|
      .val [4] I (bn I) I I<|
      .val [16] I (bn I) I I<|
      .val [66,67] I (eW I (hh)) I I<|
      .val [68] I (bn I) I I<|
      .nil) (by kernel_rfl) I I (bm (ks:=[1,4,13,14,47,48,49,61,65,69]) I) ?_
     refine cg (bC I (bG.rk.get I) I I I I (by unfold maxLen;omega)) I<|ax 3 I ?_
     refine eQ [5,1,2,3,4] (.c 1<|.c 4<|.c 13<|.c 14<|.c 47<|.c 48<|.c 49<|.nil) (.kept rfl (.fk rfl (dJ _ _))<|.kept rfl (.row ao.pure)<|.same (kg.pure (T:=T) (D:=D) (dm:=[]) (fun _ _ h=>by cases h)) I<|.same (kF.pure (T:=T) (D:=D) (um:=[]) (fun _ _ h=>by cases h)) I<|.kept rfl (.cells (ao.c<|ao.c<|ao.c<|ao.c<|ao.c<|ao.c<|ao.c<|ao.c<|ao.c<|ao.nil))<|.nil) I I (bf ?_)
     refine bx<|ax 7 I<|cg (bC I (bG.rk.get I) I I I I (by unfold maxLen;omega)) I<|ax 3 I ?_
     refine eQ [0,5,2,3,4] (.c 1<|.c 4<|.c 13<|.c 14<|.c 47<|.c 48<|.c 49<|.nil) (.kept rfl (.row ao.pure)<|.kept rfl (.fk rfl (dJ _ _))<|.same (kg.pure (T:=T) (D:=D) (dm:=[]) (fun _ _ h=>by cases h)) I<|.same (kF.pure (T:=T) (D:=D) (um:=[]) (fun _ _ h=>by cases h)) I<|.kept rfl (.cells (ao.c<|ao.c<|ao.c<|ao.c<|ao.c<|ao.c<|ao.c<|ao.c<|ao.c<|ao.nil))<|.nil) I I (bf ?_)
     refine aF (.v (aU I) I<|.a 1 I<|.k [1,4,13,14,47,48,49] I) ?_
     refine⟨p.length - (k+1),by omega,k+1,by omega,rfl,hdn2,?_⟩
     rw[hst1,hst2,hst3,hm]
     unfold CT eZ
     simp only[List.length_append,List.length_singleton]
     rfl
   ·have hke:k=p.length:=by have:=ff hy;omega
    subst hke
    rw[List.take_length]at hdn
    refine bp<|af (.a 3 I<|.k [8,9] I)<|az<|⟨_,aE.of I,.inr ⟨?_,rfl,by rw[List.take_length]⟩⟩
    unfold ft
    rw[if_pos hvf,if_pos hx1,if_neg]
    intro h
    obtain⟨x,hx,hx2⟩:=List.any_eq_true.1 h
    rw[hdn x hx]at hx2
    cases hx2
noncomputable def fD(T:ah)(D:List Bool)(n:Int)(p:List Int)(i j:Nat):Bool:=
 decide (dN T D (cE T n (p.take j)).toNat (cE T n (p.take i)).toNat=cP T (p.take j) - cP T (p.take i))&&fw T D (cE T n (p.take i)) (cE T n (p.take j))
theorem cH{T:ah}(hv:au T=true){n:Int}(hn:bH T n=true){p:List Int}(ha:∀a∈p,dS T a=true)(i:Nat)(hi:i≤p.length):∃u:Nat,cE T n (p.take i)=(u:Int)∧(u:Int)<T.nodes:=by
 cases i with
 |zero=>
  obtain⟨h0,h1⟩:=bu.1 hn
  obtain⟨u,hu⟩:=Int.eq_ofNat_of_zero_le h0
  exact⟨u,hu,by rw[←hu];exact h1⟩
 |succ i=>
  rw[gU T n p i (by omega)]
  exact(iT hv (ha _ (cf (d:=0) (show i<p.length by omega)))).2
theorem vL{T:ah}{D:List Bool}(hv:au T=true)(hf:bR T D=true){d:Nat}(hd:(d:Int)<T.nodes):cX T D [(d:Int)]=0:=by
 unfold cX
 rw[hv,hf]
 have:bH T (d:Int)=true:=bu.2 ⟨by omega,hd⟩
 simp[this]
set_option maxHeartbeats 2000000 in
theorem xF(T:ah)(D:List Bool)(p:List Int)(n:Int)(dm:List (Int×PV))(um:List ((Int×Int)×PV))(x:Option cK)(hx:jO x)(hv:au T=true)(hf:bR T D=true)(h12:T.nodes≤12)(hn:bH T n=true)(ha:∀a∈p,dS T a=true)(hp:p.length≤1000)(i j:Nat)(hi:i≤p.length)(hj:j≤p.length)(hdm:kg T D dm)(hum:kF T D um):
    aW Tryz.prog 51 [.ptr 4 0,num i,num j] (CT T D p (u6 T n p) (vy T p) dm um++[x]) (fun r σ'=>r=flag (fD T D n p i j)∧∃dm' um',kg T D dm'∧kF T D um'∧σ'=CT T D p (u6 T n p) (vy T p) dm' um'++[x]):=by
  obtain⟨u,hu,huN⟩:=cH hv hn ha i hi
  obtain⟨y,hy,hyN⟩:=cH hv hn ha j hj
  have hcv:fD T D n p i j=(decide (dN T D y u=cP T (p.take j) - cP T (p.take i))&&fw T D u y):=by unfold fD;rw[hu,hy,Int.toNat_natCast,Int.toNat_natCast]
  rw[hcv]
  obtain⟨hb1,hb2⟩:=eD (D:=D) hv (dir:=false) hyN
  have hS:=aM hv
  have hNp:=hS.nodes
  have hdi:Can Tryz.prog 25 [aZ T,bq D,num y] (· = .tuple [aw (aO T D y false),num 0]):=by
    have h:=rO T D (y:Int)
    rw[vL hv hf hyN]at h
    exact h
  have hci:=ik hv ha i hi
  have hcj:=ik hv ha j hj
  have hl1:=vG T n p
  have hl2:=AJ T p
  have hgi:=uQ T n p i hi
  have hgj:=uQ T n p j hj
  have hki:=Al T p i hi
  have hkj:=Al T p j hj
  rw[hu]at hgi
  rw[hy]at hgj
  have hmn:∀v,cV (y:Int) dm=some v→∃n xs,v= .slice n xs∧0<n:=fun v h=>⟨_,_,hdm.look h,by omega⟩
  refine bO Tryz.func51 I Tryz.ntmps51 I<|af (.a 1 I<|.k [0,1,2] I)<|fZ mixed (by kernel_rfl) (.a 5 I<|.v [15,16] (aJ (i) I) I I<|.v [17] (aK I ((aC _ i (by omega)).trans (by rw[hgi]))) I I<|.a 5 I<|.v [22,23] (aJ (j) I) I I<|.v [24] (aK I ((aC _ j (by omega)).trans (by rw[hgj]))) I I<|.a 2 I<|.k [0,1,2,7,8] I) ?_
  refine an<|af (.a 5 I<|.v (o3 Hy rfl Hh Li rfl rfl rfl (jS _) I) I<|.v (Ft I Kr rfl rfl hmn) I<|.k [0,1,2,7,8,32] I)<|aj I (fun h1=>?_) (fun h1=>?_)
  · obtain ⟨dm1, hdm1⟩ : ∃ z, gJ (y : Int) (aw (aO T D y false)) dm = z := ⟨_, rfl⟩
    have hdm2:kg T D dm1:=by rw[←hdm1];exact hdm.set hyN
    have hlk:cV (y:Int) dm1=some (aw (aO T D y false)):=by rw[←hdm1];exact tR _ _ _
    refine dR 18 20 mixed (
      .val [0] I (bn I) I I<|
      .val [34] I (bn I) I I<|
      .val [35] I (bn I) I I<|
      .val [36] I (bn I) I I<|
      .val [8] I (bn I) I I<|
      .val [0] I (bn I) I I<|
      .val [39] I (bn I) I I<|
      .val [40] I (bn I) I I<|
      .val [41] I (bn I) I I<|
      .val [0] I (bn I) I I<|
      .val [43] I (bn I) I I<|
      .val [44] I (bn I) I I<|
      .val [45] I (bn I) I I<|
      .val [8] I (bn I) I I<|
      .val [42,46,47] I (eW I (hdi)) I I<|
      .val [48] I (bn I) I I<|
      .val [33] I (bn I) I I<|
      .late [33] I (Bu rfl rfl rfl) inferInstance rfl rfl<|
      .nil) (by kernel_rfl) I I (bm (ks:=[0,1,2,7,8,37,38,49]) I) ?_
    refine ba (lF Hy rfl Hh rfl rfl rfl (jS _) I) I I<|aH [0,1,2,7,8] I ?_
    refine dF (σ':=CT T D p (u6 T n p) (vy T p) dm1 um++[x]) (by rw[←hdm1];rfl) ?_
    refine an<|fZ mixed (by kernel_rfl) (.a 5 I<|.v [54,55] (o3 Hy rfl Hh Li rfl rfl rfl (jS _) (by rw[hlk])) I I<|.a 1 I<|.v [56,57] (aJ (u) I) I I<|.v [58] (aK I (aC _ u (by omega))) I I<|.a 5 I<|.v [63,64] (aJ (j) I) I I<|.v [65] (aK I ((aC _ j (by omega)).trans (by rw[hkj]))) I I<|.a 5 I<|.v [70,71] (aJ (i) I) I I<|.v [72] (aK I ((aC _ i (by omega)).trans (by rw[hki]))) I I<|.v [66,73] (aU I) I I<|.a 1 I<|.k [0,7,8,75] I) ?_
    refine aj I (fun h2=>?_) (fun h2=>?_)
    · have h3:dN T D y u≠cP T (p.take j) - cP T (p.take i):=tt h2
      refine af (.a 1 I<|.k [6] I)<|az<|⟨_,aE.of I,?_,_,_,hdm2,hum,rfl⟩
      rw[decide_eq_false h3]
      rfl
    · have h3:dN T D y u=cP T (p.take j) - cP T (p.take i):=Classical.byContradiction (ff h2)
      obtain⟨b,hb⟩:∃b:Bool,(cV ((u:Int),(y:Int)) um).getD (.raw (.bool false))=flag b:=by
        cases h:cV ((u:Int),(y:Int)) um with
        |none=>exact⟨false,rfl⟩
        |some v=>exact⟨_,hum _ _ (iX h)⟩
      refine ak<|aR<|ax 2 I<|bw (DI I I I (Ew _ _)) I<|ax 2 I<|aH [0,7,8,9] I ?_
      refine dF (σ':=CT T D p (u6 T n p) (vy T p) dm1 um++[x,some (.cells 80 [num u,num y])]) I ?_
      refine fZ mixed (by kernel_rfl) (.a 5 I<|.v [83,84] (A5 Gh rfl Gf Lw rfl rfl rfl (qz _ _) hb rfl) I I<|.a 5 I<|.k [0,7,8,9,10,11] I) ?_
      refine an<|af (.a 2 I<|.k [0,7,8,9,10,89] I)<|aj I (fun h4=>?_) (fun h4=>?_)
      · obtain⟨um1,hum1⟩:∃z,gJ ((u:Int),(y:Int)) (flag (fw T D u y)) um=z:=⟨_,rfl⟩
        have hum2:kF T D um1:=by rw[←hum1];exact hum.set u y
        refine fZ mixed (by kernel_rfl) (.a 10 I<|.v [93,97,98,99] (eW I (rH T D u y h12)) I I<|.a 1 I<|.k [0,9,10] I) ?_
        refine dR 6 20 mixed (
          .val [0] I (bn I) I I<|
          .val [101] I (bn I) I I<|
          .val [102] I (bn I) I I<|
          .val [103] I (bn I) I I<|
          .val [9] I (bn I) I I<|
          .val [10] I (bn I) I I<|
          .nil) (by kernel_rfl) I I (bm (ks:=[10,104,105,106]) I) ?_
        refine ba (lF Gh (k:=((u:Int),(y:Int))) I Gf rfl rfl rfl (qz (.int .i64 (u:Int)) (.int .i64 (y:Int))) I) I I<|aH [10] I ?_
        refine dF (σ':=CT T D p (u6 T n p) (vy T p) dm1 um1++[x,some (.cells 80 [num u,num y])]) (by rw[←hum1];rfl) ?_
        obtain⟨b,hbu⟩:∃b,b=fw T D u y:=⟨_,rfl⟩
        refine af (.a 2 I<|.k [6] I)<|cJ [0,1,2,3,4,5] (.c 6<|.nil) (.kept rfl (.row ao.pure)<|.kept rfl (.row ao.pure)<|.same (kg.pure hdm2) I<|.same (kF.pure hum2) I<|.kept rfl (.cells (ao.c<|ao.c<|ao.c<|ao.c<|ao.c<|ao.c<|ao.c<|ao.c<|ao.c<|ao.nil))<|.same hx rfl<|.nil) I I ?_
        refine az<|⟨_,aE.of I,?_,_,_,hdm2,hum2,rfl⟩
        rw[decide_eq_true h3,Bool.true_and]
        first
          |rfl
          |(rw[hbu];rfl)
      · have hbu:b=fw T D u y:=by
          cases h:cV ((u:Int),(y:Int)) um with
          |none=>rw[h]at h4;cases h4
          |some v=>
            rw[h,hum _ _ (iX h)]at hb
            have:=hb
            simp only[Option.getD_some]at this
            cases this
            rfl
        have hum2:=hum
        obtain⟨um1,hum1⟩:∃z,z=um:=⟨_,rfl⟩
        subst hum1
        refine ak<|af (.a 2 I<|.k [6] I)<|cJ [0,1,2,3,4,5] (.c 6<|.nil) (.kept rfl (.row ao.pure)<|.kept rfl (.row ao.pure)<|.same (kg.pure hdm2) I<|.same (kF.pure hum2) I<|.kept rfl (.cells (ao.c<|ao.c<|ao.c<|ao.c<|ao.c<|ao.c<|ao.c<|ao.c<|ao.c<|ao.nil))<|.same hx rfl<|.nil) I I ?_
        refine az<|⟨_,aE.of I,?_,_,_,hdm2,hum2,rfl⟩
        rw[decide_eq_true h3,Bool.true_and]
        first
          |rfl
          |(rw[hbu];rfl)
  · obtain ⟨v, hv1⟩ : ∃ v, cV (y : Int) dm = some v := by
      cases h:cV (y:Int) dm with
      |none=>rw[h]at h1;cases h1
      |some v=>exact⟨v,rfl⟩
    have hlk:cV (y:Int) dm=some (aw (aO T D y false)):=by rw[hv1,hdm.look hv1]
    have hdm2:=hdm
    obtain⟨dm1,hdm1⟩:∃z,z=dm:=⟨_,rfl⟩
    subst hdm1
    refine ak<|an<|fZ mixed (by kernel_rfl) (.a 5 I<|.v [54,55] (o3 Hy rfl Hh Li rfl rfl rfl (jS _) (by rw[hlk])) I I<|.a 1 I<|.v [56,57] (aJ (u) I) I I<|.v [58] (aK I (aC _ u (by omega))) I I<|.a 5 I<|.v [63,64] (aJ (j) I) I I<|.v [65] (aK I ((aC _ j (by omega)).trans (by rw[hkj]))) I I<|.a 5 I<|.v [70,71] (aJ (i) I) I I<|.v [72] (aK I ((aC _ i (by omega)).trans (by rw[hki]))) I I<|.v [66,73] (aU I) I I<|.a 1 I<|.k [0,7,8,75] I) ?_
    refine aj I (fun h2=>?_) (fun h2=>?_)
    · have h3:dN T D y u≠cP T (p.take j) - cP T (p.take i):=tt h2
      refine af (.a 1 I<|.k [6] I)<|az<|⟨_,aE.of I,?_,_,_,hdm2,hum,rfl⟩
      rw[decide_eq_false h3]
      rfl
    · have h3:dN T D y u=cP T (p.take j) - cP T (p.take i):=Classical.byContradiction (ff h2)
      obtain⟨b,hb⟩:∃b:Bool,(cV ((u:Int),(y:Int)) um).getD (.raw (.bool false))=flag b:=by
        cases h:cV ((u:Int),(y:Int)) um with
        |none=>exact⟨false,rfl⟩
        |some v=>exact⟨_,hum _ _ (iX h)⟩
      refine ak<|aR<|ax 2 I<|bw (DI I I I (Ew _ _)) I<|ax 2 I<|aH [0,7,8,9] I ?_
      refine dF (σ':=CT T D p (u6 T n p) (vy T p) dm1 um++[x,some (.cells 80 [num u,num y])]) I ?_
      refine fZ mixed (by kernel_rfl) (.a 5 I<|.v [83,84] (A5 Gh rfl Gf Lw rfl rfl rfl (qz _ _) hb rfl) I I<|.a 5 I<|.k [0,7,8,9,10,11] I) ?_
      refine an<|af (.a 2 I<|.k [0,7,8,9,10,89] I)<|aj I (fun h4=>?_) (fun h4=>?_)
      · obtain⟨um1,hum1⟩:∃z,gJ ((u:Int),(y:Int)) (flag (fw T D u y)) um=z:=⟨_,rfl⟩
        have hum2:kF T D um1:=by rw[←hum1];exact hum.set u y
        refine fZ mixed (by kernel_rfl) (.a 10 I<|.v [93,97,98,99] (eW I (rH T D u y h12)) I I<|.a 1 I<|.k [0,9,10] I) ?_
        refine dR 6 20 mixed (
          .val [0] I (bn I) I I<|
          .val [101] I (bn I) I I<|
          .val [102] I (bn I) I I<|
          .val [103] I (bn I) I I<|
          .val [9] I (bn I) I I<|
          .val [10] I (bn I) I I<|
          .nil) (by kernel_rfl) I I (bm (ks:=[10,104,105,106]) I) ?_
        refine ba (lF Gh (k:=((u:Int),(y:Int))) I Gf rfl rfl rfl (qz (.int .i64 (u:Int)) (.int .i64 (y:Int))) I) I I<|aH [10] I ?_
        refine dF (σ':=CT T D p (u6 T n p) (vy T p) dm1 um1++[x,some (.cells 80 [num u,num y])]) (by rw[←hum1];rfl) ?_
        obtain⟨b,hbu⟩:∃b,b=fw T D u y:=⟨_,rfl⟩
        refine af (.a 2 I<|.k [6] I)<|cJ [0,1,2,3,4,5] (.c 6<|.nil) (.kept rfl (.row ao.pure)<|.kept rfl (.row ao.pure)<|.same (kg.pure hdm2) I<|.same (kF.pure hum2) I<|.kept rfl (.cells (ao.c<|ao.c<|ao.c<|ao.c<|ao.c<|ao.c<|ao.c<|ao.c<|ao.c<|ao.nil))<|.same hx rfl<|.nil) I I ?_
        refine az<|⟨_,aE.of I,?_,_,_,hdm2,hum2,rfl⟩
        rw[decide_eq_true h3,Bool.true_and]
        first
          |rfl
          |(rw[hbu];rfl)
      · have hbu:b=fw T D u y:=by
          cases h:cV ((u:Int),(y:Int)) um with
          |none=>rw[h]at h4;cases h4
          |some v=>
            rw[h,hum _ _ (iX h)]at hb
            have:=hb
            simp only[Option.getD_some]at this
            cases this
            rfl
        have hum2:=hum
        obtain⟨um1,hum1⟩:∃z,z=um:=⟨_,rfl⟩
        subst hum1
        refine ak<|af (.a 2 I<|.k [6] I)<|cJ [0,1,2,3,4,5] (.c 6<|.nil) (.kept rfl (.row ao.pure)<|.kept rfl (.row ao.pure)<|.same (kg.pure hdm2) I<|.same (kF.pure hum2) I<|.kept rfl (.cells (ao.c<|ao.c<|ao.c<|ao.c<|ao.c<|ao.c<|ao.c<|ao.c<|ao.c<|ao.nil))<|.same hx rfl<|.nil) I I ?_
        refine az<|⟨_,aE.of I,?_,_,_,hdm2,hum2,rfl⟩
        rw[decide_eq_true h3,Bool.true_and]
        first
          |rfl
          |(rw[hbu];rfl)
theorem se(l:List cr)(e:cr):eS l++oE e=eS (l++[e]):=by simp[eS]
theorem mG(l:List cr):(eS l).length=l.length*2:=by
 induction l with
 |nil=>rfl
 |cons a l ih=>simp only[eS,List.flatMap_cons,List.length_append,List.length_cons]at*;rw[ih];simp[oE];omega
def mV(c:Nat→Bool)(i:Nat):Nat→Option Nat
 |0=>none
 |m+1=>if m+1≤i then none else if c (m+1) then some (m+1) else mV c i m
theorem uh{c:Nat→Bool}{i j:Nat}(hij:i<j)(hc:c j=true):∀m,j≤m→(∀k,j<k→k≤m→c k=false)→mV c i m=some j
 |0,h,_=>by omega
 |m+1,h,hn=>by
  unfold mV
  rw[if_neg (by omega)]
  by_cases e:j=m+1
  ·subst e;rw[if_pos hc]
  ·rw[if_neg (by rw[hn (m+1) (by omega) (by omega)];simp)]
   exact uh hij hc m (by omega) (fun k h1 h2=>hn k h1 (by omega))
theorem tB{c:Nat→Bool}{i:Nat}:∀m,(∀k,i<k→k≤m→c k=false)→mV c i m=none
 |0,_=>rfl
 |m+1,hn=>by
  unfold mV
  by_cases e:m+1≤i
  ·rw[if_pos e]
  ·rw[if_neg e,if_neg (by rw[hn (m+1) (by omega) (by omega)];simp)]
   exact tB m (fun k h1 h2=>hn k h1 (by omega))
theorem uZ{c:Nat→Bool}{i:Nat}:∀m j,mV c i m=some j→i<j∧j≤m∧c j=true∧∀k,j<k→k≤m→c k=false
 |0,j,h=>by cases h
 |m+1,j,h=>by
  unfold mV at h
  split at h
  ·cases h
  ·split at h
   ·cases h;rename_i h1 h2;exact⟨by omega,by omega,h2,fun k h3 h4=>by omega⟩
   ·rename_i h1 h2
    obtain⟨a,b,c1,d⟩:=uZ m j h
    refine⟨a,by omega,c1,fun k h3 h4=>?_⟩
    by_cases e:k=m+1
    ·subst e;simpa using h2
    ·exact d k h3 (by omega)
theorem lR{c:Nat→Bool}{i:Nat}:∀m,mV c i m=none→∀k,i<k→k≤m→c k=false
 |0,_,k,h1,h2=>by omega
 |m+1,h,k,h1,h2=>by
  unfold mV at h
  split at h
  ·omega
  ·split at h
   ·cases h
   ·rename_i h3 h4
    by_cases e:k=m+1
    ·subst e;simpa using h4
    ·exact lR m h k h1 (by omega)
noncomputable def jw(T:ah)(D:List Bool)(n:Int)(p:List Int):Nat→Nat→List cr
 |0,_=>[]
 |f+1,i=>if i<p.length then(match mV (fD T D n p i) i p.length with
  |some j=>⟨1,cE T n (p.take j)⟩::jw T D n p f j
  |none=>⟨2,p.getD i 0⟩::jw T D n p f (i+1)) else []
noncomputable def lq(T:ah)(D:List Bool)(n:Int)(p:List Int):List cr:=jw T D n p p.length 0
section
variable {T:ah} {D:List Bool} {n:Int} {p:List Int}
theorem qu(f i:Nat)(h:p.length≤i):jw T D n p f i=[]:=by
 cases f with
 |zero=>rfl
 |succ f=>simp only[jw];rw[if_neg (by omega)]
theorem lB{f i j:Nat}(hi:i<p.length)(hij:i<j)(hj:j≤p.length)(hc:fD T D n p i j=true)(hno:∀k,j<k→k≤p.length→fD T D n p i k=false):jw T D n p (f+1) i=⟨1,cE T n (p.take j)⟩::jw T D n p f j:=by
 simp only[jw]
 rw[if_pos hi,uh hij hc p.length hj hno]
theorem od{f i:Nat}(hi:i<p.length)(hno:∀k,i<k→k≤p.length→fD T D n p i k=false):jw T D n p (f+1) i=⟨2,p.getD i 0⟩::jw T D n p f (i+1):=by
 simp only[jw]
 rw[if_pos hi,tB p.length hno]
theorem pG:∀ {f:Bool} {x:Int} {l m:List Int},dp T f x (l++m)=0→dp T f x l=0∧∃g,dp T g (cE T x l) m=0
 |f,x,[],m,h=>⟨rfl,f,h⟩
 |f,x,a::l,m,h=>by
  simp only[List.cons_append,dp]at h ⊢
  split at h
  ·omega
  ·rename_i h1
   rw[if_neg h1]
   split at h
   ·omega
   ·rename_i h2
    rw[if_neg h2]
    exact pG h
theorem AB(hv:au T=true):∀ {f:Bool} {x:Nat} {l:List Int} {y:Nat},dp T f x l=0→(∀a∈l,bF D a.toNat=false)→cE T x l=(y:Int)→Ch T D y x l
 |f,x,[],y,_,_,he=>by
  have:y=x:=by simp only[cE]at he;omega
  subst this
  exact .nil
 |f,x,a::l,y,h,hd,he=>by
  simp only[dp]at h
  split at h
  ·omega
  ·rename_i h1
   split at h
   ·omega
   ·rename_i h2
    have hab:dS T a=true:=by simpa using h1
    obtain⟨_,m,hm,hmN⟩:=iT hv hab
    simp only[dS,decide_eq_true_eq]at hab
    obtain⟨b,rfl⟩:=Int.eq_ofNat_of_zero_le hab.1
    rw[Int.toNat_natCast]at hm
    simp only[cE,Int.toNat_natCast]at he h2 h
    rw[hm]at he h
    have hch:=AB hv h (fun c hc=>hd c (by simp[hc])) he
    refine .cons (by omega) (Classical.byContradiction fun hn=>h2 (.inl hn)) (hd b (by simp)) hm ?_ hch
    cases l with
    |nil=>exact .inl rfl
    |cons c l=>
     right
     simp only[dp]at h
     split at h
     ·omega
     ·split at h
      ·omega
      ·rename_i h4
       simp only[Int.toNat_natCast]at h4
       cases ho:cL T m with
       |false=>rfl
       |true=>exact absurd (.inr ⟨trivial,ho⟩) h4
structure rS (T:ah) (D:List Bool) (n:Int) (p:List Int):Prop where
 valid:au T=true
 fits:bR T D=true
 node:bH T n=true
 walk:dp T true n p=0
 up:∀a∈p,bF D a.toNat=false
theorem Fi(h:ft T D n p=0):rS T D n p:=by
 unfold ft at h
 split at h
 ·rename_i h1
  obtain⟨hv,hf⟩:=Bool.and_eq_true_iff.1 h1
  split at h
  ·rename_i h2
   obtain⟨_,hn,hw⟩:=nw h2
   split at h
   ·omega
   ·rename_i h3
    exact⟨hv,hf,hn,hw,fun a ha=>by
     cases hd:bF D a.toNat with
     |false=>rfl
     |true=>exact absurd (List.any_eq_true.2 ⟨a,ha,hd⟩) h3⟩
  ·omega
 ·omega
theorem rS.av(h:rS T D n p):∀a∈p,dS T a=true:=mK h.walk
def fv(p:List Int)(i j:Nat):List Int:=(p.drop i).take (j - i)
theorem iU(p:List Int){i j:Nat}(hij:i≤j):p.take j=p.take i++fv p i j:=by
 unfold fv
 have h:(p.take j)=(p.take j).take i++(p.take j).drop i:=(List.take_append_drop i _).symm
 rw[h,List.take_take,Nat.min_eq_left hij,List.drop_take]
theorem ot(p:List Int){i j:Nat}(hij:i≤j)(hj:j≤p.length):(fv p i j).length=j - i:=by unfold fv;simp;omega
theorem rS.ch(h:rS T D n p){i j u y:Nat}(hij:i≤j)(hj:j≤p.length)(hu:cE T n (p.take i)=(u:Int))(hy:cE T n (p.take j)=(y:Int)):Ch T D y u (fv p i j):=by
 have h1:dp T true n (p.take j)=0:=(pG (l:=p.take j) (m:=p.drop j) (by rw[List.take_append_drop];exact h.walk)).1
 rw[iU p hij]at h1
 obtain⟨_,g,hg⟩:=pG h1
 rw[hu]at hg
 refine AB h.valid hg (fun a ha=>h.up a ?_) ?_
 ·exact List.mem_of_mem_drop (List.mem_of_mem_take ha)
 ·rw[←hu,←lO,←iU p hij];exact hy
theorem Cu(T:ah)(p:List Int){i j:Nat}(hij:i≤j):cP T (p.take j) - cP T (p.take i)=cP T (fv p i j):=by
 rw[iU p hij,gj];omega
theorem mH(h:rS T D n p){i j u y:Nat}(hij:i≤j)(hj:j≤p.length)(hu:cE T n (p.take i)=(u:Int))(hy:cE T n (p.take j)=(y:Int)):fD T D n p i j=true↔SP T D y u (fv p i j)∧dL T D y u=1:=by
 have hch:=h.ch hij hj hu hy
 have ha:=h.av
 obtain⟨u',hu',huN⟩:=cH h.valid h.node ha i (by omega)
 obtain⟨y',hy',hyN⟩:=cH h.valid h.node ha j hj
 have e1:u'=u:=by omega
 have e2:y'=y:=by omega
 subst e1
 subst e2
 have hne:cF T D (u':Int) (y':Int)=0:=by
  unfold cF
  rw[if_pos (vL h.valid h.fits hyN),bu.2 ⟨by omega,huN⟩]
  rfl
 unfold fD fw
 rw[hu,hy,Int.toNat_natCast,Int.toNat_natCast,Cu T p hij,hne]
 simp only[decide_true,Bool.true_and,Bool.and_eq_true,decide_eq_true_eq]
 constructor
 ·rintro⟨h1,h2⟩;exact⟨hch.sp h.valid hyN h1,h2⟩
 ·rintro⟨h1,h2⟩;exact⟨(h1.cost h.valid hyN).1,h2⟩
theorem Gu(h:rS T D n p){i j:Nat}(hij:i≤j)(hj:j≤p.length)(hc:fD T D n p i j=true):(j:Int) - i<T.nodes:=by
 have ha:=h.av
 obtain⟨u,hu,huN⟩:=cH h.valid h.node ha i (by omega)
 obtain⟨y,hy,hyN⟩:=cH h.valid h.node ha j hj
 have:=((mH h hij hj hu hy).1 hc).1.Fv h.valid hyN
 rw[ot p hij hj]at this
 omega
end
def sU(e:Int)(l:List cr):PV:=.tuple [cN (if e=0 then l else []),num e]
def xf(l:List cr):Option cK:=some (.row 112 2 l.length (eS l))
theorem CJ(l:List cr):jO (xf l):=fun b hb=>by cases hb;exact(inferInstance:aI (eS l))
theorem zG(T:ah)(D:List Bool)(p:List Int)(n:Int)(hp:p.length≤1000)(hlk:T.ae.length≤256):aW Tryz.prog 50 [aZ T,bq D,aw p,num n] [] (fun r σ'=>∃x,r= .tuple [x,num (ft T D n p)]∧(ft T D n p=0→x= .ptr 4 0∧σ'=CT T D p (u6 T n p) (vy T p) [] [])):=
 aW.mono (yS T D p n hp hlk) fun r σ' h=>by
  rcases h with⟨he,rfl⟩|⟨he,rfl,rfl⟩
  ·exact⟨_,rfl,fun h=>absurd h he⟩
  ·exact⟨_,by rw[he],fun _=>⟨rfl,rfl⟩⟩
set_option maxHeartbeats 2000000 in
theorem uo(T:ah)(D:List Bool)(p:List Int)(n:Int)(hp:p.length≤1000)(hlk:T.ae.length≤256)(h12:T.nodes≤12):Can Tryz.prog 20 [aZ T,bq D,aw p,num n] (· =sU (ft T D n p) (lq T D n p)):=by
  refine aT Tryz.func20 I Tryz.ntmps20 I<|af (.a 3 I<|.k [1,2,3,4] I)<|AX ?_
  refine aR<|ax 4 I<|b7 I I (aW.mono (zG T D p n hp hlk) (fun r σ' h=>?_))
  obtain⟨x,rfl,hx⟩:=h
  refine ax 5 I<|aH [2,4,10,11] I ?_
  refine an<|af (.a 2 I<|.k [2,4,10,11,24] I)<|aj I (fun hc=>?_) (fun hc=>?_)
  · have he:ft T D n p≠0:=tt hc
    exact af (.a 3 I<|.k [8,9] I)<|az<|⟨_,_,aE.of I,aD.bY (ai.cons aD.cc (ai.cons aD.pure ai.nil)),by unfold sU;rw[if_neg he];rfl⟩
  · have he:ft T D n p=0:=Classical.byContradiction (ff hc)
    obtain⟨rfl,rfl⟩:=hx he
    have hF:=Fi he
    have hv:=hF.valid
    have hS:=aM hv
    have hN:=hS.nodes
    have ha:=hF.av
    obtain⟨N,hNN⟩:∃N:Nat,T.nodes=(N:Int):=⟨T.nodes.toNat,by omega⟩
    rw[he]
    clear hc
    refine ak<|af (.a 1 I<|.k [2,4,10,12] I)<|fM 12 112 2 I ?_
    refine af (.a 1 I<|.k [2,4,10,12,13] I)<|an<|A4 ?_
    refine an<|ay<|eY [2,4,10,12,13] I<|br (fun r st=>∃(l:List cr) (i f:Nat) (dm:List (Int×PV)) (um:List ((Int×Int)×PV)),i≤p.length∧p.length - i≤f∧l.length≤i∧r=p.length - i∧lq T D n p=l++jw T D n p f i∧kg T D dm∧kF T D um∧st=⟨[(2,aw p),(4,.bg (bI T) 0),(10,.ptr 4 0),(12,.own 5),(13,num i)],CT T D p (u6 T n p) (vy T p) dm um++[xf l]⟩) p.length ⟨[],0,p.length,[],[],by omega,by omega,by simp,by omega,rfl,(fun _ _ h=>by cases h),(fun _ _ h=>by cases h),rfl⟩ ?_
    rintro r st ⟨l,i,f,dm,um,hi,hif,hli,rfl,hl,hdm,hum,rfl⟩
    refine an<|af (.a 4 I<|.k [2,4,10,12,13,29] I)<|aj I (fun h1=>?_) (fun h1=>?_)
    · have hlt:i<p.length:=by have:=tt h1;omega
      refine ak<|ay<|an ?_
      obtain⟨m,hm⟩:∃m:Nat,min (p.length:Int) ((i:Int)+(N:Int) - 1)=(m:Int):=⟨(min (p.length:Int) ((i:Int)+(N:Int) - 1)).toNat,by omega⟩
      have hfar:∀k,m<k→k≤p.length→fD T D n p i k=false:=fun k h2 h3=>by
        cases hcv:fD T D n p i k with
        |false=>rfl
        |true=>
          have:=Gu hF (i:=i) (j:=k) (by omega) h3 hcv
          omega
      refine af (.a 4 I<|.v (aK I ((show some (num T.nodes)=some (num (N:Int)) by rw[hNN]))) I<|.v (aU I) I<|.v (aU I) I<|.v (AI I I I (hm)) I<|.a 1 I<|.k [2,4,10,12,13,14] I)<|ay<|eY [2,4,10,12,13,14] I<|br (fun r st=>∃(j:Nat) (dm:List (Int×PV)) (um:List ((Int×Int)×PV)),i≤j∧j≤p.length∧r=j∧(∀k,j<k→k≤p.length→fD T D n p i k=false)∧kg T D dm∧kF T D um∧st=⟨[(2,aw p),(4,.bg (bI T) 0),(10,.ptr 4 0),(12,.own 5),(13,num i),(14,num j)],CT T D p (u6 T n p) (vy T p) dm um++[xf l]⟩) m ⟨m,dm,um,by omega,by omega,rfl,hfar,hdm,hum,rfl⟩ ?_
      clear hdm hum
      rintro r st ⟨j,dm,um,hij,hj,rfl,hno,hdm,hum,rfl⟩
      refine an<|af (.a 3 I<|.k [2,4,10,12,13,14,40] I)<|aj I (fun h2=>?_) (fun h2=>?_)
      · have hlt2:i<r:=by have:=tt h2;omega
        refine ak<|an<|ay<|aR<|ax 3 I<|b7 I I (aW.mono (xF T D p n dm um (xf l) (CJ l) hv hF.fits h12 hF.node ha hp i r (by omega) hj hdm hum) (fun _ σ' h=>?_))
        obtain⟨rfl,dm1,um1,hdm1,hum1,rfl⟩:=h
        refine aH [2,4,10,12,13,14,46] I ?_
        refine aj I (fun h3=>?_) (fun h3=>?_)
        · have hgj:=uQ T n p r hj
          have hl1:=vG T n p
          refine aR<|ax 6 I<|bw (aJ (r) I) I<|bw (aK I ((aC _ r (by omega)).trans (by rw[hgj]))) I<|ax 2 I<|cg (bC I (bG.rk.get I) I I I I (by unfold maxLen;omega)) I<|ax 1 I ?_
          refine eQ [0,1,2,3,4,6] (.c 2<|.c 4<|.c 10<|.c 12<|.c 14<|.nil) (.kept rfl (.row ao.pure)<|.kept rfl (.row ao.pure)<|.same (kg.pure hdm1) I<|.same (kF.pure hum1) I<|.kept rfl (.cells (ao.c<|ao.c<|ao.c<|ao.c<|ao.c<|ao.c<|ao.c<|ao.c<|ao.c<|ao.nil))<|.kept rfl (.fk rfl (se _ ⟨1,cE T n (p.take r)⟩))<|.nil) I I (bf ?_)
          refine af (.a 2 I<|.k [2,4,10,12,13] I)<|bp ?_
          cases f with
          |zero=>omega
          |succ f=>
            first
              | (refine ⟨p.length - r, by omega, l ++ [⟨1, cE T n (p.take r)⟩], r, f, dm1, um1, by omega, by omega, by simp; omega, rfl, ?_, hdm1, hum1, ?_⟩
                 · rw[hl,lB hlt hlt2 hj h3 hno,List.append_assoc];rfl
                 · unfold xf;simp only[List.length_append,List.length_singleton];rfl)
              | (refine ⟨p.length - (i + 1), by omega, l ++ [⟨2, p.getD i 0⟩], i + 1, f, dm, um, by omega, by omega, by simp; omega, rfl, ?_, hdm, hum, ?_⟩
                 · rw[hl,od hlt hno2,List.append_assoc];rfl
                 · unfold xf;simp only[List.length_append,List.length_singleton];rfl)
        · skip
          refine ak<|aF (.a 1 I<|.v (aU I) I<|.a 1 I<|.k [2,4,10,12,13,14] I) ?_
          refine⟨r - 1,by omega,r - 1,dm1,um1,by omega,by omega,rfl,fun k h4 h5=>?_,hdm1,hum1,?_⟩
          · by_cases e:k=r
            · rw[e];exact h3
            · exact hno k (by omega) h5
          · rw[show((r - 1:Nat):Int)=(r:Int) - 1 by omega]
      · have hno2:∀k,i<k→k≤p.length→fD T D n p i k=false:=fun k h3 h4=>hno k (by have:=ff h2;omega) h4
        refine bp<|aR<|ax 3 I<|bw (aJ (i) I) I<|bw (aK I (aC _ i hlt)) I<|ax 2 I<|cg (bC I (bG.rk.get I) I I I I (by unfold maxLen;omega)) I<|ax 1 I ?_
        refine eQ [0,1,2,3,4,6] (.c 2<|.c 4<|.c 10<|.c 12<|.c 13<|.nil) (.kept rfl (.row ao.pure)<|.kept rfl (.row ao.pure)<|.same (kg.pure hdm) I<|.same (kF.pure hum) I<|.kept rfl (.cells (ao.c<|ao.c<|ao.c<|ao.c<|ao.c<|ao.c<|ao.c<|ao.c<|ao.c<|ao.nil))<|.kept rfl (.fk rfl (se _ ⟨2,p.getD i 0⟩))<|.nil) I I (bf ?_)
        refine aF (.a 1 I<|.v (aU I) I<|.a 1 I<|.k [2,4,10,12,13] I) ?_
        cases f with
        |zero=>omega
        |succ f=>
          first
            | (refine ⟨p.length - r, by omega, l ++ [⟨1, cE T n (p.take r)⟩], r, f, dm1, um1, by omega, by omega, by simp; omega, rfl, ?_, hdm1, hum1, ?_⟩
               · rw[hl,lB hlt hlt2 hj h3 hno,List.append_assoc];rfl
               · unfold xf;simp only[List.length_append,List.length_singleton];rfl)
            | (refine ⟨p.length - (i + 1), by omega, l ++ [⟨2, p.getD i 0⟩], i + 1, f, dm, um, by omega, by omega, by simp; omega, rfl, ?_, hdm, hum, ?_⟩
               · rw[hl,od hlt hno2,List.append_assoc];rfl
               · unfold xf;simp only[List.length_append,List.length_singleton];rfl)
    · have hie:i=p.length:=by have:=ff h1;omega
      rw[qu f i (by omega),List.append_nil]at hl
      exact bp<|af (.a 3 I<|.k [8,9] I)<|az<|⟨_,_,aE.of I,aD.bY (ai.cons (aD.dA rfl ai.pure) (ai.cons aD.pure ai.nil)),by unfold sU;rw[if_pos rfl,hl];rfl⟩
section
variable {T:ah} {D:List Bool} {d:Nat}
theorem AG(hv:au T=true)(hd:(d:Int)<T.nodes):∀(K m:Nat),(m:Int)<T.nodes→0≤dN T D d m→dN T D d m≤K→dL T D d m≠1→∃p q,SP T D d m p∧SP T D d m q∧p≠q
 |K,m,hmN,h0,hK,hc=>by
  by_cases hmd:m=d
  ·subst hmd;exact absurd (oQ m) hc
  ·obtain⟨k,hk⟩:=kC (D:=D) hv hmN hd hmd h0
   have hmem:=fN hk ((aM hv).cost k hk.iu).1
   cases hx:bz T D m d with
   |nil=>rw[hx]at hmem;cases hmem
   |cons a l=>
    obtain⟨b,rfl,hb⟩:=cT (T:=T) (D:=D) (n:=m) (d:=d) (a:=a) (by rw[hx];simp)
    obtain⟨x,hxh,hxN⟩:=di hv hb.iu
    have gx:=hb.dN hxh
    have cx:=(aM hv).cost b hb.iu
    cases l with
    |nil=>
     cases K with
     |zero=>omega
     |succ K=>
      have hcx:dL T D d x≠1:=fun h=>hc (zR hv hd hmN hmd hx hxh h)
      obtain⟨p,q,h1,h2,h3⟩:=AG hv hd K x hxN gx.1 (by omega) hcx
      exact⟨b::p,b::q,.cons hb hxh h1,.cons hb hxh h2,fun e=>h3 (List.cons.inj e).2⟩
    |cons a2 l=>
     obtain⟨b2,rfl,hb2⟩:=cT (T:=T) (D:=D) (n:=m) (d:=d) (a:=a2) (by rw[hx];simp)
     obtain⟨x2,hxh2,hxN2⟩:=di hv hb2.iu
     have gx2:=hb2.dN hxh2
     refine⟨b::df T D x d,b2::df T D x2 d,.cons hb hxh (eL hv hd hxN gx.1),.cons hb2 hxh2 (eL hv hd hxN2 gx2.1),fun e=>?_⟩
     have he:=(List.cons.inj e).1
     have hlt:=qa T D m d
     rw[hx]at hlt
     have:=(List.pairwise_cons.1 hlt).1 (b2:Int) (by simp)
     omega
theorem Ch.append{e n:Nat}{p q:List Int}(h:Ch T D e n p)(hq:Ch T D d e q)(ho:q=[]∨cL T e=false):Ch T D d n (p++q):=by
 induction h with
 |nil=>exact hq
 | @cons n a m p ha ht hu hm hov hp ih=>
  refine .cons ha ht hu hm ?_ ih
  rcases hov with h|h
  ·subst h
   have:=hp.to rfl
   subst this
   rcases ho with h|h
   ·subst h;exact .inl rfl
   ·exact .inr h
  ·exact .inr h
theorem SP.suffix(hv:au T=true)(hd:(d:Int)<T.nodes){e:Nat}:∀ {n:Nat} {p q:List Int},SP T D d n (p++q)→dL T D d n=1→Ch T D e n p→SP T D d e q∧dL T D d e=1
 |n,[],q,h,hc,hch=>by
  have:=hch.to rfl
  subst this
  exact⟨h,hc⟩
 |n,a::p,q,h,hc,hch=>by
  cases h with
  | @cons _ b m _ h1 hm hp=>
   cases hch with
   | @cons _ b2 m2 _ _ _ _ hm2 _ hch2=>
    have:m2=m:=by rw[hm]at hm2;omega
    subst this
    obtain⟨b3,h3,_,h4⟩:=uO hv hd (h1.node hv) h1.ne hc
    have e1:=fN h1 ((aM hv).cost b h1.iu).1
    rw[h3]at e1
    simp only[List.mem_singleton]at e1
    have:b3=b:=by omega
    subst this
    exact SP.suffix hv hd hp (h4 m2 hm) hch2
theorem SP.pre(hv:au T=true)(hd:(d:Int)<T.nodes){e n:Nat}{p q:List Int}(he:(e:Int)<T.nodes)(h:SP T D d n (p++q))(hc:dL T D d n=1)(hp:Ch T D e n p)(hq:Ch T D d e q)(ho:q=[]∨cL T e=false):SP T D e n p∧dL T D e n=1:=by
 have hcost:=(h.cost hv hd).1
 rw[gj]at hcost
 have hle:=hp.le hv he
 have hn:=hp.node hv he
 have hspe:SP T D e n p:=by
  refine hp.sp hv he ?_
  have hs:=eL hv he hn hle.1
  have hc2:=(hs.cost hv he).1
  have:=((hs.ch).append hq ho).le hv hd
  rw[gj]at this
  omega
 refine⟨hspe,Classical.byContradiction fun h1=>?_⟩
 obtain⟨p1,p2,g1,g2,g3⟩:=AG hv he (dN T D e n).toNat n hn hle.1 (by omega) h1
 have key:∀r,SP T D e n r→SP T D d n (r++q):=fun r hr=>by
  refine((hr.ch).append hq ho).sp hv hd ?_
  rw[gj,hcost,←(hr.cost hv he).1,(hspe.cost hv he).1]
 have:=(key p1 g1).unique hv hd (key p2 g2) hc
 exact g3 (List.append_cancel_right this)
theorem Ch.Lv{e:Nat}:∀ {n:Nat} {p q:List Int},Ch T D d n (p++q)→p≠[]→Ch T D e n p→q=[]∨cL T e=false
 |n,[],q,_,h,_=>absurd rfl h
 |n,a::p,q,h,_,hch=>by
  cases h with
  | @cons _ b m _ _ _ _ hm hov hp=>
   cases hch with
   | @cons _ b2 m2 _ _ _ _ hm2 _ hch2=>
    have:m2=m:=by rw[hm]at hm2;omega
    subst this
    cases p with
    |nil=>
     have:=hch2.to rfl
     subst this
     exact hov
    |cons c p=>exact Ch.Lv hp (by simp) hch2
variable {n:Int} {p:List Int}
theorem kz(p:List Int){i j k:Nat}(h1:i≤j)(h2:j≤k):fv p i k=fv p i j++fv p j k:=by
 have e1:=iU p (show i≤k by omega)
 have e2:=iU p h2
 rw[iU p h1,List.append_assoc]at e2
 rw[e1]at e2
 exact List.append_cancel_left e2
theorem GP(h:rS T D n p){i j i' j':Nat}(h1:i≤i')(h2:i'<j')(h3:j'≤j)(hj:j≤p.length)(hc:fD T D n p i j=true):fD T D n p i' j'=true:=by
 have ha:=h.av
 have hv:=h.valid
 obtain⟨u,hu,huN⟩:=cH hv h.node ha i (by omega)
 obtain⟨y,hy,hyN⟩:=cH hv h.node ha j hj
 obtain⟨u',hu',huN'⟩:=cH hv h.node ha i' (by omega)
 obtain⟨y',hy',hyN'⟩:=cH hv h.node ha j' (by omega)
 obtain⟨c1,c2⟩:=(mH h (by omega) hj hu hy).1 hc
 rw[kz p h1 (show i'≤j by omega)]at c1
 obtain⟨c3,c4⟩:=c1.suffix hv hyN c2 (h.ch h1 (by omega) hu hu')
 rw[kz p (show i'≤j' by omega) h3]at c3
 have hp:=h.ch (show i'≤j' by omega) (by omega) hu' hy'
 have hq:=h.ch h3 hj hy' hy
 have ho:=c3.ch.Lv (e:=y') (by
  intro e
  have:=ot p (show i'≤j' by omega) (by omega)
  rw[e]at this
  simp at this
  omega) hp
 exact(mH h (by omega) (by omega) hu' hy').2 (c3.pre hv hyN hyN' c4 hp hq ho)
end
section
variable {T:ah} {D:List Bool} {n:Int} {p:List Int}
theorem FF{i k:Nat}{a:Int}(h:a∈fv p i k):a∈p:=List.mem_of_mem_drop (List.mem_of_mem_take h)
theorem ua(h:rS T D n p){i:Nat}(hi:i<p.length){x:Nat}(hx:cE T n (p.take i)=(x:Int)):aN T (p.getD i 0).toNat=(x:Int):=by
 have ha:=h.av
 obtain⟨y,hy,hyN⟩:=cH h.valid h.node ha (i+1) hi
 have hch:=h.ch (i:=i) (j:=i+1) (by omega) hi hx hy
 have hp:fv p i (i+1)=[p.getD i 0]:=by
  unfold fv
  rw[drop_cons p i hi,show i+1 - i=1 by omega]
  rfl
 rw[hp]at hch
 generalize p.getD i 0=a at hch
 cases hch with
 |cons _ h2 _ _ _ _=>exact h2
end
section
variable {T:ah} {D:List Bool} {n:Int} {p:List Int}
end
def zd(T:ah)(s:cr)(n:Int):Int×Int:=if sz T s=false then(0,1) else if bH T n=false then(0,2) else if s.kind=1 then(s.num,0) else if s.kind=2 then(if aN T s.num.toNat≠n then(0,4) else(aB T s.num.toNat,0)) else(0,7)
theorem Cv(l:List cr)(k:Nat)(h:k<l.length):∃s,l[k]? =some s∧l.drop k=s::l.drop (k+1):=⟨l[k],List.getElem?_eq_getElem h,List.drop_eq_getElem_cons h⟩
def nr(T:ah)(n:Int)(p:List Int)(x:Int):Nat→Nat→Nat
 |0,i=>i
 |f+1,i=>if cE T n (p.take i)=x then i else nr T n p x f (i+1)
noncomputable def jE(T:ah)(D:List Bool)(n:Int)(p:List Int)(i:Nat)(s:cr):Option Nat:=
 if s.kind=2∧i<p.length∧p.getD i 0=s.num then some (i+1)
 else if s.kind=1 then(if cE T n (p.take (nr T n p s.num (p.length - i) i))=s.num∧fD T D n p i (nr T n p s.num (p.length - i) i)=true then some (nr T n p s.num (p.length - i) i) else none)
 else none
noncomputable def Ik(T:ah)(D:List Bool)(n:Int)(p:List Int):Nat→List cr→Bool
 |i,[]=>decide (i=p.length)
 |i,s::l=>match jE T D n p i s with
  |some j=>Ik T D n p j l
  |none=>false
section
variable {T:ah} {D:List Bool} {n:Int} {p:List Int}
theorem zL(x:Int):∀f i,i≤nr T n p x f i∧nr T n p x f i≤i+f
 |0,i=>by simp[nr]
 |f+1,i=>by
  simp only[nr]
  split
  ·omega
  ·have:=zL x f (i+1);omega
theorem Fh(x:Int):∀f i k,i≤k→k<nr T n p x f i→cE T n (p.take k)≠x
 |0,i,k,h1,h2=>by simp only[nr]at h2;omega
 |f+1,i,k,h1,h2=>by
  simp only[nr]at h2
  split at h2
  ·omega
  ·rename_i h3
   by_cases e:k=i
   ·subst e;exact h3
   ·exact Fh x f (i+1) k (by omega) h2
theorem uK(x:Int):∀f i j,i≤j→j≤i+f→cE T n (p.take j)=x→(∀k,i≤k→k<j→cE T n (p.take k)≠x)→nr T n p x f i=j
 |0,i,j,h1,h2,_,_=>by simp only[nr];omega
 |f+1,i,j,h1,h2,h3,h4=>by
  simp only[nr]
  by_cases e:i=j
  ·subst e;rw[if_pos h3]
  ·rw[if_neg (h4 i (Nat.le_refl _) (by omega))]
   exact uK x f (i+1) j (by omega) (by omega) h3 (fun k h5 h6=>h4 k (by omega) h6)
theorem Ch.fin{d:Nat}{m:Nat}{q:List Int}(h:Ch T D d m q):cE T (m:Int) q=(d:Int):=by
 induction h with
 |nil=>rfl
 | @cons n a m p ha ht hu hm ho hp ih=>simp only[cE,Int.toNat_natCast,hm];exact ih
theorem o6(h:rS T D n p){i j:Nat}(hij:i≤j)(hj:j≤p.length)(hc:fD T D n p i j=true):nr T n p (cE T n (p.take j)) (p.length - i) i=j:=by
 have ha:=h.av
 have hv:=h.valid
 refine uK _ _ _ _ hij (by omega) I fun k h1 h2 he=>?_
 obtain⟨u,hu,huN⟩:=cH hv h.node ha i (by omega)
 obtain⟨y,hy,hyN⟩:=cH hv h.node ha j hj
 obtain⟨z,hz,hzN⟩:=cH hv h.node ha k (by omega)
 have hzy:z=y:=by omega
 subst hzy
 obtain⟨c1,c2⟩:=(mH h hij hj hu hy).1 hc
 rw[kz p h1 (show k≤j by omega)]at c1
 obtain⟨c3,c4⟩:=c1.suffix hv hyN c2 (h.ch h1 (by omega) hu hz)
 have:=c3.self
 have hl:=ot p (show k≤j by omega) hj
 rw[this]at hl
 simp at hl
 omega
theorem nX{x y:Nat}(hv:au T=true)(hf:bR T D=true)(hx:(x:Int)<T.nodes)(hy:(y:Int)<T.nodes):jy T D x y=if dN T D y x<0 then 11 else 0:=by
 have hne:cF T D (x:Int) (y:Int)=0:=by
  unfold cF
  rw[if_pos (vL hv hf hy),bu.2 ⟨by omega,hx⟩]
  rfl
 unfold jy;rw[if_pos hne];simp only[Int.toNat_natCast]
theorem xR{x y:Nat}(hv:au T=true)(hf:bR T D=true)(hx:(x:Int)<T.nodes)(hy:(y:Int)<T.nodes):fw T D x y=true↔dL T D y x=1:=by
 have hne:cF T D (x:Int) (y:Int)=0:=by
  unfold cF
  rw[if_pos (vL hv hf hy),bu.2 ⟨by omega,hx⟩]
  rfl
 unfold fw
 rw[hne]
 simp
theorem IG(h:rS T D n p){i j x y:Nat}(hij:i≤j)(hj:j≤p.length)(hx:cE T n (p.take i)=(x:Int))(hy:cE T n (p.take j)=(y:Int)):fD T D n p i j=true↔jy T D x y=0∧fw T D x y=true∧df T D x y=fv p i j:=by
 have ha:=h.av
 have hv:=h.valid
 obtain⟨x',hx',hxN⟩:=cH hv h.node ha i (by omega)
 obtain⟨y',hy',hyN⟩:=cH hv h.node ha j hj
 have e1:x'=x:=by omega
 have e2:y'=y:=by omega
 subst e1
 subst e2
 rw[mH h hij hj hx hy,nX hv h.fits hxN hyN,xR hv h.fits hxN hyN]
 constructor
 ·rintro⟨h1,h2⟩
  have h0:=(h1.cost hv hyN).2
  exact⟨by rw[if_neg (by omega)],h2,(eL hv hyN hxN h0).unique hv hyN h1 h2⟩
 ·rintro⟨h1,h2,h3⟩
  have h0:0≤dN T D y' x':=by
   split at h1
   ·omega
   ·omega
  exact⟨by rw[←h3];exact eL hv hyN hxN h0,h2⟩
theorem zy(h:rS T D n p):∀(f i:Nat),i≤p.length→p.length - i≤f→Ik T D n p i (jw T D n p f i)=true
 |f,i,hi,hf=>by
  by_cases hlt:i<p.length
  ·cases f with
   |zero=>omega
   |succ f=>
    cases ht:mV (fD T D n p i) i p.length with
    |none=>
     rw[od hlt (fun k h1 h2=>lR _ ht k h1 h2)]
     simp only[Ik]
     have hst:jE T D n p i ⟨2,p.getD i 0⟩=some (i+1):=by unfold jE;rw[if_pos ⟨rfl,hlt,rfl⟩]
     rw[hst]
     exact zy h f (i+1) (by omega) (by omega)
    |some j=>
     obtain⟨t1,t2,t3,t4⟩:=uZ _ _ ht
     rw[lB hlt t1 t2 t3 t4]
     simp only[Ik]
     have hst:jE T D n p i ⟨1,cE T n (p.take j)⟩=some j:=by
      unfold jE
      simp only
      rw[if_neg (by omega),if_pos trivial,o6 h (by omega) t2 t3,if_pos ⟨rfl,t3⟩]
     rw[hst]
     exact zy h f j t2 (by omega)
  ·rw[qu f i (by omega)]
   simp only[Ik,decide_eq_true_eq]
   omega
theorem Gj:∀f i,(jw T D n p f i).length≤f:=fun f=>by
 induction f with
 |zero=>intro i;simp[jw]
 |succ f ih=>
  intro i
  simp only[jw]
  split
  ·split
   ·have:=ih ‹Nat›;simp only[List.length_cons];omega
   ·have:=ih (i+1);simp only[List.length_cons];omega
  ·simp
theorem yn(h:rS T D n p):ft T D n p=0:=by
 unfold ft
 have h2:dK T n p=0:=by unfold dK;rw[if_pos h.valid,if_pos h.node];exact h.walk
 rw[if_pos (by rw[h.valid,h.fits];rfl),if_pos h2,if_neg]
 intro e
 obtain⟨x,h3,h4⟩:=List.any_eq_true.1 e
 rw[h.up x h3]at h4
 cases h4
end
def jV(D:List Bool)(q:List Int):Bool:= !q.any fun a=>bF D a.toNat
theorem o7{D:List Bool}{q:List Int}:jV D q=true↔∀a∈q,bF D a.toNat=false:=by
 unfold jV
 rw[Bool.not_eq_true',List.any_eq_false]
 constructor
 ·intro h a ha
  have:=h a ha
  simpa using this
 ·intro h a ha
  rw[h a ha]
  simp
theorem Dx{D:List Bool}{q:List Int}{a:Int}(ha:a∈q)(h:bF D a.toNat=true):jV D q=false:=by
 unfold jV
 rw[Bool.not_eq_false',List.any_eq_true]
 exact⟨a,ha,h⟩
theorem Jh(T:ah)(D:List Bool)(q:List Int)(hf:bR T D=true)(ha:∀a∈q,dS T a=true)(hq:q.length≤1000):Can Tryz.prog 137 [bq D,aw q] (· =flag (jV D q)):=by
 refine aT Tryz.func137 I Tryz.ntmps137 I<|af (.a 1 I<|.k [0,1] I)<|an<|af (.a 3 I<|.k [0,7,8,9] I)<|ay<|eY [0,7,8,9] I<|br (fun r st=>∃k:Nat,k≤q.length∧r=q.length - k∧(∀a∈q.take k,bF D a.toNat=false)∧st=⟨[(0,bq D),(7,aw q),(8,num q.length),(9,num k)],[]⟩) q.length ⟨0,by omega,by omega,by simp,rfl⟩ ?_
 rintro r st ⟨k,hk,rfl,hdn,rfl⟩
 refine af (.a 1 I<|.k [0,7,8,9,10] I)<|an<|aj I (fun hy=>?_) (fun hy=>?_)
 ·have hlt:k<q.length:=by have:=tt hy;omega
  have hmem:=cf (d:=0) hlt
  have hab:=ha _ hmem
  simp only[dS,decide_eq_true_eq]at hab
  obtain⟨a,hae⟩:∃a:Nat,q.getD k 0=(a:Int):=⟨(q.getD k 0).toNat,by omega⟩
  have hD:D.length=0∨a<D.length:=by simp only[bR,decide_eq_true_eq]at hf;omega
  refine ak<|an<|ay<|af (.v (aJ (k) I) I<|.v (aK I ((aC q k hlt).trans (by rw[hae]))) I<|.a 1 I<|.k [0,6,7,8,9] I)<|af (.a 2 I<|.c rfl (jl D a hD) I<|.k [0,7,8,9,15] I)<|aj I (fun hz=>?_) (fun hz=>?_)
  ·have he:=Dx (D:=D) hmem (by rw[hae];exact hz)
   exact af (.a 1 I<|.k [4] I)<|az<|⟨_,_,aE.of I,aD.pure,by rw[he];rfl⟩
  ·skip
   refine ak<|aF (.v (aU I) I<|.a 1 I<|.k [0,7,8,9] I) ?_
   refine⟨q.length - (k+1),by omega,k+1,by omega,rfl,fun x hx=>?_,rfl⟩
   rw[dr q k 0 hlt]at hx
   rcases List.mem_append.1 hx with h|h
   ·exact hdn x h
   ·simp only[List.mem_singleton]at h;rw[h,hae];exact hz
 ·have hke:k=q.length:=by have:=ff hy;omega
  subst hke
  rw[List.take_length]at hdn
  exact bp<|af (.a 1 I<|.k [4] I)<|az<|⟨_,_,aE.of I,aD.pure,by rw[o7.2 hdn];rfl⟩
theorem DO{T:ah}{D:List Bool}{n:Int}{p:List Int}(hvf:(au T&&bR T D)=true)(h:dK T n p≠0):ft T D n p=dK T n p:=by unfold ft;rw[if_pos hvf,if_neg h]
theorem CU{T:ah}{D:List Bool}{n:Int}{p:List Int}(hvf:(au T&&bR T D)=true)(h:dK T n p=0):ft T D n p=if jV D p=true then 0 else 7:=by
 unfold ft jV
 rw[if_pos hvf,if_pos h]
 cases p.any fun a=>bF D a.toNat<;>rfl
theorem zC(T:ah)(D:List Bool)(p:List Int)(n:Int)(hp:p.length≤1000)(hlk:T.ae.length≤256):Can Tryz.prog 126 [aZ T,bq D,aw p,num n] (· =num (ft T D n p)):=by
 obtain⟨q1,hq1⟩:∃q,au T=q:=⟨_,rfl⟩
 obtain⟨q2,hq2⟩:∃q,bR T D=q:=⟨_,rfl⟩
 refine aT Tryz.func126 I Tryz.ntmps126 I<|af (.a 2 I<|.k [1,2,3,4] I)<|an<|bP 20 (.raw (.bool ((!q1)|| !q2))) [1,2,3,4] I ?_ ?_
 ·refine .a 1 I<|.c rfl (hq1▸eo T) I<|.a 2 I<|?_
  cases q1
  ·exact .a 5 I<|.k [20,1,2,3,4] I
  ·exact .a 2 I<|.c rfl (hq2▸lD T D (by omega)) I<|.a 2 I<|.k [20,1,2,3,4] I
 refine aj I (fun hc=>?_) (fun hc=>?_)
 ·have he:ft T D n p=1:=by unfold ft;rw[hq1,hq2];cases q1<;>cases q2<;>first|rfl|cases hc
  exact af (.a 1 I<|.k [8] I)<|az<|⟨_,_,aE.of I,aD.pure,by rw[he];rfl⟩
 ·have hv:au T=true:=by rw[hq1];cases q1;cases hc;rfl
  have hf:bR T D=true:=by rw[hq2];cases q2;cases q1<;>cases hc;rfl
  have hvf:(au T&&bR T D)=true:=by rw[hv,hf];rfl
  refine ak<|an<|af (.a 3 I<|.c rfl (xG T n p (by omega)) I<|.a 7 I<|.k [1,2,11] I)<|af (.a 2 I<|.k [1,2,11,30] I)<|aj I (fun hx=>?_) (fun hx=>?_)
  ·have hx1:dK T n p≠0:=tt hx
   exact af (.a 2 I<|.k [8] I)<|az<|⟨_,_,aE.of I,aD.pure,by rw[DO hvf hx1];rfl⟩
  ·have hx1:dK T n p=0:=Classical.byContradiction (ff hx)
   obtain⟨_,hn,hw⟩:=nw hx1
   have ha:=mK hw
   rw[CU hvf hx1]
   refine ak<|an<|af (.a 2 I<|.c rfl (Jh T D p hf ha hp) I<|.a 1 I<|.k [35] I)<|aj I (fun hy=>?_) (fun hy=>?_)
   ·have hy1:jV D p=false:=by simpa using hy
    exact af (.a 1 I<|.k [8] I)<|az<|⟨_,_,aE.of I,aD.pure,by rw[hy1];rfl⟩
   ·have hy1:jV D p=true:=by simpa using hy
    exact ak<|af (.a 1 I<|.k [8] I)<|az<|⟨_,_,aE.of I,aD.pure,by rw[hy1];rfl⟩
section
variable {T:ah} {D:List Bool} {n:Int} {p:List Int}
theorem lQ(T:ah):bR T []=true:=by simp[bR]
theorem rS.bare(h:rS T D n p):rS T [] n p:=⟨h.valid,lQ T,h.node,h.walk,fun a _=>by simp[bF]⟩
theorem KZ{n:Int}{p:List Int}(h:ft T D n p=0):ft T [] n p=0:=yn (Fi h).bare
end
theorem BQ(T:ah)(D:List Bool)(p:List Int)(n:Int)(hp:p.length≤1000)(hlk:T.ae.length≤256)(h12:T.nodes≤12):Can Tryz.prog 109 [aZ T,bq D,aw p,num n] (· =sU (ft T D n p) (lq T [] n p)):=by
 refine aT Tryz.func109 I Tryz.ntmps109 I<|af (.a 3 I<|.k [1,2,3,4] I)<|an<|af (.a 4 I<|.c rfl (zC T D p n hp hlk) I<|.a 1 I<|.k [2,3,4,10] I)<|af (.a 2 I<|.k [2,3,4,10,17] I)<|aj I (fun hc=>?_) (fun hc=>?_)
 ·have he:ft T D n p≠0:=tt hc
  exact af (.a 3 I<|.k [8,9] I)<|az<|⟨_,_,aE.of I,aD.bY (ai.cons aD.cc (ai.cons aD.pure ai.nil)),by unfold sU;rw[if_neg he];rfl⟩
 ·have he:ft T D n p=0:=Classical.byContradiction (ff hc)
  have hl:=uo T [] p n hp hlk h12
  rw[KZ he]at hl
  rw[he]
  exact ak<|af (.a 3 I<|.v (Bg I (ai.cons aD.pure<|ai.cons aD.cc<|ai.cons aD.pure<|ai.cons aD.pure ai.nil) (hl)) I<|.a 4 I<|.k [8,9] I)<|az<|⟨_,_,aE.of I,aD.pure,rfl⟩
def H7(K:St→Prop):Exit→St→Prop
 | .normal,s=>K s
 |_,_=>False
theorem vp{P:Program}{N L:Nat}{x y:Code}{st:St}{Q:Exit→St→Prop}{Q1:St→Prop}(h:W P N L x st (H7 Q1))(k:∀s,Q1 s→W P N L y s Q):W P N L (.seq x y) st Q:=
 an (h.mono fun e s hq=>by
  cases e<;>first|exact k s hq|exact hq.elim)
section
variable {T:ah} {D:List Bool} {n:Int} {p:List Int}
end
section
variable {T:ah} {D:List Bool}
theorem Ch.av{d m:Nat}{q:List Int}(h:Ch T D d m q):∀a∈q,dS T a=true:=by
 induction h with
 |nil=>intro a ha;cases ha
 | @cons n a m p ha ht hu hm ho hp ih=>
  intro b hb
  rcases List.mem_cons.1 hb with rfl|hb
  ·exact dh.2 ⟨by omega,by omega⟩
  ·exact ih b hb
theorem o9{x y:Int}(h:jy T D x y=0):∃a b:Nat,x=(a:Int)∧y=(b:Int)∧(a:Int)<T.nodes∧(b:Int)<T.nodes∧au T=true∧SP T D b a (df T D x.toNat y.toNat):=by
 unfold jy at h
 split at h
 ·rename_i he
  obtain⟨hv,hf,hn,hd⟩:=fQ he
  rw[bu]at hn hd
  obtain⟨a,rfl⟩:=Int.eq_ofNat_of_zero_le hn.1
  obtain⟨b,rfl⟩:=Int.eq_ofNat_of_zero_le hd.1
  refine⟨a,b,rfl,rfl,hn.2,hd.2,hv,?_⟩
  simp only[Int.toNat_natCast]at h ⊢
  exact eL hv hd.2 hn.2 (by split at h<;>omega)
 ·rename_i he
  exact absurd h he
end
theorem IP(l:List cr)(k:Nat)(s:cr)(h:l[k]? =some s):(eS l)[k*2+0]? =some (num s.kind):=vV l k 0 s h (by omega)
theorem IJ(l:List cr)(k:Nat)(s:cr)(h:l[k]? =some s):(eS l)[k*2+1]? =some (num s.num):=vV l k 1 s h (by omega)
noncomputable def Kw(T:ah)(D:List Bool)(x y:Int):Bool:=(((au T&&bR T D)&& !decide (x=y))&&fw T [] x y)&&jV D (df T [] x.toNat y.toNat)
theorem vf{T:ah}{D:List Bool}{x y:Int}(h:fw T D x y=true):jy T D x y=0:=by
 unfold fw at h
 rw[Bool.and_eq_true,decide_eq_true_eq,decide_eq_true_eq]at h
 obtain⟨h1,h2⟩:=h
 obtain⟨hv,hf,hn,hd⟩:=fQ h1
 rw[bu]at hn hd
 obtain⟨a,rfl⟩:=Int.eq_ofNat_of_zero_le hn.1
 obtain⟨b,rfl⟩:=Int.eq_ofNat_of_zero_le hd.1
 simp only[Int.toNat_natCast]at h2
 unfold jy
 rw[if_pos h1,if_neg]
 simp only[Int.toNat_natCast]
 intro h0
 rw[Ak hv hd.2 hn.2 h0]at h2
 omega
section
variable {T:ah} {D:List Bool} {n:Int} {p:List Int}
theorem yw(h:rS T D n p){i k x y:Nat}(hik:i<k)(hk:k≤p.length)(hx:cE T n (p.take i)=(x:Int))(hy:cE T n (p.take k)=(y:Int)):(Kw T D x y&&lW (df T [] x y) (fv p i k))=fD T [] n p i k:=by
 have hb:=h.bare
 have ha:=h.av
 have hv:=h.valid
 obtain⟨x',hx',hxN⟩:=cH hv h.node ha i (by omega)
 obtain⟨y',hy',hyN⟩:=cH hv h.node ha k hk
 have e1:x'=x:=by omega
 have e2:y'=y:=by omega
 subst e1
 subst e2
 rw[Bool.eq_iff_iff,IG hb (by omega) hk hx hy]
 unfold Kw lW
 simp only[Int.toNat_natCast,Bool.and_eq_true,Bool.not_eq_true',decide_eq_true_eq,decide_eq_false_iff_not]
 constructor
 ·rintro⟨⟨⟨_,h3⟩,h4⟩,h5⟩
  exact⟨vf h3,h3,h5⟩
 ·rintro⟨h1,h2,h3⟩
  refine⟨⟨⟨⟨⟨hv,h.fits⟩,fun e=>?_⟩,h2⟩,?_⟩,h3⟩
  ·have e2:x'=y':=by omega
   subst e2
   rw[nX hv (lQ T) hxN hxN]at h1
   have hsp:=eL (D:=[]) hv hxN hxN (by split at h1<;>omega)
   have h6:=hsp.self
   rw[h6]at h3
   have:=ot p (show i≤k by omega) hk
   rw[←h3]at this
   simp at this
   omega
  ·rw[h3,o7]
   exact fun a ha=>h.up a (FF ha)
end
section
variable {P:Program} {σ:bN} {t:b9} {o:Oper}
end
noncomputable def yV(T:ah)(n:Int)(p:List Int)(x:Int)(i:Nat):Nat→Nat→Option Nat
 |0,_=>none
 |f+1,j=>if cE T n (p.take j)=x∧fD T [] n p i j=true then some j else yV T n p x i f (j+1)
noncomputable def rZ(T:ah)(n:Int)(p:List Int)(i:Nat)(s:cr):Option Nat:=
 if s.kind=2∧i<p.length∧p.getD i 0=s.num then some (i+1)
 else if s.kind=1 then yV T n p s.num i (p.length - i) (i+1)
 else none
noncomputable def JV(T:ah)(n:Int)(p:List Int):Nat→List cr→Bool
 |i,[]=>decide (i=p.length)
 |i,s::l=>match rZ T n p i s with
  |some j=>JV T n p j l
  |none=>false
def rU(T:ah):Int→List cr→Bool
 |_,[]=>true
 |x,s::l=>if s.kind=1∧s.num=x then false else rU T (zd T s x).1 l
section
variable {T:ah} {n:Int} {p:List Int}
theorem sO{x:Int}{i:Nat}:∀(f j k:Nat),yV T n p x i f j=some k→j≤k∧k<j+f∧cE T n (p.take k)=x∧fD T [] n p i k=true∧∀m,j≤m→m<k→¬(cE T n (p.take m)=x∧fD T [] n p i m=true)
 |0,j,k,h=>by simp[yV]at h
 |f+1,j,k,h=>by
  simp only[yV]at h
  split at h
  ·rename_i h1;cases h;exact⟨Nat.le_refl _,by omega,h1.1,h1.2,fun m h2 h3=>by omega⟩
  ·rename_i h1
   obtain⟨a,b,c,d,e⟩:=sO f (j+1) k h
   refine⟨by omega,by omega,c,d,fun m h2 h3=>?_⟩
   by_cases hm:m=j
   ·subst hm;exact h1
   ·exact e m (by omega) h3
theorem A6{x:Int}{i:Nat}:∀(f j k:Nat),j≤k→k<j+f→cE T n (p.take k)=x→fD T [] n p i k=true→(∀m,j≤m→m<k→¬(cE T n (p.take m)=x∧fD T [] n p i m=true))→yV T n p x i f j=some k
 |0,j,k,h1,h2,_,_,_=>by omega
 |f+1,j,k,h1,h2,h3,h4,h5=>by
  simp only[yV]
  by_cases e:j=k
  ·subst e;rw[if_pos ⟨h3,h4⟩]
  ·rw[if_neg (h5 j (Nat.le_refl _) (by omega))]
   exact A6 f (j+1) k (by omega) (by omega) h3 h4 (fun m h6 h7=>h5 m (by omega) h7)
theorem rE(h:rS T [] n p){i:Nat}(hi:i≤p.length)(s:cr)(j:Nat):rZ T n p i s=some j↔jE T [] n p i s=some j∧¬(s.kind=1∧s.num=cE T n (p.take i)):=by
 unfold rZ jE
 by_cases h1:s.kind=2∧i<p.length∧p.getD i 0=s.num
 ·rw[if_pos h1,if_pos h1]
  constructor
  ·intro e;exact⟨e,fun e2=>by omega⟩
  ·intro e;exact e.1
 ·rw[if_neg h1,if_neg h1]
  by_cases h2:s.kind=1
  ·rw[if_pos h2,if_pos h2]
   constructor
   ·intro e
    obtain⟨a,b,c,d,_⟩:=sO _ _ _ e
    have hf:=o6 h (show i≤j by omega) (by omega) d
    rw[c]at hf
    rw[hf,if_pos ⟨c,d⟩]
    refine⟨rfl,fun e2=>?_⟩
    have:=uK (T:=T) (n:=n) (p:=p) s.num (p.length - i) i i (Nat.le_refl _) (by omega) e2.2.symm (fun k h3 h4=>by omega)
    omega
   ·rintro⟨e1,e2⟩
    split at e1
    ·rename_i h3
     simp only[Option.some.injEq]at e1
     have hge:=zL (T:=T) (n:=n) (p:=p) s.num (p.length - i) i
     have hno:=Fh (T:=T) (n:=n) (p:=p) s.num (p.length - i) i
     rw[e1]at h3 hge hno
     have hne:i≠j:=fun e=>e2 ⟨h2,by rw[e];exact h3.1.symm⟩
     exact A6 _ _ _ (by omega) (by omega) h3.1 h3.2 (fun m h4 h5 h6=>hno m (by omega) h5 h6.1)
    ·cases e1
  ·rw[if_neg h2,if_neg h2]
   simp
theorem step_end(h:rS T [] n p){i j:Nat}(hi:i≤p.length){s:cr}(hst:jE T [] n p i s=some j):(zd T s (cE T n (p.take i))).1=cE T n (p.take j)∧(zd T s (cE T n (p.take i))).2=0∧j≤p.length:=by
 have ha:=h.av
 have hv:=h.valid
 obtain⟨x,hx,hxN⟩:=cH hv h.node ha i hi
 have hnb:bH T (x:Int)=true:=bu.2 ⟨by omega,hxN⟩
 rw[hx]
 have hss:=hst
 unfold jE at hst
 split at hst
 ·rename_i h1
  cases hst
  have hab:=ha _ (cf (d:=0) h1.2.1)
  have htl:=ua h h1.2.1 hx
  have hed:=gU T n p i h1.2.1
  rw[h1.2.2]at hab htl hed
  have hsg:sz T s=true:=by unfold sz;rw[if_neg (by omega),if_pos h1.1];exact hab
  have hes:zd T s x=(cE T n (p.take (i+1)),0):=by
   unfold zd
   rw[if_neg (by rw[hsg];simp),if_neg (by rw[hnb];simp),if_neg (by omega),if_pos h1.1,if_neg (by rw[htl];simp),hed]
  rw[hes]
  exact⟨rfl,rfl,h1.2.1⟩
 ·split at hst
  ·rename_i h2
   split at hst
   ·rename_i h3
    simp only[Option.some.injEq]at hst
    have hge:=zL (T:=T) (n:=n) (p:=p) s.num (p.length - i) i
    rw[hst]at h3 hge
    obtain⟨y,hy,hyN⟩:=cH hv h.node ha j (by omega)
    have hsy:s.num=(y:Int):=by rw[←h3.1];exact hy
    have hsg:sz T s=true:=by unfold sz;rw[if_pos h2,hsy];exact bu.2 ⟨by omega,hyN⟩
    have hes:zd T s x=(s.num,0):=by
     unfold zd
     rw[if_neg (by rw[hsg];simp),if_neg (by rw[hnb];simp),if_pos h2]
    rw[hes]
    exact⟨h3.1.symm,rfl,by omega⟩
   ·cases hst
  ·cases hst
theorem Dm(h:rS T [] n p):∀(l:List cr) (i:Nat),i≤p.length→JV T n p i l=(Ik T [] n p i l&&rU T (cE T n (p.take i)) l)
 | [],i,hi=>by simp[JV,Ik,rU]
 |s::l,i,hi=>by
  simp only[JV,Ik,rU]
  cases hX:jE T [] n p i s with
  |none=>
   have hP:rZ T n p i s=none:=by
    cases hP:rZ T n p i s with
    |none=>rfl
    |some j=>have:=((rE h hi s j).1 hP).1;rw[hX]at this;cases this
   rw[hP]
   rfl
  |some j=>
   obtain⟨e1,e2,e3⟩:=step_end h hi hX
   by_cases hd:s.kind=1∧s.num=cE T n (p.take i)
   ·have hP:rZ T n p i s=none:=by
     cases hP:rZ T n p i s with
     |none=>rfl
     |some j=>exact absurd hd ((rE h hi s j).1 hP).2
    rw[hP,if_pos hd]
    simp
   ·rw[(rE h hi s j).2 ⟨hX,hd⟩,if_neg hd,e1]
    simp only
    exact Dm h l j e3
theorem vO(h:rS T [] n p):∀(f i:Nat),i≤p.length→rU T (cE T n (p.take i)) (jw T [] n p f i)=true
 |f,i,hi=>by
  by_cases hlt:i<p.length
  ·cases f with
   |zero=>rfl
   |succ f=>
    cases ht:mV (fD T [] n p i) i p.length with
    |none=>
     rw[od hlt (fun k h1 h2=>lR _ ht k h1 h2)]
     have hst:jE T [] n p i ⟨2,p.getD i 0⟩=some (i+1):=by unfold jE;rw[if_pos ⟨rfl,hlt,rfl⟩]
     simp only[rU]
     rw[if_neg (by rintro⟨h1,_⟩;omega),(step_end h hi hst).1]
     exact vO h f (i+1) (by omega)
    |some j=>
     obtain⟨t1,t2,t3,t4⟩:=uZ _ _ ht
     rw[lB hlt t1 t2 t3 t4]
     have hf:=o6 h (show i≤j by omega) t2 t3
     have hst:jE T [] n p i ⟨1,cE T n (p.take j)⟩=some j:=by
      unfold jE
      simp only
      rw[if_neg (by omega),if_pos trivial,hf,if_pos ⟨rfl,t3⟩]
     simp only[rU]
     rw[if_neg,(step_end h hi hst).1]
     ·exact vO h f j t2
     ·rintro⟨_,h2⟩
      have:=uK (T:=T) (n:=n) (p:=p) (cE T n (p.take j)) (p.length - i) i i (Nat.le_refl _) (by omega) h2.symm (fun k h3 h4=>by omega)
      omega
  ·rw[qu f i (by omega)]
   rfl
end
noncomputable def KG(T:ah)(D:List Bool)(l:List cr)(n:Int)(p:List Int):Bool:=if ft T D n p=0 then JV T n p 0 l else false
open eX
theorem yg(p:List Int)(u:PV):aW Tryz.prog 125 [aw p,.ptr 0 0] [some (.cells 43 [u])] (fun r σ'=>r= .tuple []∧σ'=[some (.cells 43 [aw p])]):=by
 refine bO Tryz.func125 I Tryz.ntmps125 I<|bx<|ax 2 I<|aH [] I ?_
 exact⟨_,aE.of I,rfl,rfl⟩
theorem zV(T:ah)(D:List Bool)(n d:Int):aW Tryz.prog 106 [aZ T,bq D,num n,num d,.func 125 [.ptr 0 0]] [some (.cells 43 [.raw (.slice none 0 0)])] (fun r σ'=>r=num (jy T D n d)∧σ'=[some (.cells 43 [if jy T D n d=0 then aw (df T D n.toNat d.toNat) else .raw (.slice none 0 0)])]):=by
 refine bO Tryz.func106 I Tryz.ntmps106 I<|af (.a 2 I<|.k [1,2,3,4,5] I)<|af (.a 4 I<|.c rfl (tH T D n d) I<|.a 5 I<|.k [4,11,12] I)<|an<|af (.a 2 I<|.k [4,11,12,22] I)<|aj I (fun h1=>?_) (fun h1=>?_)
 ·have he:jy T D n d=0:=tt h1
  refine bx<|ax 2 I<|b7 I I (aW.mono (yg _ _) (fun r σ' h=>?_))
  obtain⟨rfl,rfl⟩:=h
  refine aH [12] I ?_
  refine af (.a 2 I<|.k [10] I)<|az ?_
  first
   |exact⟨_,aE.of rfl,rfl,by rw[if_neg he]⟩
   |exact⟨_,aE.of rfl,rfl,by simp only[if_pos he]⟩
 ·have he:¬jy T D n d=0:=ff h1
  refine ak<|af (.a 2 I<|.k [10] I)<|az ?_
  first
   |exact⟨_,aE.of rfl,rfl,by rw[if_neg he]⟩
   |exact⟨_,aE.of rfl,rfl,by simp only[if_pos he]⟩
theorem yG(T:ah)(D:List Bool)(n d:Int):Can Tryz.prog 108 [aZ T,bq D,num n,num d] (· =gu (jy T D n d) (df T D n.toNat d.toNat)):=by
 obtain⟨u,hu⟩:∃u:PV,(if jy T D n d=0 then aw (df T D n.toNat d.toNat) else .raw (.slice none 0 0))=u:=⟨_,rfl⟩
 have hf:=zV T D n d
 rw[hu]at hf
 refine aT Tryz.func108 I Tryz.ntmps108 I<|af (.a 3 I<|.k [1,2,3,4] I)<|aR<|ax 1 I<|aH [1,2,3,4,10] I ?_
 refine aR<|ax 5 I<|b7 I I (aW.mono hf (fun r σ' h=>?_))
 obtain⟨rfl,rfl⟩:=h
 refine ax 1 I<|aH [10,11] I ?_
 refine af (.v (aK I ((show some u=some u from rfl))) I<|.a 3 I<|.k [8,9] I)<|az<|⟨_,_,aE.of I,aD.bY (ai.cons (y:=aw (if jy T D n d=0 then df T D n.toNat d.toNat else [])) ?_ (ai.cons aD.pure ai.nil)),rfl⟩
 rw[←hu]
 by_cases he:jy T D n d=0
 ·rw[if_pos he,if_pos he];exact aD.pure
 ·rw[if_neg he,if_neg he];exact aD.cc
end
section
open Go.RowKit cj Mem Net
section
variable {T:ah} {D:List Bool}
theorem yc{d:Nat}:∀ {m:Nat} {q:List Int},Ch T D d m q→(q=[]∨cL T m=false)→dp T false m q=0
 |m,[],_,_=>rfl
 |m,a::q,h,ho=>by
  cases h with
  | @cons _ b k _ ha ht hu hm hov hp=>
   rw[mv (dh.2 ⟨by omega,by omega⟩) (by rw[Int.toNat_natCast];exact ht) (.inr (by rcases ho with h|h;cases h;rw[Int.toNat_natCast];exact h)),Int.toNat_natCast,hm]
   exact yc hp hov
theorem uI{d m:Nat}{q:List Int}(h:Ch T D d m q):dp T true m q=0:=by
 cases h with
 |nil=>rfl
 | @cons _ b k q ha ht hu hm hov hp=>
  rw[mv (dh.2 ⟨by omega,by omega⟩) (by rw[Int.toNat_natCast];exact ht) (.inl rfl),Int.toNat_natCast,hm]
  exact yc hp hov
theorem Ch.bare{d m:Nat}{q:List Int}(h:Ch T D d m q):Ch T [] d m q:=by
 induction h with
 |nil=>exact .nil
 |cons ha ht hu hm ho hp ih=>exact .cons ha ht (by simp[bF]) hm ho ih
theorem Ch.mask{d m:Nat}{q:List Int}(h:Ch T [] d m q)(hc:∀a∈q,bF D a.toNat=false):Ch T D d m q:=by
 induction h with
 |nil=>exact .nil
 | @cons n a m p ha ht hu hm ho hp ih=>exact .cons ha ht (by have:=hc a (by simp);rw[Int.toNat_natCast]at this;exact this) hm ho (ih fun b hb=>hc b (by simp[hb]))
structure iD (T:ah) (D:List Bool) (x y:Nat) (p:List Int):Prop where
 valid:au T=true
 fits:bR T D=true
 ne:x≠y
 hx:(x:Int)<T.nodes
 hy:(y:Int)<T.nodes
 uniq:fw T [] x y=true
 sp:SP T [] y x p
 up:∀a∈p,bF D a.toNat=false
theorem HF{x y:Int}(h:Kw T D x y=true):∃a b:Nat,x=(a:Int)∧y=(b:Int)∧iD T D a b (df T [] a b)∧jy T [] x y=0:=by
 unfold Kw at h
 simp only[Bool.and_eq_true,Bool.not_eq_true',decide_eq_false_iff_not]at h
 obtain⟨⟨⟨⟨hv,hf⟩,hne⟩,hu⟩,hc⟩:=h
 obtain⟨a,b,rfl,rfl,ha,hb,_,hsp⟩:=o9 (vf hu)
 simp only[Int.toNat_natCast]at hsp hc
 exact⟨a,b,rfl,rfl,⟨hv,hf,fun e=>hne (by rw[e]),ha,hb,hu,hsp,o7.1 hc⟩,vf hu⟩
variable {x y:Nat} {p:List Int}
theorem iD.pos(h:iD T D x y p):0<p.length:=by
 have hsp:=h.sp
 cases hsp with
 |nil=>exact absurd rfl h.ne
 |cons _ _ _=>simp
theorem iD.JD(h:iD T D x y p):rS T D x p:=⟨h.valid,h.fits,bu.2 ⟨by omega,h.hx⟩,uI h.sp.ch,h.up⟩
theorem iD.fL(h:iD T D x y p):dL T [] y x=1:=(xR h.valid (lQ T) h.hx h.hy).1 h.uniq
theorem iD.yr(h:iD T D x y p):fD T [] x p 0 p.length=true:=by
 have he:cE T (x:Int) (p.take p.length)=(y:Int):=by rw[List.take_length];exact h.sp.ch.fin
 rw[mH h.JD.bare (Nat.zero_le _) (Nat.le_refl _) (u:=x) I he]
 have:fv p 0 p.length=p:=by unfold fv;simp
 rw[this]
 exact⟨h.sp,h.fL⟩
theorem iD.part(h:iD T D x y p){i k:Nat}(hik:i≤k)(hk:k<p.length):Kw T D (aN T (p.getD i 0).toNat) (aB T (p.getD k 0).toNat)=true:=by
 have hF:=h.JD
 have ha:=hF.av
 have hc:=GP hF.bare (i:=0) (j:=p.length) (i':=i) (j':=k+1) (Nat.zero_le _) (by omega) (by omega) (Nat.le_refl _) h.yr
 obtain⟨u,hu,huN⟩:=cH h.valid hF.node ha i (by omega)
 obtain⟨v,hv,hvN⟩:=cH h.valid hF.node ha (k+1) (by omega)
 rw[ua hF (by omega) hu,←gU T x p k hk,hv]
 rw[←yw hF (by omega) (by omega) hu hv,Bool.and_eq_true]at hc
 exact hc.1
theorem iD.next(h:iD T D x y p){i u:Nat}(hi:i<p.length)(hu:cE T x (p.take i)=(u:Int)):bz T [] u y=[p.getD i 0]∧bz T D u y=[p.getD i 0]∧(u:Int)<T.nodes:=by
 have hF:=h.JD
 have hv:=h.valid
 have ha:=hF.av
 obtain⟨u',hu',huN⟩:=cH hv hF.node ha i (by omega)
 have:u'=u:=by omega
 subst this
 have hfin:cE T (x:Int) (p.take p.length)=(y:Int):=by rw[List.take_length];exact h.sp.ch.fin
 have hch:=hF.bare.ch (i:=0) (j:=i) (Nat.zero_le _) (by omega) (u:=x) I hu
 have hpp:fv p 0 i++fv p i p.length=p:=by rw[←kz p (Nat.zero_le _) (by omega)];unfold fv;simp
 have hsp:=h.sp
 rw[←hpp]at hsp
 obtain⟨s1,s2⟩:=hsp.suffix hv h.hy h.fL hch
 have hdr:fv p i p.length=p.getD i 0::p.drop (i+1):=by
  unfold fv
  rw[List.take_of_length_le (by simp),drop_cons p i hi]
 rw[hdr]at s1
 have hup:∀c∈p.getD i 0::p.drop (i+1),bF D c.toNat=false:=fun c hc=>by
  rw[←drop_cons p i hi]at hc
  exact h.up c (List.mem_of_mem_drop hc)
 have hchD:=s1.ch.mask hup
 have hd0:=s1.cost hv h.hy
 generalize p.getD i 0=a0 at*
 generalize p.drop (i+1)=q at*
 cases s1 with
 | @cons _ a m _ hn hm hq=>
  obtain⟨b,hb,_,_⟩:=uO hv h.hy huN hn.ne s2
  have hab:=fN hn ((aM hv).cost a hn.iu).1
  rw[hb]at hab
  simp only[List.mem_singleton]at hab
  rw[←hab]at hb
  refine⟨hb,?_,huN⟩
  have hDle:=hchD.le hv h.hy
  have mono:∀k:Nat,(k:Int)<T.nodes→0≤dN T D y k→0≤dN T [] y k∧dN T [] y k≤dN T D y k:=fun k hk h0=>by
   have hs:=eL hv h.hy hk h0
   have:=hs.ch.bare.le hv h.hy
   rw[←(hs.cost hv h.hy).1]at this
   exact this
  have hmu:=mono u' huN hDle.1
  have heq:dN T D y u'=dN T [] y u':=by omega
  have hall:∀c∈bz T D u' y,c=(a:Int):=fun c hc=>by
   obtain⟨k,rfl,hk⟩:=cT hc
   obtain⟨z,hz,hzN⟩:=di hv hk.iu
   have g:=hk.dN hz
   have g2:=mono z hzN g.1
   have hs:=eL (D:=[]) hv h.hy hzN g2.1
   have hch2:Ch T [] y u' ((k:Int)::df T [] z y):=.cons hk.iu hk.tail (by simp[bF]) hz (by
    rcases hk.pass with e|e
    ·left
     have:z=y:=by omega
     subst this
     exact hs.self
    ·right
     rw[hz,Int.toNat_natCast]at e
     exact e) hs.ch
   have g3:=hch2.le hv h.hy
   rw[fR,←(hs.cost hv h.hy).1,Int.toNat_natCast]at g3
   have hnr:gW T [] u' y k:=⟨hk.iu,hk.tail,by simp[bF],hk.ne,by rw[hz,Int.toNat_natCast];exact g2.1,hk.pass,by
    rw[hz,Int.toNat_natCast]
    show dN T [] y u'=dN T [] y z+bS T k
    omega⟩
   have:=fN hnr ((aM hv).cost k hk.iu).1
   rw[hb]at this
   simpa using this
  obtain⟨k,hk⟩:=kC (D:=D) hv huN h.hy hn.ne hDle.1
  have hmem:=fN hk ((aM hv).cost k hk.iu).1
  have hso:=qa T D u' y
  cases hx:bz T D u' y with
  |nil=>rw[hx]at hmem;cases hmem
  |cons c l=>
   rw[hx]at hall hso
   have hc:=hall c (by simp)
   subst hc
   cases l with
   |nil=>rfl
   |cons c2 l=>
    have:=hall c2 (by simp)
    have h3:=(List.pairwise_cons.1 hso).1 c2 (by simp)
    omega
end
def Kd(k:Nat):List jt:=(List.range k).map fun(i:Nat)=>⟨(i:Int),(((i+1) % 4:Nat):Int),1,1,0,1,0⟩
def AA:ah:=⟨4,[],Kd 4⟩
def Eo(d:Nat):List Int:=match d with
 |0=>[0,1,2,1]
 |1=>[1,0,1,2]
 |2=>[2,1,0,1]
 |_=>[1,2,1,0]
def JP(T:ah)(n:Nat)(out:List Int)(a:Nat):Bool:=decide (0≤at' out (cz T false a))&&(decide (cz T false a=(n:Int))|| !cL T (cz T false a).toNat)
theorem vu(n:Nat)(out:List Int)(a:Nat):Net.Way AA [] n false out a↔JP AA n out a=true:=by
 unfold Net.Way JP
 have:bF [] a=false:=by simp[bF]
 simp[this]
theorem yK(l:List jt)(e:jt):ct l++iQ e=ct (l++[e]):=by simp[ct]
theorem EM{P:Program}{σ:bN}{t:b9}{o:Oper}{ty:TypeId}{v0 v1 c0 c1:Value}(ho:o.op= .build ty #[(0,.const v0),(1,.const v1)])(hb:P.built ty [(0,v0),(1,v1)]=some #[c0,c1]):bh P σ t o (.agg [.raw c0,.raw c1]):=by
 intro F base E ρ w hρ hS hT
 have hrun:=run_build (P:=P) w ty #[(0,v0),(1,v1)] #[c0,c1] hb
 have h0:ρ (.const v0)=v0:=hρ.const v0
 have h1:ρ (.const v1)=v1:=hρ.const v1
 have hr:(execOp ρ o).run P w= .ok (.value (.agg #[c0,c1])) w:=by
  simp only[execOp,ho,Sem.run_bind,List.map_toArray,List.map_cons,List.map_nil,h0,h1,hrun,Result.andThen_ok,Sem.run_pure]
 rw[hr]
 refine bd (.agg #[c0,c1] _ rfl (fun i x u k1 k2=>?_))
 match i,k1,k2 with
 |0,k1,k2=>simp at k1 k2;subst k1;subst k2;exact .raw _
 |1,k1,k2=>simp at k1 k2;subst k1;subst k2;exact .raw _
 |_+2,k1,k2=>simp at k2
section
variable {P:Program} {σ:bN} {t:b9} {o:Oper}
theorem aW.cc{f:FuncId}{a:PV}{l:List PV}{R:PV→bN→Prop}(h:aW P f (a::bq []::l) σ R):aW P f (a:: .raw (.slice none 0 0)::l) σ R:=fun F base E w vs hS hR=>by
 refine h F base E w vs hS ⟨hR.1,fun i c u h1 h2=>?_⟩
 match i,h2 with
 |0,h2=>exact hR.2 0 c u h1 h2
 |1,h2=>
  simp at h2
  subst h2
  have:=hR.2 1 c _ h1 rfl
  cases this
  exact .cc
 |i+2,h2=>exact hR.2 (i+2) c u h1 h2
end
def lh(T:ah)(D:List Bool)(L:List Int)(m d:Nat):List Int:=if m=d∨L.getD m 0<0 then [] else eB T D L (L.getD m 0) d (bW T m)
def yv(T:ah)(D:List Bool)(L:List Int)(d:Nat):Nat→Nat→Int
 |0,m=>if m=d then 1 else 0
 |f+1,m=>if m=d then 1 else(lh T D L m d).foldl (fun c a=>min 2 (c+yv T D L d f (aB T a.toNat).toNat)) 0
def Bm(y u:Nat)(c:Int):Bool:=decide ((Eo y).getD u 0=c)&&(decide (cF AA [] (u:Int) (y:Int)=0)&&decide (yv AA [] (Eo y) y ((Eo y).getD u 0).toNat u=1))
section
variable {H:Type} {enc:TypeId×Value→H} {W:World}
end
open Go.WideShapes
section
variable {H:Type} {enc:TypeId×Value→H} {W:World}
end
section
variable {H:Type} {enc:TypeId×Value→H} {W:World}
end
end
section
open Go.RowKit cj Mem Net
theorem Ch.LM{T:ah}{D:List Bool}{d m:Nat}{q:List Int}(h:Ch T D d m q):∀a∈q,bF D a.toNat=false:=by
 induction h with
 |nil=>intro z hz;cases hz
 | @cons n a m p ha ht hu hm ho hp ih=>
  intro z hz
  rcases List.mem_cons.1 hz with rfl|hz
  ·rw[Int.toNat_natCast];exact hu
  ·exact ih z hz
theorem H0{T:ah}{D:List Bool}{n:Int}{p:List Int}(hp:0<p.length):0<(lq T D n p).length:=by
 unfold lq
 obtain⟨f,hf⟩:∃f,p.length=f+1:=⟨p.length - 1,by omega⟩
 rw[hf]
 simp only[jw]
 rw[if_pos (by omega)]
 cases mV (fD T D n p 0) 0 p.length<;>simp
def yb:List cr→List cr
 | []=>[]
 |s::l=>if s.kind=2 then l else s::l
noncomputable def sE(T:ah)(D:List Bool)(n d:Int):kD:=
 if jy T D n d=0∧n≠d then⟨[(df T D n.toNat d.toNat).getD 0 0],true,yb (lq T [] n (df T D n.toNat d.toNat))⟩ else⟨[],false,[]⟩
structure s5 (T:ah) (D:List Bool) (x y:Nat) (p:List Int):Prop where
 valid:au T=true
 fits:bR T D=true
 ne:x≠y
 hx:(x:Int)<T.nodes
 hy:(y:Int)<T.nodes
 sp:SP T D y x p
theorem F5{T:ah}{D:List Bool}{n d:Int}(h:jy T D n d=0)(hne:n≠d):∃a b:Nat,n=(a:Int)∧d=(b:Int)∧s5 T D a b (df T D a b):=by
 have hf:bR T D=true:=by
  have h':=h
  unfold jy at h'
  split at h'
  ·rename_i h1;exact(fQ h1).2.1
  ·rename_i h1;exact absurd h' h1
 obtain⟨a,b,rfl,rfl,ha,hb,hv,hsp⟩:=o9 h
 simp only[Int.toNat_natCast]at hsp
 exact⟨a,b,rfl,rfl,hv,hf,fun e=>hne (by rw[e]),ha,hb,hsp⟩
section
variable {T:ah} {D:List Bool} {x y:Nat} {p:List Int}
theorem s5.pos(h:s5 T D x y p):0<p.length:=by
 have hsp:=h.sp
 cases hsp with
 |nil=>exact absurd rfl h.ne
 |cons _ _ _=>simp
theorem s5.JD(h:s5 T D x y p):rS T D x p:=⟨h.valid,h.fits,bu.2 ⟨by omega,h.hx⟩,uI h.sp.ch,h.sp.ch.LM⟩
theorem s5.zero(h:s5 T D x y p):ft T D x p=0:=yn h.JD
theorem s5.len(h:s5 T D x y p):(p.length:Int)<T.nodes:=h.sp.Fv h.valid h.hy
theorem s5.head(h:s5 T D x y p):p.getD 0 0∈bz T D x y:=by
 have hsp:=h.sp
 cases hsp with
 |nil=>exact absurd rfl h.ne
 | @cons n a m q h1 hm hq=>exact fN h1 ((aM h.valid).cost a h1.iu).1
theorem s5.I6(h:s5 T D x y p):0<(lq T [] x p).length∧(lq T [] x p).length≤p.length:=⟨H0 h.pos,Gj _ _⟩
theorem s5.ck(h:s5 T D x y p):KG T D (lq T [] x p) x p=true:=by
 have hF:=h.JD
 unfold KG
 rw[if_pos h.zero,Dm hF.bare _ 0 (Nat.zero_le _),Bool.and_eq_true]
 exact⟨zy hF.bare _ 0 (Nat.zero_le _) (by omega),vO hF.bare _ 0 (Nat.zero_le _)⟩
theorem v7{n:Int}(hp:0<p.length):∃s l,lq T [] n p=s::l∧(s.kind=1∨s=⟨2,p.getD 0 0⟩):=by
 unfold lq
 obtain⟨f,hf⟩:∃f,p.length=f+1:=⟨p.length - 1,by omega⟩
 rw[hf]
 simp only[jw]
 rw[if_pos (by omega)]
 cases mV (fD T [] n p 0) 0 p.length with
 |none=>exact⟨_,_,rfl,.inr rfl⟩
 |some j=>exact⟨_,_,rfl,.inl rfl⟩
theorem s5.whole(h:s5 T D x y p):KG T D (yb (lq T [] x p)) x p=true∨KG T D (⟨2,p.getD 0 0⟩::yb (lq T [] x p)) x p=true:=by
 obtain⟨s,l,hl,hs⟩:=v7 (T:=T) (n:=(x:Int)) h.pos
 have hc:=h.ck
 rw[hl]at hc ⊢
 rcases hs with hs|rfl
 ·left
  simp only[yb]
  rw[if_neg (by omega)]
  exact hc
 ·right
  exact hc
end
theorem Am{T:ah}{D:List Bool}{x y:Nat}(h:s5 T D x y (df T D x y)):sE T D x y=⟨[(df T D x y).getD 0 0],true,yb (lq T [] x (df T D x y))⟩:=by
 unfold sE
 rw[if_pos]
 ·simp only[Int.toNat_natCast]
 ·refine⟨?_,fun e=>h.ne (by omega)⟩
  rw[nX h.valid h.fits h.hx h.hy,if_neg]
  have:=(h.sp.cost h.valid h.hy).2
  omega
theorem FY{T:ah}{D:List Bool}{n d:Int}(h:¬(jy T D n d=0∧n≠d)):sE T D n d=⟨[],false,[]⟩:=if_neg h
noncomputable def KW(T:ah)(D:List Bool)(n:Int)(k:Nat):List kD:=(List.range k).map fun(d:Nat)=>sE T D n (d:Int)
theorem HB{T:ah}{D:List Bool}{n k d:Nat}(h:d<k):(vR T D n k)[d]? =some ⟨bz T D n d,false,[]⟩:=by simp[vR,h]
noncomputable def Lb(T:ah)(D:List Bool)(n:Nat):eN:=⟨n,KW T D n T.nodes.toNat,fX D (bW T n)⟩
theorem iD.same{T:ah}{D:List Bool}{x y:Nat}{p:List Int}(h:iD T D x y p):df T D x y=p∧s5 T D x y p∧lq T [] x p=[⟨1,(y:Int)⟩]:=by
 have hv:=h.valid
 have hch:=h.sp.ch.mask h.up
 have h1:=hch.le hv h.hy
 have h0:=h.sp.cost hv h.hy
 have hq:=eL (D:=D) hv h.hy h.hx h1.1
 have hqc:=hq.cost hv h.hy
 have hqb:=hq.ch.bare
 have h2:=hqb.le hv h.hy
 have hq':=hqb.sp hv h.hy (by omega)
 have he:df T D x y=p:=hq'.unique hv h.hy h.sp h.fL
 have hP:s5 T D x y p:=⟨hv,h.fits,h.ne,h.hx,h.hy,by rw[←he];exact hq⟩
 refine⟨he,hP,?_⟩
 unfold lq
 obtain⟨f,hf⟩:∃f,p.length=f+1:=⟨p.length - 1,by have:=h.pos;omega⟩
 rw[hf,lB (j:=p.length) h.pos h.pos (Nat.le_refl _) h.yr (fun k h3 h4=>by omega),qu _ _ (Nat.le_refl _),List.take_length,h.sp.ch.fin]
theorem iD.GM{T:ah}{D:List Bool}{x y:Nat}{p:List Int}(h:iD T D x y p):bz T [] x y=[p.getD 0 0]∧bz T D x y=[p.getD 0 0]∧sE T D x y=⟨[p.getD 0 0],true,[⟨1,(y:Int)⟩]⟩:=by
 obtain⟨h1,h2,h3⟩:=h.same
 obtain⟨h4,h5,_⟩:=h.next (i:=0) h.pos (u:=x) I
 refine⟨h4,h5,?_⟩
 rw[←h1]at h2
 rw[Am h2,h1,h3]
 rfl
open eX
section
variable {P:Program} {σ:bN} {t:b9} {o:Oper} {N L:Nat} {ops:Array Oper}
theorem vC{rest:List Oper}{K:St→Prop}{d:Nat}{x y:Operand}{ty tz:TypeId}{xs:List PV}(ho:o.op= .binOp .eql ty x y tz)(hk:qe P ty=true)(hx:aA t x=some (.slice 0 xs))(hy:aA t y=some (.raw (.slice none 0 0)))(hd:o.dst=some d)(hw:dP ops t o=some true)(hN:Nat.blt d N=true)
  (h:∀b,WR P N L ops rest ⟨(d,.raw (.bool b))::t,σ⟩ K):WR P N L ops (o::rest) ⟨t,σ⟩ K:=by
 refine kE hw fun F base E a w hs next Q hn=>?_
 obtain⟨e,hu⟩:=mB hk
 have h1:=aq (dx a) hs.tmp hx
 have h2:=aq (dx a) hs.tmp hy
 generalize hz:a.eval x=z at h1
 generalize hz':a.eval y=z' at h2
 cases h2
 obtain⟨p,c,rfl,_,_⟩:=nT h1
 have hrun:=Lib.run_eql_slice_nil w ty e p 0 c 0 0 hu
 have hg:∀a n c b m d,(eqGuard .eql ty x y (.slice a n c) (.slice b m d)).run P w= .ok () w:=fun _ _ _ _ _ _=>rfl
 have hU:fH P w (fun v w'=>cu E w' v (.raw (.bool p.isNone))) ((execOp a.eval o).run P w):=by
  simp only[execOp,ho,hz,hz',Sem.run_bind,Sem.run_pure,Result.andThen_ok,hg,hrun]
  exact bd (.raw _)
 refine kY hU fun v w' hE hv=>hn _ _ _ E (h p.isNone) ?_ (.ext hE) (Below.fB hE hs.sat.bl)
 rw[hd]
 exact hs.put (hs.sat.ext hE) (.ext hE) hN hv
theorem qT{ty e s n h:Nat}{x hi' mx:Operand}{xs:List PV}{k k':IntKind}{hii mi:Int}(ho:o.op= .slice ty x none (some hi') (some mx))(he:yq P ty=some (e,s))(hx:aA t x=some (.slice n xs))(hhi:aA t hi'=some (.raw (.int k hii)))(hmx:aA t mx=some (.raw (.int k' mi)))(hxl:xs.length=n*s)(hli:hii=(h:Int))(hmi:mi=(h:Int))(hl:h≤n):
  bh P σ t o (.slice h (xs.take (h*s))):=by
 intro F base E ρ w hρ hS hT
 have h1:=aq hρ hT hx
 have h2:=aq hρ hT hhi
 have h3:=aq hρ hT hmx
 obtain⟨hu,i,hi,hs⟩:=gE he
 generalize hz:ρ x=v at h1
 generalize hz':ρ hi'=u at h2
 generalize hz2:ρ mx=u2 at h3
 cases h2
 cases h3
 subst hli
 subst hmi
 obtain⟨a,c,rfl,hc1,hc2⟩:=nT h1
 have hR:=qF (s:=s) (l:=0) h1 hxl (Nat.zero_le _) hl (Nat.le_refl h) (Nat.le_trans hl hc1)
 have hrun:(Instr.sliceAt ty (.slice a n c) none (some (.int k (h:Int))) (some (.int k' (h:Int)))).run P w= .ok (.slice (if h=0 then a else a.map (·.add (0*s))) (h - 0) (h - 0)) w:=by
  have:h≤c:=Nat.le_trans hl hc1
  simp[Instr.sliceAt,run_underlying hu,Instr.slice,Instr.sliceBounds,Instr.sliceBound,asIntOf,this,sizeOf,typeInfo,hi]
 simp only[execOp,ho,hz,hz',hz2,Option.map_some,Option.map_none,Sem.run_bind,hrun,Result.andThen_ok,Sem.run_pure]
 refine bd ?_
 simpa using hR
end
theorem Lx:qe Tryz.prog 47=true:=by kernel_rfl
theorem nC(l:List cr)(hl:l.length≤1000):Can Tryz.prog 110 [cN l] (· =cN l):=by
 refine aT Tryz.func110 I Tryz.ntmps110 I<|af (.a 1 I<|.k [0] I)<|an<|aR (WR.mono (K:=fun s=>∃b:Bool,s=⟨[(0,cN l),(4,.raw (.bool b))],[]⟩∧(b=true→l=[])) ?_ ?_)
 ·cases l with
  |nil=>exact ax 1 rfl<|vC rfl Lx rfl rfl rfl rfl rfl fun b=>aH [0,4] rfl ⟨b,rfl,fun _=>rfl⟩
  |cons a l=>exact ax 1 rfl<|bA (je rfl Lx rfl rfl (Nat.succ_pos _)) rfl rfl rfl<|aH [0,4] rfl ⟨_,rfl,fun h=>by cases h⟩
 rintro _ ⟨b,rfl,hb⟩
 refine aj I (fun hc=>?_) (fun hc=>?_)
 ·have:l=[]:=hb hc
  subst this
  exact af (.a 1 I<|.k [2] I)<|az<|⟨_,_,aE.of I,aD.cc,rfl⟩
 ·refine ak<|aR<|cg (fu I (bG.sl.get I)) I<|ax 1 I<|cg (bC I (bG.rk.get I) I I I (mG l) (by unfold maxLen;omega)) I<|ax 1 I<|aH [2] I ?_
  refine az<|⟨_,_,aE.of I,aD.dA (xs:=eS l) (ys:=eS l) I ai.pure,?_⟩
  rw[Nat.zero_add];rfl
theorem me{P:Program}{σ:bN}{t:b9}{o:Oper}{ty:TypeId}{x lo:Operand}{s:cr}{l:List cr}{k:IntKind}(ho:o.op= .slice ty x (some lo) none none)(he:yq P ty=some (112,2))(hx:aA t x=some (.slice (s::l).length (eS (s::l))))(hlo:aA t lo=some (.raw (.int k 1))):bh P σ t o (.slice l.length (eS l)):=by
 have h:=A8 (l:=1) (σ:=σ) ho he hx hlo (mG _) I (by simp)
 have e:((eS (s::l)).drop (1*2)).take (((s::l).length - 1)*2)=eS l:=by
  show(eS l).take _=_
  refine List.take_of_length_le ?_
  rw[mG];simp
 rw[e]at h
 exact h
theorem Hd{T:ah}{D:List Bool}{n d:Int}(h:jy T D n d≠0):sE T D n d=⟨[],false,[]⟩:=FY fun hh=>h hh.1
theorem G6{T:ah}{D:List Bool}{n d:Int}(h:jy T D n d≠0)(h':jy T D n d≠11):cF T D n d=jy T D n d:=by
 unfold jy at*
 split at h<;>simp_all
theorem I0{T:ah}{D:List Bool}{n d:Int}(h:jy T D n d=0∨jy T D n d=11):cF T D n d=0:=by
 unfold jy at h
 split at h
 ·assumption
 ·rename_i hh
  rcases h with h|h
  ·exact h
  ·exfalso
   unfold cF cX at h
   split at h<;>(try split at h)<;>(try split at h)<;>omega
def Ln(e:Int)(x:kD):PV:=.tuple [wq x,num e]
theorem D8(T:ah)(D:List Bool)(n d:Int)(hlk:T.ae.length≤256)(h12:T.nodes≤12):Can Tryz.prog 80 [aZ T,bq D,num n,num d] (· =Ln (cF T D n d) (sE T D n d)):=by
 obtain⟨c1,hc1⟩:∃q,decide (jy T D n d≠0)=q:=⟨_,rfl⟩
 obtain⟨c2,hc2⟩:∃q,decide (jy T D n d≠11)=q:=⟨_,rfl⟩
 refine aT Tryz.func80 I Tryz.ntmps80 I<|aR<|ax 3 I<|aH [1,2,3,4,8] I ?_
 refine af (.a 4 I<|.c rfl (yG T D n d) I<|.a 5 I<|.k [1,2,4,8,10,11] I)<|an<|bP 27 (.raw (.bool (c1&&c2))) [1,2,4,8,10,11] I ?_ ?_
 ·refine .a 1 I<|.v (cD I (hc1)) I<|.a 1 I<|?_
  cases c1
  ·exact .a 3 I<|.k [27,1,2,4,8,10,11] I
  ·exact .a 1 I<|.v (cD I (hc2)) I<|.a 1 I<|.k [27,1,2,4,8,10,11] I
 refine aj I (fun h1=>?_) (fun h1=>?_)
 ·obtain⟨rfl,rfl⟩:=Bool.and_eq_true_iff.1 h1
  have e1:=tt hc1
  rw[Hd e1,G6 e1 (tt hc2)]
  refine aR<|ax 4 I<|aH [8,9] I ?_
  exact az<|⟨_,_,aE.of I,aD.bY (ai.cons (aD.gM (ai.cons aD.cc<|ai.cons aD.pure<|ai.cons aD.cc ai.nil)) (ai.cons aD.pure ai.nil)),rfl⟩
 ·have e2:jy T D n d=0∨jy T D n d=11:=by
   rcases Bool.and_eq_false_iff.1 h1 with h|h
   ·subst h;exact .inl (Classical.byContradiction (ff hc1))
   ·subst h;exact .inr (Classical.byContradiction (ff hc2))
  rw[I0 e2]
  clear h1 hc1 hc2
  obtain⟨P,hP⟩:∃P,(if jy T D n d=0 then df T D n.toNat d.toNat else [])=P:=⟨_,rfl⟩
  rw[hP]
  refine ak<|an<|af (.a 3 I<|.k [1,2,4,8,10,32] I)<|aj I (fun h2=>?_) (fun h2=>?_)
  ·have hno:¬(jy T D n d=0∧n≠d):=by
    rintro⟨h3,h4⟩
    rw[if_pos h3]at hP
    obtain⟨a,b,rfl,rfl,hp⟩:=F5 h3 h4
    have:=tt h2
    have:=hp.pos
    rw[←hP]at*
    simp only[Int.toNat_natCast]at*
    omega
   rw[FY hno]
   refine aR<|ax 3 I<|aH [8,9] I ?_
   exact az<|⟨_,_,aE.of I,aD.bY (ai.cons (aD.gM (ai.cons aD.cc<|ai.cons aD.pure<|ai.cons aD.cc ai.nil)) (ai.cons aD.pure ai.nil)),rfl⟩
  ·obtain⟨p0,q,rfl⟩:∃p0 q,P=p0::q:=by
    cases P with
    |nil=>exact absurd rfl (ff h2)
    |cons p0 q=>exact⟨_,_,rfl⟩
   have h3:jy T D n d=0:=by
    rcases e2 with h|h
    ·exact h
    ·rw[h]at hP;simp at hP
   rw[if_pos h3]at hP
   have h4:n≠d:=by
    rintro rfl
    obtain⟨a,b,ha,hb,_,_,hv',hsp⟩:=o9 h3
    have:a=b:=by omega
    subst this
    have:=hsp.self
    rw[this]at hP
    cases hP
   obtain⟨a,b,rfl,rfl,hp⟩:=F5 h3 h4
   simp only[Int.toNat_natCast]at hP
   have hent:=Am hp
   rw[hP]at hp hent
   have hpl:=hp.len
   obtain⟨s,l,hl,hs⟩:=v7 (T:=T) (n:=(a:Int)) hp.pos
   have hll:=hp.I6.2
   rw[hl]at hent hll
   have hsl:=BQ T D (p0::q) a (by simp only[List.length_cons]at hpl ⊢;omega) hlk h12
   rw[hl]at hsl
   unfold sU at hsl
   rw[hp.zero,if_pos rfl]at hsl
   clear h2 e2 hl hs hp hP h3 h4
   simp only[List.length_cons]at hll hpl
   rw[show(p0::q).getD 0 0=p0 from rfl]at hent
   refine ak<|af (.a 4 I<|.c rfl (hsl) I<|.a 5 I<|.k [8,10,12] I)<|an<|af (.a 1 I<|.v (aJ (0) I (by omega) (by simp only[List.length_cons];omega)) I<|.a 1 I<|.v (aK I ((show(eS (s::l))[0]? =some (num s.kind) from rfl))) I<|.a 1 I<|.k [8,10,12,46] I)<|aj I (fun h5=>?_) (fun h5=>?_)
   ·have hc:yb (s::l)=l:=if_pos (tt h5)
    rw[hc]at hent
    have hlm:l.length≤32:=by omega
    refine aF (.a 1 I<|.v (me I (bG.el.get I) I I) I<|.a 1 I<|.k [8,10,12] I) ?_
    refine an<|af (.a 3 I<|.k [8,10,12,51] I)<|aj I (fun h6=>?_) (fun h6=>?_)
    ·exact absurd (tt h6) (by omega)
    ·clear h6
     refine ak<|lT 5 20 mixed (
      .val [10] I (bn I) I I<|
      .val [53] I (qT (h:=1) I (bG.el.get I) I I I (show(aL (p0::q)).length=_ by simp[aL]) I I (by simp)) I I<|
      .val [12] I (bn I) I I<|
      .val [55] I (eW I (nC _ (by omega))) I I<|
      .val [54,56] I (bn I) I I<|
      .nil) (by kernel_rfl) I I (bm (ks:=[8,57]) I) ?_
     refine ax 2 I<|aH [8,9] I ?_
     exact az<|⟨_,_,aE.of I,aD.bY (ai.cons (aD.gM (ai.cons (aD.pure (p:=aw [p0]))<|ai.cons aD.pure<|ai.cons (aD.pure (p:=cN _)) ai.nil)) (ai.cons aD.pure ai.nil)),by rw[hent];rfl⟩
   ·have hc:yb (s::l)=s::l:=if_neg (ff h5)
    rw[hc]at hent
    have hlm:(s::l).length≤32:=by simp only[List.length_cons];omega
    refine ak<|an<|af (.a 3 I<|.k [8,10,12,51] I)<|aj I (fun h6=>?_) (fun h6=>?_)
    ·exact absurd (tt h6) (by omega)
    ·clear h6
     refine ak<|lT 5 20 mixed (
      .val [10] I (bn I) I I<|
      .val [53] I (qT (h:=1) I (bG.el.get I) I I I (show(aL (p0::q)).length=_ by simp[aL]) I I (by simp)) I I<|
      .val [12] I (bn I) I I<|
      .val [55] I (eW I (nC _ (by omega))) I I<|
      .val [54,56] I (bn I) I I<|
      .nil) (by kernel_rfl) I I (bm (ks:=[8,57]) I) ?_
     refine ax 2 I<|aH [8,9] I ?_
     exact az<|⟨_,_,aE.of I,aD.bY (ai.cons (aD.gM (ai.cons (aD.pure (p:=aw [p0]))<|ai.cons aD.pure<|ai.cons (aD.pure (p:=cN _)) ai.nil)) (ai.cons aD.pure ai.nil)),by rw[hent];rfl⟩
end
section
open Go.RowKit cj Mem
section
variable {P:Program} {σ:bN} {t:b9} {o:Oper}
theorem wL{ty e s:Nat}{x:Operand}(ho:o.op= .call {callee:=.builtin .cap,args:= #[x],argTypes:= #[ty]})(he:yq P ty=some (e,s))(hx:aA t x=some (.raw (.slice none 0 0))):bh P σ t o (.raw (.int .i64 0)):=by
 intro F base E ρ w hρ _ hT
 have h1:=aq hρ hT hx
 obtain⟨hu,_⟩:=gE he
 generalize hz:ρ x=z at h1
 cases h1
 simp[execOp,ho,resolve,invoke,builtin,Builtin.cap_,hz,run_underlying hu,goInt]
 exact bd (.raw _)
theorem zf{ty e s:Nat}{x hi':Operand}{k:IntKind}(ho:o.op= .slice ty x none (some hi') none)(he:yq P ty=some (e,s))(hx:aA t x=some (.raw (.slice none 0 0)))(hhi:aA t hi'=some (.raw (.int k 0))):bh P σ t o (.raw (.slice none 0 0)):=by
 intro F base E ρ w hρ _ hT
 have h1:=aq hρ hT hx
 have h2:=aq hρ hT hhi
 obtain⟨hu,inf,hinf,hs⟩:=gE he
 generalize hz:ρ x=z at h1
 generalize hz':ρ hi'=z' at h2
 cases h1
 cases h2
 have hr:(execOp ρ o).run P w= .ok (.value (.slice none 0 0)) w:=by
  simp[execOp,ho,hz,hz',Instr.sliceAt,run_underlying hu,Instr.slice,Instr.sliceBounds,Instr.sliceBound,asIntOf,sizeOf,typeInfo,hinf]
 rw[hr]
 exact bd (.raw _)
theorem wc{P:Program}(w:World)(t tx ty e:TypeId)(i:TypeInfo)(z:Value)(ht:P.underlying t=some (.slice e))(hx:P.underlying tx=some (.int .i64))(hi:P.info? e=some i)(hz:i.zero=some z)(hp:0<i.size)(n:Nat)
  (h0:0<n) (h63:(n:Int)≤9223372036854775807) (h48:n*i.bytes≤281474976710656):
  (Builtin.append_ #[t,tx] ty #[.slice none 0 0,.int .i64 (n:Int)]).run P w=
   .ok (.slice (some ⟨w.heap.size,0,none⟩) n (grownCap w n 0 e)) (w.drew.alloc (.cells (Builtin.zeroCells z.cells n++Builtin.zeroCells z.cells (grownCap w n 0 e - n)) e)):=by
 have hn:n≠0:=by omega
 have hp':i.size≠0:=by omega
 have h63':¬(9223372036854775807<(n:Int)):=by omega
 have h48':¬(281474976710656<Builtin.nextslicecap n 0*i.bytes):=by rw[nextslicecap_zero h0];omega
 have hw:IntKind.i64.wrap (n:Int)=n:=jF (by unfold In64;omega)
 have hb:¬(281474976710656<(n:Int)*(i.bytes:Int)):=by
  have:((n*i.bytes:Nat):Int)≤281474976710656:=by omega
  rw[Int.natCast_mul]at this
  omega
 have qg:¬((n:Int)<0):=by omega
 simp[Builtin.append_,run_underlying ht,run_underlying hx,sizeOf,typeInfo,zeroValue,hi,hz,asInt,asIntOf,hw,hb,qg,hn,hp',h63',h48',Question.forced,run_firstCells_none,newRow,grownCap]
 exact fun h=>absurd h (Nat.mul_ne_zero hn hp')
theorem CF{ty tx e s by':Nat}{z:List Value}{x y:Operand}{n:Nat}{m:Int}(ho:o.op= .call {callee:=.builtin .append,args:= #[x,y],argTypes:= #[ty,tx]})(hk:vY P ty=some (e,s,by',z))(htx:P.underlying tx=some (.int .i64))(hx:aA t x=some (.raw (.slice none 0 0)))(hy:aA t y=some (.raw (.int .i64 m)))(hm:m=(n:Int))(h0:0<n)(hn:n≤maxLen∧n*by'≤281474976710656):
  cM P σ t o (.own σ.length) (σ++[some (.row e s n (dB (z.map .raw) n))]):=by
 intro F base E ρ w hρ hS hT
 have h1:=aq hρ hT hx
 have h2:=aq hρ hT hy
 generalize hz1:ρ x=v1 at h1
 generalize hz2:ρ y=v2 at h2
 cases h1;cases h2
 subst hm
 obtain⟨hu,i,z',hi,hs,hby,hz,hzz,hzs,hpos⟩:=oT hk
 have hsm:n≤9223372036854775807:=by have:=hn.1;simp only[maxLen]at this;omega
 have hrun:=wc (P:=P) w ty tx o.type e i z' hu htx hi hz (by omega) n h0 (by omega) (by rw[hby];exact hn.2)
 have hr:(execOp ρ o).run P w= .ok (.value (.slice (some ⟨w.heap.size,0,none⟩) n (grownCap w n 0 e))) (w.drew.alloc (.cells (Builtin.zeroCells z'.cells n++Builtin.zeroCells z'.cells (grownCap w n 0 e - n)) e)):=by
  simp only[execOp,ho,resolve,invoke,builtin,Sem.run_bind,Sem.run_pure,Result.andThen_ok,List.map_toArray,List.map_cons,List.map_nil,hz1,hz2,hrun]
 have hge:=grownCap_ge w n 0 e
 have hcm:grownCap w n 0 e≤maxLen:=grownCap_le_maxLen w n 0 e hn.1
 have hzc:(Builtin.zeroCells z'.cells n).size=n*s:=by rw[size_zeroCells,hzs]
 have hown:(w.drew.alloc (.cells (Builtin.zeroCells z'.cells n++Builtin.zeroCells z'.cells (grownCap w n 0 e - n)) e)).ownsRow base e s (.slice (some ⟨w.heap.size,0,none⟩) n (grownCap w n 0 e)) n (Builtin.zeroCells z'.cells n).toList:=by
  refine⟨by rw[Array.length_toList,hzc],.inr ⟨w.heap.size,_,_,rfl,hS.bl,heap_alloc_new w.drew _,hge,hcm,?_,?_⟩⟩
  ·simp only[Array.size_append,size_zeroCells,hzs,←Nat.add_mul]
   congr 1
   omega
  ·simp only[Array.toList_append]
   rw[←hzc,←Array.length_toList]
   exact List.take_left
 have hg:w.grownBy (w.drew.alloc (.cells (Builtin.zeroCells z'.cells n++Builtin.zeroCells z'.cells (grownCap w n 0 e - n)) e)) none:=⟨rfl,rfl,rfl,by simp,fun k hk _=>heap_alloc_old w.drew _ hk⟩
 have hR:aV E w (Builtin.zeroCells z'.cells n).toList (dB (z.map .raw) n):=by
  rw[←hzz];exact mO z'.cells n (n*z'.cells.size) I
 obtain⟨a1,a2,a3,a4⟩:=oG hS (ox hg) (fun b h=>by simp[aY]at h;omega) hown hR
 exact⟨_,_,_,.inl hr,a1,a2,a3,a4⟩
end
end
end PW
end Go.Proofs.YteikppbedmmdnaaGreatDoor
