/- Texts of the proof, part 9. -/
import Derived.WideShapes
import Derived.Test.YtnegbdpggideiaaGreatDoorCardMRB8
set_option linter.unusedVariables false
set_option linter.unusedSimpArgs false
set_option maxRecDepth 10000
set_option maxHeartbeats 1000000
namespace Go.Proofs.YtnegbdpggideiaaGreatDoor
namespace PW
open Go.RowKit cH Mem Net
theorem Gy:uv Tryz.prog 143=some (3,37):=by kernel_rfl
theorem Gu:uv Tryz.prog 144=some (125,4):=by kernel_rfl
theorem Kq:Ic Tryz.prog 37=some (.slice none 0 0):=by kernel_rfl
theorem KK:Ic Tryz.prog 4=some (.bool false):=by kernel_rfl
theorem Jj:xC Tryz.prog 37=true:=by kernel_rfl
abbrev GH(n:Int):Value:=.int .i64 n
abbrev HO(p:Int×Int):Value:=.agg (pI p)
theorem HI:iI Tryz.prog 3 GH:=IT Tryz.underlying3
theorem FV:iI Tryz.prog 125 HO:=by
 have h:(Tryz.prog.info? 3).map (·.size)=some 1:=by kernel_rfl
 obtain⟨i,h1,h2⟩:=Option.map_eq_some_iff.1 h
 exact Gz Tryz.underlying125 Tryz.underlying3 h1 h2
theorem DG(a b:Int):Tryz.prog.built 125 [(0,.int .i64 a),(1,.int .i64 b)]=some #[.int .i64 a,.int .i64 b]:=by kernel_rfl
theorem El{P:Program}{σ:cm}{t:cd}{o:Oper}{ty:TypeId}{x y:Operand}{a b:Int}(ho:o.op= .build ty #[(0,x),(1,y)])(hx:aD t x=some (num a))(hy:aD t y=some (num b))(hb:P.built ty [(0,.int .i64 a),(1,.int .i64 b)]=some #[.int .i64 a,.int .i64 b]):br P σ t o (.agg [num a,num b]):=by
 intro F base E ρ w hρ hS hT
 have hrun:=run_build (P:=P) w ty #[(0,.int .i64 a),(1,.int .i64 b)] #[.int .i64 a,.int .i64 b] hb
 have h0:ρ x= .int .i64 a:=dV (ay hρ hT hx)
 have h1:ρ y= .int .i64 b:=dV (ay hρ hT hy)
 have hr:(execOp ρ o).run P w= .ok (.value (.agg #[.int .i64 a,.int .i64 b])) w:=by
  simp only[execOp,ho,Sem.run_bind,List.map_toArray,List.map_cons,List.map_nil,h0,h1,hrun,Result.andThen_ok,Sem.run_pure]
 rw[hr]
 refine bw (.agg #[.int .i64 a,.int .i64 b] _ rfl (fun i x u k1 k2=>?_))
 match i,k1,k2 with
 |0,k1,k2=>simp at k1 k2;subst k1;subst k2;exact .raw _
 |1,k1,k2=>simp at k1 k2;subst k1;subst k2;exact .raw _
 |_+2,k1,k2=>simp at k2
section
variable {κ:Type} [DecidableEq κ]
theorem ta(k:κ)(p:PV):∀l:List (κ×PV),dq k (iF k p l)=some p
 | []=>by simp[iF,dq]
 |(a,q)::l=>by
  unfold iF
  split
  ·rename_i h;simp[dq,h]
  ·rename_i h;simp only[dq,if_neg h];exact ta k p l
theorem CW{P:Program}{σ:cm}{t:cd}{o:Oper}{x y:Operand}{ty tz:TypeId}{m:Option PV}(ho:o.op= .binOp .eql ty x y tz)(hk:xC P ty=true)(hx:aD t x=some (m.getD (.raw (.slice none 0 0))))(hy:aD t y=some (.raw (.slice none 0 0)))(hm:∀v,m=some v→∃n xs,v= .slice n xs∧0<n):br P σ t o (.raw (.bool m.isNone)):=by
 cases m with
 |none=>exact Ga ho hk hx hy
 |some v=>
  obtain⟨n,xs,rfl,hn⟩:=hm v rfl
  exact oE ho hk hx hy hn
end
def kh(T:an)(D:List Bool)(dm:List (Int×PV)):Prop:=∀k v,(k,v)∈dm→∃d:Nat,k=(d:Int)∧(d:Int)<T.nodes∧v=aw (bn T D d false)
def kF(T:an)(D:List Bool)(um:List ((Int×Int)×PV)):Prop:=∀k v,(k,v)∈um→v=flag (eW T D k.1 k.2)
theorem kh.pure{T:an}{D:List Bool}{dm:List (Int×PV)}(h:kh T D dm):ll (some (.mp (gb GH dm))):=fun b hb=>by
 cases hb
 refine⟨fun i u hu=>?_⟩
 have hm:=List.mem_of_getElem? hu
 simp only[gb,List.map_map,List.mem_map,Function.comp]at hm
 obtain⟨⟨k,v⟩,hkv,rfl⟩:=hm
 obtain⟨d,_,_,hv⟩:=h k v hkv
 show IsPure v
 rw[hv]
 infer_instance
theorem kF.pure{T:an}{D:List Bool}{um:List ((Int×Int)×PV)}(h:kF T D um):ll (some (.mp (gb HO um))):=fun b hb=>by
 cases hb
 refine⟨fun i u hu=>?_⟩
 have hm:=List.mem_of_getElem? hu
 simp only[gb,List.map_map,List.mem_map,Function.comp]at hm
 obtain⟨⟨k,v⟩,hkv,rfl⟩:=hm
 show IsPure v
 rw[h k v hkv]
 infer_instance
theorem kh.set{T:an}{D:List Bool}{dm:List (Int×PV)}(h:kh T D dm){d:Nat}(hd:(d:Int)<T.nodes):kh T D (iF (d:Int) (aw (bn T D d false)) dm):=fun k v hk=>by
 rcases sq hk with e|e
 ·cases e;exact⟨d,rfl,hd,rfl⟩
 ·exact h k v e
theorem kF.set{T:an}{D:List Bool}{um:List ((Int×Int)×PV)}(h:kF T D um)(a b:Int):kF T D (iF (a,b) (flag (eW T D a b)) um):=fun k v hk=>by
 rcases sq hk with e|e
 ·cases e;rfl
 ·exact h k v e
theorem kh.look{T:an}{D:List Bool}{dm:List (Int×PV)}(h:kh T D dm){d:Nat}{v:PV}(hl:dq (d:Int) dm=some v):v=aw (bn T D d false):=by
 obtain⟨d',h1,_,h2⟩:=h _ _ (jd hl)
 have:d'=d:=by omega
 subst this
 exact h2
def vc(T:an)(n:Int)(p:List Int):List Int:=n::p.map fun a=>aW T a.toNat
def uD(T:an)(p:List Int):List Int:=(List.range (p.length+1)).map fun i=>cW T (p.take i)
theorem vg(T:an)(n:Int)(p:List Int):(vc T n p).length=p.length+1:=by simp[vc]
theorem AN(T:an)(p:List Int):(uD T p).length=p.length+1:=by simp[uD]
theorem Dk(T:an)(n:Int)(p:List Int)(k:Nat)(h:k<p.length):vc T n (p.take (k+1))=vc T n (p.take k)++[aW T (p.getD k 0).toNat]:=by
 rw[dc p k 0 h];simp[vc]
theorem Dm(T:an)(p:List Int)(k:Nat)(h:k<p.length):uD T (p.take (k+1))=uD T (p.take k)++[cW T (p.take (k+1))]:=by
 unfold uD
 rw[show(p.take (k+1)).length+1=(p.take k).length+1+1 by simp;omega,List.range_succ,List.map_append]
 congr 1
 ·refine List.map_congr_left fun i hi=>?_
  have:=List.mem_range.1 hi
  rw[List.take_take,List.take_take,Nat.min_eq_left (by simp at this;omega),Nat.min_eq_left (by simp at this;omega)]
 ·simp only[List.map_cons,List.map_nil,List.take_take]
  rw[Nat.min_eq_left (by simp;omega),show(p.take k).length+1=k+1 by simp;omega]
theorem vw(T:an)(n:Int)(p:List Int)(i:Nat)(h:i≤p.length):(vc T n p).getD i 0=cE T n (p.take i):=by
 cases i with
 |zero=>rfl
 |succ i=>
  rw[eZ T n p i (by omega)]
  simp only[vc,List.getD_cons_succ]
  rw[List.getD_eq_getElem?_getD,List.getElem?_map,List.getElem?_eq_getElem (by omega),List.getD_eq_getElem?_getD,List.getElem?_eq_getElem (by omega)]
  rfl
theorem AG(T:an)(p:List Int)(i:Nat)(h:i≤p.length):(uD T p).getD i 0=cW T (p.take i):=by
 unfold uD
 rw[List.getD_eq_getElem?_getD,List.getElem?_map,List.getElem?_range (by omega)]
 rfl
def eQ(T:an)(D:List Bool)(n:Int)(p:List Int):Int:=if(ao T&&bN T D)=true then(if dQ T n p=0 then(if p.any (fun a=>aI D a.toNat) then 7 else 0) else dQ T n p) else 1
abbrev Ke(T:an)(D:List Bool)(p:List Int)(i:Nat):Option cZ:=some (.cells 146 (bq T++[aQ D,aw p,.own i,.own (i+1),.own (i+2),.own (i+3)]))
def BD(T:an)(D:List Bool)(p ns cs:List Int)(dm:List (Int×PV))(um:List ((Int×Int)×PV)):cm:=
 [dW ns,dW cs,some (.mp (gb GH dm)),some (.mp (gb HO um)),Ke T D p 0]
theorem kf{T:an}:∀ {f:Bool} {n:Int} {l:List Int},dw T f n l=0→∀a∈l,eF T a=true
 |f,n,[],_,a,ha=>by cases ha
 |f,n,b::l,h,a,ha=>by
  simp only[dw]at h
  split at h
  ·omega
  ·split at h
   ·omega
   ·rename_i h1 _
    rcases List.mem_cons.1 ha with rfl|ha
    ·simpa using h1
    ·exact kf h a ha
theorem kL{T:an}{n:Int}{p:List Int}(h:dQ T n p=0):ao T=true∧bd T n=true∧dw T true n p=0:=by
 unfold dQ at h
 split at h
 ·rename_i h1
  split at h
  ·rename_i h2;exact⟨h1,h2,h⟩
  ·omega
 ·omega
theorem ic{T:an}(hv:ao T=true){p:List Int}(ha:∀a∈p,eF T a=true):∀k,k≤p.length→0≤cW T (p.take k)∧cW T (p.take k)≤65535*k
 |0,_=>by simp[gX]
 |k+1,h=>by
  have:=ic hv ha k (by omega)
  rw[kO T p k (by omega)]
  have:=(jg hv (ha _ (bO (d:=0) (show k<p.length by omega)))).1
  omega
set_option maxHeartbeats 2000000 in
theorem zJ(T:an)(D:List Bool)(p:List Int)(n:Int)(hp:p.length≤1000)(hlk:T.ae.length≤256):bS Tryz.prog 111 [aN T,aQ D,aw p,num n] [] (fun r σ'=>(eQ T D n p≠0∧r= .tuple [.raw (.pointer none),num (eQ T D n p)])∨(eQ T D n p=0∧r= .tuple [.ptr 4 0,num 0]∧σ'=BD T D p (vc T n p) (uD T p) [] [])):=by
 obtain⟨q1,hq1⟩:∃q,ao T=q:=⟨_,rfl⟩
 obtain⟨q2,hq2⟩:∃q,bN T D=q:=⟨_,rfl⟩
 refine cw Tryz.func111 rfl Tryz.ntmps111 rfl<|ab (.a 3 rfl<|.k [1,2,3,4] rfl)<|ah<|bu 25 (.raw (.bool ((!q1)|| !q2))) [1,2,3,4] rfl ?_ ?_
 ·refine .a 1 rfl<|.c rfl (hq1▸eC T) rfl<|.a 2 rfl<|?_
  cases q1
  ·exact .a 5 rfl<|.k [25,1,2,3,4] rfl
  ·exact .a 2 rfl<|.c rfl (hq2▸lM T D (by omega)) rfl<|.a 2 rfl<|.k [25,1,2,3,4] rfl
 refine ag rfl (fun hc=>?_) (fun hc=>?_)
 ·have he:eQ T D n p=1:=by unfold eQ;rw[hq1,hq2];cases q1<;>cases q2<;>first|rfl|cases hc
  exact ab (.a 2 rfl<|.k [8,9] rfl)<|aq<|⟨_,aA.of rfl,.inl ⟨by rw[he];decide,by rw[he];rfl⟩⟩
 ·have hv:ao T=true:=by rw[hq1];cases q1;cases hc;rfl
  have hf:bN T D=true:=by rw[hq2];cases q2;cases q1<;>cases hc;rfl
  have hvf:(ao T&&bN T D)=true:=by rw[hv,hf];rfl
  refine ai<|ah<|ab (.a 3 rfl<|.c rfl (wW T n p (by omega)) rfl<|.a 7 rfl<|.k [1,2,3,4,12] rfl)<|ab (.a 2 rfl<|.k [1,2,3,4,12,35] rfl)<|ag rfl (fun hx=>?_) (fun hx=>?_)
  ·have hx1:dQ T n p≠0:=tt hx
   have he:eQ T D n p=dQ T n p:=by unfold eQ;rw[if_pos hvf,if_neg hx1]
   exact ab (.a 3 rfl<|.k [8,9] rfl)<|aq<|⟨_,aA.of rfl,.inl ⟨by rw[he];exact hx1,by rw[he];rfl⟩⟩
  ·have hx1:dQ T n p=0:=Classical.byContradiction (ff hx)
   obtain⟨_,hn,hw⟩:=kL hx1
   have ha:=kf hw
   have hcb:=ic hv ha
   refine ai<|aP<|av 4 rfl<|cp (iX (xs:=[_]) rfl (bI.sl.get rfl) ⟨Nat.le_of_ble_eq_true rfl,Nat.le_of_ble_eq_true rfl⟩ rfl rfl) rfl<|cp (iX (xs:=[_]) rfl (bI.sl.get rfl) ⟨Nat.le_of_ble_eq_true rfl,Nat.le_of_ble_eq_true rfl⟩ rfl rfl) rfl<|cp (pH GH rfl) rfl<|cp (pH HO rfl) rfl<|av 1 rfl<|cp (fS rfl rfl rfl) rfl<|av 1 rfl<|aG [1,2,4,13] rfl ?_
   refine ab (.a 1 rfl<|.k [1,2,4,13,14] rfl)<|ah<|ab (.a 3 rfl<|.k [1,4,13,14,47,48,49] rfl)<|au<|eu [1,4,13,14,47,48,49] rfl<|bf (fun r st=>∃k:Nat,k≤p.length∧r=p.length - k∧(∀a∈p.take k,aI D a.toNat=false)∧st=⟨[(1,aQ D),(4,.aY (bq T) 0),(13,.ptr 4 0),(14,num (cW T (p.take k))),(47,aw p),(48,num p.length),(49,num k)],BD T D p (vc T n (p.take k)) (uD T (p.take k)) [] []⟩) p.length ⟨0,by omega,by omega,by simp,rfl⟩ ?_
   rintro r st ⟨k,hk,rfl,hdn,rfl⟩
   have hck:=hcb k hk
   have hl1:=vg T n (p.take k)
   have hl2:=AN T (p.take k)
   have hl3:(p.take k).length=k:=by simp;omega
   refine ab (.a 1 rfl<|.k [1,4,13,14,47,48,49,50] rfl)<|ah<|ag rfl (fun hy=>?_) (fun hy=>?_)
   ·have hlt:k<p.length:=by have:=tt hy;omega
    have hmem:=bO (d:=0) hlt
    have hab:=ha _ hmem
    obtain⟨hac,m,hm,hmN⟩:=jg hv hab
    have hst1:=Dk T n p k hlt
    have hst2:=Dm T p k hlt
    have hst3:=kO T p k hlt
    have hab2:=hab
    simp only[eF,decide_eq_true_eq]at hab2
    obtain⟨a,hae⟩:∃a:Nat,p.getD k 0=(a:Int):=⟨(p.getD k 0).toNat,by omega⟩
    have ham:a<2*T.ae.length:=by omega
    have hD:D.length=0∨a<D.length:=by simp only[bN,decide_eq_true_eq]at hf;omega
    rw[hae,Int.toNat_natCast]at hm hac hst1 hst3
    have hh:=fQ T a ham (by omega)
    rw[hm]at hh
    refine ai<|ah<|au<|ab (.v (aJ (k) rfl) rfl<|.v (aL rfl ((ax p k hlt).trans (by rw[hae]))) rfl<|.a 1 rfl<|.k [1,4,13,14,16,47,48,49] rfl)<|ah<|ab (.a 2 rfl<|.c rfl (jE D a hD) rfl<|.k [1,4,13,14,16,47,48,49,55] rfl)<|ag rfl (fun hz=>?_) (fun hz=>?_)
    ·have he:eQ T D n p=7:=by
      unfold eQ
      rw[if_pos hvf,if_pos hx1,if_pos]
      exact List.any_eq_true.2 ⟨_,hmem,by rw[hae];exact hz⟩
     exact ab (.a 2 rfl<|.k [8,9] rfl)<|aq<|⟨_,aA.of rfl,.inl ⟨by rw[he];decide,by rw[he];rfl⟩⟩
    ·have hdn2:∀a∈p.take (k+1),aI D a.toNat=false:=fun x hx=>by
      rw[dc p k 0 hlt]at hx
      rcases List.mem_append.1 hx with h|h
      ·exact hdn x h
      ·simp only[List.mem_singleton]at h;rw[h,hae];exact hz
     refine ai<|ab (.a 3 rfl<|.c rfl (lL T a ham) rfl<|.v (aS rfl (hn:=by unfold In64;omega)) rfl<|.a 1 rfl<|.k [1,4,13,14,16,47,48,49] rfl)<|lV 9 20 mixed (
      .late [13] rfl (lG rfl rfl) inferInstance rfl rfl<|
      .val [13] rfl (bH rfl) rfl rfl<|
      .val [62] rfl (bH rfl) rfl rfl<|
      .val [63] rfl (bH rfl) rfl rfl<|
      .val [64] rfl (bH rfl) rfl rfl<|
      .val [4] rfl (bH rfl) rfl rfl<|
      .val [16] rfl (bH rfl) rfl rfl<|
      .val [66,67] rfl (dJ rfl (hh)) rfl rfl<|
      .val [68] rfl (bH rfl) rfl rfl<|
      .nil) (by kernel_rfl) rfl rfl (bm (ks:=[1,4,13,14,47,48,49,61,65,69]) rfl) ?_
     refine cp (bA rfl (bI.rk.get rfl) rfl rfl rfl rfl (by unfold maxLen;omega)) rfl<|av 3 rfl ?_
     refine dD [5,1,2,3,4] (.c 1<|.c 4<|.c 13<|.c 14<|.c 47<|.c 48<|.c 49<|.nil) (.kept rfl (.eJ rfl (cN _ _))<|.kept rfl (.row aF.pure)<|.same (kh.pure (T:=T) (D:=D) (dm:=[]) (fun _ _ h=>by cases h)) rfl<|.same (kF.pure (T:=T) (D:=D) (um:=[]) (fun _ _ h=>by cases h)) rfl<|.kept rfl (.cells (aF.c<|aF.c<|aF.c<|aF.c<|aF.c<|aF.c<|aF.c<|aF.c<|aF.c<|aF.nil))<|.nil) rfl rfl (bc ?_)
     refine bF<|av 7 rfl<|cp (bA rfl (bI.rk.get rfl) rfl rfl rfl rfl (by unfold maxLen;omega)) rfl<|av 3 rfl ?_
     refine dD [0,5,2,3,4] (.c 1<|.c 4<|.c 13<|.c 14<|.c 47<|.c 48<|.c 49<|.nil) (.kept rfl (.row aF.pure)<|.kept rfl (.eJ rfl (cN _ _))<|.same (kh.pure (T:=T) (D:=D) (dm:=[]) (fun _ _ h=>by cases h)) rfl<|.same (kF.pure (T:=T) (D:=D) (um:=[]) (fun _ _ h=>by cases h)) rfl<|.kept rfl (.cells (aF.c<|aF.c<|aF.c<|aF.c<|aF.c<|aF.c<|aF.c<|aF.c<|aF.c<|aF.nil))<|.nil) rfl rfl (bc ?_)
     refine az (.v (aS rfl) rfl<|.a 1 rfl<|.k [1,4,13,14,47,48,49] rfl) ?_
     refine⟨p.length - (k+1),by omega,k+1,by omega,rfl,hdn2,?_⟩
     rw[hst1,hst2,hst3,hm]
     unfold BD dW
     simp only[List.length_append,List.length_singleton]
     rfl
   ·have hke:k=p.length:=by have:=ff hy;omega
    subst hke
    rw[List.take_length]at hdn
    refine ba<|ab (.a 3 rfl<|.k [8,9] rfl)<|aq<|⟨_,aA.of rfl,.inr ⟨?_,rfl,by rw[List.take_length]⟩⟩
    unfold eQ
    rw[if_pos hvf,if_pos hx1,if_neg]
    intro h
    obtain⟨x,hx,hx2⟩:=List.any_eq_true.1 h
    rw[hdn x hx]at hx2
    cases hx2
noncomputable def ep(T:an)(D:List Bool)(n:Int)(p:List Int)(i j:Nat):Bool:=
 decide (dN T D (cE T n (p.take j)).toNat (cE T n (p.take i)).toNat=cW T (p.take j) - cW T (p.take i))&&eW T D (cE T n (p.take i)) (cE T n (p.take j))
theorem cg{T:an}(hv:ao T=true){n:Int}(hn:bd T n=true){p:List Int}(ha:∀a∈p,eF T a=true)(i:Nat)(hi:i≤p.length):∃u:Nat,cE T n (p.take i)=(u:Int)∧(u:Int)<T.nodes:=by
 cases i with
 |zero=>
  obtain⟨h0,h1⟩:=aT.1 hn
  obtain⟨u,hu⟩:=Int.eq_ofNat_of_zero_le h0
  exact⟨u,hu,by rw[←hu];exact h1⟩
 |succ i=>
  rw[eZ T n p i (by omega)]
  exact(jg hv (ha _ (bO (d:=0) (show i<p.length by omega)))).2
theorem u7{T:an}{D:List Bool}(hv:ao T=true)(hf:bN T D=true){d:Nat}(hd:(d:Int)<T.nodes):cf T D [(d:Int)]=0:=by
 unfold cf
 rw[hv,hf]
 have:bd T (d:Int)=true:=aT.2 ⟨by omega,hd⟩
 simp[this]
set_option maxHeartbeats 2000000 in
theorem yd(T:an)(D:List Bool)(p:List Int)(n:Int)(dm:List (Int×PV))(um:List ((Int×Int)×PV))(x:Option cZ)(hx:ll x)(hv:ao T=true)(hf:bN T D=true)(h12:T.nodes≤12)(hn:bd T n=true)(ha:∀a∈p,eF T a=true)(hp:p.length≤1000)(i j:Nat)(hi:i≤p.length)(hj:j≤p.length)(hdm:kh T D dm)(hum:kF T D um):
    bS Tryz.prog 112 [.ptr 4 0,num i,num j] (BD T D p (vc T n p) (uD T p) dm um++[x]) (fun r σ'=>r=flag (ep T D n p i j)∧∃dm' um',kh T D dm'∧kF T D um'∧σ'=BD T D p (vc T n p) (uD T p) dm' um'++[x]):=by
  obtain⟨u,hu,huN⟩:=cg hv hn ha i hi
  obtain⟨y,hy,hyN⟩:=cg hv hn ha j hj
  have hcv:ep T D n p i j=(decide (dN T D y u=cW T (p.take j) - cW T (p.take i))&&eW T D u y):=by unfold ep;rw[hu,hy,Int.toNat_natCast,Int.toNat_natCast]
  rw[hcv]
  obtain⟨hb1,hb2⟩:=cI (D:=D) hv (dir:=false) hyN
  have hS:=aM hv
  have hNp:=hS.nodes
  have hdi:Can Tryz.prog 151 [aN T,aQ D,num y] (· = .tuple [aw (bn T D y false),num 0]):=by
    have h:=rC T D (y:Int)
    rw[u7 hv hf hyN]at h
    exact h
  have hci:=ic hv ha i hi
  have hcj:=ic hv ha j hj
  have hl1:=vg T n p
  have hl2:=AN T p
  have hgi:=vw T n p i hi
  have hgj:=vw T n p j hj
  have hki:=AG T p i hi
  have hkj:=AG T p j hj
  rw[hu]at hgi
  rw[hy]at hgj
  have hmn:∀v,dq (y:Int) dm=some v→∃n xs,v= .slice n xs∧0<n:=fun v h=>⟨_,_,hdm.look h,by omega⟩
  refine cw Tryz.func112 rfl Tryz.ntmps112 rfl<|ab (.a 1 rfl<|.k [0,1,2] rfl)<|dY mixed (by kernel_rfl) (.a 5 rfl<|.v [15,16] (aJ (i) rfl) rfl rfl<|.v [17] (aL rfl ((ax _ i (by omega)).trans (by rw[hgi]))) rfl rfl<|.a 5 rfl<|.v [22,23] (aJ (j) rfl) rfl rfl<|.v [24] (aL rfl ((ax _ j (by omega)).trans (by rw[hgj]))) rfl rfl<|.a 2 rfl<|.k [0,1,2,7,8] rfl) ?_
  refine ah<|ab (.a 5 rfl<|.v (uX HI rfl Gy Kq rfl rfl rfl (o4 _) rfl) rfl<|.v (CW rfl Jj rfl rfl hmn) rfl<|.k [0,1,2,7,8,32] rfl)<|ag rfl (fun h1=>?_) (fun h1=>?_)
  · obtain ⟨dm1, hdm1⟩ : ∃ z, iF (y : Int) (aw (bn T D y false)) dm = z := ⟨_, rfl⟩
    have hdm2:kh T D dm1:=by rw[←hdm1];exact hdm.set hyN
    have hlk:dq (y:Int) dm1=some (aw (bn T D y false)):=by rw[←hdm1];exact ta _ _ _
    refine dp 18 20 mixed (
      .val [0] rfl (bH rfl) rfl rfl<|
      .val [34] rfl (bH rfl) rfl rfl<|
      .val [35] rfl (bH rfl) rfl rfl<|
      .val [36] rfl (bH rfl) rfl rfl<|
      .val [8] rfl (bH rfl) rfl rfl<|
      .val [0] rfl (bH rfl) rfl rfl<|
      .val [39] rfl (bH rfl) rfl rfl<|
      .val [40] rfl (bH rfl) rfl rfl<|
      .val [41] rfl (bH rfl) rfl rfl<|
      .val [0] rfl (bH rfl) rfl rfl<|
      .val [43] rfl (bH rfl) rfl rfl<|
      .val [44] rfl (bH rfl) rfl rfl<|
      .val [45] rfl (bH rfl) rfl rfl<|
      .val [8] rfl (bH rfl) rfl rfl<|
      .val [42,46,47] rfl (dJ rfl (hdi)) rfl rfl<|
      .val [48] rfl (bH rfl) rfl rfl<|
      .val [33] rfl (bH rfl) rfl rfl<|
      .late [33] rfl (tZ rfl rfl rfl) inferInstance rfl rfl<|
      .nil) (by kernel_rfl) rfl rfl (bm (ks:=[0,1,2,7,8,37,38,49]) rfl) ?_
    refine bg (oO HI rfl Gy rfl rfl rfl (o4 _) rfl) rfl rfl<|aG [0,1,2,7,8] rfl ?_
    refine er (σ':=BD T D p (vc T n p) (uD T p) dm1 um++[x]) (by rw[←hdm1];rfl) ?_
    refine ah<|dY mixed (by kernel_rfl) (.a 5 rfl<|.v [54,55] (uX HI rfl Gy Kq rfl rfl rfl (o4 _) (by rw[hlk])) rfl rfl<|.a 1 rfl<|.v [56,57] (aJ (u) rfl) rfl rfl<|.v [58] (aL rfl (ax _ u (by omega))) rfl rfl<|.a 5 rfl<|.v [63,64] (aJ (j) rfl) rfl rfl<|.v [65] (aL rfl ((ax _ j (by omega)).trans (by rw[hkj]))) rfl rfl<|.a 5 rfl<|.v [70,71] (aJ (i) rfl) rfl rfl<|.v [72] (aL rfl ((ax _ i (by omega)).trans (by rw[hki]))) rfl rfl<|.v [66,73] (aS rfl) rfl rfl<|.a 1 rfl<|.k [0,7,8,75] rfl) ?_
    refine ag rfl (fun h2=>?_) (fun h2=>?_)
    · have h3:dN T D y u≠cW T (p.take j) - cW T (p.take i):=tt h2
      refine ab (.a 1 rfl<|.k [6] rfl)<|aq<|⟨_,aA.of rfl,?_,_,_,hdm2,hum,rfl⟩
      rw[decide_eq_false h3]
      rfl
    · have h3:dN T D y u=cW T (p.take j) - cW T (p.take i):=Classical.byContradiction (ff h2)
      obtain⟨b,hb⟩:∃b:Bool,(dq ((u:Int),(y:Int)) um).getD (.raw (.bool false))=flag b:=by
        cases h:dq ((u:Int),(y:Int)) um with
        |none=>exact⟨false,rfl⟩
        |some v=>exact⟨_,hum _ _ (jd h)⟩
      refine ai<|aP<|av 2 rfl<|bC (El rfl rfl rfl (DG _ _)) rfl<|av 2 rfl<|aG [0,7,8,9] rfl ?_
      refine er (σ':=BD T D p (vc T n p) (uD T p) dm1 um++[x,some (.cells 125 [num u,num y])]) rfl ?_
      refine dY mixed (by kernel_rfl) (.a 5 rfl<|.v [83,84] (AT FV rfl Gu KK rfl rfl rfl (qn _ _) hb rfl) rfl rfl<|.a 5 rfl<|.k [0,7,8,9,10,11] rfl) ?_
      refine ah<|ab (.a 2 rfl<|.k [0,7,8,9,10,89] rfl)<|ag rfl (fun h4=>?_) (fun h4=>?_)
      · obtain⟨um1,hum1⟩:∃z,iF ((u:Int),(y:Int)) (flag (eW T D u y)) um=z:=⟨_,rfl⟩
        have hum2:kF T D um1:=by rw[←hum1];exact hum.set u y
        refine dY mixed (by kernel_rfl) (.a 10 rfl<|.v [93,97,98,99] (dJ rfl (sc T D u y h12)) rfl rfl<|.a 1 rfl<|.k [0,9,10] rfl) ?_
        refine dp 6 20 mixed (
          .val [0] rfl (bH rfl) rfl rfl<|
          .val [101] rfl (bH rfl) rfl rfl<|
          .val [102] rfl (bH rfl) rfl rfl<|
          .val [103] rfl (bH rfl) rfl rfl<|
          .val [9] rfl (bH rfl) rfl rfl<|
          .val [10] rfl (bH rfl) rfl rfl<|
          .nil) (by kernel_rfl) rfl rfl (bm (ks:=[10,104,105,106]) rfl) ?_
        refine bg (oO FV (k:=((u:Int),(y:Int))) rfl Gu rfl rfl rfl (qn (.int .i64 (u:Int)) (.int .i64 (y:Int))) rfl) rfl rfl<|aG [10] rfl ?_
        refine er (σ':=BD T D p (vc T n p) (uD T p) dm1 um1++[x,some (.cells 125 [num u,num y])]) (by rw[←hum1];rfl) ?_
        obtain⟨b,hbu⟩:∃b,b=eW T D u y:=⟨_,rfl⟩
        refine ab (.a 2 rfl<|.k [6] rfl)<|dx [0,1,2,3,4,5] (.c 6<|.nil) (.kept rfl (.row aF.pure)<|.kept rfl (.row aF.pure)<|.same (kh.pure hdm2) rfl<|.same (kF.pure hum2) rfl<|.kept rfl (.cells (aF.c<|aF.c<|aF.c<|aF.c<|aF.c<|aF.c<|aF.c<|aF.c<|aF.c<|aF.nil))<|.same hx rfl<|.nil) rfl rfl ?_
        refine aq<|⟨_,aA.of rfl,?_,_,_,hdm2,hum2,rfl⟩
        rw[decide_eq_true h3,Bool.true_and]
        first
          |rfl
          |(rw[hbu];rfl)
      · have hbu:b=eW T D u y:=by
          cases h:dq ((u:Int),(y:Int)) um with
          |none=>rw[h]at h4;cases h4
          |some v=>
            rw[h,hum _ _ (jd h)]at hb
            have:=hb
            simp only[Option.getD_some]at this
            cases this
            rfl
        have hum2:=hum
        obtain⟨um1,hum1⟩:∃z,z=um:=⟨_,rfl⟩
        subst hum1
        refine ai<|ab (.a 2 rfl<|.k [6] rfl)<|dx [0,1,2,3,4,5] (.c 6<|.nil) (.kept rfl (.row aF.pure)<|.kept rfl (.row aF.pure)<|.same (kh.pure hdm2) rfl<|.same (kF.pure hum2) rfl<|.kept rfl (.cells (aF.c<|aF.c<|aF.c<|aF.c<|aF.c<|aF.c<|aF.c<|aF.c<|aF.c<|aF.nil))<|.same hx rfl<|.nil) rfl rfl ?_
        refine aq<|⟨_,aA.of rfl,?_,_,_,hdm2,hum2,rfl⟩
        rw[decide_eq_true h3,Bool.true_and]
        first
          |rfl
          |(rw[hbu];rfl)
  · obtain ⟨v, hv1⟩ : ∃ v, dq (y : Int) dm = some v := by
      cases h:dq (y:Int) dm with
      |none=>rw[h]at h1;cases h1
      |some v=>exact⟨v,rfl⟩
    have hlk:dq (y:Int) dm=some (aw (bn T D y false)):=by rw[hv1,hdm.look hv1]
    have hdm2:=hdm
    obtain⟨dm1,hdm1⟩:∃z,z=dm:=⟨_,rfl⟩
    subst hdm1
    refine ai<|ah<|dY mixed (by kernel_rfl) (.a 5 rfl<|.v [54,55] (uX HI rfl Gy Kq rfl rfl rfl (o4 _) (by rw[hlk])) rfl rfl<|.a 1 rfl<|.v [56,57] (aJ (u) rfl) rfl rfl<|.v [58] (aL rfl (ax _ u (by omega))) rfl rfl<|.a 5 rfl<|.v [63,64] (aJ (j) rfl) rfl rfl<|.v [65] (aL rfl ((ax _ j (by omega)).trans (by rw[hkj]))) rfl rfl<|.a 5 rfl<|.v [70,71] (aJ (i) rfl) rfl rfl<|.v [72] (aL rfl ((ax _ i (by omega)).trans (by rw[hki]))) rfl rfl<|.v [66,73] (aS rfl) rfl rfl<|.a 1 rfl<|.k [0,7,8,75] rfl) ?_
    refine ag rfl (fun h2=>?_) (fun h2=>?_)
    · have h3:dN T D y u≠cW T (p.take j) - cW T (p.take i):=tt h2
      refine ab (.a 1 rfl<|.k [6] rfl)<|aq<|⟨_,aA.of rfl,?_,_,_,hdm2,hum,rfl⟩
      rw[decide_eq_false h3]
      rfl
    · have h3:dN T D y u=cW T (p.take j) - cW T (p.take i):=Classical.byContradiction (ff h2)
      obtain⟨b,hb⟩:∃b:Bool,(dq ((u:Int),(y:Int)) um).getD (.raw (.bool false))=flag b:=by
        cases h:dq ((u:Int),(y:Int)) um with
        |none=>exact⟨false,rfl⟩
        |some v=>exact⟨_,hum _ _ (jd h)⟩
      refine ai<|aP<|av 2 rfl<|bC (El rfl rfl rfl (DG _ _)) rfl<|av 2 rfl<|aG [0,7,8,9] rfl ?_
      refine er (σ':=BD T D p (vc T n p) (uD T p) dm1 um++[x,some (.cells 125 [num u,num y])]) rfl ?_
      refine dY mixed (by kernel_rfl) (.a 5 rfl<|.v [83,84] (AT FV rfl Gu KK rfl rfl rfl (qn _ _) hb rfl) rfl rfl<|.a 5 rfl<|.k [0,7,8,9,10,11] rfl) ?_
      refine ah<|ab (.a 2 rfl<|.k [0,7,8,9,10,89] rfl)<|ag rfl (fun h4=>?_) (fun h4=>?_)
      · obtain⟨um1,hum1⟩:∃z,iF ((u:Int),(y:Int)) (flag (eW T D u y)) um=z:=⟨_,rfl⟩
        have hum2:kF T D um1:=by rw[←hum1];exact hum.set u y
        refine dY mixed (by kernel_rfl) (.a 10 rfl<|.v [93,97,98,99] (dJ rfl (sc T D u y h12)) rfl rfl<|.a 1 rfl<|.k [0,9,10] rfl) ?_
        refine dp 6 20 mixed (
          .val [0] rfl (bH rfl) rfl rfl<|
          .val [101] rfl (bH rfl) rfl rfl<|
          .val [102] rfl (bH rfl) rfl rfl<|
          .val [103] rfl (bH rfl) rfl rfl<|
          .val [9] rfl (bH rfl) rfl rfl<|
          .val [10] rfl (bH rfl) rfl rfl<|
          .nil) (by kernel_rfl) rfl rfl (bm (ks:=[10,104,105,106]) rfl) ?_
        refine bg (oO FV (k:=((u:Int),(y:Int))) rfl Gu rfl rfl rfl (qn (.int .i64 (u:Int)) (.int .i64 (y:Int))) rfl) rfl rfl<|aG [10] rfl ?_
        refine er (σ':=BD T D p (vc T n p) (uD T p) dm1 um1++[x,some (.cells 125 [num u,num y])]) (by rw[←hum1];rfl) ?_
        obtain⟨b,hbu⟩:∃b,b=eW T D u y:=⟨_,rfl⟩
        refine ab (.a 2 rfl<|.k [6] rfl)<|dx [0,1,2,3,4,5] (.c 6<|.nil) (.kept rfl (.row aF.pure)<|.kept rfl (.row aF.pure)<|.same (kh.pure hdm2) rfl<|.same (kF.pure hum2) rfl<|.kept rfl (.cells (aF.c<|aF.c<|aF.c<|aF.c<|aF.c<|aF.c<|aF.c<|aF.c<|aF.c<|aF.nil))<|.same hx rfl<|.nil) rfl rfl ?_
        refine aq<|⟨_,aA.of rfl,?_,_,_,hdm2,hum2,rfl⟩
        rw[decide_eq_true h3,Bool.true_and]
        first
          |rfl
          |(rw[hbu];rfl)
      · have hbu:b=eW T D u y:=by
          cases h:dq ((u:Int),(y:Int)) um with
          |none=>rw[h]at h4;cases h4
          |some v=>
            rw[h,hum _ _ (jd h)]at hb
            have:=hb
            simp only[Option.getD_some]at this
            cases this
            rfl
        have hum2:=hum
        obtain⟨um1,hum1⟩:∃z,z=um:=⟨_,rfl⟩
        subst hum1
        refine ai<|ab (.a 2 rfl<|.k [6] rfl)<|dx [0,1,2,3,4,5] (.c 6<|.nil) (.kept rfl (.row aF.pure)<|.kept rfl (.row aF.pure)<|.same (kh.pure hdm2) rfl<|.same (kF.pure hum2) rfl<|.kept rfl (.cells (aF.c<|aF.c<|aF.c<|aF.c<|aF.c<|aF.c<|aF.c<|aF.c<|aF.c<|aF.nil))<|.same hx rfl<|.nil) rfl rfl ?_
        refine aq<|⟨_,aA.of rfl,?_,_,_,hdm2,hum2,rfl⟩
        rw[decide_eq_true h3,Bool.true_and]
        first
          |rfl
          |(rw[hbu];rfl)
end PW
end Go.Proofs.YtnegbdpggideiaaGreatDoor
namespace Go.Proofs.YtnegbdpggideiaaGreatDoor
namespace PW
open Go.RowKit cH Mem Net
theorem nx(l:List ca)(e:ca):eM l++nk e=eM (l++[e]):=by simp[eM]
theorem mj(l:List ca):(eM l).length=l.length*2:=by
 induction l with
 |nil=>rfl
 |cons a l ih=>simp only[eM,List.flatMap_cons,List.length_append,List.length_cons]at*;rw[ih];simp[nk];omega
def iU(c:Nat→Bool)(i:Nat):Nat→Option Nat
 |0=>none
 |m+1=>if m+1≤i then none else if c (m+1) then some (m+1) else iU c i m
theorem pf{c:Nat→Bool}{i j:Nat}(hij:i<j)(hc:c j=true):∀m,j≤m→(∀k,j<k→k≤m→c k=false)→iU c i m=some j
 |0,h,_=>by omega
 |m+1,h,hn=>by
  unfold iU
  rw[if_neg (by omega)]
  by_cases e:j=m+1
  ·subst e;rw[if_pos hc]
  ·rw[if_neg (by rw[hn (m+1) (by omega) (by omega)];simp)]
   exact pf hij hc m (by omega) (fun k h1 h2=>hn k h1 (by omega))
theorem pa{c:Nat→Bool}{i:Nat}:∀m,(∀k,i<k→k≤m→c k=false)→iU c i m=none
 |0,_=>rfl
 |m+1,hn=>by
  unfold iU
  by_cases e:m+1≤i
  ·rw[if_pos e]
  ·rw[if_neg e,if_neg (by rw[hn (m+1) (by omega) (by omega)];simp)]
   exact pa m (fun k h1 h2=>hn k h1 (by omega))
theorem my{c:Nat→Bool}{i:Nat}:∀m j,iU c i m=some j→i<j∧j≤m∧c j=true∧∀k,j<k→k≤m→c k=false
 |0,j,h=>by cases h
 |m+1,j,h=>by
  unfold iU at h
  split at h
  ·cases h
  ·split at h
   ·cases h;rename_i h1 h2;exact⟨by omega,by omega,h2,fun k h3 h4=>by omega⟩
   ·rename_i h1 h2
    obtain⟨a,b,c1,d⟩:=my m j h
    refine⟨a,by omega,c1,fun k h3 h4=>?_⟩
    by_cases e:k=m+1
    ·subst e;simpa using h2
    ·exact d k h3 (by omega)
theorem jR{c:Nat→Bool}{i:Nat}:∀m,iU c i m=none→∀k,i<k→k≤m→c k=false
 |0,_,k,h1,h2=>by omega
 |m+1,h,k,h1,h2=>by
  unfold iU at h
  split at h
  ·omega
  ·split at h
   ·cases h
   ·rename_i h3 h4
    by_cases e:k=m+1
    ·subst e;simpa using h4
    ·exact jR m h k h1 (by omega)
noncomputable def gJ(T:an)(D:List Bool)(n:Int)(p:List Int):Nat→Nat→List ca
 |0,_=>[]
 |f+1,i=>if i<p.length then(match iU (ep T D n p i) i p.length with
  |some j=>⟨1,cE T n (p.take j)⟩::gJ T D n p f j
  |none=>⟨2,p.getD i 0⟩::gJ T D n p f (i+1)) else []
noncomputable def ig(T:an)(D:List Bool)(n:Int)(p:List Int):List ca:=gJ T D n p p.length 0
section
variable {T:an} {D:List Bool} {n:Int} {p:List Int}
theorem mo(f i:Nat)(h:p.length≤i):gJ T D n p f i=[]:=by
 cases f with
 |zero=>rfl
 |succ f=>simp only[gJ];rw[if_neg (by omega)]
theorem ko{f i j:Nat}(hi:i<p.length)(hij:i<j)(hj:j≤p.length)(hc:ep T D n p i j=true)(hno:∀k,j<k→k≤p.length→ep T D n p i k=false):gJ T D n p (f+1) i=⟨1,cE T n (p.take j)⟩::gJ T D n p f j:=by
 simp only[gJ]
 rw[if_pos hi,pf hij hc p.length hj hno]
theorem lE{f i:Nat}(hi:i<p.length)(hno:∀k,i<k→k≤p.length→ep T D n p i k=false):gJ T D n p (f+1) i=⟨2,p.getD i 0⟩::gJ T D n p f (i+1):=by
 simp only[gJ]
 rw[if_pos hi,pa p.length hno]
theorem pD:∀ {f:Bool} {x:Int} {l m:List Int},dw T f x (l++m)=0→dw T f x l=0∧∃g,dw T g (cE T x l) m=0
 |f,x,[],m,h=>⟨rfl,f,h⟩
 |f,x,a::l,m,h=>by
  simp only[List.cons_append,dw]at h ⊢
  split at h
  ·omega
  ·rename_i h1
   rw[if_neg h1]
   split at h
   ·omega
   ·rename_i h2
    rw[if_neg h2]
    exact pD h
theorem Ai(hv:ao T=true):∀ {f:Bool} {x:Nat} {l:List Int} {y:Nat},dw T f x l=0→(∀a∈l,aI D a.toNat=false)→cE T x l=(y:Int)→Ch T D y x l
 |f,x,[],y,_,_,he=>by
  have:y=x:=by simp only[cE]at he;omega
  subst this
  exact .nil
 |f,x,a::l,y,h,hd,he=>by
  simp only[dw]at h
  split at h
  ·omega
  ·rename_i h1
   split at h
   ·omega
   ·rename_i h2
    have hab:eF T a=true:=by simpa using h1
    obtain⟨_,m,hm,hmN⟩:=jg hv hab
    simp only[eF,decide_eq_true_eq]at hab
    obtain⟨b,rfl⟩:=Int.eq_ofNat_of_zero_le hab.1
    rw[Int.toNat_natCast]at hm
    simp only[cE,Int.toNat_natCast]at he h2 h
    rw[hm]at he h
    have hch:=Ai hv h (fun c hc=>hd c (by simp[hc])) he
    refine .cons (by omega) (Classical.byContradiction fun hn=>h2 (.inl hn)) (hd b (by simp)) hm ?_ hch
    cases l with
    |nil=>exact .inl rfl
    |cons c l=>
     right
     simp only[dw]at h
     split at h
     ·omega
     ·split at h
      ·omega
      ·rename_i h4
       simp only[Int.toNat_natCast]at h4
       cases ho:cU T m with
       |false=>rfl
       |true=>exact absurd (.inr ⟨trivial,ho⟩) h4
structure pL (T:an) (D:List Bool) (n:Int) (p:List Int):Prop where
 valid:ao T=true
 fits:bN T D=true
 node:bd T n=true
 walk:dw T true n p=0
 up:∀a∈p,aI D a.toNat=false
theorem zz(h:eQ T D n p=0):pL T D n p:=by
 unfold eQ at h
 split at h
 ·rename_i h1
  obtain⟨hv,hf⟩:=Bool.and_eq_true_iff.1 h1
  split at h
  ·rename_i h2
   obtain⟨_,hn,hw⟩:=kL h2
   split at h
   ·omega
   ·rename_i h3
    exact⟨hv,hf,hn,hw,fun a ha=>by
     cases hd:aI D a.toNat with
     |false=>rfl
     |true=>exact absurd (List.any_eq_true.2 ⟨a,ha,hd⟩) h3⟩
  ·omega
 ·omega
theorem pL.aK(h:pL T D n p):∀a∈p,eF T a=true:=kf h.walk
def dA(p:List Int)(i j:Nat):List Int:=(p.drop i).take (j - i)
theorem je(p:List Int){i j:Nat}(hij:i≤j):p.take j=p.take i++dA p i j:=by
 unfold dA
 have h:(p.take j)=(p.take j).take i++(p.take j).drop i:=(List.take_append_drop i _).symm
 rw[h,List.take_take,Nat.min_eq_left hij,List.drop_take]
theorem kc(p:List Int){i j:Nat}(hij:i≤j)(hj:j≤p.length):(dA p i j).length=j - i:=by unfold dA;simp;omega
theorem pL.ch(h:pL T D n p){i j u y:Nat}(hij:i≤j)(hj:j≤p.length)(hu:cE T n (p.take i)=(u:Int))(hy:cE T n (p.take j)=(y:Int)):Ch T D y u (dA p i j):=by
 have h1:dw T true n (p.take j)=0:=(pD (l:=p.take j) (m:=p.drop j) (by rw[List.take_append_drop];exact h.walk)).1
 rw[je p hij]at h1
 obtain⟨_,g,hg⟩:=pD h1
 rw[hu]at hg
 refine Ai h.valid hg (fun a ha=>h.up a ?_) ?_
 ·exact List.mem_of_mem_drop (List.mem_of_mem_take ha)
 ·rw[←hu,←lJ,←je p hij];exact hy
theorem A7(T:an)(p:List Int){i j:Nat}(hij:i≤j):cW T (p.take j) - cW T (p.take i)=cW T (dA p i j):=by
 rw[je p hij,gA];omega
theorem mZ(h:pL T D n p){i j u y:Nat}(hij:i≤j)(hj:j≤p.length)(hu:cE T n (p.take i)=(u:Int))(hy:cE T n (p.take j)=(y:Int)):ep T D n p i j=true↔SP T D y u (dA p i j)∧dB T D y u=1:=by
 have hch:=h.ch hij hj hu hy
 have ha:=h.aK
 obtain⟨u',hu',huN⟩:=cg h.valid h.node ha i (by omega)
 obtain⟨y',hy',hyN⟩:=cg h.valid h.node ha j hj
 have e1:u'=u:=by omega
 have e2:y'=y:=by omega
 subst e1
 subst e2
 have hne:bV T D (u':Int) (y':Int)=0:=by
  unfold bV
  rw[if_pos (u7 h.valid h.fits hyN),aT.2 ⟨by omega,huN⟩]
  rfl
 unfold ep eW
 rw[hu,hy,Int.toNat_natCast,Int.toNat_natCast,A7 T p hij,hne]
 simp only[decide_true,Bool.true_and,Bool.and_eq_true,decide_eq_true_eq]
 constructor
 ·rintro⟨h1,h2⟩;exact⟨hch.sp h.valid hyN h1,h2⟩
 ·rintro⟨h1,h2⟩;exact⟨(h1.cost h.valid hyN).1,h2⟩
theorem Hn(h:pL T D n p){i j:Nat}(hij:i≤j)(hj:j≤p.length)(hc:ep T D n p i j=true):(j:Int) - i<T.nodes:=by
 have ha:=h.aK
 obtain⟨u,hu,huN⟩:=cg h.valid h.node ha i (by omega)
 obtain⟨y,hy,hyN⟩:=cg h.valid h.node ha j hj
 have:=((mZ h hij hj hu hy).1 hc).1.ze h.valid hyN
 rw[kc p hij hj]at this
 omega
end
def nu(e:Int)(l:List ca):PV:=.tuple [cM (if e=0 then l else []),num e]
def rY(l:List ca):Option cZ:=some (.row 103 2 l.length (eM l))
theorem Bd(l:List ca):ll (rY l):=fun b hb=>by cases hb;exact(inferInstance:aO (eM l))
theorem zc(T:an)(D:List Bool)(p:List Int)(n:Int)(hp:p.length≤1000)(hlk:T.ae.length≤256):bS Tryz.prog 111 [aN T,aQ D,aw p,num n] [] (fun r σ'=>∃x,r= .tuple [x,num (eQ T D n p)]∧(eQ T D n p=0→x= .ptr 4 0∧σ'=BD T D p (vc T n p) (uD T p) [] [])):=
 bS.mono (zJ T D p n hp hlk) fun r σ' h=>by
  rcases h with⟨he,rfl⟩|⟨he,rfl,rfl⟩
  ·exact⟨_,rfl,fun h=>absurd h he⟩
  ·exact⟨_,by rw[he],fun _=>⟨rfl,rfl⟩⟩
set_option maxHeartbeats 2000000 in
theorem CE(T:an)(D:List Bool)(p:List Int)(n:Int)(hp:p.length≤1000)(hlk:T.ae.length≤256)(h12:T.nodes≤12):Can Tryz.prog 54 [aN T,aQ D,aw p,num n] (· =nu (eQ T D n p) (ig T D n p)):=by
  refine aE Tryz.func54 rfl Tryz.ntmps54 rfl<|ab (.a 3 rfl<|.k [1,2,3,4] rfl)<|Al ?_
  refine aP<|av 4 rfl<|cP rfl rfl (bS.mono (zc T D p n hp hlk) (fun r σ' h=>?_))
  obtain⟨x,rfl,hx⟩:=h
  refine av 5 rfl<|aG [2,4,10,11] rfl ?_
  refine ah<|ab (.a 2 rfl<|.k [2,4,10,11,24] rfl)<|ag rfl (fun hc=>?_) (fun hc=>?_)
  · have he:eQ T D n p≠0:=tt hc
    exact ab (.a 3 rfl<|.k [8,9] rfl)<|aq<|⟨_,_,aA.of rfl,aB.bx (aj.cons aB.bT (aj.cons aB.pure aj.nil)),by unfold nu;rw[if_neg he];rfl⟩
  · have he:eQ T D n p=0:=Classical.byContradiction (ff hc)
    obtain⟨rfl,rfl⟩:=hx he
    have hF:=zz he
    have hv:=hF.valid
    have hS:=aM hv
    have hN:=hS.nodes
    have ha:=hF.aK
    obtain⟨N,hNN⟩:∃N:Nat,T.nodes=(N:Int):=⟨T.nodes.toNat,by omega⟩
    rw[he]
    clear hc
    refine ai<|ab (.a 1 rfl<|.k [2,4,10,12] rfl)<|fp 12 103 2 rfl ?_
    refine ab (.a 1 rfl<|.k [2,4,10,12,13] rfl)<|ah<|Av ?_
    refine ah<|au<|eu [2,4,10,12,13] rfl<|bf (fun r st=>∃(l:List ca) (i f:Nat) (dm:List (Int×PV)) (um:List ((Int×Int)×PV)),i≤p.length∧p.length - i≤f∧l.length≤i∧r=p.length - i∧ig T D n p=l++gJ T D n p f i∧kh T D dm∧kF T D um∧st=⟨[(2,aw p),(4,.aY (bq T) 0),(10,.ptr 4 0),(12,.own 5),(13,num i)],BD T D p (vc T n p) (uD T p) dm um++[rY l]⟩) p.length ⟨[],0,p.length,[],[],by omega,by omega,by simp,by omega,rfl,(fun _ _ h=>by cases h),(fun _ _ h=>by cases h),rfl⟩ ?_
    rintro r st ⟨l,i,f,dm,um,hi,hif,hli,rfl,hl,hdm,hum,rfl⟩
    refine ah<|ab (.a 4 rfl<|.k [2,4,10,12,13,29] rfl)<|ag rfl (fun h1=>?_) (fun h1=>?_)
    · have hlt:i<p.length:=by have:=tt h1;omega
      refine ai<|au<|ah ?_
      obtain⟨m,hm⟩:∃m:Nat,min (p.length:Int) ((i:Int)+(N:Int) - 1)=(m:Int):=⟨(min (p.length:Int) ((i:Int)+(N:Int) - 1)).toNat,by omega⟩
      have hfar:∀k,m<k→k≤p.length→ep T D n p i k=false:=fun k h2 h3=>by
        cases hcv:ep T D n p i k with
        |false=>rfl
        |true=>
          have:=Hn hF (i:=i) (j:=k) (by omega) h3 hcv
          omega
      refine ab (.a 4 rfl<|.v (aL rfl ((show some (num T.nodes)=some (num (N:Int)) by rw[hNN]))) rfl<|.v (aS rfl) rfl<|.v (aS rfl) rfl<|.v (sS rfl rfl rfl (hm)) rfl<|.a 1 rfl<|.k [2,4,10,12,13,14] rfl)<|au<|eu [2,4,10,12,13,14] rfl<|bf (fun r st=>∃(j:Nat) (dm:List (Int×PV)) (um:List ((Int×Int)×PV)),i≤j∧j≤p.length∧r=j∧(∀k,j<k→k≤p.length→ep T D n p i k=false)∧kh T D dm∧kF T D um∧st=⟨[(2,aw p),(4,.aY (bq T) 0),(10,.ptr 4 0),(12,.own 5),(13,num i),(14,num j)],BD T D p (vc T n p) (uD T p) dm um++[rY l]⟩) m ⟨m,dm,um,by omega,by omega,rfl,hfar,hdm,hum,rfl⟩ ?_
      clear hdm hum
      rintro r st ⟨j,dm,um,hij,hj,rfl,hno,hdm,hum,rfl⟩
      refine ah<|ab (.a 3 rfl<|.k [2,4,10,12,13,14,40] rfl)<|ag rfl (fun h2=>?_) (fun h2=>?_)
      · have hlt2:i<r:=by have:=tt h2;omega
        refine ai<|ah<|au<|aP<|av 3 rfl<|cP rfl rfl (bS.mono (yd T D p n dm um (rY l) (Bd l) hv hF.fits h12 hF.node ha hp i r (by omega) hj hdm hum) (fun _ σ' h=>?_))
        obtain⟨rfl,dm1,um1,hdm1,hum1,rfl⟩:=h
        refine aG [2,4,10,12,13,14,46] rfl ?_
        refine ag rfl (fun h3=>?_) (fun h3=>?_)
        · have hgj:=vw T n p r hj
          have hl1:=vg T n p
          refine aP<|av 6 rfl<|bC (aJ (r) rfl) rfl<|bC (aL rfl ((ax _ r (by omega)).trans (by rw[hgj]))) rfl<|av 2 rfl<|cp (bA rfl (bI.rk.get rfl) rfl rfl rfl rfl (by unfold maxLen;omega)) rfl<|av 1 rfl ?_
          refine dD [0,1,2,3,4,6] (.c 2<|.c 4<|.c 10<|.c 12<|.c 14<|.nil) (.kept rfl (.row aF.pure)<|.kept rfl (.row aF.pure)<|.same (kh.pure hdm1) rfl<|.same (kF.pure hum1) rfl<|.kept rfl (.cells (aF.c<|aF.c<|aF.c<|aF.c<|aF.c<|aF.c<|aF.c<|aF.c<|aF.c<|aF.nil))<|.kept rfl (.eJ rfl (nx _ ⟨1,cE T n (p.take r)⟩))<|.nil) rfl rfl (bc ?_)
          refine ab (.a 2 rfl<|.k [2,4,10,12,13] rfl)<|ba ?_
          cases f with
          |zero=>omega
          |succ f=>
            first
              | (refine ⟨p.length - r, by omega, l ++ [⟨1, cE T n (p.take r)⟩], r, f, dm1, um1, by omega, by omega, by simp; omega, rfl, ?_, hdm1, hum1, ?_⟩
                 · rw[hl,ko hlt hlt2 hj h3 hno,List.append_assoc];rfl
                 · unfold rY;simp only[List.length_append,List.length_singleton];rfl)
              | (refine ⟨p.length - (i + 1), by omega, l ++ [⟨2, p.getD i 0⟩], i + 1, f, dm, um, by omega, by omega, by simp; omega, rfl, ?_, hdm, hum, ?_⟩
                 · rw[hl,lE hlt hno2,List.append_assoc];rfl
                 · unfold rY;simp only[List.length_append,List.length_singleton];rfl)
        · skip
          refine ai<|az (.a 1 rfl<|.v (aS rfl) rfl<|.a 1 rfl<|.k [2,4,10,12,13,14] rfl) ?_
          refine⟨r - 1,by omega,r - 1,dm1,um1,by omega,by omega,rfl,fun k h4 h5=>?_,hdm1,hum1,?_⟩
          · by_cases e:k=r
            · rw[e];exact h3
            · exact hno k (by omega) h5
          · rw[show((r - 1:Nat):Int)=(r:Int) - 1 by omega]
      · have hno2:∀k,i<k→k≤p.length→ep T D n p i k=false:=fun k h3 h4=>hno k (by have:=ff h2;omega) h4
        refine ba<|aP<|av 3 rfl<|bC (aJ (i) rfl) rfl<|bC (aL rfl (ax _ i hlt)) rfl<|av 2 rfl<|cp (bA rfl (bI.rk.get rfl) rfl rfl rfl rfl (by unfold maxLen;omega)) rfl<|av 1 rfl ?_
        refine dD [0,1,2,3,4,6] (.c 2<|.c 4<|.c 10<|.c 12<|.c 13<|.nil) (.kept rfl (.row aF.pure)<|.kept rfl (.row aF.pure)<|.same (kh.pure hdm) rfl<|.same (kF.pure hum) rfl<|.kept rfl (.cells (aF.c<|aF.c<|aF.c<|aF.c<|aF.c<|aF.c<|aF.c<|aF.c<|aF.c<|aF.nil))<|.kept rfl (.eJ rfl (nx _ ⟨2,p.getD i 0⟩))<|.nil) rfl rfl (bc ?_)
        refine az (.a 1 rfl<|.v (aS rfl) rfl<|.a 1 rfl<|.k [2,4,10,12,13] rfl) ?_
        cases f with
        |zero=>omega
        |succ f=>
          first
            | (refine ⟨p.length - r, by omega, l ++ [⟨1, cE T n (p.take r)⟩], r, f, dm1, um1, by omega, by omega, by simp; omega, rfl, ?_, hdm1, hum1, ?_⟩
               · rw[hl,ko hlt hlt2 hj h3 hno,List.append_assoc];rfl
               · unfold rY;simp only[List.length_append,List.length_singleton];rfl)
            | (refine ⟨p.length - (i + 1), by omega, l ++ [⟨2, p.getD i 0⟩], i + 1, f, dm, um, by omega, by omega, by simp; omega, rfl, ?_, hdm, hum, ?_⟩
               · rw[hl,lE hlt hno2,List.append_assoc];rfl
               · unfold rY;simp only[List.length_append,List.length_singleton];rfl)
    · have hie:i=p.length:=by have:=ff h1;omega
      rw[mo f i (by omega),List.append_nil]at hl
      exact ba<|ab (.a 3 rfl<|.k [8,9] rfl)<|aq<|⟨_,_,aA.of rfl,aB.bx (aj.cons (aB.eH rfl aj.pure) (aj.cons aB.pure aj.nil)),by unfold nu;rw[if_pos rfl,hl];rfl⟩
end PW
end Go.Proofs.YtnegbdpggideiaaGreatDoor
namespace Go.Proofs.YtnegbdpggideiaaGreatDoor
namespace PW
open Go.RowKit cH Mem Net
section
variable {T:an} {D:List Bool} {d:Nat}
theorem Ax(hv:ao T=true)(hd:(d:Int)<T.nodes):∀(K m:Nat),(m:Int)<T.nodes→0≤dN T D d m→dN T D d m≤K→dB T D d m≠1→∃p q,SP T D d m p∧SP T D d m q∧p≠q
 |K,m,hmN,h0,hK,hc=>by
  by_cases hmd:m=d
  ·subst hmd;exact absurd (nU m) hc
  ·obtain⟨k,hk⟩:=jQ (D:=D) hv hmN hd hmd h0
   have hmem:=fk hk ((aM hv).cost k hk.eU).1
   cases hx:aX T D m d with
   |nil=>rw[hx]at hmem;cases hmem
   |cons a l=>
    obtain⟨b,rfl,hb⟩:=cL (T:=T) (D:=D) (n:=m) (d:=d) (a:=a) (by rw[hx];simp)
    obtain⟨x,hxh,hxN⟩:=dt hv hb.eU
    have gx:=hb.dN hxh
    have cx:=(aM hv).cost b hb.eU
    cases l with
    |nil=>
     cases K with
     |zero=>omega
     |succ K=>
      have hcx:dB T D d x≠1:=fun h=>hc (yl hv hd hmN hmd hx hxh h)
      obtain⟨p,q,h1,h2,h3⟩:=Ax hv hd K x hxN gx.1 (by omega) hcx
      exact⟨b::p,b::q,.cons hb hxh h1,.cons hb hxh h2,fun e=>h3 (List.cons.inj e).2⟩
    |cons a2 l=>
     obtain⟨b2,rfl,hb2⟩:=cL (T:=T) (D:=D) (n:=m) (d:=d) (a:=a2) (by rw[hx];simp)
     obtain⟨x2,hxh2,hxN2⟩:=dt hv hb2.eU
     have gx2:=hb2.dN hxh2
     refine⟨b::bY T D x d,b2::bY T D x2 d,.cons hb hxh (eB hv hd hxN gx.1),.cons hb2 hxh2 (eB hv hd hxN2 gx2.1),fun e=>?_⟩
     have he:=(List.cons.inj e).1
     have hlt:=lU T D m d
     rw[hx]at hlt
     have:=(List.pairwise_cons.1 hlt).1 (b2:Int) (by simp)
     omega
theorem Ch.append{e n:Nat}{p q:List Int}(h:Ch T D e n p)(hq:Ch T D d e q)(ho:q=[]∨cU T e=false):Ch T D d n (p++q):=by
 induction h with
 |nil=>exact hq
 | @cons n a m p ha ht hu hm hov hp ih=>
  refine .cons ha ht hu hm ?_ ih
  rcases hov with h|h
  ·subst h
   have:=hp.to rfl
   subst this
   rcases ho with h|h
   ·subst h;exact .inl rfl
   ·exact .inr h
  ·exact .inr h
theorem SP.suffix(hv:ao T=true)(hd:(d:Int)<T.nodes){e:Nat}:∀ {n:Nat} {p q:List Int},SP T D d n (p++q)→dB T D d n=1→Ch T D e n p→SP T D d e q∧dB T D d e=1
 |n,[],q,h,hc,hch=>by
  have:=hch.to rfl
  subst this
  exact⟨h,hc⟩
 |n,a::p,q,h,hc,hch=>by
  cases h with
  | @cons _ b m _ h1 hm hp=>
   cases hch with
   | @cons _ b2 m2 _ _ _ _ hm2 _ hch2=>
    have:m2=m:=by rw[hm]at hm2;omega
    subst this
    obtain⟨b3,h3,_,h4⟩:=uT hv hd (h1.node hv) h1.ne hc
    have e1:=fk h1 ((aM hv).cost b h1.eU).1
    rw[h3]at e1
    simp only[List.mem_singleton]at e1
    have:b3=b:=by omega
    subst this
    exact SP.suffix hv hd hp (h4 m2 hm) hch2
theorem SP.pre(hv:ao T=true)(hd:(d:Int)<T.nodes){e n:Nat}{p q:List Int}(he:(e:Int)<T.nodes)(h:SP T D d n (p++q))(hc:dB T D d n=1)(hp:Ch T D e n p)(hq:Ch T D d e q)(ho:q=[]∨cU T e=false):SP T D e n p∧dB T D e n=1:=by
 have hcost:=(h.cost hv hd).1
 rw[gA]at hcost
 have hle:=hp.le hv he
 have hn:=hp.node hv he
 have hspe:SP T D e n p:=by
  refine hp.sp hv he ?_
  have hs:=eB hv he hn hle.1
  have hc2:=(hs.cost hv he).1
  have:=((hs.ch).append hq ho).le hv hd
  rw[gA]at this
  omega
 refine⟨hspe,Classical.byContradiction fun h1=>?_⟩
 obtain⟨p1,p2,g1,g2,g3⟩:=Ax hv he (dN T D e n).toNat n hn hle.1 (by omega) h1
 have key:∀r,SP T D e n r→SP T D d n (r++q):=fun r hr=>by
  refine((hr.ch).append hq ho).sp hv hd ?_
  rw[gA,hcost,←(hr.cost hv he).1,(hspe.cost hv he).1]
 have:=(key p1 g1).unique hv hd (key p2 g2) hc
 exact g3 (List.append_cancel_right this)
theorem Ch.KC{e:Nat}:∀ {n:Nat} {p q:List Int},Ch T D d n (p++q)→p≠[]→Ch T D e n p→q=[]∨cU T e=false
 |n,[],q,_,h,_=>absurd rfl h
 |n,a::p,q,h,_,hch=>by
  cases h with
  | @cons _ b m _ _ _ _ hm hov hp=>
   cases hch with
   | @cons _ b2 m2 _ _ _ _ hm2 _ hch2=>
    have:m2=m:=by rw[hm]at hm2;omega
    subst this
    cases p with
    |nil=>
     have:=hch2.to rfl
     subst this
     exact hov
    |cons c p=>exact Ch.KC hp (by simp) hch2
variable {n:Int} {p:List Int}
theorem la(p:List Int){i j k:Nat}(h1:i≤j)(h2:j≤k):dA p i k=dA p i j++dA p j k:=by
 have e1:=je p (show i≤k by omega)
 have e2:=je p h2
 rw[je p h1,List.append_assoc]at e2
 rw[e1]at e2
 exact List.append_cancel_left e2
theorem G3(h:pL T D n p){i j i' j':Nat}(h1:i≤i')(h2:i'<j')(h3:j'≤j)(hj:j≤p.length)(hc:ep T D n p i j=true):ep T D n p i' j'=true:=by
 have ha:=h.aK
 have hv:=h.valid
 obtain⟨u,hu,huN⟩:=cg hv h.node ha i (by omega)
 obtain⟨y,hy,hyN⟩:=cg hv h.node ha j hj
 obtain⟨u',hu',huN'⟩:=cg hv h.node ha i' (by omega)
 obtain⟨y',hy',hyN'⟩:=cg hv h.node ha j' (by omega)
 obtain⟨c1,c2⟩:=(mZ h (by omega) hj hu hy).1 hc
 rw[la p h1 (show i'≤j by omega)]at c1
 obtain⟨c3,c4⟩:=c1.suffix hv hyN c2 (h.ch h1 (by omega) hu hu')
 rw[la p (show i'≤j' by omega) h3]at c3
 have hp:=h.ch (show i'≤j' by omega) (by omega) hu' hy'
 have hq:=h.ch h3 hj hy' hy
 have ho:=c3.ch.KC (e:=y') (by
  intro e
  have:=kc p (show i'≤j' by omega) (by omega)
  rw[e]at this
  simp at this
  omega) hp
 exact(mZ h (by omega) (by omega) hu' hy').2 (c3.pre hv hyN hyN' c4 hp hq ho)
end
end PW
end Go.Proofs.YtnegbdpggideiaaGreatDoor
namespace Go.Proofs.YtnegbdpggideiaaGreatDoor
namespace PW
open Go.RowKit cH Mem Net
section
variable {T:an} {D:List Bool} {n:Int} {p:List Int}
theorem zX(p:List Int){i k:Nat}(hik:i<k)(hk:k≤p.length):(dA p i k).getD 0 0=p.getD i 0:=by
 unfold dA
 rw[List.getD_eq_getElem?_getD,List.getElem?_take,if_pos (by omega),List.getElem?_drop,List.getD_eq_getElem?_getD,Nat.add_zero]
theorem EI(p:List Int){i k m:Nat}(hm:m<k - i):(dA p i k).getD m 0=p.getD (i+m) 0:=by
 unfold dA
 rw[List.getD_eq_getElem?_getD,List.getElem?_take,if_pos hm,List.getElem?_drop,List.getD_eq_getElem?_getD]
theorem wu{i k:Nat}{a:Int}(h:a∈dA p i k):a∈p:=List.mem_of_mem_drop (List.mem_of_mem_take h)
theorem mr(h:pL T D n p){i:Nat}(hi:i<p.length){x:Nat}(hx:cE T n (p.take i)=(x:Int)):aZ T (p.getD i 0).toNat=(x:Int):=by
 have ha:=h.aK
 obtain⟨y,hy,hyN⟩:=cg h.valid h.node ha (i+1) hi
 have hch:=h.ch (i:=i) (j:=i+1) (by omega) hi hx hy
 have hp:dA p i (i+1)=[p.getD i 0]:=by
  unfold dA
  rw[drop_cons p i hi,show i+1 - i=1 by omega]
  rfl
 rw[hp]at hch
 generalize p.getD i 0=a at hch
 cases hch with
 |cons _ h2 _ _ _ _=>exact h2
end
noncomputable def gu(T:an)(D:List Bool)(n:Int)(p:List Int)(i m:Nat):ca×Nat:=match iU (ep T D n p i) i m with
 |some j=>(⟨1,cE T n (p.take j)⟩,j)
 |none=>(⟨2,p.getD i 0⟩,i+1)
section
variable {T:an} {D:List Bool} {n:Int} {p:List Int}
theorem zL(i:Nat):gu T D n p i i=(⟨2,p.getD i 0⟩,i+1):=by
 unfold gu
 rw[pa i (fun k h1 h2=>by omega)]
theorem Fb{i m:Nat}(h:i≤m)(hc:ep T D n p i (m+1)=true):gu T D n p i (m+1)=(⟨1,cE T n (p.take (m+1))⟩,m+1):=by
 unfold gu
 rw[pf (j:=m+1) (by omega) hc (m+1) (by omega) (fun k h1 h2=>by omega)]
theorem Hs{i m:Nat}(h:i≤m)(hc:ep T D n p i (m+1)=false):gu T D n p i (m+1)=gu T D n p i m:=by
 unfold gu
 have:iU (ep T D n p i) i (m+1)=iU (ep T D n p i) i m:=by
  rw[iU,if_neg (by omega),if_neg (by rw[hc];simp)]
 rw[this]
theorem Ef{f i:Nat}(hi:i<p.length):gJ T D n p (f+1) i=(gu T D n p i p.length).1::gJ T D n p f (gu T D n p i p.length).2:=by
 unfold gu
 simp only[gJ]
 rw[if_pos hi]
 cases iU (ep T D n p i) i p.length<;>rfl
theorem BA(i:Nat)(hi:i<p.length):i<(gu T D n p i p.length).2∧(gu T D n p i p.length).2≤p.length:=by
 unfold gu
 cases h:iU (ep T D n p i) i p.length with
 |none=>exact⟨by simp,by simp;omega⟩
 |some j=>have:=my _ _ h;exact⟨this.1,this.2.1⟩
end
end PW
end Go.Proofs.YtnegbdpggideiaaGreatDoor
namespace Go.Proofs.YtnegbdpggideiaaGreatDoor
namespace PW
open Go.RowKit cH Mem Net
def yZ(T:an)(s:ca)(n:Int):Int×Int:=if oH T s=false then(0,1) else if bd T n=false then(0,2) else if s.kind=1 then(s.num,0) else if s.kind=2 then(if aZ T s.num.toNat≠n then(0,4) else(aW T s.num.toNat,0)) else(0,7)
theorem BS(l:List ca)(k:Nat)(h:k<l.length):∃s,l[k]? =some s∧l.drop k=s::l.drop (k+1):=⟨l[k],List.getElem?_eq_getElem h,List.drop_eq_getElem_cons h⟩
end PW
end Go.Proofs.YtnegbdpggideiaaGreatDoor
namespace Go.Proofs.YtnegbdpggideiaaGreatDoor
namespace PW
open Go.RowKit cH Mem Net
def nw(T:an)(n:Int)(p:List Int)(x:Int):Nat→Nat→Nat
 |0,i=>i
 |f+1,i=>if cE T n (p.take i)=x then i else nw T n p x f (i+1)
noncomputable def jO(T:an)(D:List Bool)(n:Int)(p:List Int)(i:Nat)(s:ca):Option Nat:=
 if s.kind=2∧i<p.length∧p.getD i 0=s.num then some (i+1)
 else if s.kind=1 then(if cE T n (p.take (nw T n p s.num (p.length - i) i))=s.num∧ep T D n p i (nw T n p s.num (p.length - i) i)=true then some (nw T n p s.num (p.length - i) i) else none)
 else none
noncomputable def HY(T:an)(D:List Bool)(n:Int)(p:List Int):Nat→List ca→Bool
 |i,[]=>decide (i=p.length)
 |i,s::l=>match jO T D n p i s with
  |some j=>HY T D n p j l
  |none=>false
section
variable {T:an} {D:List Bool} {n:Int} {p:List Int}
theorem zG(x:Int):∀f i,i≤nw T n p x f i∧nw T n p x f i≤i+f
 |0,i=>by simp[nw]
 |f+1,i=>by
  simp only[nw]
  split
  ·omega
  ·have:=zG x f (i+1);omega
theorem Ej(x:Int):∀f i k,i≤k→k<nw T n p x f i→cE T n (p.take k)≠x
 |0,i,k,h1,h2=>by simp only[nw]at h2;omega
 |f+1,i,k,h1,h2=>by
  simp only[nw]at h2
  split at h2
  ·omega
  ·rename_i h3
   by_cases e:k=i
   ·subst e;exact h3
   ·exact Ej x f (i+1) k (by omega) h2
theorem ve(x:Int):∀f i j,i≤j→j≤i+f→cE T n (p.take j)=x→(∀k,i≤k→k<j→cE T n (p.take k)≠x)→nw T n p x f i=j
 |0,i,j,h1,h2,_,_=>by simp only[nw];omega
 |f+1,i,j,h1,h2,h3,h4=>by
  simp only[nw]
  by_cases e:i=j
  ·subst e;rw[if_pos h3]
  ·rw[if_neg (h4 i (Nat.le_refl _) (by omega))]
   exact ve x f (i+1) j (by omega) (by omega) h3 (fun k h5 h6=>h4 k (by omega) h6)
theorem Ch.fin{d:Nat}{m:Nat}{q:List Int}(h:Ch T D d m q):cE T (m:Int) q=(d:Int):=by
 induction h with
 |nil=>rfl
 | @cons n a m p ha ht hu hm ho hp ih=>simp only[cE,Int.toNat_natCast,hm];exact ih
theorem oY(h:pL T D n p){i j:Nat}(hij:i≤j)(hj:j≤p.length)(hc:ep T D n p i j=true):nw T n p (cE T n (p.take j)) (p.length - i) i=j:=by
 have ha:=h.aK
 have hv:=h.valid
 refine ve _ _ _ _ hij (by omega) rfl fun k h1 h2 he=>?_
 obtain⟨u,hu,huN⟩:=cg hv h.node ha i (by omega)
 obtain⟨y,hy,hyN⟩:=cg hv h.node ha j hj
 obtain⟨z,hz,hzN⟩:=cg hv h.node ha k (by omega)
 have hzy:z=y:=by omega
 subst hzy
 obtain⟨c1,c2⟩:=(mZ h hij hj hu hy).1 hc
 rw[la p h1 (show k≤j by omega)]at c1
 obtain⟨c3,c4⟩:=c1.suffix hv hyN c2 (h.ch h1 (by omega) hu hz)
 have:=c3.self
 have hl:=kc p (show k≤j by omega) hj
 rw[this]at hl
 simp at hl
 omega
theorem iv{x y:Nat}(hv:ao T=true)(hf:bN T D=true)(hx:(x:Int)<T.nodes)(hy:(y:Int)<T.nodes):fM T D x y=if dN T D y x<0 then 11 else 0:=by
 have hne:bV T D (x:Int) (y:Int)=0:=by
  unfold bV
  rw[if_pos (u7 hv hf hy),aT.2 ⟨by omega,hx⟩]
  rfl
 unfold fM;rw[if_pos hne];simp only[Int.toNat_natCast]
theorem vZ{x y:Nat}(hv:ao T=true)(hf:bN T D=true)(hx:(x:Int)<T.nodes)(hy:(y:Int)<T.nodes):eW T D x y=true↔dB T D y x=1:=by
 have hne:bV T D (x:Int) (y:Int)=0:=by
  unfold bV
  rw[if_pos (u7 hv hf hy),aT.2 ⟨by omega,hx⟩]
  rfl
 unfold eW
 rw[hne]
 simp
theorem I7(h:pL T D n p){i j x y:Nat}(hij:i≤j)(hj:j≤p.length)(hx:cE T n (p.take i)=(x:Int))(hy:cE T n (p.take j)=(y:Int)):ep T D n p i j=true↔fM T D x y=0∧eW T D x y=true∧bY T D x y=dA p i j:=by
 have ha:=h.aK
 have hv:=h.valid
 obtain⟨x',hx',hxN⟩:=cg hv h.node ha i (by omega)
 obtain⟨y',hy',hyN⟩:=cg hv h.node ha j hj
 have e1:x'=x:=by omega
 have e2:y'=y:=by omega
 subst e1
 subst e2
 rw[mZ h hij hj hx hy,iv hv h.fits hxN hyN,vZ hv h.fits hxN hyN]
 constructor
 ·rintro⟨h1,h2⟩
  have h0:=(h1.cost hv hyN).2
  exact⟨by rw[if_neg (by omega)],h2,(eB hv hyN hxN h0).unique hv hyN h1 h2⟩
 ·rintro⟨h1,h2,h3⟩
  have h0:0≤dN T D y' x':=by
   split at h1
   ·omega
   ·omega
  exact⟨by rw[←h3];exact eB hv hyN hxN h0,h2⟩
theorem zH(h:pL T D n p):∀(f i:Nat),i≤p.length→p.length - i≤f→HY T D n p i (gJ T D n p f i)=true
 |f,i,hi,hf=>by
  by_cases hlt:i<p.length
  ·cases f with
   |zero=>omega
   |succ f=>
    cases ht:iU (ep T D n p i) i p.length with
    |none=>
     rw[lE hlt (fun k h1 h2=>jR _ ht k h1 h2)]
     simp only[HY]
     have hst:jO T D n p i ⟨2,p.getD i 0⟩=some (i+1):=by unfold jO;rw[if_pos ⟨rfl,hlt,rfl⟩]
     rw[hst]
     exact zH h f (i+1) (by omega) (by omega)
    |some j=>
     obtain⟨t1,t2,t3,t4⟩:=my _ _ ht
     rw[ko hlt t1 t2 t3 t4]
     simp only[HY]
     have hst:jO T D n p i ⟨1,cE T n (p.take j)⟩=some j:=by
      unfold jO
      simp only
      rw[if_neg (by omega),if_pos trivial,oY h (by omega) t2 t3,if_pos ⟨rfl,t3⟩]
     rw[hst]
     exact zH h f j t2 (by omega)
  ·rw[mo f i (by omega)]
   simp only[HY,decide_eq_true_eq]
   omega
theorem GI:∀f i,(gJ T D n p f i).length≤f:=fun f=>by
 induction f with
 |zero=>intro i;simp[gJ]
 |succ f ih=>
  intro i
  simp only[gJ]
  split
  ·split
   ·have:=ih ‹Nat›;simp only[List.length_cons];omega
   ·have:=ih (i+1);simp only[List.length_cons];omega
  ·simp
theorem xm(h:pL T D n p):eQ T D n p=0:=by
 unfold eQ
 have h2:dQ T n p=0:=by unfold dQ;rw[if_pos h.valid,if_pos h.node];exact h.walk
 rw[if_pos (by rw[h.valid,h.fits];rfl),if_pos h2,if_neg]
 intro e
 obtain⟨x,h3,h4⟩:=List.any_eq_true.1 e
 rw[h.up x h3]at h4
 cases h4
end
end PW
end Go.Proofs.YtnegbdpggideiaaGreatDoor
namespace Go.Proofs.YtnegbdpggideiaaGreatDoor
namespace PW
open Go.RowKit cH Mem Net
def fY(D:List Bool)(q:List Int):Bool:= !q.any fun a=>aI D a.toNat
theorem mH{D:List Bool}{q:List Int}:fY D q=true↔∀a∈q,aI D a.toNat=false:=by
 unfold fY
 rw[Bool.not_eq_true',List.any_eq_false]
 constructor
 ·intro h a ha
  have:=h a ha
  simpa using this
 ·intro h a ha
  rw[h a ha]
  simp
theorem xV{D:List Bool}{q:List Int}{a:Int}(ha:a∈q)(h:aI D a.toNat=true):fY D q=false:=by
 unfold fY
 rw[Bool.not_eq_false',List.any_eq_true]
 exact⟨a,ha,h⟩
theorem IA(T:an)(D:List Bool)(q:List Int)(hf:bN T D=true)(ha:∀a∈q,eF T a=true)(hq:q.length≤1000):Can Tryz.prog 121 [aQ D,aw q] (· =flag (fY D q)):=by
 refine aE Tryz.func121 rfl Tryz.ntmps121 rfl<|ab (.a 1 rfl<|.k [0,1] rfl)<|ah<|ab (.a 3 rfl<|.k [0,7,8,9] rfl)<|au<|eu [0,7,8,9] rfl<|bf (fun r st=>∃k:Nat,k≤q.length∧r=q.length - k∧(∀a∈q.take k,aI D a.toNat=false)∧st=⟨[(0,aQ D),(7,aw q),(8,num q.length),(9,num k)],[]⟩) q.length ⟨0,by omega,by omega,by simp,rfl⟩ ?_
 rintro r st ⟨k,hk,rfl,hdn,rfl⟩
 refine ab (.a 1 rfl<|.k [0,7,8,9,10] rfl)<|ah<|ag rfl (fun hy=>?_) (fun hy=>?_)
 ·have hlt:k<q.length:=by have:=tt hy;omega
  have hmem:=bO (d:=0) hlt
  have hab:=ha _ hmem
  simp only[eF,decide_eq_true_eq]at hab
  obtain⟨a,hae⟩:∃a:Nat,q.getD k 0=(a:Int):=⟨(q.getD k 0).toNat,by omega⟩
  have hD:D.length=0∨a<D.length:=by simp only[bN,decide_eq_true_eq]at hf;omega
  refine ai<|ah<|au<|ab (.v (aJ (k) rfl) rfl<|.v (aL rfl ((ax q k hlt).trans (by rw[hae]))) rfl<|.a 1 rfl<|.k [0,6,7,8,9] rfl)<|ab (.a 2 rfl<|.c rfl (jE D a hD) rfl<|.k [0,7,8,9,15] rfl)<|ag rfl (fun hz=>?_) (fun hz=>?_)
  ·have he:=xV (D:=D) hmem (by rw[hae];exact hz)
   exact ab (.a 1 rfl<|.k [4] rfl)<|aq<|⟨_,_,aA.of rfl,aB.pure,by rw[he];rfl⟩
  ·skip
   refine ai<|az (.v (aS rfl) rfl<|.a 1 rfl<|.k [0,7,8,9] rfl) ?_
   refine⟨q.length - (k+1),by omega,k+1,by omega,rfl,fun x hx=>?_,rfl⟩
   rw[dc q k 0 hlt]at hx
   rcases List.mem_append.1 hx with h|h
   ·exact hdn x h
   ·simp only[List.mem_singleton]at h;rw[h,hae];exact hz
 ·have hke:k=q.length:=by have:=ff hy;omega
  subst hke
  rw[List.take_length]at hdn
  exact ba<|ab (.a 1 rfl<|.k [4] rfl)<|aq<|⟨_,_,aA.of rfl,aB.pure,by rw[mH.2 hdn];rfl⟩
theorem rP(T:an)(D:List Bool)(q:List Int)(hf:bN T D=true)(ha:∀a∈q,eF T a=true)(hq:q.length≤1000):Can Tryz.prog 211 [aQ D,aw q] (· =flag (fY D q)):=by
 refine aE Tryz.func211 rfl Tryz.ntmps211 rfl<|ab (.a 1 rfl<|.k [0,1] rfl)<|ah<|ab (.a 1 rfl<|.k [0,1,5] rfl)<|au<|eu [0,1,5] rfl<|bf (fun r st=>∃k:Nat,k≤q.length∧r=q.length - k∧(∀a∈q.take k,aI D a.toNat=false)∧st=⟨[(0,aQ D),(1,aw q),(5,num k)],[]⟩) q.length ⟨0,by omega,by omega,by simp,rfl⟩ ?_
 rintro r st ⟨k,hk,rfl,hdn,rfl⟩
 refine ah<|ab (.a 4 rfl<|.k [0,1,5,9] rfl)<|ag rfl (fun hy=>?_) (fun hy=>?_)
 ·have hlt:k<q.length:=by have:=tt hy;omega
  have hmem:=bO (d:=0) hlt
  have hab:=ha _ hmem
  simp only[eF,decide_eq_true_eq]at hab
  obtain⟨a,hae⟩:∃a:Nat,q.getD k 0=(a:Int):=⟨(q.getD k 0).toNat,by omega⟩
  have hD:D.length=0∨a<D.length:=by simp only[bN,decide_eq_true_eq]at hf;omega
  refine ai<|ah<|au<|ab (.a 3 rfl<|.v (aJ (k) rfl) rfl<|.v (aL rfl ((ax q k hlt).trans (by rw[hae]))) rfl<|.c rfl (qg D a hD) rfl<|.a 1 rfl<|.k [0,1,5,18] rfl)<|ag rfl (fun hz=>?_) (fun hz=>?_)
  ·have hz1:aI D a=true:=by simpa using hz
   have he:=xV (D:=D) hmem (by rw[hae];exact hz1)
   exact ab (.a 1 rfl<|.k [4] rfl)<|aq<|⟨_,_,aA.of rfl,aB.pure,by rw[he];rfl⟩
  ·have hz1:aI D a=false:=by simpa using hz
   refine ai<|az (.a 1 rfl<|.v (aS rfl) rfl<|.a 1 rfl<|.k [0,1,5] rfl) ?_
   refine⟨q.length - (k+1),by omega,k+1,by omega,rfl,fun x hx=>?_,rfl⟩
   rw[dc q k 0 hlt]at hx
   rcases List.mem_append.1 hx with h|h
   ·exact hdn x h
   ·simp only[List.mem_singleton]at h;rw[h,hae];exact hz1
 ·have hke:k=q.length:=by have:=ff hy;omega
  subst hke
  rw[List.take_length]at hdn
  exact ba<|ab (.a 1 rfl<|.k [4] rfl)<|aq<|⟨_,_,aA.of rfl,aB.pure,by rw[mH.2 hdn];rfl⟩
theorem vX{T:an}{D:List Bool}{n:Int}{p:List Int}(hvf:(ao T&&bN T D)=true)(h:dQ T n p≠0):eQ T D n p=dQ T n p:=by unfold eQ;rw[if_pos hvf,if_neg h]
theorem tV{T:an}{D:List Bool}{n:Int}{p:List Int}(hvf:(ao T&&bN T D)=true)(h:dQ T n p=0):eQ T D n p=if fY D p=true then 0 else 7:=by
 unfold eQ fY
 rw[if_pos hvf,if_pos h]
 cases p.any fun a=>aI D a.toNat<;>rfl
theorem zn(T:an)(D:List Bool)(p:List Int)(n:Int)(hp:p.length≤1000)(hlk:T.ae.length≤256):Can Tryz.prog 63 [aN T,aQ D,aw p,num n] (· =num (eQ T D n p)):=by
 obtain⟨q1,hq1⟩:∃q,ao T=q:=⟨_,rfl⟩
 obtain⟨q2,hq2⟩:∃q,bN T D=q:=⟨_,rfl⟩
 refine aE Tryz.func63 rfl Tryz.ntmps63 rfl<|ab (.a 2 rfl<|.k [1,2,3,4] rfl)<|ah<|bu 20 (.raw (.bool ((!q1)|| !q2))) [1,2,3,4] rfl ?_ ?_
 ·refine .a 1 rfl<|.c rfl (hq1▸eC T) rfl<|.a 2 rfl<|?_
  cases q1
  ·exact .a 5 rfl<|.k [20,1,2,3,4] rfl
  ·exact .a 2 rfl<|.c rfl (hq2▸lM T D (by omega)) rfl<|.a 2 rfl<|.k [20,1,2,3,4] rfl
 refine ag rfl (fun hc=>?_) (fun hc=>?_)
 ·have he:eQ T D n p=1:=by unfold eQ;rw[hq1,hq2];cases q1<;>cases q2<;>first|rfl|cases hc
  exact ab (.a 1 rfl<|.k [8] rfl)<|aq<|⟨_,_,aA.of rfl,aB.pure,by rw[he];rfl⟩
 ·have hv:ao T=true:=by rw[hq1];cases q1;cases hc;rfl
  have hf:bN T D=true:=by rw[hq2];cases q2;cases q1<;>cases hc;rfl
  have hvf:(ao T&&bN T D)=true:=by rw[hv,hf];rfl
  refine ai<|ah<|ab (.a 3 rfl<|.c rfl (wW T n p (by omega)) rfl<|.a 7 rfl<|.k [1,2,11] rfl)<|ab (.a 2 rfl<|.k [1,2,11,30] rfl)<|ag rfl (fun hx=>?_) (fun hx=>?_)
  ·have hx1:dQ T n p≠0:=tt hx
   exact ab (.a 2 rfl<|.k [8] rfl)<|aq<|⟨_,_,aA.of rfl,aB.pure,by rw[vX hvf hx1];rfl⟩
  ·have hx1:dQ T n p=0:=Classical.byContradiction (ff hx)
   obtain⟨_,hn,hw⟩:=kL hx1
   have ha:=kf hw
   rw[tV hvf hx1]
   refine ai<|ah<|ab (.a 2 rfl<|.c rfl (IA T D p hf ha hp) rfl<|.a 1 rfl<|.k [35] rfl)<|ag rfl (fun hy=>?_) (fun hy=>?_)
   ·have hy1:fY D p=false:=by simpa using hy
    exact ab (.a 1 rfl<|.k [8] rfl)<|aq<|⟨_,_,aA.of rfl,aB.pure,by rw[hy1];rfl⟩
   ·have hy1:fY D p=true:=by simpa using hy
    exact ai<|ab (.a 1 rfl<|.k [8] rfl)<|aq<|⟨_,_,aA.of rfl,aB.pure,by rw[hy1];rfl⟩
theorem wG(T:an)(D:List Bool)(p:List Int)(n:Int)(hp:p.length≤1000):Can Tryz.prog 195 [aN T,aQ D,aw p,num n] (· =num (eQ T D n p)):=by
 obtain⟨q1,hq1⟩:∃q,(ao T&&bN T D)=q:=⟨_,rfl⟩
 refine aE Tryz.func195 rfl Tryz.ntmps195 rfl<|ab (.a 2 rfl<|.k [1,2,3,4] rfl)<|ah<|ab (.a 2 rfl<|.c rfl (hq1▸nd T D) rfl<|.a 1 rfl<|.k [1,2,3,4,15] rfl)<|ag rfl (fun hc=>?_) (fun hc=>?_)
 ·have h1:q1=false:=by cases q1;rfl;cases hc
  have he:eQ T D n p=1:=by unfold eQ;rw[hq1,h1];rfl
  exact ab (.a 1 rfl<|.k [8] rfl)<|aq<|⟨_,_,aA.of rfl,aB.pure,by rw[he];rfl⟩
 ·have h1:q1=true:=by cases q1;cases hc;rfl
  subst h1
  obtain⟨hv,hf⟩:=Bool.and_eq_true_iff.1 hq1
  refine ai<|ab (.a 3 rfl<|.c rfl (BX T n p (by omega)) rfl<|.a 7 rfl<|.k [1,2,11] rfl)<|ah<|ab (.a 2 rfl<|.k [1,2,11,25] rfl)<|ag rfl (fun hx=>?_) (fun hx=>?_)
  ·have hx1:dQ T n p≠0:=tt hx
   exact ab (.a 2 rfl<|.k [8] rfl)<|aq<|⟨_,_,aA.of rfl,aB.pure,by rw[vX hq1 hx1];rfl⟩
  ·have hx1:dQ T n p=0:=Classical.byContradiction (ff hx)
   obtain⟨_,hn,hw⟩:=kL hx1
   have ha:=kf hw
   rw[tV hq1 hx1]
   refine ai<|ah<|ab (.a 2 rfl<|.c rfl (rP T D p hf ha hp) rfl<|.a 1 rfl<|.k [30] rfl)<|ag rfl (fun hy=>?_) (fun hy=>?_)
   ·have hy1:fY D p=false:=by simpa using hy
    exact ab (.a 1 rfl<|.k [8] rfl)<|aq<|⟨_,_,aA.of rfl,aB.pure,by rw[hy1];rfl⟩
   ·have hy1:fY D p=true:=by simpa using hy
    exact ai<|ab (.a 1 rfl<|.k [8] rfl)<|aq<|⟨_,_,aA.of rfl,aB.pure,by rw[hy1];rfl⟩
section
variable {T:an} {D:List Bool} {n:Int} {p:List Int}
theorem fU(T:an):bN T []=true:=by simp[bN]
theorem pL.bare(h:pL T D n p):pL T [] n p:=⟨h.valid,fU T,h.node,h.walk,fun a _=>by simp[aI]⟩
theorem Kr{n:Int}{p:List Int}(h:eQ T D n p=0):eQ T [] n p=0:=xm (zz h).bare
end
theorem BN(T:an)(D:List Bool)(p:List Int)(n:Int)(hp:p.length≤1000)(hlk:T.ae.length≤256)(h12:T.nodes≤12):Can Tryz.prog 18 [aN T,aQ D,aw p,num n] (· =nu (eQ T D n p) (ig T [] n p)):=by
 refine aE Tryz.func18 rfl Tryz.ntmps18 rfl<|ab (.a 3 rfl<|.k [1,2,3,4] rfl)<|ah<|ab (.a 4 rfl<|.c rfl (zn T D p n hp hlk) rfl<|.a 1 rfl<|.k [2,3,4,10] rfl)<|ab (.a 2 rfl<|.k [2,3,4,10,17] rfl)<|ag rfl (fun hc=>?_) (fun hc=>?_)
 ·have he:eQ T D n p≠0:=tt hc
  exact ab (.a 3 rfl<|.k [8,9] rfl)<|aq<|⟨_,_,aA.of rfl,aB.bx (aj.cons aB.bT (aj.cons aB.pure aj.nil)),by unfold nu;rw[if_neg he];rfl⟩
 ·have he:eQ T D n p=0:=Classical.byContradiction (ff hc)
  have hl:=CE T [] p n hp hlk h12
  rw[Kr he]at hl
  rw[he]
  exact ai<|ab (.a 3 rfl<|.v (sn rfl (aj.cons aB.pure<|aj.cons aB.bT<|aj.cons aB.pure<|aj.cons aB.pure aj.nil) (hl)) rfl<|.a 4 rfl<|.k [8,9] rfl)<|aq<|⟨_,_,aA.of rfl,aB.pure,rfl⟩
end PW
end Go.Proofs.YtnegbdpggideiaaGreatDoor
namespace Go.Proofs.YtnegbdpggideiaaGreatDoor
namespace PW
open Go.RowKit cH Mem Net
def HZ(K:St→Prop):Exit→St→Prop
 | .normal,s=>K s
 |_,_=>False
theorem vy{P:Program}{N L:Nat}{x y:Code}{st:St}{Q:Exit→St→Prop}{Q1:St→Prop}(h:W P N L x st (HZ Q1))(k:∀s,Q1 s→W P N L y s Q):W P N L (.seq x y) st Q:=
 ah (h.mono fun e s hq=>by
  cases e<;>first|exact k s hq|exact hq.elim)
section
variable {T:an} {D:List Bool} {n:Int} {p:List Int}
end
end PW
end Go.Proofs.YtnegbdpggideiaaGreatDoor
namespace Go.Proofs.YtnegbdpggideiaaGreatDoor
namespace PW
open Go.RowKit cH Mem Net
section
variable {T:an} {D:List Bool}
theorem Ch.aK{d m:Nat}{q:List Int}(h:Ch T D d m q):∀a∈q,eF T a=true:=by
 induction h with
 |nil=>intro a ha;cases ha
 | @cons n a m p ha ht hu hm ho hp ih=>
  intro b hb
  rcases List.mem_cons.1 hb with rfl|hb
  ·exact cJ.2 ⟨by omega,by omega⟩
  ·exact ih b hb
theorem ku{x y:Int}(h:fM T D x y=0):∃a b:Nat,x=(a:Int)∧y=(b:Int)∧(a:Int)<T.nodes∧(b:Int)<T.nodes∧ao T=true∧SP T D b a (bY T D x.toNat y.toNat):=by
 unfold fM at h
 split at h
 ·rename_i he
  obtain⟨hv,hf,hn,hd⟩:=eS he
  rw[aT]at hn hd
  obtain⟨a,rfl⟩:=Int.eq_ofNat_of_zero_le hn.1
  obtain⟨b,rfl⟩:=Int.eq_ofNat_of_zero_le hd.1
  refine⟨a,b,rfl,rfl,hn.2,hd.2,hv,?_⟩
  simp only[Int.toNat_natCast]at h ⊢
  exact eB hv hd.2 hn.2 (by split at h<;>omega)
 ·rename_i he
  exact absurd h he
end
theorem Io(l:List ca)(k:Nat)(s:ca)(h:l[k]? =some s):(eM l)[k*2+0]? =some (num s.kind):=xS l k 0 s h (by omega)
theorem IH(l:List ca)(k:Nat)(s:ca)(h:l[k]? =some s):(eM l)[k*2+1]? =some (num s.num):=xS l k 1 s h (by omega)
instance (T:an) (n:Int) (l:List Int):lI (jM T n l):=by unfold jM;infer_instance
end PW
end Go.Proofs.YtnegbdpggideiaaGreatDoor
namespace Go.Proofs.YtnegbdpggideiaaGreatDoor
namespace PW
open Go.RowKit cH Mem Net
noncomputable def FB(T:an)(D:List Bool)(x y:Int):Bool:=(((ao T&&bN T D)&& !decide (x=y))&&eW T [] x y)&&fY D (bY T [] x.toNat y.toNat)
theorem ov{T:an}{D:List Bool}{x y:Int}(h:eW T D x y=true):fM T D x y=0:=by
 unfold eW at h
 rw[Bool.and_eq_true,decide_eq_true_eq,decide_eq_true_eq]at h
 obtain⟨h1,h2⟩:=h
 obtain⟨hv,hf,hn,hd⟩:=eS h1
 rw[aT]at hn hd
 obtain⟨a,rfl⟩:=Int.eq_ofNat_of_zero_le hn.1
 obtain⟨b,rfl⟩:=Int.eq_ofNat_of_zero_le hd.1
 simp only[Int.toNat_natCast]at h2
 unfold fM
 rw[if_pos h1,if_neg]
 simp only[Int.toNat_natCast]
 intro h0
 rw[Am hv hd.2 hn.2 h0]at h2
 omega
theorem Cj(T:an)(D:List Bool)(x y:Int)(h12:T.nodes≤12):Can Tryz.prog 212 [aN T,aQ D,num x,num y] (· =flag (FB T D x y)):=by
 obtain⟨q1,hq1⟩:∃q,(ao T&&bN T D)=q:=⟨_,rfl⟩
 obtain⟨q3,hq3⟩:∃q,decide (x=y)=q:=⟨_,rfl⟩
 obtain⟨q4,hq4⟩:∃q,eW T [] x y=q:=⟨_,rfl⟩
 have hS:FB T D x y=(((q1&& !q3)&&q4)&&fY D (bY T [] x.toNat y.toNat)):=by unfold FB;rw[hq1,hq3,hq4]
 rw[hS]
 refine aE Tryz.func212 rfl Tryz.ntmps212 rfl<|ab (.a 2 rfl<|.k [1,2,3,4] rfl)<|ah<|bu 26 (.raw (.bool (((!q1)||q3)|| !q4))) [1,2,3,4] rfl ?_ ?_
 ·refine .a 2 rfl<|.c rfl (hq1▸nd T D) rfl<|.a 2 rfl<|?_
  cases q1
  ·exact .a 11 rfl<|.k [26,1,2,3,4] rfl
  ·refine .a 2 rfl<|.v (b9 rfl (hq3)) rfl<|.a 2 rfl<|?_
   cases q3
   ·exact .a 3 rfl<|.v (sn rfl (aj.cons aB.pure<|aj.cons aB.bT<|aj.cons aB.pure<|aj.cons aB.pure aj.nil) (hq4▸wU T [] x y h12)) rfl<|.a 2 rfl<|.k [26,1,2,3,4] rfl
   ·exact .a 6 rfl<|.k [26,1,2,3,4] rfl
 refine ag rfl (fun hc=>?_) (fun hc=>?_)
 ·skip
  exact ab (.a 1 rfl<|.k [8] rfl)<|aq<|⟨_,_,aA.of rfl,aB.pure,by cases q1<;>cases q3<;>cases q4<;>first|rfl|cases hc⟩
 ·have h4:q1=true∧q3=false∧q4=true:=by cases q1<;>cases q3<;>cases q4<;>first|exact⟨rfl,rfl,rfl⟩|cases hc
  obtain⟨rfl,rfl,rfl⟩:=h4
  obtain⟨hv,hf⟩:=Bool.and_eq_true_iff.1 hq1
  have hsp:=ny T [] x y
  have hs0:=ov hq4
  rw[hs0]at hsp
  obtain⟨xa,yb,hxa,hyb,hxN,hyN,_,hpath⟩:=ku hs0
  have hlt:=hpath.ze hv hyN
  have hu:=rP T D (bY T [] x.toNat y.toNat) hf hpath.ch.aK (by omega)
  obtain⟨p1,hp1⟩:∃q,decide ((0:Int)=0)=q:=⟨_,rfl⟩
  have hpt:p1=true:=by rw[←hp1];rfl
  obtain⟨p2,hp2⟩:∃q,fY D (bY T [] x.toNat y.toNat)=q:=⟨_,rfl⟩
  rw[hp2]at hu ⊢
  refine ai<|ab (.a 3 rfl<|.v (sn rfl (aj.cons aB.pure<|aj.cons aB.bT<|aj.cons aB.pure<|aj.cons aB.pure aj.nil) (hsp)) rfl<|.a 5 rfl<|.k [1,9,10] rfl)<|bu 8 (.raw (.bool (p1&&p2))) [] rfl ?_ ?_
  ·refine .a 1 rfl<|.v (b9 rfl (hp1)) rfl<|.a 1 rfl<|?_
   cases p1
   ·exact .a 5 rfl<|.k [8] rfl
   ·exact .a 2 rfl<|.c rfl (hu) rfl<|.a 2 rfl<|.k [8] rfl
  exact aq<|⟨_,_,aA.of rfl,aB.pure,by rw[hpt];rfl⟩
section
variable {T:an} {D:List Bool} {n:Int} {p:List Int}
theorem nI(h:pL T D n p){i k x y:Nat}(hik:i<k)(hk:k≤p.length)(hx:cE T n (p.take i)=(x:Int))(hy:cE T n (p.take k)=(y:Int)):(FB T D x y&&nt (bY T [] x y) (dA p i k))=ep T [] n p i k:=by
 have hb:=h.bare
 have ha:=h.aK
 have hv:=h.valid
 obtain⟨x',hx',hxN⟩:=cg hv h.node ha i (by omega)
 obtain⟨y',hy',hyN⟩:=cg hv h.node ha k hk
 have e1:x'=x:=by omega
 have e2:y'=y:=by omega
 subst e1
 subst e2
 rw[Bool.eq_iff_iff,I7 hb (by omega) hk hx hy]
 unfold FB nt
 simp only[Int.toNat_natCast,Bool.and_eq_true,Bool.not_eq_true',decide_eq_true_eq,decide_eq_false_iff_not]
 constructor
 ·rintro⟨⟨⟨_,h3⟩,h4⟩,h5⟩
  exact⟨ov h3,h3,h5⟩
 ·rintro⟨h1,h2,h3⟩
  refine⟨⟨⟨⟨⟨hv,h.fits⟩,fun e=>?_⟩,h2⟩,?_⟩,h3⟩
  ·have e2:x'=y':=by omega
   subst e2
   rw[iv hv (fU T) hxN hxN]at h1
   have hsp:=eB (D:=[]) hv hxN hxN (by split at h1<;>omega)
   have h6:=hsp.self
   rw[h6]at h3
   have:=kc p (show i≤k by omega) hk
   rw[←h3]at this
   simp at this
   omega
  ·rw[h3,mH]
   exact fun a ha=>h.up a (wu ha)
end
theorem zU(T:an)(D:List Bool)(n:Int)(p:List Int)(h:pL T D n p)(h12:T.nodes≤12)(hp:p.length≤1000){i k:Nat}(hik:i<k)(hk:k≤p.length):Can Tryz.prog 196 [aN T,aQ D,aw (dA p i k)] (· =flag (ep T [] n p i k)):=by
 have ha:=h.aK
 have hv:=h.valid
 obtain⟨x,hx,hxN⟩:=cg hv h.node ha i (by omega)
 obtain⟨y,hy,hyN⟩:=cg hv h.node ha k hk
 rw[←nI h hik hk hx hy]
 have hpl:=kc p (show i≤k by omega) hk
 obtain⟨q,hq⟩:∃q,dA p i k=q:=⟨_,rfl⟩
 have htl:=mr h (show i<p.length by omega) hx
 have hed:=eZ T n p (k - 1) (by omega)
 rw[show k - 1+1=k by omega,hy]at hed
 have h1:q.getD 0 0=p.getD i 0:=by rw[←hq,zX p hik hk]
 have h2:q.getD (q.length - 1) 0=p.getD (k - 1) 0:=by rw[←hq,hpl,EI p (by omega)];congr 1;omega
 have hqa:∀a∈q,eF T a=true:=fun a h=>ha a (wu (by rw[hq];exact h))
 rw[hq]at hpl ⊢
 have ht:=qE T hv _ (hqa _ (bO (d:=0) (show 0<q.length by omega)))
 have hh:=nL T hv _ (hqa _ (bO (d:=0) (show q.length - 1<q.length by omega)))
 rw[h1,htl]at ht
 rw[h2,←hed]at hh
 obtain⟨s,hs⟩:∃s,FB T D x y=s:=⟨_,rfl⟩
 rw[hs]
 refine aE Tryz.func196 rfl Tryz.ntmps196 rfl<|ab (.a 2 rfl<|.k [1,2,3] rfl)<|dY mixed (by kernel_rfl) (.a 2 rfl<|.v [12] (aJ (0) rfl) rfl rfl<|.v [13] (aL rfl ((ax q 0 (by omega)).trans (by rw[h1]))) rfl rfl<|.v [11,14] (dJ rfl (ht)) rfl rfl<|.a 4 rfl<|.v [19] (aS rfl) rfl rfl<|.v [17,20] (aJ ((q.length - 1)) rfl) rfl rfl<|.v [21] (aL rfl ((ax q (q.length - 1) (by omega)).trans (by rw[h2]))) rfl rfl<|.v [16,22] (dJ rfl (hh)) rfl rfl<|.a 2 rfl<|.k [1,2,3,7,8] rfl) ?_
 refine ah<|ab (.a 4 rfl<|.c rfl (hs▸Cj T D x y h12) rfl<|.a 1 rfl<|.k [2,3,7,8,29] rfl)<|ag rfl (fun hc=>?_) (fun hc=>?_)
 ·have h3:s=false:=by simpa using hc
  subst h3
  exact ab (.a 1 rfl<|.k [6] rfl)<|aq<|⟨_,_,aA.of rfl,aB.pure,rfl⟩
 ·have h3:s=true:=by simpa using hc
  subst h3
  have hu:eW T [] x y=true:=by
   unfold FB at hs
   simp only[Bool.and_eq_true]at hs
   exact hs.1.2
  have hsp:=ny T [] (x:Int) (y:Int)
  rw[ov hu]at hsp
  simp only[Int.toNat_natCast]at hsp
  exact ai<|ab (.a 3 rfl<|.v (sn rfl (aj.cons aB.pure<|aj.cons aB.bT<|aj.cons aB.pure<|aj.cons aB.pure aj.nil) (hsp)) rfl<|.a 5 rfl<|.k [2,9] rfl)<|ab (.a 2 rfl<|.c rfl (tP (bY T [] x y) q) rfl<|.a 1 rfl<|.k [6] rfl)<|aq<|⟨_,_,aA.of rfl,aB.pure,rfl⟩
section
variable {P:Program} {σ:cm} {t:cd} {o:Oper}
theorem Jy{ty e i j:Nat}{z:Int}{x hi':Operand}{L:List Int}(ho:o.op= .slice ty x none (some hi') none)(he:tR P ty=some (e,1))(hx:aD t x=some (aw (L.drop i)))(hhi:aD t hi'=some (num z))(hz:z=(j:Int) - i)(hij:i≤j)(hj:j≤L.length):br P σ t o (aw (dA L i j)):=by
 have hl:(L.drop i).length=L.length - i:=by simp
 have:=sW (σ:=σ) (h:=j - i) ho he hx hhi (by rw[sU];omega) (by omega) (by omega)
 have e1:aw (dA L i j)= .slice (j - i) ((aR (L.drop i)).take ((j - i)*1)):=by
  unfold aw
  rw[kc L hij hj,Nat.mul_one]
  unfold aR dA
  rw[List.map_take]
 rw[e1]
 exact this
theorem JB{ty e i j:Nat}{z:Int}{x lo:Operand}{L:List Int}(ho:o.op= .slice ty x (some lo) none none)(he:tR P ty=some (e,1))(hx:aD t x=some (aw (L.drop i)))(hlo:aD t lo=some (num z))(hz:z=(j:Int) - i)(hij:i≤j)(hj:j≤L.length):br P σ t o (aw (L.drop j)):=by
 have hl:(L.drop i).length=L.length - i:=by simp
 have:=sT (σ:=σ) (l:=j - i) ho he hx hlo (by rw[sU];omega) (by omega) (by omega)
 have e1:aw (L.drop j)= .slice ((L.drop i).length - (j - i)) (((aR (L.drop i)).drop ((j - i)*1)).take (((L.drop i).length - (j - i))*1)):=by
  have h2:L.drop j=(L.drop i).drop (j - i):=by rw[List.drop_drop];congr 1;omega
  rw[h2]
  unfold aw
  rw[List.length_drop,Nat.mul_one,Nat.mul_one]
  unfold aR
  rw[←List.map_drop,List.take_of_length_le (by simp;omega)]
 rw[e1]
 exact this
end
theorem xx(p:List Int)(i k:Nat):(p.drop i).getD k 0=p.getD (i+k) 0:=by rw[List.getD_eq_getElem?_getD,List.getElem?_drop,List.getD_eq_getElem?_getD]
set_option maxHeartbeats 2000000 in
theorem zF(T:an)(D:List Bool)(p:List Int)(n:Int)(hp:p.length≤1000)(h12:T.nodes≤12):Can Tryz.prog 170 [aN T,aQ D,aw p,num n] (· =nu (eQ T D n p) (ig T [] n p)):=by
 refine aE Tryz.func170 rfl Tryz.ntmps170 rfl<|ab (.a 3 rfl<|.k [1,2,3,4] rfl)<|ab (.a 4 rfl<|.c rfl (wG T D p n hp) rfl<|.a 1 rfl<|.k [1,2,4,10] rfl)<|ah<|ab (.a 2 rfl<|.k [1,2,4,10,21] rfl)<|ag rfl (fun hc=>?_) (fun hc=>?_)
 ·have he:eQ T D n p≠0:=tt hc
  exact ab (.a 3 rfl<|.k [8,9] rfl)<|aq<|⟨_,_,aA.of rfl,aB.bx (aj.cons aB.bT (aj.cons aB.pure aj.nil)),by unfold nu;rw[if_neg he];rfl⟩
 ·have he:eQ T D n p=0:=Classical.byContradiction (ff hc)
  have hF:=zz he
  have hv:=hF.valid
  have ha:=hF.aK
  rw[he]
  clear hc
  refine ai<|ab (.a 1 rfl<|.k [1,2,4,11] rfl)<|fp 11 103 2 rfl ?_
  refine ah<|au<|eu [1,2,4,11] rfl<|bf (fun r st=>∃(l:List ca) (i f:Nat),i≤p.length∧p.length - i≤f∧l.length≤i∧r=p.length - i∧ig T [] n p=l++gJ T [] n p f i∧st=⟨[(1,aQ D),(2,aw (p.drop i)),(4,.aY (bq T) 0),(11,.own 0)],[rY l]⟩) p.length ⟨[],0,p.length,by omega,by omega,by simp,by omega,rfl,rfl⟩ ?_
  rintro r st ⟨l,i,f,hi,hif,hli,rfl,hl,rfl⟩
  have hdl:(p.drop i).length=p.length - i:=by simp
  refine ah<|ab (.a 3 rfl<|.k [1,2,4,11,25] rfl)<|ag rfl (fun h1=>?_) (fun h1=>?_)
  ·have hlt:i<p.length:=by have:=tt h1;omega
   obtain⟨hn1,hn2⟩:=BA (T:=T) (D:=[]) (n:=n) i hlt
   refine ai<|au<|aP<|av 1 rfl<|bC (aJ (0) rfl) rfl<|bC (aL rfl ((ax (p.drop i) 0 (by omega)).trans (by rw[xx,Nat.add_zero]))) rfl<|av 4 rfl<|aG [1,2,4,11,12,13] rfl ?_
   refine ah<|ab (.a 1 rfl<|.k [1,2,4,11,12,13,14] rfl)<|au<|eu [1,2,4,11,12,13,14] rfl<|bf (fun r st=>∃m:Nat,i≤m∧m≤p.length∧r=p.length - m∧st=⟨[(1,aQ D),(2,aw (p.drop i)),(4,.aY (bq T) 0),(11,.own 0),(12,.ptr 1 0),(13,num (((gu T [] n p i m).2:Int) - i)),(14,num ((m:Int)+1 - i))],[rY l,some (.cells 103 (nk (gu T [] n p i m).1))]⟩) (p.length - i) ⟨i,by omega,by omega,rfl,by simp only[zL];rw[show(((i+1:Nat):Int) - (i:Int))=1 by omega,show(i:Int)+1 - i=1 by omega];rfl⟩ ?_
   rintro r st ⟨m,him,hm,rfl,rfl⟩
   refine ah<|ab (.a 4 rfl<|.k [1,2,4,11,12,13,14,33] rfl)<|ag rfl (fun h2=>?_) (fun h2=>?_)
   ·have hlt2:m+1≤p.length:=by have:=tt h2;omega
    have hed:=eZ T n p m (by omega)
    have hco:=zU T D n p hF h12 hp (i:=i) (k:=m+1) (by omega) hlt2
    have hhd:=nL T hv (p.getD m 0) (ha _ (bO (by omega)))
    rw[←hed]at hhd
    have hgd:(p.drop i).getD (m - i) 0=p.getD m 0:=by rw[xx];congr 1;omega
    refine ai<|ah<|au<|dY mixed (by kernel_rfl) (.a 4 rfl<|.v [38,39] (Jy (j:=m+1) rfl (bI.el.get rfl) rfl rfl (by omega) (by omega) hlt2) rfl rfl<|.v [36,37,40] (dJ rfl (hco)) rfl rfl<|.k [1,2,4,11,12,13,14,41] rfl) ?_
    refine ag rfl (fun h3=>?_) (fun h3=>?_)
    ·have hb:=Fb him h3
     refine dp 9 20 mixed (
      .val [4] rfl (bH rfl) rfl rfl<|
      .val [2] rfl (bH rfl) rfl rfl<|
      .val [14] rfl (bH rfl) rfl rfl<|
      .val [44] rfl (aS rfl (hc:=(show(m:Int)+1 - i - 1=((m - i:Nat):Int) by omega))) rfl rfl<|
      .val [43,45] rfl (aJ ((m - i)) rfl) rfl rfl<|
      .val [46] rfl (aL rfl ((ax (p.drop i) (m - i) (by omega)).trans (by rw[hgd]))) rfl rfl<|
      .val [42,47] rfl (dJ rfl (hhd)) rfl rfl<|
      .val [48] rfl (bH rfl) rfl rfl<|
      .late [14] rfl (lG rfl rfl) inferInstance rfl rfl<|
      .nil) (by kernel_rfl) rfl rfl (bm (ks:=[1,2,4,11,12,14,49,50]) rfl) ?_
     refine av 2 rfl<|aG [1,2,4,11,12,13,14] rfl ?_
     refine az (.a 1 rfl<|.v (aS rfl) rfl<|.a 1 rfl<|.k [1,2,4,11,12,13,14] rfl) ?_
     refine⟨p.length - (m+1),by omega,m+1,by omega,hlt2,rfl,?_⟩
     rw[hb,show((m+1:Nat):Int)+1 - i=(m:Int)+1 - i+1 by omega]
     all_goals first
      |rfl
      |(simp only;rw[show((m+1:Nat):Int) - i=(m:Int)+1 - i by omega])
    ·have hb:=Hs him h3
     refine ai<|az (.a 1 rfl<|.v (aS rfl) rfl<|.a 1 rfl<|.k [1,2,4,11,12,13,14] rfl) ?_
     refine⟨p.length - (m+1),by omega,m+1,by omega,hlt2,rfl,?_⟩
     rw[hb,show((m+1:Nat):Int)+1 - i=(m:Int)+1 - i+1 by omega]
     all_goals first
      |rfl
      |(simp only;rw[show((m+1:Nat):Int) - i=(m:Int)+1 - i by omega])
   ·have hme:m=p.length:=by have:=ff h2;omega
    subst hme
    refine ba<|aP<|av 3 rfl<|cp (bA rfl (bI.rk.get rfl) rfl rfl rfl rfl (by unfold maxLen;omega)) rfl<|av 1 rfl ?_
    refine dD [2] (.c 1<|.c 2<|.c 4<|.c 11<|.c 13<|.nil) (.kept rfl (.eJ rfl (nx _ (gu T [] n p i p.length).1))<|.nil) rfl rfl (bc ?_)
    refine az (.a 2 rfl<|.v (JB (j:=(gu T [] n p i p.length).2) rfl (bI.el.get rfl) rfl rfl rfl (by omega) hn2) rfl<|.a 1 rfl<|.k [1,2,4,11] rfl) ?_
    cases f with
    |zero=>omega
    |succ f=>
     refine⟨p.length - (gu T [] n p i p.length).2,by omega,l++[(gu T [] n p i p.length).1],(gu T [] n p i p.length).2,f,hn2,by omega,by simp;omega,rfl,?_,?_⟩
     ·rw[hl,Ef hlt,List.append_assoc];rfl
     ·unfold rY;simp only[List.length_append,List.length_singleton]
  ·have hie:i=p.length:=by have:=ff h1;omega
   rw[mo f i (by omega),List.append_nil]at hl
   exact ba<|ab (.a 3 rfl<|.k [8,9] rfl)<|aq<|⟨_,_,aA.of rfl,aB.bx (aj.cons (aB.eH rfl aj.pure) (aj.cons aB.pure aj.nil)),by unfold nu;rw[if_pos rfl,hl];rfl⟩
end PW
end Go.Proofs.YtnegbdpggideiaaGreatDoor
namespace Go.Proofs.YtnegbdpggideiaaGreatDoor
namespace PW
open Go.RowKit cH Mem Net
noncomputable def zY(T:an)(n:Int)(p:List Int)(x:Int)(i:Nat):Nat→Nat→Option Nat
 |0,_=>none
 |f+1,j=>if cE T n (p.take j)=x∧ep T [] n p i j=true then some j else zY T n p x i f (j+1)
noncomputable def qF(T:an)(n:Int)(p:List Int)(i:Nat)(s:ca):Option Nat:=
 if s.kind=2∧i<p.length∧p.getD i 0=s.num then some (i+1)
 else if s.kind=1 then zY T n p s.num i (p.length - i) (i+1)
 else none
noncomputable def Jz(T:an)(n:Int)(p:List Int):Nat→List ca→Bool
 |i,[]=>decide (i=p.length)
 |i,s::l=>match qF T n p i s with
  |some j=>Jz T n p j l
  |none=>false
def rv(T:an):Int→List ca→Bool
 |_,[]=>true
 |x,s::l=>if s.kind=1∧s.num=x then false else rv T (yZ T s x).1 l
section
variable {T:an} {n:Int} {p:List Int}
theorem uq{x:Int}{i:Nat}:∀(f j k:Nat),zY T n p x i f j=some k→j≤k∧k<j+f∧cE T n (p.take k)=x∧ep T [] n p i k=true∧∀m,j≤m→m<k→¬(cE T n (p.take m)=x∧ep T [] n p i m=true)
 |0,j,k,h=>by simp[zY]at h
 |f+1,j,k,h=>by
  simp only[zY]at h
  split at h
  ·rename_i h1;cases h;exact⟨Nat.le_refl _,by omega,h1.1,h1.2,fun m h2 h3=>by omega⟩
  ·rename_i h1
   obtain⟨a,b,c,d,e⟩:=uq f (j+1) k h
   refine⟨by omega,by omega,c,d,fun m h2 h3=>?_⟩
   by_cases hm:m=j
   ·subst hm;exact h1
   ·exact e m (by omega) h3
theorem AZ{x:Int}{i:Nat}:∀(f j k:Nat),j≤k→k<j+f→cE T n (p.take k)=x→ep T [] n p i k=true→(∀m,j≤m→m<k→¬(cE T n (p.take m)=x∧ep T [] n p i m=true))→zY T n p x i f j=some k
 |0,j,k,h1,h2,_,_,_=>by omega
 |f+1,j,k,h1,h2,h3,h4,h5=>by
  simp only[zY]
  by_cases e:j=k
  ·subst e;rw[if_pos ⟨h3,h4⟩]
  ·rw[if_neg (h5 j (Nat.le_refl _) (by omega))]
   exact AZ f (j+1) k (by omega) (by omega) h3 h4 (fun m h6 h7=>h5 m (by omega) h7)
theorem q9(h:pL T [] n p){i:Nat}(hi:i≤p.length)(s:ca)(j:Nat):qF T n p i s=some j↔jO T [] n p i s=some j∧¬(s.kind=1∧s.num=cE T n (p.take i)):=by
 unfold qF jO
 by_cases h1:s.kind=2∧i<p.length∧p.getD i 0=s.num
 ·rw[if_pos h1,if_pos h1]
  constructor
  ·intro e;exact⟨e,fun e2=>by omega⟩
  ·intro e;exact e.1
 ·rw[if_neg h1,if_neg h1]
  by_cases h2:s.kind=1
  ·rw[if_pos h2,if_pos h2]
   constructor
   ·intro e
    obtain⟨a,b,c,d,_⟩:=uq _ _ _ e
    have hf:=oY h (show i≤j by omega) (by omega) d
    rw[c]at hf
    rw[hf,if_pos ⟨c,d⟩]
    refine⟨rfl,fun e2=>?_⟩
    have:=ve (T:=T) (n:=n) (p:=p) s.num (p.length - i) i i (Nat.le_refl _) (by omega) e2.2.symm (fun k h3 h4=>by omega)
    omega
   ·rintro⟨e1,e2⟩
    split at e1
    ·rename_i h3
     simp only[Option.some.injEq]at e1
     have hge:=zG (T:=T) (n:=n) (p:=p) s.num (p.length - i) i
     have hno:=Ej (T:=T) (n:=n) (p:=p) s.num (p.length - i) i
     rw[e1]at h3 hge hno
     have hne:i≠j:=fun e=>e2 ⟨h2,by rw[e];exact h3.1.symm⟩
     exact AZ _ _ _ (by omega) (by omega) h3.1 h3.2 (fun m h4 h5 h6=>hno m (by omega) h5 h6.1)
    ·cases e1
  ·rw[if_neg h2,if_neg h2]
   simp
theorem step_end(h:pL T [] n p){i j:Nat}(hi:i≤p.length){s:ca}(hst:jO T [] n p i s=some j):(yZ T s (cE T n (p.take i))).1=cE T n (p.take j)∧(yZ T s (cE T n (p.take i))).2=0∧j≤p.length:=by
 have ha:=h.aK
 have hv:=h.valid
 obtain⟨x,hx,hxN⟩:=cg hv h.node ha i hi
 have hnb:bd T (x:Int)=true:=aT.2 ⟨by omega,hxN⟩
 rw[hx]
 have hss:=hst
 unfold jO at hst
 split at hst
 ·rename_i h1
  cases hst
  have hab:=ha _ (bO (d:=0) h1.2.1)
  have htl:=mr h h1.2.1 hx
  have hed:=eZ T n p i h1.2.1
  rw[h1.2.2]at hab htl hed
  have hsg:oH T s=true:=by unfold oH;rw[if_neg (by omega),if_pos h1.1];exact hab
  have hes:yZ T s x=(cE T n (p.take (i+1)),0):=by
   unfold yZ
   rw[if_neg (by rw[hsg];simp),if_neg (by rw[hnb];simp),if_neg (by omega),if_pos h1.1,if_neg (by rw[htl];simp),hed]
  rw[hes]
  exact⟨rfl,rfl,h1.2.1⟩
 ·split at hst
  ·rename_i h2
   split at hst
   ·rename_i h3
    simp only[Option.some.injEq]at hst
    have hge:=zG (T:=T) (n:=n) (p:=p) s.num (p.length - i) i
    rw[hst]at h3 hge
    obtain⟨y,hy,hyN⟩:=cg hv h.node ha j (by omega)
    have hsy:s.num=(y:Int):=by rw[←h3.1];exact hy
    have hsg:oH T s=true:=by unfold oH;rw[if_pos h2,hsy];exact aT.2 ⟨by omega,hyN⟩
    have hes:yZ T s x=(s.num,0):=by
     unfold yZ
     rw[if_neg (by rw[hsg];simp),if_neg (by rw[hnb];simp),if_pos h2]
    rw[hes]
    exact⟨h3.1.symm,rfl,by omega⟩
   ·cases hst
  ·cases hst
theorem Fw(h:pL T [] n p):∀(l:List ca) (i:Nat),i≤p.length→Jz T n p i l=(HY T [] n p i l&&rv T (cE T n (p.take i)) l)
 | [],i,hi=>by simp[Jz,HY,rv]
 |s::l,i,hi=>by
  simp only[Jz,HY,rv]
  cases hX:jO T [] n p i s with
  |none=>
   have hP:qF T n p i s=none:=by
    cases hP:qF T n p i s with
    |none=>rfl
    |some j=>have:=((q9 h hi s j).1 hP).1;rw[hX]at this;cases this
   rw[hP]
   rfl
  |some j=>
   obtain⟨e1,e2,e3⟩:=step_end h hi hX
   by_cases hd:s.kind=1∧s.num=cE T n (p.take i)
   ·have hP:qF T n p i s=none:=by
     cases hP:qF T n p i s with
     |none=>rfl
     |some j=>exact absurd hd ((q9 h hi s j).1 hP).2
    rw[hP,if_pos hd]
    simp
   ·rw[(q9 h hi s j).2 ⟨hX,hd⟩,if_neg hd,e1]
    simp only
    exact Fw h l j e3
theorem uR(h:pL T [] n p):∀(f i:Nat),i≤p.length→rv T (cE T n (p.take i)) (gJ T [] n p f i)=true
 |f,i,hi=>by
  by_cases hlt:i<p.length
  ·cases f with
   |zero=>rfl
   |succ f=>
    cases ht:iU (ep T [] n p i) i p.length with
    |none=>
     rw[lE hlt (fun k h1 h2=>jR _ ht k h1 h2)]
     have hst:jO T [] n p i ⟨2,p.getD i 0⟩=some (i+1):=by unfold jO;rw[if_pos ⟨rfl,hlt,rfl⟩]
     simp only[rv]
     rw[if_neg (by rintro⟨h1,_⟩;omega),(step_end h hi hst).1]
     exact uR h f (i+1) (by omega)
    |some j=>
     obtain⟨t1,t2,t3,t4⟩:=my _ _ ht
     rw[ko hlt t1 t2 t3 t4]
     have hf:=oY h (show i≤j by omega) t2 t3
     have hst:jO T [] n p i ⟨1,cE T n (p.take j)⟩=some j:=by
      unfold jO
      simp only
      rw[if_neg (by omega),if_pos trivial,hf,if_pos ⟨rfl,t3⟩]
     simp only[rv]
     rw[if_neg,(step_end h hi hst).1]
     ·exact uR h f j t2
     ·rintro⟨_,h2⟩
      have:=ve (T:=T) (n:=n) (p:=p) (cE T n (p.take j)) (p.length - i) i i (Nat.le_refl _) (by omega) h2.symm (fun k h3 h4=>by omega)
      omega
  ·rw[mo f i (by omega)]
   rfl
end
noncomputable def J1(T:an)(D:List Bool)(l:List ca)(n:Int)(p:List Int):Bool:=if eQ T D n p=0 then Jz T n p 0 l else false
end PW
end Go.Proofs.YtnegbdpggideiaaGreatDoor
namespace Go.Proofs.YtnegbdpggideiaaGreatDoor
namespace PW
open Go.RowKit cH Mem Net fw
theorem vO(p:List Int)(u:PV):bS Tryz.prog 190 [aw p,.ptr 0 0] [some (.cells 37 [u])] (fun r σ'=>r= .tuple []∧σ'=[some (.cells 37 [aw p])]):=by
 refine cw Tryz.func190 rfl Tryz.ntmps190 rfl<|bF<|av 2 rfl<|aG [] rfl ?_
 exact⟨_,aA.of rfl,rfl,rfl⟩
theorem zR(T:an)(D:List Bool)(n d:Int):bS Tryz.prog 184 [aN T,aQ D,num n,num d,.func 190 [.ptr 0 0]] [some (.cells 37 [.raw (.slice none 0 0)])] (fun r σ'=>r=num (fM T D n d)∧σ'=[some (.cells 37 [if fM T D n d=0 then aw (bY T D n.toNat d.toNat) else .raw (.slice none 0 0)])]):=by
 refine cw Tryz.func184 rfl Tryz.ntmps184 rfl<|ab (.a 2 rfl<|.k [1,2,3,4,5] rfl)<|ab (.a 4 rfl<|.c rfl (sQ T D n d) rfl<|.a 5 rfl<|.k [4,11,12] rfl)<|ah<|ab (.a 2 rfl<|.k [4,11,12,22] rfl)<|ag rfl (fun h1=>?_) (fun h1=>?_)
 ·have he:fM T D n d=0:=tt h1
  refine bF<|av 2 rfl<|cP rfl rfl (bS.mono (vO _ _) (fun r σ' h=>?_))
  obtain⟨rfl,rfl⟩:=h
  refine aG [12] rfl ?_
  refine ab (.a 2 rfl<|.k [10] rfl)<|aq ?_
  first
   |exact⟨_,aA.of rfl,rfl,by rw[if_neg he]⟩
   |exact⟨_,aA.of rfl,rfl,by simp only[if_pos he]⟩
 ·have he:¬fM T D n d=0:=ff h1
  refine ai<|ab (.a 2 rfl<|.k [10] rfl)<|aq ?_
  first
   |exact⟨_,aA.of rfl,rfl,by rw[if_neg he]⟩
   |exact⟨_,aA.of rfl,rfl,by simp only[if_pos he]⟩
theorem zq(T:an)(D:List Bool)(n d:Int):Can Tryz.prog 162 [aN T,aQ D,num n,num d] (· =dh (fM T D n d) (bY T D n.toNat d.toNat)):=by
 obtain⟨u,hu⟩:∃u:PV,(if fM T D n d=0 then aw (bY T D n.toNat d.toNat) else .raw (.slice none 0 0))=u:=⟨_,rfl⟩
 have hf:=zR T D n d
 rw[hu]at hf
 refine aE Tryz.func162 rfl Tryz.ntmps162 rfl<|ab (.a 3 rfl<|.k [1,2,3,4] rfl)<|aP<|av 1 rfl<|aG [1,2,3,4,10] rfl ?_
 refine aP<|av 5 rfl<|cP rfl rfl (bS.mono hf (fun r σ' h=>?_))
 obtain⟨rfl,rfl⟩:=h
 refine av 1 rfl<|aG [10,11] rfl ?_
 refine ab (.v (aL rfl ((show some u=some u from rfl))) rfl<|.a 3 rfl<|.k [8,9] rfl)<|aq<|⟨_,_,aA.of rfl,aB.bx (aj.cons (y:=aw (if fM T D n d=0 then bY T D n.toNat d.toNat else [])) ?_ (aj.cons aB.pure aj.nil)),rfl⟩
 rw[←hu]
 by_cases he:fM T D n d=0
 ·rw[if_pos he,if_pos he];exact aB.pure
 ·rw[if_neg he,if_neg he];exact aB.bT
end PW
end Go.Proofs.YtnegbdpggideiaaGreatDoor
namespace Go.Proofs.YtnegbdpggideiaaGreatDoor
namespace PW
open Go.RowKit cH Mem Net
section
variable {T:an} {D:List Bool}
theorem xd{d:Nat}:∀ {m:Nat} {q:List Int},Ch T D d m q→(q=[]∨cU T m=false)→dw T false m q=0
 |m,[],_,_=>rfl
 |m,a::q,h,ho=>by
  cases h with
  | @cons _ b k _ ha ht hu hm hov hp=>
   rw[mE (cJ.2 ⟨by omega,by omega⟩) (by rw[Int.toNat_natCast];exact ht) (.inr (by rcases ho with h|h;cases h;rw[Int.toNat_natCast];exact h)),Int.toNat_natCast,hm]
   exact xd hp hov
theorem Ao{d m:Nat}{q:List Int}(h:Ch T D d m q):dw T true m q=0:=by
 cases h with
 |nil=>rfl
 | @cons _ b k q ha ht hu hm hov hp=>
  rw[mE (cJ.2 ⟨by omega,by omega⟩) (by rw[Int.toNat_natCast];exact ht) (.inl rfl),Int.toNat_natCast,hm]
  exact xd hp hov
theorem Ch.bare{d m:Nat}{q:List Int}(h:Ch T D d m q):Ch T [] d m q:=by
 induction h with
 |nil=>exact .nil
 |cons ha ht hu hm ho hp ih=>exact .cons ha ht (by simp[aI]) hm ho ih
theorem Ch.mask{d m:Nat}{q:List Int}(h:Ch T [] d m q)(hc:∀a∈q,aI D a.toNat=false):Ch T D d m q:=by
 induction h with
 |nil=>exact .nil
 | @cons n a m p ha ht hu hm ho hp ih=>exact .cons ha ht (by have:=hc a (by simp);rw[Int.toNat_natCast]at this;exact this) hm ho (ih fun b hb=>hc b (by simp[hb]))
structure iE (T:an) (D:List Bool) (x y:Nat) (p:List Int):Prop where
 valid:ao T=true
 fits:bN T D=true
 ne:x≠y
 hx:(x:Int)<T.nodes
 hy:(y:Int)<T.nodes
 uniq:eW T [] x y=true
 sp:SP T [] y x p
 up:∀a∈p,aI D a.toNat=false
theorem AX{x y:Int}(h:FB T D x y=true):∃a b:Nat,x=(a:Int)∧y=(b:Int)∧iE T D a b (bY T [] a b)∧fM T [] x y=0:=by
 unfold FB at h
 simp only[Bool.and_eq_true,Bool.not_eq_true',decide_eq_false_iff_not]at h
 obtain⟨⟨⟨⟨hv,hf⟩,hne⟩,hu⟩,hc⟩:=h
 obtain⟨a,b,rfl,rfl,ha,hb,_,hsp⟩:=ku (ov hu)
 simp only[Int.toNat_natCast]at hsp hc
 exact⟨a,b,rfl,rfl,⟨hv,hf,fun e=>hne (by rw[e]),ha,hb,hu,hsp,mH.1 hc⟩,ov hu⟩
variable {x y:Nat} {p:List Int}
theorem iE.pos(h:iE T D x y p):0<p.length:=by
 have hsp:=h.sp
 cases hsp with
 |nil=>exact absurd rfl h.ne
 |cons _ _ _=>simp
theorem iE.Ij(h:iE T D x y p):pL T D x p:=⟨h.valid,h.fits,aT.2 ⟨by omega,h.hx⟩,Ao h.sp.ch,h.up⟩
theorem iE.nf(h:iE T D x y p):dB T [] y x=1:=(vZ h.valid (fU T) h.hx h.hy).1 h.uniq
theorem iE.J7(h:iE T D x y p):ep T [] x p 0 p.length=true:=by
 have he:cE T (x:Int) (p.take p.length)=(y:Int):=by rw[List.take_length];exact h.sp.ch.fin
 rw[mZ h.Ij.bare (Nat.zero_le _) (Nat.le_refl _) (u:=x) rfl he]
 have:dA p 0 p.length=p:=by unfold dA;simp
 rw[this]
 exact⟨h.sp,h.nf⟩
theorem iE.part(h:iE T D x y p){i k:Nat}(hik:i≤k)(hk:k<p.length):FB T D (aZ T (p.getD i 0).toNat) (aW T (p.getD k 0).toNat)=true:=by
 have hF:=h.Ij
 have ha:=hF.aK
 have hc:=G3 hF.bare (i:=0) (j:=p.length) (i':=i) (j':=k+1) (Nat.zero_le _) (by omega) (by omega) (Nat.le_refl _) h.J7
 obtain⟨u,hu,huN⟩:=cg h.valid hF.node ha i (by omega)
 obtain⟨v,hv,hvN⟩:=cg h.valid hF.node ha (k+1) (by omega)
 rw[mr hF (by omega) hu,←eZ T x p k hk,hv]
 rw[←nI hF (by omega) (by omega) hu hv,Bool.and_eq_true]at hc
 exact hc.1
theorem iE.next(h:iE T D x y p){i u:Nat}(hi:i<p.length)(hu:cE T x (p.take i)=(u:Int)):aX T [] u y=[p.getD i 0]∧aX T D u y=[p.getD i 0]∧(u:Int)<T.nodes:=by
 have hF:=h.Ij
 have hv:=h.valid
 have ha:=hF.aK
 obtain⟨u',hu',huN⟩:=cg hv hF.node ha i (by omega)
 have:u'=u:=by omega
 subst this
 have hfin:cE T (x:Int) (p.take p.length)=(y:Int):=by rw[List.take_length];exact h.sp.ch.fin
 have hch:=hF.bare.ch (i:=0) (j:=i) (Nat.zero_le _) (by omega) (u:=x) rfl hu
 have hpp:dA p 0 i++dA p i p.length=p:=by rw[←la p (Nat.zero_le _) (by omega)];unfold dA;simp
 have hsp:=h.sp
 rw[←hpp]at hsp
 obtain⟨s1,s2⟩:=hsp.suffix hv h.hy h.nf hch
 have hdr:dA p i p.length=p.getD i 0::p.drop (i+1):=by
  unfold dA
  rw[List.take_of_length_le (by simp),drop_cons p i hi]
 rw[hdr]at s1
 have hup:∀c∈p.getD i 0::p.drop (i+1),aI D c.toNat=false:=fun c hc=>by
  rw[←drop_cons p i hi]at hc
  exact h.up c (List.mem_of_mem_drop hc)
 have hchD:=s1.ch.mask hup
 have hd0:=s1.cost hv h.hy
 generalize p.getD i 0=a0 at*
 generalize p.drop (i+1)=q at*
 cases s1 with
 | @cons _ a m _ hn hm hq=>
  obtain⟨b,hb,_,_⟩:=uT hv h.hy huN hn.ne s2
  have hab:=fk hn ((aM hv).cost a hn.eU).1
  rw[hb]at hab
  simp only[List.mem_singleton]at hab
  rw[←hab]at hb
  refine⟨hb,?_,huN⟩
  have hDle:=hchD.le hv h.hy
  have mono:∀k:Nat,(k:Int)<T.nodes→0≤dN T D y k→0≤dN T [] y k∧dN T [] y k≤dN T D y k:=fun k hk h0=>by
   have hs:=eB hv h.hy hk h0
   have:=hs.ch.bare.le hv h.hy
   rw[←(hs.cost hv h.hy).1]at this
   exact this
  have hmu:=mono u' huN hDle.1
  have heq:dN T D y u'=dN T [] y u':=by omega
  have hall:∀c∈aX T D u' y,c=(a:Int):=fun c hc=>by
   obtain⟨k,rfl,hk⟩:=cL hc
   obtain⟨z,hz,hzN⟩:=dt hv hk.eU
   have g:=hk.dN hz
   have g2:=mono z hzN g.1
   have hs:=eB (D:=[]) hv h.hy hzN g2.1
   have hch2:Ch T [] y u' ((k:Int)::bY T [] z y):=.cons hk.eU hk.tail (by simp[aI]) hz (by
    rcases hk.pass with e|e
    ·left
     have:z=y:=by omega
     subst this
     exact hs.self
    ·right
     rw[hz,Int.toNat_natCast]at e
     exact e) hs.ch
   have g3:=hch2.le hv h.hy
   rw[gg,←(hs.cost hv h.hy).1,Int.toNat_natCast]at g3
   have hnr:jx T [] u' y k:=⟨hk.eU,hk.tail,by simp[aI],hk.ne,by rw[hz,Int.toNat_natCast];exact g2.1,hk.pass,by
    rw[hz,Int.toNat_natCast]
    show dN T [] y u'=dN T [] y z+cb T k
    omega⟩
   have:=fk hnr ((aM hv).cost k hk.eU).1
   rw[hb]at this
   simpa using this
  obtain⟨k,hk⟩:=jQ (D:=D) hv huN h.hy hn.ne hDle.1
  have hmem:=fk hk ((aM hv).cost k hk.eU).1
  have hso:=lU T D u' y
  cases hx:aX T D u' y with
  |nil=>rw[hx]at hmem;cases hmem
  |cons c l=>
   rw[hx]at hall hso
   have hc:=hall c (by simp)
   subst hc
   cases l with
   |nil=>rfl
   |cons c2 l=>
    have:=hall c2 (by simp)
    have h3:=(List.pairwise_cons.1 hso).1 c2 (by simp)
    omega
end
end PW
end Go.Proofs.YtnegbdpggideiaaGreatDoor
namespace Go.Proofs.YtnegbdpggideiaaGreatDoor
namespace PW
open Go.RowKit cH Mem Net
def tH(k:Nat):List np:=(List.range k).map fun(i:Nat)=>⟨(i:Int),(((i+1) % 4:Nat):Int),1,1,0,1,0⟩
def cT:an:=⟨4,[],tH 4⟩
def E9(d:Nat):List Int:=match d with
 |0=>[0,1,2,1]
 |1=>[1,0,1,2]
 |2=>[2,1,0,1]
 |_=>[1,2,1,0]
theorem kS:ao cT=true:=by kernel_rfl
def Jr(T:an)(n:Nat)(out:List Int)(a:Nat):Bool:=decide (0≤at' out (cR T false a))&&(decide (cR T false a=(n:Int))|| !cU T (cR T false a).toNat)
theorem ux(n:Nat)(out:List Int)(a:Nat):Net.Way cT [] n false out a↔Jr cT n out a=true:=by
 unfold Net.Way Jr
 have:aI [] a=false:=by simp[aI]
 simp[this]
theorem zV(l:List np)(e:np):gP l++jK e=gP (l++[e]):=by simp[gP]
theorem yS(k:Nat):tH (k+1)=tH k++[⟨(k:Int),(((k+1) % 4:Nat):Int),1,1,0,1,0⟩]:=by simp[tH,List.range_succ]
theorem DD{P:Program}{σ:cm}{t:cd}{o:Oper}{ty:TypeId}{v0 v1 c0 c1:Value}(ho:o.op= .build ty #[(0,.const v0),(1,.const v1)])(hb:P.built ty [(0,v0),(1,v1)]=some #[c0,c1]):br P σ t o (.agg [.raw c0,.raw c1]):=by
 intro F base E ρ w hρ hS hT
 have hrun:=run_build (P:=P) w ty #[(0,v0),(1,v1)] #[c0,c1] hb
 have h0:ρ (.const v0)=v0:=hρ.const v0
 have h1:ρ (.const v1)=v1:=hρ.const v1
 have hr:(execOp ρ o).run P w= .ok (.value (.agg #[c0,c1])) w:=by
  simp only[execOp,ho,Sem.run_bind,List.map_toArray,List.map_cons,List.map_nil,h0,h1,hrun,Result.andThen_ok,Sem.run_pure]
 rw[hr]
 refine bw (.agg #[c0,c1] _ rfl (fun i x u k1 k2=>?_))
 match i,k1,k2 with
 |0,k1,k2=>simp at k1 k2;subst k1;subst k2;exact .raw _
 |1,k1,k2=>simp at k1 k2;subst k1;subst k2;exact .raw _
 |_+2,k1,k2=>simp at k2
end PW
end Go.Proofs.YtnegbdpggideiaaGreatDoor
namespace Go.Proofs.YtnegbdpggideiaaGreatDoor
namespace PW
open Go.RowKit cH Mem Net
end PW
end Go.Proofs.YtnegbdpggideiaaGreatDoor
namespace Go.Proofs.YtnegbdpggideiaaGreatDoor
namespace PW
open Go.RowKit cH Mem Net
section
variable {P:Program} {σ:cm} {t:cd} {o:Oper}
end
end PW
end Go.Proofs.YtnegbdpggideiaaGreatDoor
namespace Go.Proofs.YtnegbdpggideiaaGreatDoor
namespace PW
open Go.RowKit cH Mem Net
def lg(T:an)(D:List Bool)(L:List Int)(m d:Nat):List Int:=if m=d∨L.getD m 0<0 then [] else jw T D L (L.getD m 0) d (bG T m)
def yF(T:an)(D:List Bool)(L:List Int)(d:Nat):Nat→Nat→Int
 |0,m=>if m=d then 1 else 0
 |f+1,m=>if m=d then 1 else(lg T D L m d).foldl (fun c a=>min 2 (c+yF T D L d f (aW T a.toNat).toNat)) 0
def BR(y u:Nat)(c:Int):Bool:=decide ((E9 y).getD u 0=c)&&(decide (bV cT [] (u:Int) (y:Int)=0)&&decide (yF cT [] (E9 y) y ((E9 y).getD u 0).toNat u=1))
end PW
end Go.Proofs.YtnegbdpggideiaaGreatDoor
namespace Go.Proofs.YtnegbdpggideiaaGreatDoor
namespace PW
open Go.RowKit cH Mem Net
instance (l:List ca):mI (eM l):=⟨fun i u h=>by
 obtain⟨s,_,hs⟩:=List.mem_flatMap.1 (List.mem_of_getElem? h)
 simp only[nk,List.mem_cons,List.not_mem_nil,or_false]at hs
 rcases hs with rfl|rfl
 ·infer_instance
 ·infer_instance⟩
end PW
end Go.Proofs.YtnegbdpggideiaaGreatDoor
namespace Go.Proofs.YtnegbdpggideiaaGreatDoor
namespace PW
open Go.RowKit cH Mem Net
section
variable {H:Type} {enc:TypeId×Value→H} {W:World}
end
end PW
end Go.Proofs.YtnegbdpggideiaaGreatDoor
namespace Go.Proofs.YtnegbdpggideiaaGreatDoor
namespace PW
open Go.RowKit cH Mem Net Go.WideShapes
section
variable {H:Type} {enc:TypeId×Value→H} {W:World}
theorem D6{n:Nat}{cs:List Value}{y:DataW H×List MemPlace}(h:DataW.trod enc Tryz.prog W 0 (fun _=>true) true n 25 cs=some y)(hl:cs.length=3):∃T:an,bb EN W cs (bq T):=by
 have c0':Tryz.prog.cellsOf 3=1:=by kernel_rfl
 have c1':Tryz.prog.cellsOf 22=1:=by kernel_rfl
 have c2':Tryz.prog.cellsOf 23=1:=by kernel_rfl
 obtain⟨xs,m,_,_,_,hlen,hf⟩:=DataW.trod_struct Tryz.underlying25 h
 match cs,hl with
 | [c0,c1,c2],_=>
  match xs,hlen with
  | [y0,y1,y2],_=>
   have f0:DataW.trod enc Tryz.prog W 0 (fun _=>true) true m 3 (([c0,c1,c2].drop 0).take (Tryz.prog.cellsOf 3))=some y0:=hf 0 _ rfl
   rw[c0']at f0
   have f1:DataW.trod enc Tryz.prog W 0 (fun _=>true) true m 22 (([c0,c1,c2].drop 1).take (Tryz.prog.cellsOf 22))=some y1:=hf 1 _ rfl
   rw[c1']at f1
   have f2:DataW.trod enc Tryz.prog W 0 (fun _=>true) true m 23 (([c0,c1,c2].drop 2).take (Tryz.prog.cellsOf 23))=some y2:=hf 2 _ rfl
   rw[c2']at f2
   obtain⟨a,ha⟩:=gV f0
   obtain⟨B,hB⟩:=ES f1
   obtain⟨L,hL⟩:=rq (f:=jK) (s:=7) Tryz.underlying23 (by kernel_rfl) (by omega) (fun n cs y hy hl=>GX hy hl) f2
   simp at ha
   subst ha
   exact⟨⟨a,B,L⟩,bb.cons (.raw _)<|bb.cons hB<|bb.cons hL (bb.nil _ _)⟩
end
end PW
end Go.Proofs.YtnegbdpggideiaaGreatDoor
namespace Go.Proofs.YtnegbdpggideiaaGreatDoor
namespace PW
open Go.RowKit cH Mem Net Go.WideShapes
section
variable {H:Type} {enc:TypeId×Value→H} {W:World}
end
end PW
end Go.Proofs.YtnegbdpggideiaaGreatDoor
namespace Go.Proofs.YtnegbdpggideiaaGreatDoor
namespace PW
open Go.RowKit cH Mem Net
end PW
end Go.Proofs.YtnegbdpggideiaaGreatDoor
namespace Go.Proofs.YtnegbdpggideiaaGreatDoor
namespace PW
open Go.RowKit cH Mem Net
theorem Ch.K6{T:an}{D:List Bool}{d m:Nat}{q:List Int}(h:Ch T D d m q):∀a∈q,aI D a.toNat=false:=by
 induction h with
 |nil=>intro z hz;cases hz
 | @cons n a m p ha ht hu hm ho hp ih=>
  intro z hz
  rcases List.mem_cons.1 hz with rfl|hz
  ·rw[Int.toNat_natCast];exact hu
  ·exact ih z hz
theorem mg(T:an)(D:List Bool)(x y:Int):Can Tryz.prog 34 [aN T,aQ D,num x,num y] (· =dh (fM T D x y) (bY T D x.toNat y.toNat)):=by
 exact aE Tryz.func34 rfl Tryz.ntmps34 rfl<|ab (.a 3 rfl<|.k [1,2,3,4] rfl)<|ab (.a 4 rfl<|.c rfl (ny T D x y) rfl<|.a 4 rfl<|.k [8,9] rfl)<|aq<|⟨_,_,aA.of rfl,aB.pure,rfl⟩
theorem G9{T:an}{D:List Bool}{n:Int}{p:List Int}(hp:0<p.length):0<(ig T D n p).length:=by
 unfold ig
 obtain⟨f,hf⟩:∃f,p.length=f+1:=⟨p.length - 1,by omega⟩
 rw[hf]
 simp only[gJ]
 rw[if_pos (by omega)]
 cases iU (ep T D n p 0) 0 p.length<;>simp
end PW
end Go.Proofs.YtnegbdpggideiaaGreatDoor
