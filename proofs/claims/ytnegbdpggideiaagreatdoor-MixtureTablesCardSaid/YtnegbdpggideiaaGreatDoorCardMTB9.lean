/- Texts of the proof, part 9. -/
import Derived.ChangeKeysEq
import Derived.Test.YtnegbdpggideiaaGreatDoorCardMTB8
set_option linter.unusedVariables false
set_option linter.unusedSimpArgs false
set_option maxRecDepth 10000
set_option maxHeartbeats 1000000
namespace Go.Proofs.YtnegbdpggideiaaGreatDoor
namespace PW
open Go.RowKit cH Mem
section
variable {P:Program} {kt e:TypeId}
theorem yQ(a b:Int):(a==b)=decide (a=b):=Bool.eq_iff_iff.2 (by simp)
theorem yV(b:Bool)(n:Nat)(hu:P.underlying kt=some (.int .i64))(a:Int)(w:World):(Instr.checkKey b (n+1) kt (.int .i64 a)).run P w= .ok () w:=by
 simp only[Instr.checkKey,Sem.run_bind,run_underlying hu,Result.andThen_ok,Sem.run_pure]
theorem eq_int(n:Nat)(hu:P.underlying kt=some (.int .i64))(a b:Int)(w:World):(Op.equalIn (n+1) kt (.int .i64 a) (.int .i64 b)).run P w= .ok (decide (a=b)) w:=by
 simp only[Op.equalIn,Sem.run_bind,run_underlying hu,Result.andThen_ok,if_true,Sem.run_pure,yQ]
theorem Hz(hu:P.underlying kt=some (.int .i64)):ir P kt (fun n:Int=>Value.int .i64 n) where
 nH:=fun b a w=>yV b 9999 hu a w
 eql:=fun a b w=>eq_int _ hu a b w
 now:=⟨_,hu,.inl fun a b=>by simp only[Instr.sameNow,if_true,yQ]⟩
 bits:=fun a=>by unfold Instr.sameBits;simp
theorem nI(he:P.underlying e=some (.int .i64)){xs:Array Value}{off:Nat}{v:Value}(hx:xs[off]? =some v)(w:World):(Go.part e xs off).run P w= .ok v w:=by
 simp[Go.part,isAgg,run_underlying he,hx]
abbrev o5(p:Int×Int):Array Value:= #[.int .i64 p.1,.int .i64 p.2]
theorem G1(he:P.underlying e=some (.int .i64))(a:Int×Int)(w:World):(Go.part e (o5 a) 0).run P w= .ok (.int .i64 a.1) w:=nI he rfl w
theorem tp(he:P.underlying e=some (.int .i64))(a:Int×Int)(w:World):(Go.part e (o5 a) 1).run P w= .ok (.int .i64 a.2) w:=nI he rfl w
theorem Cm{i:TypeInfo}(hu:P.underlying kt=some (.array 2 e))(he:P.underlying e=some (.int .i64))(hi:P.info? e=some i)(hs:i.size=1)(b:Bool)(n:Nat)(a:Int×Int)(w:World):(Instr.checkKey b (n+1+1) kt (.agg (o5 a))).run P w= .ok () w:=by
 have hz:(sizeOf e).run P w= .ok 1 w:=by simp[sizeOf,typeInfo,program,Sem.run,hi,hs]
 have hr:List.range' 0 2=[0,1]:=rfl
 rw[Instr.checkKey]
 simp only[Sem.run_bind,run_underlying hu,Result.andThen_ok]
 simp only[Std.Legacy.Range.forIn_eq_forIn_range',Std.Legacy.Range.size,Nat.sub_zero,Nat.add_one_sub_one,Nat.div_one]
 rw[hr]
 simp only[List.forIn_cons,List.forIn_nil,Sem.run_bind,hz,Result.andThen_ok,Sem.run_pure,Nat.mul_one,G1 he,tp he,yV b n he]
theorem F6{i:TypeInfo}(hu:P.underlying kt=some (.array 2 e))(he:P.underlying e=some (.int .i64))(hi:P.info? e=some i)(hs:i.size=1)(n:Nat)(a b:Int×Int)(w:World):(Op.equalIn (n+1+1) kt (.agg (o5 a)) (.agg (o5 b))).run P w= .ok (decide (a=b)) w:=by
 have hsz:P.cellsOf e=1:=by simp[Program.cellsOf,hi,hs]
 rw[run_equalIn_array w (n+1) _ _ hu hi,hsz]
 show(Op.eqItems (n+1) e 1 _ _ [0,1]).run P w=_
 simp only[Op.eqItems,Sem.run_bind,Nat.mul_one,G1 he,tp he,Result.andThen_ok,eq_int n he,Sem.run_pure]
 obtain⟨a1,a2⟩:=a
 obtain⟨b1,b2⟩:=b
 by_cases h1:a1=b1<;>by_cases h2:a2=b2<;>simp[h1,h2,Sem.run_bind,tp he,eq_int n he,Op.eqItems]
theorem Ek{i:TypeInfo}(hu:P.underlying kt=some (.array 2 e))(he:P.underlying e=some (.int .i64))(hi:P.info? e=some i)(hs:i.size=1):ir P kt (fun p:Int×Int=>Value.agg (o5 p)) where
 nH:=fun b a w=>Cm hu he hi hs b 9998 a w
 eql:=fun a b w=>F6 hu he hi hs 9998 a b w
 now:=⟨_,hu,.inr fun a b=>by simp only[Instr.sameNow]⟩
 bits:=fun a=>by
  have h:=fun(n:Nat) (x:Int)=>show Instr.sameBits n (.int .i64 x) (.int .i64 x)=true by unfold Instr.sameBits;simp
  show Instr.sameBits (9999+1) _ _=true
  rw[Instr.sameBits]
  simp only[List.zip_cons_cons,List.all_cons,h]
  rfl
end
end PW
end Go.Proofs.YtnegbdpggideiaaGreatDoor
namespace Go.Proofs.YtnegbdpggideiaaGreatDoor
namespace PW
open Go.RowKit cH Mem Net
theorem En:uJ Tryz.prog 143=some (3,37):=by kernel_rfl
theorem ED:uJ Tryz.prog 144=some (125,4):=by kernel_rfl
theorem I3:GB Tryz.prog 37=some (.slice none 0 0):=by kernel_rfl
theorem Jm:GB Tryz.prog 4=some (.bool false):=by kernel_rfl
theorem Iy:vZ Tryz.prog 37=true:=by kernel_rfl
abbrev Ev(n:Int):Value:=.int .i64 n
abbrev Et(p:Int×Int):Value:=.agg (o5 p)
theorem FY:ir Tryz.prog 3 Ev:=Hz Tryz.underlying3
theorem EW:ir Tryz.prog 125 Et:=by
 have h:(Tryz.prog.info? 3).map (·.size)=some 1:=by kernel_rfl
 obtain⟨i,h1,h2⟩:=Option.map_eq_some_iff.1 h
 exact Ek Tryz.underlying125 Tryz.underlying3 h1 h2
theorem BU(a b:Int):Tryz.prog.built 125 [(0,.int .i64 a),(1,.int .i64 b)]=some #[.int .i64 a,.int .i64 b]:=by kernel_rfl
theorem C8{P:Program}{σ:cg}{t:b9}{o:Oper}{ty:TypeId}{x y:Operand}{a b:Int}(ho:o.op= .build ty #[(0,x),(1,y)])(hx:aE t x=some (num a))(hy:aE t y=some (num b))(hb:P.built ty [(0,.int .i64 a),(1,.int .i64 b)]=some #[.int .i64 a,.int .i64 b]):bp P σ t o (.agg [num a,num b]):=by
 intro F base E ρ w hρ hS hT
 have hrun:=run_build (P:=P) w ty #[(0,.int .i64 a),(1,.int .i64 b)] #[.int .i64 a,.int .i64 b] hb
 have h0:ρ x= .int .i64 a:=dS (az hρ hT hx)
 have h1:ρ y= .int .i64 b:=dS (az hρ hT hy)
 have hr:(execOp ρ o).run P w= .ok (.value (.agg #[.int .i64 a,.int .i64 b])) w:=by
  simp only[execOp,ho,Sem.run_bind,List.map_toArray,List.map_cons,List.map_nil,h0,h1,hrun,Result.andThen_ok,Sem.run_pure]
 rw[hr]
 refine br (.agg #[.int .i64 a,.int .i64 b] _ rfl (fun i x u k1 k2=>?_))
 match i,k1,k2 with
 |0,k1,k2=>simp at k1 k2;subst k1;subst k2;exact .raw _
 |1,k1,k2=>simp at k1 k2;subst k1;subst k2;exact .raw _
 |_+2,k1,k2=>simp at k2
section
variable {κ:Type} [DecidableEq κ]
theorem sx(k:κ)(p:PV):∀l:List (κ×PV),dr k (iu k p l)=some p
 | []=>by simp[iu,dr]
 |(a,q)::l=>by
  unfold iu
  split
  ·rename_i h;simp[dr,h]
  ·rename_i h;simp only[dr,if_neg h];exact sx k p l
theorem Cp{P:Program}{σ:cg}{t:b9}{o:Oper}{x y:Operand}{ty tz:TypeId}{m:Option PV}(ho:o.op= .binOp .eql ty x y tz)(hk:vZ P ty=true)(hx:aE t x=some (m.getD (.raw (.slice none 0 0))))(hy:aE t y=some (.raw (.slice none 0 0)))(hm:∀v,m=some v→∃n xs,v= .slice n xs∧0<n):bp P σ t o (.raw (.bool m.isNone)):=by
 cases m with
 |none=>exact Gi ho hk hx hy
 |some v=>
  obtain⟨n,xs,rfl,hn⟩:=hm v rfl
  exact oq ho hk hx hy hn
end
def jW(T:an)(D:List Bool)(dm:List (Int×PV)):Prop:=∀k v,(k,v)∈dm→∃d:Nat,k=(d:Int)∧(d:Int)<T.nodes∧v=aw (bE T D d false)
def ko(T:an)(D:List Bool)(um:List ((Int×Int)×PV)):Prop:=∀k v,(k,v)∈um→v=flag (eM T D k.1 k.2)
theorem jW.pure{T:an}{D:List Bool}{dm:List (Int×PV)}(h:jW T D dm):kR (some (.mp (fM Ev dm))):=fun b hb=>by
 cases hb
 refine⟨fun i u hu=>?_⟩
 have hm:=List.mem_of_getElem? hu
 simp only[fM,List.map_map,List.mem_map,Function.comp]at hm
 obtain⟨⟨k,v⟩,hkv,rfl⟩:=hm
 obtain⟨d,_,_,hv⟩:=h k v hkv
 show IsPure v
 rw[hv]
 infer_instance
theorem ko.pure{T:an}{D:List Bool}{um:List ((Int×Int)×PV)}(h:ko T D um):kR (some (.mp (fM Et um))):=fun b hb=>by
 cases hb
 refine⟨fun i u hu=>?_⟩
 have hm:=List.mem_of_getElem? hu
 simp only[fM,List.map_map,List.mem_map,Function.comp]at hm
 obtain⟨⟨k,v⟩,hkv,rfl⟩:=hm
 show IsPure v
 rw[h k v hkv]
 infer_instance
theorem jW.set{T:an}{D:List Bool}{dm:List (Int×PV)}(h:jW T D dm){d:Nat}(hd:(d:Int)<T.nodes):jW T D (iu (d:Int) (aw (bE T D d false)) dm):=fun k v hk=>by
 rcases ry hk with e|e
 ·cases e;exact⟨d,rfl,hd,rfl⟩
 ·exact h k v e
theorem ko.set{T:an}{D:List Bool}{um:List ((Int×Int)×PV)}(h:ko T D um)(a b:Int):ko T D (iu (a,b) (flag (eM T D a b)) um):=fun k v hk=>by
 rcases ry hk with e|e
 ·cases e;rfl
 ·exact h k v e
theorem jW.look{T:an}{D:List Bool}{dm:List (Int×PV)}(h:jW T D dm){d:Nat}{v:PV}(hl:dr (d:Int) dm=some v):v=aw (bE T D d false):=by
 obtain⟨d',h1,_,h2⟩:=h _ _ (iS hl)
 have:d'=d:=by omega
 subst this
 exact h2
def tZ(T:an)(n:Int)(p:List Int):List Int:=n::p.map fun a=>bb T a.toNat
def uh(T:an)(p:List Int):List Int:=(List.range (p.length+1)).map fun i=>cU T (p.take i)
theorem tE(T:an)(n:Int)(p:List Int):(tZ T n p).length=p.length+1:=by simp[tZ]
theorem zt(T:an)(p:List Int):(uh T p).length=p.length+1:=by simp[uh]
theorem Dx(T:an)(n:Int)(p:List Int)(k:Nat)(h:k<p.length):tZ T n (p.take (k+1))=tZ T n (p.take k)++[bb T (p.getD k 0).toNat]:=by
 rw[cX p k 0 h];simp[tZ]
theorem Cc(T:an)(p:List Int)(k:Nat)(h:k<p.length):uh T (p.take (k+1))=uh T (p.take k)++[cU T (p.take (k+1))]:=by
 unfold uh
 rw[show(p.take (k+1)).length+1=(p.take k).length+1+1 by simp;omega,List.range_succ,List.map_append]
 congr 1
 ·refine List.map_congr_left fun i hi=>?_
  have:=List.mem_range.1 hi
  rw[List.take_take,List.take_take,Nat.min_eq_left (by simp at this;omega),Nat.min_eq_left (by simp at this;omega)]
 ·simp only[List.map_cons,List.map_nil,List.take_take]
  rw[Nat.min_eq_left (by simp;omega),show(p.take k).length+1=k+1 by simp;omega]
theorem tJ(T:an)(n:Int)(p:List Int)(i:Nat)(h:i≤p.length):(tZ T n p).getD i 0=cE T n (p.take i):=by
 cases i with
 |zero=>rfl
 |succ i=>
  rw[fv T n p i (by omega)]
  simp only[tZ,List.getD_cons_succ]
  rw[List.getD_eq_getElem?_getD,List.getElem?_map,List.getElem?_eq_getElem (by omega),List.getD_eq_getElem?_getD,List.getElem?_eq_getElem (by omega)]
  rfl
theorem zG(T:an)(p:List Int)(i:Nat)(h:i≤p.length):(uh T p).getD i 0=cU T (p.take i):=by
 unfold uh
 rw[List.getD_eq_getElem?_getD,List.getElem?_map,List.getElem?_range (by omega)]
 rfl
def eI(T:an)(D:List Bool)(n:Int)(p:List Int):Int:=if(av T&&bL T D)=true then(if dL T n p=0 then(if p.any (fun a=>aW D a.toNat) then 7 else 0) else dL T n p) else 1
abbrev I9(T:an)(D:List Bool)(p:List Int)(i:Nat):Option db:=some (.cells 146 (bn T++[aM D,aw p,.own i,.own (i+1),.own (i+2),.own (i+3)]))
def zR(T:an)(D:List Bool)(p ns cs:List Int)(dm:List (Int×PV))(um:List ((Int×Int)×PV)):cg:=
 [dT ns,dT cs,some (.mp (fM Ev dm)),some (.mp (fM Et um)),I9 T D p 0]
theorem kd{T:an}:∀ {f:Bool} {n:Int} {l:List Int},dz T f n l=0→∀a∈l,eA T a=true
 |f,n,[],_,a,ha=>by cases ha
 |f,n,b::l,h,a,ha=>by
  simp only[dz]at h
  split at h
  ·omega
  ·split at h
   ·omega
   ·rename_i h1 _
    rcases List.mem_cons.1 ha with rfl|ha
    ·simpa using h1
    ·exact kd h a ha
theorem kl{T:an}{n:Int}{p:List Int}(h:dL T n p=0):av T=true∧aV T n=true∧dz T true n p=0:=by
 unfold dL at h
 split at h
 ·rename_i h1
  split at h
  ·rename_i h2;exact⟨h1,h2,h⟩
  ·omega
 ·omega
theorem gT{T:an}(hv:av T=true){p:List Int}(ha:∀a∈p,eA T a=true):∀k,k≤p.length→0≤cU T (p.take k)∧cU T (p.take k)≤65535*k
 |0,_=>by simp[gR]
 |k+1,h=>by
  have:=gT hv ha k (by omega)
  rw[kA T p k (by omega)]
  have:=(iR hv (ha _ (bR (d:=0) (show k<p.length by omega)))).1
  omega
set_option maxHeartbeats 2000000 in
theorem yM(T:an)(D:List Bool)(p:List Int)(n:Int)(hp:p.length≤1000)(hlk:T.ag.length≤256):bV Tryz.prog 111 [aJ T,aM D,aw p,num n] [] (fun r σ'=>(eI T D n p≠0∧r= .tuple [.raw (.pointer none),num (eI T D n p)])∨(eI T D n p=0∧r= .tuple [.ptr 4 0,num 0]∧σ'=zR T D p (tZ T n p) (uh T p) [] [])):=by
 obtain⟨q1,hq1⟩:∃q,av T=q:=⟨_,rfl⟩
 obtain⟨q2,hq2⟩:∃q,bL T D=q:=⟨_,rfl⟩
 refine ct Tryz.func111 rfl Tryz.ntmps111 rfl<|ab (.a 3 rfl<|.k [1,2,3,4] rfl)<|aj<|bx 25 (.raw (.bool ((!q1)|| !q2))) [1,2,3,4] rfl ?_ ?_
 ·refine .a 1 rfl<|.c rfl (hq1▸er T) rfl<|.a 2 rfl<|?_
  cases q1
  ·exact .a 5 rfl<|.k [25,1,2,3,4] rfl
  ·exact .a 2 rfl<|.c rfl (hq2▸lJ T D (by omega)) rfl<|.a 2 rfl<|.k [25,1,2,3,4] rfl
 refine af rfl (fun hc=>?_) (fun hc=>?_)
 ·have he:eI T D n p=1:=by unfold eI;rw[hq1,hq2];cases q1<;>cases q2<;>first|rfl|cases hc
  exact ab (.a 2 rfl<|.k [8,9] rfl)<|ao<|⟨_,aA.of rfl,.inl ⟨by rw[he];decide,by rw[he];rfl⟩⟩
 ·have hv:av T=true:=by rw[hq1];cases q1;cases hc;rfl
  have hf:bL T D=true:=by rw[hq2];cases q2;cases q1<;>cases hc;rfl
  have hvf:(av T&&bL T D)=true:=by rw[hv,hf];rfl
  refine ak<|aj<|ab (.a 3 rfl<|.c rfl (wa T n p (by omega)) rfl<|.a 7 rfl<|.k [1,2,3,4,12] rfl)<|ab (.a 2 rfl<|.k [1,2,3,4,12,35] rfl)<|af rfl (fun hx=>?_) (fun hx=>?_)
  ·have hx1:dL T n p≠0:=tt hx
   have he:eI T D n p=dL T n p:=by unfold eI;rw[if_pos hvf,if_neg hx1]
   exact ab (.a 3 rfl<|.k [8,9] rfl)<|ao<|⟨_,aA.of rfl,.inl ⟨by rw[he];exact hx1,by rw[he];rfl⟩⟩
  ·have hx1:dL T n p=0:=Classical.byContradiction (ff hx)
   obtain⟨_,hn,hw⟩:=kl hx1
   have ha:=kd hw
   have hcb:=gT hv ha
   refine ak<|aH<|aq 4 rfl<|cf (iJ (xs:=[_]) rfl (bF.sl.get rfl) ⟨Nat.le_of_ble_eq_true rfl,Nat.le_of_ble_eq_true rfl⟩ rfl rfl) rfl<|cf (iJ (xs:=[_]) rfl (bF.sl.get rfl) ⟨Nat.le_of_ble_eq_true rfl,Nat.le_of_ble_eq_true rfl⟩ rfl rfl) rfl<|cf (oz Ev rfl) rfl<|cf (oz Et rfl) rfl<|aq 1 rfl<|cf (fB rfl rfl rfl) rfl<|aq 1 rfl<|aD [1,2,4,13] rfl ?_
   refine ab (.a 1 rfl<|.k [1,2,4,13,14] rfl)<|aj<|ab (.a 3 rfl<|.k [1,4,13,14,47,48,49] rfl)<|au<|ee [1,4,13,14,47,48,49] rfl<|bf (fun r st=>∃k:Nat,k≤p.length∧r=p.length - k∧(∀a∈p.take k,aW D a.toNat=false)∧st=⟨[(1,aM D),(4,.aX (bn T) 0),(13,.ptr 4 0),(14,num (cU T (p.take k))),(47,aw p),(48,num p.length),(49,num k)],zR T D p (tZ T n (p.take k)) (uh T (p.take k)) [] []⟩) p.length ⟨0,by omega,by omega,by simp,rfl⟩ ?_
   rintro r st ⟨k,hk,rfl,hdn,rfl⟩
   have hck:=hcb k hk
   have hl1:=tE T n (p.take k)
   have hl2:=zt T (p.take k)
   have hl3:(p.take k).length=k:=by simp;omega
   refine ab (.a 1 rfl<|.k [1,4,13,14,47,48,49,50] rfl)<|aj<|af rfl (fun hy=>?_) (fun hy=>?_)
   ·have hlt:k<p.length:=by have:=tt hy;omega
    have hmem:=bR (d:=0) hlt
    have hab:=ha _ hmem
    obtain⟨hac,m,hm,hmN⟩:=iR hv hab
    have hst1:=Dx T n p k hlt
    have hst2:=Cc T p k hlt
    have hst3:=kA T p k hlt
    have hab2:=hab
    simp only[eA,decide_eq_true_eq]at hab2
    obtain⟨a,hae⟩:∃a:Nat,p.getD k 0=(a:Int):=⟨(p.getD k 0).toNat,by omega⟩
    have ham:a<2*T.ag.length:=by omega
    have hD:D.length=0∨a<D.length:=by simp only[bL,decide_eq_true_eq]at hf;omega
    rw[hae,Int.toNat_natCast]at hm hac hst1 hst3
    have hh:=fA T a ham (by omega)
    rw[hm]at hh
    refine ak<|aj<|au<|ab (.v (aI (k) rfl) rfl<|.v (aK rfl ((ay p k hlt).trans (by rw[hae]))) rfl<|.a 1 rfl<|.k [1,4,13,14,16,47,48,49] rfl)<|aj<|ab (.a 2 rfl<|.c rfl (iY D a hD) rfl<|.k [1,4,13,14,16,47,48,49,55] rfl)<|af rfl (fun hz=>?_) (fun hz=>?_)
    ·have he:eI T D n p=7:=by
      unfold eI
      rw[if_pos hvf,if_pos hx1,if_pos]
      exact List.any_eq_true.2 ⟨_,hmem,by rw[hae];exact hz⟩
     exact ab (.a 2 rfl<|.k [8,9] rfl)<|ao<|⟨_,aA.of rfl,.inl ⟨by rw[he];decide,by rw[he];rfl⟩⟩
    ·have hdn2:∀a∈p.take (k+1),aW D a.toNat=false:=fun x hx=>by
      rw[cX p k 0 hlt]at hx
      rcases List.mem_append.1 hx with h|h
      ·exact hdn x h
      ·simp only[List.mem_singleton]at h;rw[h,hae];exact hz
     refine ak<|ab (.a 3 rfl<|.c rfl (kV T a ham) rfl<|.v (aP rfl (hn:=by unfold In64;omega)) rfl<|.a 1 rfl<|.k [1,4,13,14,16,47,48,49] rfl)<|lD 9 20 mixed (
      .late [13] rfl (lP rfl rfl) inferInstance rfl rfl<|
      .val [13] rfl (bI rfl) rfl rfl<|
      .val [62] rfl (bI rfl) rfl rfl<|
      .val [63] rfl (bI rfl) rfl rfl<|
      .val [64] rfl (bI rfl) rfl rfl<|
      .val [4] rfl (bI rfl) rfl rfl<|
      .val [16] rfl (bI rfl) rfl rfl<|
      .val [66,67] rfl (dw rfl (hh)) rfl rfl<|
      .val [68] rfl (bI rfl) rfl rfl<|
      .nil) (by kernel_rfl) rfl rfl (bd (ks:=[1,4,13,14,47,48,49,61,65,69]) rfl) ?_
     refine cf (bu rfl (bF.rk.get rfl) rfl rfl rfl rfl (by unfold maxLen;omega)) rfl<|aq 3 rfl ?_
     refine de [5,1,2,3,4] (.c 1<|.c 4<|.c 13<|.c 14<|.c 47<|.c 48<|.c 49<|.nil) (.kept rfl (.ec rfl (cB _ _))<|.kept rfl (.row aC.pure)<|.same (jW.pure (T:=T) (D:=D) (dm:=[]) (fun _ _ h=>by cases h)) rfl<|.same (ko.pure (T:=T) (D:=D) (um:=[]) (fun _ _ h=>by cases h)) rfl<|.kept rfl (.cells (aC.c<|aC.c<|aC.c<|aC.c<|aC.c<|aC.c<|aC.c<|aC.c<|aC.c<|aC.nil))<|.nil) rfl rfl (aU ?_)
     refine bq<|aq 7 rfl<|cf (bu rfl (bF.rk.get rfl) rfl rfl rfl rfl (by unfold maxLen;omega)) rfl<|aq 3 rfl ?_
     refine de [0,5,2,3,4] (.c 1<|.c 4<|.c 13<|.c 14<|.c 47<|.c 48<|.c 49<|.nil) (.kept rfl (.row aC.pure)<|.kept rfl (.ec rfl (cB _ _))<|.same (jW.pure (T:=T) (D:=D) (dm:=[]) (fun _ _ h=>by cases h)) rfl<|.same (ko.pure (T:=T) (D:=D) (um:=[]) (fun _ _ h=>by cases h)) rfl<|.kept rfl (.cells (aC.c<|aC.c<|aC.c<|aC.c<|aC.c<|aC.c<|aC.c<|aC.c<|aC.c<|aC.nil))<|.nil) rfl rfl (aU ?_)
     refine aB (.v (aP rfl) rfl<|.a 1 rfl<|.k [1,4,13,14,47,48,49] rfl) ?_
     refine⟨p.length - (k+1),by omega,k+1,by omega,rfl,hdn2,?_⟩
     rw[hst1,hst2,hst3,hm]
     unfold zR dT
     simp only[List.length_append,List.length_singleton]
     rfl
   ·have hke:k=p.length:=by have:=ff hy;omega
    subst hke
    rw[List.take_length]at hdn
    refine aY<|ab (.a 3 rfl<|.k [8,9] rfl)<|ao<|⟨_,aA.of rfl,.inr ⟨?_,rfl,by rw[List.take_length]⟩⟩
    unfold eI
    rw[if_pos hvf,if_pos hx1,if_neg]
    intro h
    obtain⟨x,hx,hx2⟩:=List.any_eq_true.1 h
    rw[hdn x hx]at hx2
    cases hx2
noncomputable def ej(T:an)(D:List Bool)(n:Int)(p:List Int)(i j:Nat):Bool:=
 decide (dN T D (cE T n (p.take j)).toNat (cE T n (p.take i)).toNat=cU T (p.take j) - cU T (p.take i))&&eM T D (cE T n (p.take i)) (cE T n (p.take j))
theorem cr{T:an}(hv:av T=true){n:Int}(hn:aV T n=true){p:List Int}(ha:∀a∈p,eA T a=true)(i:Nat)(hi:i≤p.length):∃u:Nat,cE T n (p.take i)=(u:Int)∧(u:Int)<T.nodes:=by
 cases i with
 |zero=>
  obtain⟨h0,h1⟩:=aO.1 hn
  obtain⟨u,hu⟩:=Int.eq_ofNat_of_zero_le h0
  exact⟨u,hu,by rw[←hu];exact h1⟩
 |succ i=>
  rw[fv T n p i (by omega)]
  exact(iR hv (ha _ (bR (d:=0) (show i<p.length by omega)))).2
theorem uq{T:an}{D:List Bool}(hv:av T=true)(hf:bL T D=true){d:Nat}(hd:(d:Int)<T.nodes):ca T D [(d:Int)]=0:=by
 unfold ca
 rw[hv,hf]
 have:aV T (d:Int)=true:=aO.2 ⟨by omega,hd⟩
 simp[this]
set_option maxHeartbeats 2000000 in
theorem wi(T:an)(D:List Bool)(p:List Int)(n:Int)(dm:List (Int×PV))(um:List ((Int×Int)×PV))(x:Option db)(hx:kR x)(hv:av T=true)(hf:bL T D=true)(h12:T.nodes≤12)(hn:aV T n=true)(ha:∀a∈p,eA T a=true)(hp:p.length≤1000)(i j:Nat)(hi:i≤p.length)(hj:j≤p.length)(hdm:jW T D dm)(hum:ko T D um):
    bV Tryz.prog 112 [.ptr 4 0,num i,num j] (zR T D p (tZ T n p) (uh T p) dm um++[x]) (fun r σ'=>r=flag (ej T D n p i j)∧∃dm' um',jW T D dm'∧ko T D um'∧σ'=zR T D p (tZ T n p) (uh T p) dm' um'++[x]):=by
  obtain⟨u,hu,huN⟩:=cr hv hn ha i hi
  obtain⟨y,hy,hyN⟩:=cr hv hn ha j hj
  have hcv:ej T D n p i j=(decide (dN T D y u=cU T (p.take j) - cU T (p.take i))&&eM T D u y):=by unfold ej;rw[hu,hy,Int.toNat_natCast,Int.toNat_natCast]
  rw[hcv]
  obtain⟨hb1,hb2⟩:=cW (D:=D) hv (dir:=false) hyN
  have hS:=aQ hv
  have hNp:=hS.nodes
  have hdi:Can Tryz.prog 151 [aJ T,aM D,num y] (· = .tuple [aw (bE T D y false),num 0]):=by
    have h:=pX T D (y:Int)
    rw[uq hv hf hyN]at h
    exact h
  have hci:=gT hv ha i hi
  have hcj:=gT hv ha j hj
  have hl1:=tE T n p
  have hl2:=zt T p
  have hgi:=tJ T n p i hi
  have hgj:=tJ T n p j hj
  have hki:=zG T p i hi
  have hkj:=zG T p j hj
  rw[hu]at hgi
  rw[hy]at hgj
  have hmn:∀v,dr (y:Int) dm=some v→∃n xs,v= .slice n xs∧0<n:=fun v h=>⟨_,_,hdm.look h,by omega⟩
  refine ct Tryz.func112 rfl Tryz.ntmps112 rfl<|ab (.a 1 rfl<|.k [0,1,2] rfl)<|dH mixed (by kernel_rfl) (.a 5 rfl<|.v [15,16] (aI (i) rfl) rfl rfl<|.v [17] (aK rfl ((ay _ i (by omega)).trans (by rw[hgi]))) rfl rfl<|.a 5 rfl<|.v [22,23] (aI (j) rfl) rfl rfl<|.v [24] (aK rfl ((ay _ j (by omega)).trans (by rw[hgj]))) rfl rfl<|.a 2 rfl<|.k [0,1,2,7,8] rfl) ?_
  refine aj<|ab (.a 5 rfl<|.v (uA FY rfl En I3 rfl rfl rfl (oQ _) rfl) rfl<|.v (Cp rfl Iy rfl rfl hmn) rfl<|.k [0,1,2,7,8,32] rfl)<|af rfl (fun h1=>?_) (fun h1=>?_)
  · obtain ⟨dm1, hdm1⟩ : ∃ z, iu (y : Int) (aw (bE T D y false)) dm = z := ⟨_, rfl⟩
    have hdm2:jW T D dm1:=by rw[←hdm1];exact hdm.set hyN
    have hlk:dr (y:Int) dm1=some (aw (bE T D y false)):=by rw[←hdm1];exact sx _ _ _
    refine cS 18 20 mixed (
      .val [0] rfl (bI rfl) rfl rfl<|
      .val [34] rfl (bI rfl) rfl rfl<|
      .val [35] rfl (bI rfl) rfl rfl<|
      .val [36] rfl (bI rfl) rfl rfl<|
      .val [8] rfl (bI rfl) rfl rfl<|
      .val [0] rfl (bI rfl) rfl rfl<|
      .val [39] rfl (bI rfl) rfl rfl<|
      .val [40] rfl (bI rfl) rfl rfl<|
      .val [41] rfl (bI rfl) rfl rfl<|
      .val [0] rfl (bI rfl) rfl rfl<|
      .val [43] rfl (bI rfl) rfl rfl<|
      .val [44] rfl (bI rfl) rfl rfl<|
      .val [45] rfl (bI rfl) rfl rfl<|
      .val [8] rfl (bI rfl) rfl rfl<|
      .val [42,46,47] rfl (dw rfl (hdi)) rfl rfl<|
      .val [48] rfl (bI rfl) rfl rfl<|
      .val [33] rfl (bI rfl) rfl rfl<|
      .late [33] rfl (sL rfl rfl rfl) inferInstance rfl rfl<|
      .nil) (by kernel_rfl) rfl rfl (bd (ks:=[0,1,2,7,8,37,38,49]) rfl) ?_
    refine bh (nY FY rfl En rfl rfl rfl (oQ _) rfl) rfl rfl<|aD [0,1,2,7,8] rfl ?_
    refine ei (σ':=zR T D p (tZ T n p) (uh T p) dm1 um++[x]) (by rw[←hdm1];rfl) ?_
    refine aj<|dH mixed (by kernel_rfl) (.a 5 rfl<|.v [54,55] (uA FY rfl En I3 rfl rfl rfl (oQ _) (by rw[hlk])) rfl rfl<|.a 1 rfl<|.v [56,57] (aI (u) rfl) rfl rfl<|.v [58] (aK rfl (ay _ u (by omega))) rfl rfl<|.a 5 rfl<|.v [63,64] (aI (j) rfl) rfl rfl<|.v [65] (aK rfl ((ay _ j (by omega)).trans (by rw[hkj]))) rfl rfl<|.a 5 rfl<|.v [70,71] (aI (i) rfl) rfl rfl<|.v [72] (aK rfl ((ay _ i (by omega)).trans (by rw[hki]))) rfl rfl<|.v [66,73] (aP rfl) rfl rfl<|.a 1 rfl<|.k [0,7,8,75] rfl) ?_
    refine af rfl (fun h2=>?_) (fun h2=>?_)
    · have h3:dN T D y u≠cU T (p.take j) - cU T (p.take i):=tt h2
      refine ab (.a 1 rfl<|.k [6] rfl)<|ao<|⟨_,aA.of rfl,?_,_,_,hdm2,hum,rfl⟩
      rw[decide_eq_false h3]
      rfl
    · have h3:dN T D y u=cU T (p.take j) - cU T (p.take i):=Classical.byContradiction (ff h2)
      obtain⟨b,hb⟩:∃b:Bool,(dr ((u:Int),(y:Int)) um).getD (.raw (.bool false))=flag b:=by
        cases h:dr ((u:Int),(y:Int)) um with
        |none=>exact⟨false,rfl⟩
        |some v=>exact⟨_,hum _ _ (iS h)⟩
      refine ak<|aH<|aq 2 rfl<|bA (C8 rfl rfl rfl (BU _ _)) rfl<|aq 2 rfl<|aD [0,7,8,9] rfl ?_
      refine ei (σ':=zR T D p (tZ T n p) (uh T p) dm1 um++[x,some (.cells 125 [num u,num y])]) rfl ?_
      refine dH mixed (by kernel_rfl) (.a 5 rfl<|.v [83,84] (zx EW rfl ED Jm rfl rfl rfl (pL _ _) hb rfl) rfl rfl<|.a 5 rfl<|.k [0,7,8,9,10,11] rfl) ?_
      refine aj<|ab (.a 2 rfl<|.k [0,7,8,9,10,89] rfl)<|af rfl (fun h4=>?_) (fun h4=>?_)
      · obtain⟨um1,hum1⟩:∃z,iu ((u:Int),(y:Int)) (flag (eM T D u y)) um=z:=⟨_,rfl⟩
        have hum2:ko T D um1:=by rw[←hum1];exact hum.set u y
        refine dH mixed (by kernel_rfl) (.a 10 rfl<|.v [93,97,98,99] (dw rfl (qw T D u y h12)) rfl rfl<|.a 1 rfl<|.k [0,9,10] rfl) ?_
        refine cS 6 20 mixed (
          .val [0] rfl (bI rfl) rfl rfl<|
          .val [101] rfl (bI rfl) rfl rfl<|
          .val [102] rfl (bI rfl) rfl rfl<|
          .val [103] rfl (bI rfl) rfl rfl<|
          .val [9] rfl (bI rfl) rfl rfl<|
          .val [10] rfl (bI rfl) rfl rfl<|
          .nil) (by kernel_rfl) rfl rfl (bd (ks:=[10,104,105,106]) rfl) ?_
        refine bh (nY EW (k:=((u:Int),(y:Int))) rfl ED rfl rfl rfl (pL (.int .i64 (u:Int)) (.int .i64 (y:Int))) rfl) rfl rfl<|aD [10] rfl ?_
        refine ei (σ':=zR T D p (tZ T n p) (uh T p) dm1 um1++[x,some (.cells 125 [num u,num y])]) (by rw[←hum1];rfl) ?_
        obtain⟨b,hbu⟩:∃b,b=eM T D u y:=⟨_,rfl⟩
        refine ab (.a 2 rfl<|.k [6] rfl)<|dy [0,1,2,3,4,5] (.c 6<|.nil) (.kept rfl (.row aC.pure)<|.kept rfl (.row aC.pure)<|.same (jW.pure hdm2) rfl<|.same (ko.pure hum2) rfl<|.kept rfl (.cells (aC.c<|aC.c<|aC.c<|aC.c<|aC.c<|aC.c<|aC.c<|aC.c<|aC.c<|aC.nil))<|.same hx rfl<|.nil) rfl rfl ?_
        refine ao<|⟨_,aA.of rfl,?_,_,_,hdm2,hum2,rfl⟩
        rw[decide_eq_true h3,Bool.true_and]
        first
          |rfl
          |(rw[hbu];rfl)
      · have hbu:b=eM T D u y:=by
          cases h:dr ((u:Int),(y:Int)) um with
          |none=>rw[h]at h4;cases h4
          |some v=>
            rw[h,hum _ _ (iS h)]at hb
            have:=hb
            simp only[Option.getD_some]at this
            cases this
            rfl
        have hum2:=hum
        obtain⟨um1,hum1⟩:∃z,z=um:=⟨_,rfl⟩
        subst hum1
        refine ak<|ab (.a 2 rfl<|.k [6] rfl)<|dy [0,1,2,3,4,5] (.c 6<|.nil) (.kept rfl (.row aC.pure)<|.kept rfl (.row aC.pure)<|.same (jW.pure hdm2) rfl<|.same (ko.pure hum2) rfl<|.kept rfl (.cells (aC.c<|aC.c<|aC.c<|aC.c<|aC.c<|aC.c<|aC.c<|aC.c<|aC.c<|aC.nil))<|.same hx rfl<|.nil) rfl rfl ?_
        refine ao<|⟨_,aA.of rfl,?_,_,_,hdm2,hum2,rfl⟩
        rw[decide_eq_true h3,Bool.true_and]
        first
          |rfl
          |(rw[hbu];rfl)
  · obtain ⟨v, hv1⟩ : ∃ v, dr (y : Int) dm = some v := by
      cases h:dr (y:Int) dm with
      |none=>rw[h]at h1;cases h1
      |some v=>exact⟨v,rfl⟩
    have hlk:dr (y:Int) dm=some (aw (bE T D y false)):=by rw[hv1,hdm.look hv1]
    have hdm2:=hdm
    obtain⟨dm1,hdm1⟩:∃z,z=dm:=⟨_,rfl⟩
    subst hdm1
    refine ak<|aj<|dH mixed (by kernel_rfl) (.a 5 rfl<|.v [54,55] (uA FY rfl En I3 rfl rfl rfl (oQ _) (by rw[hlk])) rfl rfl<|.a 1 rfl<|.v [56,57] (aI (u) rfl) rfl rfl<|.v [58] (aK rfl (ay _ u (by omega))) rfl rfl<|.a 5 rfl<|.v [63,64] (aI (j) rfl) rfl rfl<|.v [65] (aK rfl ((ay _ j (by omega)).trans (by rw[hkj]))) rfl rfl<|.a 5 rfl<|.v [70,71] (aI (i) rfl) rfl rfl<|.v [72] (aK rfl ((ay _ i (by omega)).trans (by rw[hki]))) rfl rfl<|.v [66,73] (aP rfl) rfl rfl<|.a 1 rfl<|.k [0,7,8,75] rfl) ?_
    refine af rfl (fun h2=>?_) (fun h2=>?_)
    · have h3:dN T D y u≠cU T (p.take j) - cU T (p.take i):=tt h2
      refine ab (.a 1 rfl<|.k [6] rfl)<|ao<|⟨_,aA.of rfl,?_,_,_,hdm2,hum,rfl⟩
      rw[decide_eq_false h3]
      rfl
    · have h3:dN T D y u=cU T (p.take j) - cU T (p.take i):=Classical.byContradiction (ff h2)
      obtain⟨b,hb⟩:∃b:Bool,(dr ((u:Int),(y:Int)) um).getD (.raw (.bool false))=flag b:=by
        cases h:dr ((u:Int),(y:Int)) um with
        |none=>exact⟨false,rfl⟩
        |some v=>exact⟨_,hum _ _ (iS h)⟩
      refine ak<|aH<|aq 2 rfl<|bA (C8 rfl rfl rfl (BU _ _)) rfl<|aq 2 rfl<|aD [0,7,8,9] rfl ?_
      refine ei (σ':=zR T D p (tZ T n p) (uh T p) dm1 um++[x,some (.cells 125 [num u,num y])]) rfl ?_
      refine dH mixed (by kernel_rfl) (.a 5 rfl<|.v [83,84] (zx EW rfl ED Jm rfl rfl rfl (pL _ _) hb rfl) rfl rfl<|.a 5 rfl<|.k [0,7,8,9,10,11] rfl) ?_
      refine aj<|ab (.a 2 rfl<|.k [0,7,8,9,10,89] rfl)<|af rfl (fun h4=>?_) (fun h4=>?_)
      · obtain⟨um1,hum1⟩:∃z,iu ((u:Int),(y:Int)) (flag (eM T D u y)) um=z:=⟨_,rfl⟩
        have hum2:ko T D um1:=by rw[←hum1];exact hum.set u y
        refine dH mixed (by kernel_rfl) (.a 10 rfl<|.v [93,97,98,99] (dw rfl (qw T D u y h12)) rfl rfl<|.a 1 rfl<|.k [0,9,10] rfl) ?_
        refine cS 6 20 mixed (
          .val [0] rfl (bI rfl) rfl rfl<|
          .val [101] rfl (bI rfl) rfl rfl<|
          .val [102] rfl (bI rfl) rfl rfl<|
          .val [103] rfl (bI rfl) rfl rfl<|
          .val [9] rfl (bI rfl) rfl rfl<|
          .val [10] rfl (bI rfl) rfl rfl<|
          .nil) (by kernel_rfl) rfl rfl (bd (ks:=[10,104,105,106]) rfl) ?_
        refine bh (nY EW (k:=((u:Int),(y:Int))) rfl ED rfl rfl rfl (pL (.int .i64 (u:Int)) (.int .i64 (y:Int))) rfl) rfl rfl<|aD [10] rfl ?_
        refine ei (σ':=zR T D p (tZ T n p) (uh T p) dm1 um1++[x,some (.cells 125 [num u,num y])]) (by rw[←hum1];rfl) ?_
        obtain⟨b,hbu⟩:∃b,b=eM T D u y:=⟨_,rfl⟩
        refine ab (.a 2 rfl<|.k [6] rfl)<|dy [0,1,2,3,4,5] (.c 6<|.nil) (.kept rfl (.row aC.pure)<|.kept rfl (.row aC.pure)<|.same (jW.pure hdm2) rfl<|.same (ko.pure hum2) rfl<|.kept rfl (.cells (aC.c<|aC.c<|aC.c<|aC.c<|aC.c<|aC.c<|aC.c<|aC.c<|aC.c<|aC.nil))<|.same hx rfl<|.nil) rfl rfl ?_
        refine ao<|⟨_,aA.of rfl,?_,_,_,hdm2,hum2,rfl⟩
        rw[decide_eq_true h3,Bool.true_and]
        first
          |rfl
          |(rw[hbu];rfl)
      · have hbu:b=eM T D u y:=by
          cases h:dr ((u:Int),(y:Int)) um with
          |none=>rw[h]at h4;cases h4
          |some v=>
            rw[h,hum _ _ (iS h)]at hb
            have:=hb
            simp only[Option.getD_some]at this
            cases this
            rfl
        have hum2:=hum
        obtain⟨um1,hum1⟩:∃z,z=um:=⟨_,rfl⟩
        subst hum1
        refine ak<|ab (.a 2 rfl<|.k [6] rfl)<|dy [0,1,2,3,4,5] (.c 6<|.nil) (.kept rfl (.row aC.pure)<|.kept rfl (.row aC.pure)<|.same (jW.pure hdm2) rfl<|.same (ko.pure hum2) rfl<|.kept rfl (.cells (aC.c<|aC.c<|aC.c<|aC.c<|aC.c<|aC.c<|aC.c<|aC.c<|aC.c<|aC.nil))<|.same hx rfl<|.nil) rfl rfl ?_
        refine ao<|⟨_,aA.of rfl,?_,_,_,hdm2,hum2,rfl⟩
        rw[decide_eq_true h3,Bool.true_and]
        first
          |rfl
          |(rw[hbu];rfl)
end PW
end Go.Proofs.YtnegbdpggideiaaGreatDoor
namespace Go.Proofs.YtnegbdpggideiaaGreatDoor
namespace PW
open Go.RowKit cH Mem Net
theorem nm(l:List cq)(e:cq):eF l++mL e=eF (l++[e]):=by simp[eF]
theorem mA(l:List cq):(eF l).length=l.length*2:=by
 induction l with
 |nil=>rfl
 |cons a l ih=>simp only[eF,List.flatMap_cons,List.length_append,List.length_cons]at*;rw[ih];simp[mL];omega
def jm(c:Nat→Bool)(i:Nat):Nat→Option Nat
 |0=>none
 |m+1=>if m+1≤i then none else if c (m+1) then some (m+1) else jm c i m
theorem oJ{c:Nat→Bool}{i j:Nat}(hij:i<j)(hc:c j=true):∀m,j≤m→(∀k,j<k→k≤m→c k=false)→jm c i m=some j
 |0,h,_=>by omega
 |m+1,h,hn=>by
  unfold jm
  rw[if_neg (by omega)]
  by_cases e:j=m+1
  ·subst e;rw[if_pos hc]
  ·rw[if_neg (by rw[hn (m+1) (by omega) (by omega)];simp)]
   exact oJ hij hc m (by omega) (fun k h1 h2=>hn k h1 (by omega))
theorem oG{c:Nat→Bool}{i:Nat}:∀m,(∀k,i<k→k≤m→c k=false)→jm c i m=none
 |0,_=>rfl
 |m+1,hn=>by
  unfold jm
  by_cases e:m+1≤i
  ·rw[if_pos e]
  ·rw[if_neg e,if_neg (by rw[hn (m+1) (by omega) (by omega)];simp)]
   exact oG m (fun k h1 h2=>hn k h1 (by omega))
theorem ou{c:Nat→Bool}{i:Nat}:∀m j,jm c i m=some j→i<j∧j≤m∧c j=true∧∀k,j<k→k≤m→c k=false
 |0,j,h=>by cases h
 |m+1,j,h=>by
  unfold jm at h
  split at h
  ·cases h
  ·split at h
   ·cases h;rename_i h1 h2;exact⟨by omega,by omega,h2,fun k h3 h4=>by omega⟩
   ·rename_i h1 h2
    obtain⟨a,b,c1,d⟩:=ou m j h
    refine⟨a,by omega,c1,fun k h3 h4=>?_⟩
    by_cases e:k=m+1
    ·subst e;simpa using h2
    ·exact d k h3 (by omega)
theorem lC{c:Nat→Bool}{i:Nat}:∀m,jm c i m=none→∀k,i<k→k≤m→c k=false
 |0,_,k,h1,h2=>by omega
 |m+1,h,k,h1,h2=>by
  unfold jm at h
  split at h
  ·omega
  ·split at h
   ·cases h
   ·rename_i h3 h4
    by_cases e:k=m+1
    ·subst e;simpa using h4
    ·exact lC m h k h1 (by omega)
noncomputable def gC(T:an)(D:List Bool)(n:Int)(p:List Int):Nat→Nat→List cq
 |0,_=>[]
 |f+1,i=>if i<p.length then(match jm (ej T D n p i) i p.length with
  |some j=>⟨1,cE T n (p.take j)⟩::gC T D n p f j
  |none=>⟨2,p.getD i 0⟩::gC T D n p f (i+1)) else []
noncomputable def iZ(T:an)(D:List Bool)(n:Int)(p:List Int):List cq:=gC T D n p p.length 0
section
variable {T:an} {D:List Bool} {n:Int} {p:List Int}
theorem oc(f i:Nat)(h:p.length≤i):gC T D n p f i=[]:=by
 cases f with
 |zero=>rfl
 |succ f=>simp only[gC];rw[if_neg (by omega)]
theorem kZ{f i j:Nat}(hi:i<p.length)(hij:i<j)(hj:j≤p.length)(hc:ej T D n p i j=true)(hno:∀k,j<k→k≤p.length→ej T D n p i k=false):gC T D n p (f+1) i=⟨1,cE T n (p.take j)⟩::gC T D n p f j:=by
 simp only[gC]
 rw[if_pos hi,oJ hij hc p.length hj hno]
theorem ob{f i:Nat}(hi:i<p.length)(hno:∀k,i<k→k≤p.length→ej T D n p i k=false):gC T D n p (f+1) i=⟨2,p.getD i 0⟩::gC T D n p f (i+1):=by
 simp only[gC]
 rw[if_pos hi,oG p.length hno]
theorem oO:∀ {f:Bool} {x:Int} {l m:List Int},dz T f x (l++m)=0→dz T f x l=0∧∃g,dz T g (cE T x l) m=0
 |f,x,[],m,h=>⟨rfl,f,h⟩
 |f,x,a::l,m,h=>by
  simp only[List.cons_append,dz]at h ⊢
  split at h
  ·omega
  ·rename_i h1
   rw[if_neg h1]
   split at h
   ·omega
   ·rename_i h2
    rw[if_neg h2]
    exact oO h
theorem zy(hv:av T=true):∀ {f:Bool} {x:Nat} {l:List Int} {y:Nat},dz T f x l=0→(∀a∈l,aW D a.toNat=false)→cE T x l=(y:Int)→Ch T D y x l
 |f,x,[],y,_,_,he=>by
  have:y=x:=by simp only[cE]at he;omega
  subst this
  exact .nil
 |f,x,a::l,y,h,hd,he=>by
  simp only[dz]at h
  split at h
  ·omega
  ·rename_i h1
   split at h
   ·omega
   ·rename_i h2
    have hab:eA T a=true:=by simpa using h1
    obtain⟨_,m,hm,hmN⟩:=iR hv hab
    simp only[eA,decide_eq_true_eq]at hab
    obtain⟨b,rfl⟩:=Int.eq_ofNat_of_zero_le hab.1
    rw[Int.toNat_natCast]at hm
    simp only[cE,Int.toNat_natCast]at he h2 h
    rw[hm]at he h
    have hch:=zy hv h (fun c hc=>hd c (by simp[hc])) he
    refine .cons (by omega) (Classical.byContradiction fun hn=>h2 (.inl hn)) (hd b (by simp)) hm ?_ hch
    cases l with
    |nil=>exact .inl rfl
    |cons c l=>
     right
     simp only[dz]at h
     split at h
     ·omega
     ·split at h
      ·omega
      ·rename_i h4
       simp only[Int.toNat_natCast]at h4
       cases ho:cN T m with
       |false=>rfl
       |true=>exact absurd (.inr ⟨trivial,ho⟩) h4
structure pE (T:an) (D:List Bool) (n:Int) (p:List Int):Prop where
 valid:av T=true
 fits:bL T D=true
 node:aV T n=true
 walk:dz T true n p=0
 up:∀a∈p,aW D a.toNat=false
theorem xW(h:eI T D n p=0):pE T D n p:=by
 unfold eI at h
 split at h
 ·rename_i h1
  obtain⟨hv,hf⟩:=Bool.and_eq_true_iff.1 h1
  split at h
  ·rename_i h2
   obtain⟨_,hn,hw⟩:=kl h2
   split at h
   ·omega
   ·rename_i h3
    exact⟨hv,hf,hn,hw,fun a ha=>by
     cases hd:aW D a.toNat with
     |false=>rfl
     |true=>exact absurd (List.any_eq_true.2 ⟨a,ha,hd⟩) h3⟩
  ·omega
 ·omega
theorem pE.aR(h:pE T D n p):∀a∈p,eA T a=true:=kd h.walk
def dP(p:List Int)(i j:Nat):List Int:=(p.drop i).take (j - i)
theorem iW(p:List Int){i j:Nat}(hij:i≤j):p.take j=p.take i++dP p i j:=by
 unfold dP
 have h:(p.take j)=(p.take j).take i++(p.take j).drop i:=(List.take_append_drop i _).symm
 rw[h,List.take_take,Nat.min_eq_left hij,List.drop_take]
theorem jS(p:List Int){i j:Nat}(hij:i≤j)(hj:j≤p.length):(dP p i j).length=j - i:=by unfold dP;simp;omega
theorem pE.ch(h:pE T D n p){i j u y:Nat}(hij:i≤j)(hj:j≤p.length)(hu:cE T n (p.take i)=(u:Int))(hy:cE T n (p.take j)=(y:Int)):Ch T D y u (dP p i j):=by
 have h1:dz T true n (p.take j)=0:=(oO (l:=p.take j) (m:=p.drop j) (by rw[List.take_append_drop];exact h.walk)).1
 rw[iW p hij]at h1
 obtain⟨_,g,hg⟩:=oO h1
 rw[hu]at hg
 refine zy h.valid hg (fun a ha=>h.up a ?_) ?_
 ·exact List.mem_of_mem_drop (List.mem_of_mem_take ha)
 ·rw[←hu,←lq,←iW p hij];exact hy
theorem Ag(T:an)(p:List Int){i j:Nat}(hij:i≤j):cU T (p.take j) - cU T (p.take i)=cU T (dP p i j):=by
 rw[iW p hij,gr];omega
theorem mC(h:pE T D n p){i j u y:Nat}(hij:i≤j)(hj:j≤p.length)(hu:cE T n (p.take i)=(u:Int))(hy:cE T n (p.take j)=(y:Int)):ej T D n p i j=true↔SP T D y u (dP p i j)∧dF T D y u=1:=by
 have hch:=h.ch hij hj hu hy
 have ha:=h.aR
 obtain⟨u',hu',huN⟩:=cr h.valid h.node ha i (by omega)
 obtain⟨y',hy',hyN⟩:=cr h.valid h.node ha j hj
 have e1:u'=u:=by omega
 have e2:y'=y:=by omega
 subst e1
 subst e2
 have hne:bQ T D (u':Int) (y':Int)=0:=by
  unfold bQ
  rw[if_pos (uq h.valid h.fits hyN),aO.2 ⟨by omega,huN⟩]
  rfl
 unfold ej eM
 rw[hu,hy,Int.toNat_natCast,Int.toNat_natCast,Ag T p hij,hne]
 simp only[decide_true,Bool.true_and,Bool.and_eq_true,decide_eq_true_eq]
 constructor
 ·rintro⟨h1,h2⟩;exact⟨hch.sp h.valid hyN h1,h2⟩
 ·rintro⟨h1,h2⟩;exact⟨(h1.cost h.valid hyN).1,h2⟩
theorem Fk(h:pE T D n p){i j:Nat}(hij:i≤j)(hj:j≤p.length)(hc:ej T D n p i j=true):(j:Int) - i<T.nodes:=by
 have ha:=h.aR
 obtain⟨u,hu,huN⟩:=cr h.valid h.node ha i (by omega)
 obtain⟨y,hy,hyN⟩:=cr h.valid h.node ha j hj
 have:=((mC h hij hj hu hy).1 hc).1.xt h.valid hyN
 rw[jS p hij hj]at this
 omega
end
def mQ(e:Int)(l:List cq):PV:=.tuple [cC (if e=0 then l else []),num e]
def rf(l:List cq):Option db:=some (.row 103 2 l.length (eF l))
theorem zS(l:List cq):kR (rf l):=fun b hb=>by cases hb;exact(inferInstance:aL (eF l))
theorem xy(T:an)(D:List Bool)(p:List Int)(n:Int)(hp:p.length≤1000)(hlk:T.ag.length≤256):bV Tryz.prog 111 [aJ T,aM D,aw p,num n] [] (fun r σ'=>∃x,r= .tuple [x,num (eI T D n p)]∧(eI T D n p=0→x= .ptr 4 0∧σ'=zR T D p (tZ T n p) (uh T p) [] [])):=
 bV.mono (yM T D p n hp hlk) fun r σ' h=>by
  rcases h with⟨he,rfl⟩|⟨he,rfl,rfl⟩
  ·exact⟨_,rfl,fun h=>absurd h he⟩
  ·exact⟨_,by rw[he],fun _=>⟨rfl,rfl⟩⟩
set_option maxHeartbeats 2000000 in
theorem AG(T:an)(D:List Bool)(p:List Int)(n:Int)(hp:p.length≤1000)(hlk:T.ag.length≤256)(h12:T.nodes≤12):Can Tryz.prog 54 [aJ T,aM D,aw p,num n] (· =mQ (eI T D n p) (iZ T D n p)):=by
  refine aF Tryz.func54 rfl Tryz.ntmps54 rfl<|ab (.a 3 rfl<|.k [1,2,3,4] rfl)<|zo ?_
  refine aH<|aq 4 rfl<|cP rfl rfl (bV.mono (xy T D p n hp hlk) (fun r σ' h=>?_))
  obtain⟨x,rfl,hx⟩:=h
  refine aq 5 rfl<|aD [2,4,10,11] rfl ?_
  refine aj<|ab (.a 2 rfl<|.k [2,4,10,11,24] rfl)<|af rfl (fun hc=>?_) (fun hc=>?_)
  · have he:eI T D n p≠0:=tt hc
    exact ab (.a 3 rfl<|.k [8,9] rfl)<|ao<|⟨_,_,aA.of rfl,ax.ba (ai.cons ax.bO (ai.cons ax.pure ai.nil)),by unfold mQ;rw[if_neg he];rfl⟩
  · have he:eI T D n p=0:=Classical.byContradiction (ff hc)
    obtain⟨rfl,rfl⟩:=hx he
    have hF:=xW he
    have hv:=hF.valid
    have hS:=aQ hv
    have hN:=hS.nodes
    have ha:=hF.aR
    obtain⟨N,hNN⟩:∃N:Nat,T.nodes=(N:Int):=⟨T.nodes.toNat,by omega⟩
    rw[he]
    clear hc
    refine ak<|ab (.a 1 rfl<|.k [2,4,10,12] rfl)<|eo 12 103 2 rfl ?_
    refine ab (.a 1 rfl<|.k [2,4,10,12,13] rfl)<|aj<|yZ ?_
    refine aj<|au<|ee [2,4,10,12,13] rfl<|bf (fun r st=>∃(l:List cq) (i f:Nat) (dm:List (Int×PV)) (um:List ((Int×Int)×PV)),i≤p.length∧p.length - i≤f∧l.length≤i∧r=p.length - i∧iZ T D n p=l++gC T D n p f i∧jW T D dm∧ko T D um∧st=⟨[(2,aw p),(4,.aX (bn T) 0),(10,.ptr 4 0),(12,.own 5),(13,num i)],zR T D p (tZ T n p) (uh T p) dm um++[rf l]⟩) p.length ⟨[],0,p.length,[],[],by omega,by omega,by simp,by omega,rfl,(fun _ _ h=>by cases h),(fun _ _ h=>by cases h),rfl⟩ ?_
    rintro r st ⟨l,i,f,dm,um,hi,hif,hli,rfl,hl,hdm,hum,rfl⟩
    refine aj<|ab (.a 4 rfl<|.k [2,4,10,12,13,29] rfl)<|af rfl (fun h1=>?_) (fun h1=>?_)
    · have hlt:i<p.length:=by have:=tt h1;omega
      refine ak<|au<|aj ?_
      obtain⟨m,hm⟩:∃m:Nat,min (p.length:Int) ((i:Int)+(N:Int) - 1)=(m:Int):=⟨(min (p.length:Int) ((i:Int)+(N:Int) - 1)).toNat,by omega⟩
      have hfar:∀k,m<k→k≤p.length→ej T D n p i k=false:=fun k h2 h3=>by
        cases hcv:ej T D n p i k with
        |false=>rfl
        |true=>
          have:=Fk hF (i:=i) (j:=k) (by omega) h3 hcv
          omega
      refine ab (.a 4 rfl<|.v (aK rfl ((show some (num T.nodes)=some (num (N:Int)) by rw[hNN]))) rfl<|.v (aP rfl) rfl<|.v (aP rfl) rfl<|.v (sA rfl rfl rfl (hm)) rfl<|.a 1 rfl<|.k [2,4,10,12,13,14] rfl)<|au<|ee [2,4,10,12,13,14] rfl<|bf (fun r st=>∃(j:Nat) (dm:List (Int×PV)) (um:List ((Int×Int)×PV)),i≤j∧j≤p.length∧r=j∧(∀k,j<k→k≤p.length→ej T D n p i k=false)∧jW T D dm∧ko T D um∧st=⟨[(2,aw p),(4,.aX (bn T) 0),(10,.ptr 4 0),(12,.own 5),(13,num i),(14,num j)],zR T D p (tZ T n p) (uh T p) dm um++[rf l]⟩) m ⟨m,dm,um,by omega,by omega,rfl,hfar,hdm,hum,rfl⟩ ?_
      clear hdm hum
      rintro r st ⟨j,dm,um,hij,hj,rfl,hno,hdm,hum,rfl⟩
      refine aj<|ab (.a 3 rfl<|.k [2,4,10,12,13,14,40] rfl)<|af rfl (fun h2=>?_) (fun h2=>?_)
      · have hlt2:i<r:=by have:=tt h2;omega
        refine ak<|aj<|au<|aH<|aq 3 rfl<|cP rfl rfl (bV.mono (wi T D p n dm um (rf l) (zS l) hv hF.fits h12 hF.node ha hp i r (by omega) hj hdm hum) (fun _ σ' h=>?_))
        obtain⟨rfl,dm1,um1,hdm1,hum1,rfl⟩:=h
        refine aD [2,4,10,12,13,14,46] rfl ?_
        refine af rfl (fun h3=>?_) (fun h3=>?_)
        · have hgj:=tJ T n p r hj
          have hl1:=tE T n p
          refine aH<|aq 6 rfl<|bA (aI (r) rfl) rfl<|bA (aK rfl ((ay _ r (by omega)).trans (by rw[hgj]))) rfl<|aq 2 rfl<|cf (bu rfl (bF.rk.get rfl) rfl rfl rfl rfl (by unfold maxLen;omega)) rfl<|aq 1 rfl ?_
          refine de [0,1,2,3,4,6] (.c 2<|.c 4<|.c 10<|.c 12<|.c 14<|.nil) (.kept rfl (.row aC.pure)<|.kept rfl (.row aC.pure)<|.same (jW.pure hdm1) rfl<|.same (ko.pure hum1) rfl<|.kept rfl (.cells (aC.c<|aC.c<|aC.c<|aC.c<|aC.c<|aC.c<|aC.c<|aC.c<|aC.c<|aC.nil))<|.kept rfl (.ec rfl (nm _ ⟨1,cE T n (p.take r)⟩))<|.nil) rfl rfl (aU ?_)
          refine ab (.a 2 rfl<|.k [2,4,10,12,13] rfl)<|aY ?_
          cases f with
          |zero=>omega
          |succ f=>
            first
              | (refine ⟨p.length - r, by omega, l ++ [⟨1, cE T n (p.take r)⟩], r, f, dm1, um1, by omega, by omega, by simp; omega, rfl, ?_, hdm1, hum1, ?_⟩
                 · rw[hl,kZ hlt hlt2 hj h3 hno,List.append_assoc];rfl
                 · unfold rf;simp only[List.length_append,List.length_singleton];rfl)
              | (refine ⟨p.length - (i + 1), by omega, l ++ [⟨2, p.getD i 0⟩], i + 1, f, dm, um, by omega, by omega, by simp; omega, rfl, ?_, hdm, hum, ?_⟩
                 · rw[hl,ob hlt hno2,List.append_assoc];rfl
                 · unfold rf;simp only[List.length_append,List.length_singleton];rfl)
        · skip
          refine ak<|aB (.a 1 rfl<|.v (aP rfl) rfl<|.a 1 rfl<|.k [2,4,10,12,13,14] rfl) ?_
          refine⟨r - 1,by omega,r - 1,dm1,um1,by omega,by omega,rfl,fun k h4 h5=>?_,hdm1,hum1,?_⟩
          · by_cases e:k=r
            · rw[e];exact h3
            · exact hno k (by omega) h5
          · rw[show((r - 1:Nat):Int)=(r:Int) - 1 by omega]
      · have hno2:∀k,i<k→k≤p.length→ej T D n p i k=false:=fun k h3 h4=>hno k (by have:=ff h2;omega) h4
        refine aY<|aH<|aq 3 rfl<|bA (aI (i) rfl) rfl<|bA (aK rfl (ay _ i hlt)) rfl<|aq 2 rfl<|cf (bu rfl (bF.rk.get rfl) rfl rfl rfl rfl (by unfold maxLen;omega)) rfl<|aq 1 rfl ?_
        refine de [0,1,2,3,4,6] (.c 2<|.c 4<|.c 10<|.c 12<|.c 13<|.nil) (.kept rfl (.row aC.pure)<|.kept rfl (.row aC.pure)<|.same (jW.pure hdm) rfl<|.same (ko.pure hum) rfl<|.kept rfl (.cells (aC.c<|aC.c<|aC.c<|aC.c<|aC.c<|aC.c<|aC.c<|aC.c<|aC.c<|aC.nil))<|.kept rfl (.ec rfl (nm _ ⟨2,p.getD i 0⟩))<|.nil) rfl rfl (aU ?_)
        refine aB (.a 1 rfl<|.v (aP rfl) rfl<|.a 1 rfl<|.k [2,4,10,12,13] rfl) ?_
        cases f with
        |zero=>omega
        |succ f=>
          first
            | (refine ⟨p.length - r, by omega, l ++ [⟨1, cE T n (p.take r)⟩], r, f, dm1, um1, by omega, by omega, by simp; omega, rfl, ?_, hdm1, hum1, ?_⟩
               · rw[hl,kZ hlt hlt2 hj h3 hno,List.append_assoc];rfl
               · unfold rf;simp only[List.length_append,List.length_singleton];rfl)
            | (refine ⟨p.length - (i + 1), by omega, l ++ [⟨2, p.getD i 0⟩], i + 1, f, dm, um, by omega, by omega, by simp; omega, rfl, ?_, hdm, hum, ?_⟩
               · rw[hl,ob hlt hno2,List.append_assoc];rfl
               · unfold rf;simp only[List.length_append,List.length_singleton];rfl)
    · have hie:i=p.length:=by have:=ff h1;omega
      rw[oc f i (by omega),List.append_nil]at hl
      exact aY<|ab (.a 3 rfl<|.k [8,9] rfl)<|ao<|⟨_,_,aA.of rfl,ax.ba (ai.cons (ax.dX rfl ai.pure) (ai.cons ax.pure ai.nil)),by unfold mQ;rw[if_pos rfl,hl];rfl⟩
end PW
end Go.Proofs.YtnegbdpggideiaaGreatDoor
namespace Go.Proofs.YtnegbdpggideiaaGreatDoor
namespace PW
open Go.RowKit cH Mem Net
section
variable {T:an} {D:List Bool} {d:Nat}
theorem zp(hv:av T=true)(hd:(d:Int)<T.nodes):∀(K m:Nat),(m:Int)<T.nodes→0≤dN T D d m→dN T D d m≤K→dF T D d m≠1→∃p q,SP T D d m p∧SP T D d m q∧p≠q
 |K,m,hmN,h0,hK,hc=>by
  by_cases hmd:m=d
  ·subst hmd;exact absurd (nC m) hc
  ·obtain⟨k,hk⟩:=kB (D:=D) hv hmN hd hmd h0
   have hmem:=fq hk ((aQ hv).cost k hk.iM).1
   cases hx:bm T D m d with
   |nil=>rw[hx]at hmem;cases hmem
   |cons a l=>
    obtain⟨b,rfl,hb⟩:=dj (T:=T) (D:=D) (n:=m) (d:=d) (a:=a) (by rw[hx];simp)
    obtain⟨x,hxh,hxN⟩:=du hv hb.iM
    have gx:=hb.dN hxh
    have cx:=(aQ hv).cost b hb.iM
    cases l with
    |nil=>
     cases K with
     |zero=>omega
     |succ K=>
      have hcx:dF T D d x≠1:=fun h=>hc (yF hv hd hmN hmd hx hxh h)
      obtain⟨p,q,h1,h2,h3⟩:=zp hv hd K x hxN gx.1 (by omega) hcx
      exact⟨b::p,b::q,.cons hb hxh h1,.cons hb hxh h2,fun e=>h3 (List.cons.inj e).2⟩
    |cons a2 l=>
     obtain⟨b2,rfl,hb2⟩:=dj (T:=T) (D:=D) (n:=m) (d:=d) (a:=a2) (by rw[hx];simp)
     obtain⟨x2,hxh2,hxN2⟩:=du hv hb2.iM
     have gx2:=hb2.dN hxh2
     refine⟨b::cm T D x d,b2::cm T D x2 d,.cons hb hxh (eP hv hd hxN gx.1),.cons hb2 hxh2 (eP hv hd hxN2 gx2.1),fun e=>?_⟩
     have he:=(List.cons.inj e).1
     have hlt:=lu T D m d
     rw[hx]at hlt
     have:=(List.pairwise_cons.1 hlt).1 (b2:Int) (by simp)
     omega
theorem Ch.append{e n:Nat}{p q:List Int}(h:Ch T D e n p)(hq:Ch T D d e q)(ho:q=[]∨cN T e=false):Ch T D d n (p++q):=by
 induction h with
 |nil=>exact hq
 | @cons n a m p ha ht hu hm hov hp ih=>
  refine .cons ha ht hu hm ?_ ih
  rcases hov with h|h
  ·subst h
   have:=hp.to rfl
   subst this
   rcases ho with h|h
   ·subst h;exact .inl rfl
   ·exact .inr h
  ·exact .inr h
theorem SP.suffix(hv:av T=true)(hd:(d:Int)<T.nodes){e:Nat}:∀ {n:Nat} {p q:List Int},SP T D d n (p++q)→dF T D d n=1→Ch T D e n p→SP T D d e q∧dF T D d e=1
 |n,[],q,h,hc,hch=>by
  have:=hch.to rfl
  subst this
  exact⟨h,hc⟩
 |n,a::p,q,h,hc,hch=>by
  cases h with
  | @cons _ b m _ h1 hm hp=>
   cases hch with
   | @cons _ b2 m2 _ _ _ _ hm2 _ hch2=>
    have:m2=m:=by rw[hm]at hm2;omega
    subst this
    obtain⟨b3,h3,_,h4⟩:=tW hv hd (h1.node hv) h1.ne hc
    have e1:=fq h1 ((aQ hv).cost b h1.iM).1
    rw[h3]at e1
    simp only[List.mem_singleton]at e1
    have:b3=b:=by omega
    subst this
    exact SP.suffix hv hd hp (h4 m2 hm) hch2
theorem SP.pre(hv:av T=true)(hd:(d:Int)<T.nodes){e n:Nat}{p q:List Int}(he:(e:Int)<T.nodes)(h:SP T D d n (p++q))(hc:dF T D d n=1)(hp:Ch T D e n p)(hq:Ch T D d e q)(ho:q=[]∨cN T e=false):SP T D e n p∧dF T D e n=1:=by
 have hcost:=(h.cost hv hd).1
 rw[gr]at hcost
 have hle:=hp.le hv he
 have hn:=hp.node hv he
 have hspe:SP T D e n p:=by
  refine hp.sp hv he ?_
  have hs:=eP hv he hn hle.1
  have hc2:=(hs.cost hv he).1
  have:=((hs.ch).append hq ho).le hv hd
  rw[gr]at this
  omega
 refine⟨hspe,Classical.byContradiction fun h1=>?_⟩
 obtain⟨p1,p2,g1,g2,g3⟩:=zp hv he (dN T D e n).toNat n hn hle.1 (by omega) h1
 have key:∀r,SP T D e n r→SP T D d n (r++q):=fun r hr=>by
  refine((hr.ch).append hq ho).sp hv hd ?_
  rw[gr,hcost,←(hr.cost hv he).1,(hspe.cost hv he).1]
 have:=(key p1 g1).unique hv hd (key p2 g2) hc
 exact g3 (List.append_cancel_right this)
theorem Ch.Jo{e:Nat}:∀ {n:Nat} {p q:List Int},Ch T D d n (p++q)→p≠[]→Ch T D e n p→q=[]∨cN T e=false
 |n,[],q,_,h,_=>absurd rfl h
 |n,a::p,q,h,_,hch=>by
  cases h with
  | @cons _ b m _ _ _ _ hm hov hp=>
   cases hch with
   | @cons _ b2 m2 _ _ _ _ hm2 _ hch2=>
    have:m2=m:=by rw[hm]at hm2;omega
    subst this
    cases p with
    |nil=>
     have:=hch2.to rfl
     subst this
     exact hov
    |cons c p=>exact Ch.Jo hp (by simp) hch2
variable {n:Int} {p:List Int}
theorem kp(p:List Int){i j k:Nat}(h1:i≤j)(h2:j≤k):dP p i k=dP p i j++dP p j k:=by
 have e1:=iW p (show i≤k by omega)
 have e2:=iW p h2
 rw[iW p h1,List.append_assoc]at e2
 rw[e1]at e2
 exact List.append_cancel_left e2
theorem Gq(h:pE T D n p){i j i' j':Nat}(h1:i≤i')(h2:i'<j')(h3:j'≤j)(hj:j≤p.length)(hc:ej T D n p i j=true):ej T D n p i' j'=true:=by
 have ha:=h.aR
 have hv:=h.valid
 obtain⟨u,hu,huN⟩:=cr hv h.node ha i (by omega)
 obtain⟨y,hy,hyN⟩:=cr hv h.node ha j hj
 obtain⟨u',hu',huN'⟩:=cr hv h.node ha i' (by omega)
 obtain⟨y',hy',hyN'⟩:=cr hv h.node ha j' (by omega)
 obtain⟨c1,c2⟩:=(mC h (by omega) hj hu hy).1 hc
 rw[kp p h1 (show i'≤j by omega)]at c1
 obtain⟨c3,c4⟩:=c1.suffix hv hyN c2 (h.ch h1 (by omega) hu hu')
 rw[kp p (show i'≤j' by omega) h3]at c3
 have hp:=h.ch (show i'≤j' by omega) (by omega) hu' hy'
 have hq:=h.ch h3 hj hy' hy
 have ho:=c3.ch.Jo (e:=y') (by
  intro e
  have:=jS p (show i'≤j' by omega) (by omega)
  rw[e]at this
  simp at this
  omega) hp
 exact(mC h (by omega) (by omega) hu' hy').2 (c3.pre hv hyN hyN' c4 hp hq ho)
end
end PW
end Go.Proofs.YtnegbdpggideiaaGreatDoor
namespace Go.Proofs.YtnegbdpggideiaaGreatDoor
namespace PW
open Go.RowKit cH Mem Net
section
variable {T:an} {D:List Bool} {n:Int} {p:List Int}
theorem xI(p:List Int){i k:Nat}(hik:i<k)(hk:k≤p.length):(dP p i k).getD 0 0=p.getD i 0:=by
 unfold dP
 rw[List.getD_eq_getElem?_getD,List.getElem?_take,if_pos (by omega),List.getElem?_drop,List.getD_eq_getElem?_getD,Nat.add_zero]
theorem DH(p:List Int){i k m:Nat}(hm:m<k - i):(dP p i k).getD m 0=p.getD (i+m) 0:=by
 unfold dP
 rw[List.getD_eq_getElem?_getD,List.getElem?_take,if_pos hm,List.getElem?_drop,List.getD_eq_getElem?_getD]
theorem vL{i k:Nat}{a:Int}(h:a∈dP p i k):a∈p:=List.mem_of_mem_drop (List.mem_of_mem_take h)
theorem oA(h:pE T D n p){i:Nat}(hi:i<p.length){x:Nat}(hx:cE T n (p.take i)=(x:Int)):bw T (p.getD i 0).toNat=(x:Int):=by
 have ha:=h.aR
 obtain⟨y,hy,hyN⟩:=cr h.valid h.node ha (i+1) hi
 have hch:=h.ch (i:=i) (j:=i+1) (by omega) hi hx hy
 have hp:dP p i (i+1)=[p.getD i 0]:=by
  unfold dP
  rw[drop_cons p i hi,show i+1 - i=1 by omega]
  rfl
 rw[hp]at hch
 generalize p.getD i 0=a at hch
 cases hch with
 |cons _ h2 _ _ _ _=>exact h2
end
noncomputable def fQ(T:an)(D:List Bool)(n:Int)(p:List Int)(i m:Nat):cq×Nat:=match jm (ej T D n p i) i m with
 |some j=>(⟨1,cE T n (p.take j)⟩,j)
 |none=>(⟨2,p.getD i 0⟩,i+1)
section
variable {T:an} {D:List Bool} {n:Int} {p:List Int}
theorem yA(i:Nat):fQ T D n p i i=(⟨2,p.getD i 0⟩,i+1):=by
 unfold fQ
 rw[oG i (fun k h1 h2=>by omega)]
theorem Dq{i m:Nat}(h:i≤m)(hc:ej T D n p i (m+1)=true):fQ T D n p i (m+1)=(⟨1,cE T n (p.take (m+1))⟩,m+1):=by
 unfold fQ
 rw[oJ (j:=m+1) (by omega) hc (m+1) (by omega) (fun k h1 h2=>by omega)]
theorem Ew{i m:Nat}(h:i≤m)(hc:ej T D n p i (m+1)=false):fQ T D n p i (m+1)=fQ T D n p i m:=by
 unfold fQ
 have:jm (ej T D n p i) i (m+1)=jm (ej T D n p i) i m:=by
  rw[jm,if_neg (by omega),if_neg (by rw[hc];simp)]
 rw[this]
theorem BM{f i:Nat}(hi:i<p.length):gC T D n p (f+1) i=(fQ T D n p i p.length).1::gC T D n p f (fQ T D n p i p.length).2:=by
 unfold fQ
 simp only[gC]
 rw[if_pos hi]
 cases jm (ej T D n p i) i p.length<;>rfl
theorem zW(i:Nat)(hi:i<p.length):i<(fQ T D n p i p.length).2∧(fQ T D n p i p.length).2≤p.length:=by
 unfold fQ
 cases h:jm (ej T D n p i) i p.length with
 |none=>exact⟨by simp,by simp;omega⟩
 |some j=>have:=ou _ _ h;exact⟨this.1,this.2.1⟩
end
end PW
end Go.Proofs.YtnegbdpggideiaaGreatDoor
namespace Go.Proofs.YtnegbdpggideiaaGreatDoor
namespace PW
open Go.RowKit cH Mem Net
def xZ(T:an)(s:cq)(n:Int):Int×Int:=if nV T s=false then(0,1) else if aV T n=false then(0,2) else if s.kind=1 then(s.num,0) else if s.kind=2 then(if bw T s.num.toNat≠n then(0,4) else(bb T s.num.toNat,0)) else(0,7)
theorem BD(l:List cq)(k:Nat)(h:k<l.length):∃s,l[k]? =some s∧l.drop k=s::l.drop (k+1):=⟨l[k],List.getElem?_eq_getElem h,List.drop_eq_getElem_cons h⟩
end PW
end Go.Proofs.YtnegbdpggideiaaGreatDoor
namespace Go.Proofs.YtnegbdpggideiaaGreatDoor
namespace PW
open Go.RowKit cH Mem Net
def mX(T:an)(n:Int)(p:List Int)(x:Int):Nat→Nat→Nat
 |0,i=>i
 |f+1,i=>if cE T n (p.take i)=x then i else mX T n p x f (i+1)
noncomputable def jG(T:an)(D:List Bool)(n:Int)(p:List Int)(i:Nat)(s:cq):Option Nat:=
 if s.kind=2∧i<p.length∧p.getD i 0=s.num then some (i+1)
 else if s.kind=1 then(if cE T n (p.take (mX T n p s.num (p.length - i) i))=s.num∧ej T D n p i (mX T n p s.num (p.length - i) i)=true then some (mX T n p s.num (p.length - i) i) else none)
 else none
noncomputable def GN(T:an)(D:List Bool)(n:Int)(p:List Int):Nat→List cq→Bool
 |i,[]=>decide (i=p.length)
 |i,s::l=>match jG T D n p i s with
  |some j=>GN T D n p j l
  |none=>false
section
variable {T:an} {D:List Bool} {n:Int} {p:List Int}
theorem xR(x:Int):∀f i,i≤mX T n p x f i∧mX T n p x f i≤i+f
 |0,i=>by simp[mX]
 |f+1,i=>by
  simp only[mX]
  split
  ·omega
  ·have:=xR x f (i+1);omega
theorem BX(x:Int):∀f i k,i≤k→k<mX T n p x f i→cE T n (p.take k)≠x
 |0,i,k,h1,h2=>by simp only[mX]at h2;omega
 |f+1,i,k,h1,h2=>by
  simp only[mX]at h2
  split at h2
  ·omega
  ·rename_i h3
   by_cases e:k=i
   ·subst e;exact h3
   ·exact BX x f (i+1) k (by omega) h2
theorem ua(x:Int):∀f i j,i≤j→j≤i+f→cE T n (p.take j)=x→(∀k,i≤k→k<j→cE T n (p.take k)≠x)→mX T n p x f i=j
 |0,i,j,h1,h2,_,_=>by simp only[mX];omega
 |f+1,i,j,h1,h2,h3,h4=>by
  simp only[mX]
  by_cases e:i=j
  ·subst e;rw[if_pos h3]
  ·rw[if_neg (h4 i (Nat.le_refl _) (by omega))]
   exact ua x f (i+1) j (by omega) (by omega) h3 (fun k h5 h6=>h4 k (by omega) h6)
theorem Ch.fin{d:Nat}{m:Nat}{q:List Int}(h:Ch T D d m q):cE T (m:Int) q=(d:Int):=by
 induction h with
 |nil=>rfl
 | @cons n a m p ha ht hu hm ho hp ih=>simp only[cE,Int.toNat_natCast,hm];exact ih
theorem oH(h:pE T D n p){i j:Nat}(hij:i≤j)(hj:j≤p.length)(hc:ej T D n p i j=true):mX T n p (cE T n (p.take j)) (p.length - i) i=j:=by
 have ha:=h.aR
 have hv:=h.valid
 refine ua _ _ _ _ hij (by omega) rfl fun k h1 h2 he=>?_
 obtain⟨u,hu,huN⟩:=cr hv h.node ha i (by omega)
 obtain⟨y,hy,hyN⟩:=cr hv h.node ha j hj
 obtain⟨z,hz,hzN⟩:=cr hv h.node ha k (by omega)
 have hzy:z=y:=by omega
 subst hzy
 obtain⟨c1,c2⟩:=(mC h hij hj hu hy).1 hc
 rw[kp p h1 (show k≤j by omega)]at c1
 obtain⟨c3,c4⟩:=c1.suffix hv hyN c2 (h.ch h1 (by omega) hu hz)
 have:=c3.self
 have hl:=jS p (show k≤j by omega) hj
 rw[this]at hl
 simp at hl
 omega
theorem nS{x y:Nat}(hv:av T=true)(hf:bL T D=true)(hx:(x:Int)<T.nodes)(hy:(y:Int)<T.nodes):fH T D x y=if dN T D y x<0 then 11 else 0:=by
 have hne:bQ T D (x:Int) (y:Int)=0:=by
  unfold bQ
  rw[if_pos (uq hv hf hy),aO.2 ⟨by omega,hx⟩]
  rfl
 unfold fH;rw[if_pos hne];simp only[Int.toNat_natCast]
theorem vk{x y:Nat}(hv:av T=true)(hf:bL T D=true)(hx:(x:Int)<T.nodes)(hy:(y:Int)<T.nodes):eM T D x y=true↔dF T D y x=1:=by
 have hne:bQ T D (x:Int) (y:Int)=0:=by
  unfold bQ
  rw[if_pos (uq hv hf hy),aO.2 ⟨by omega,hx⟩]
  rfl
 unfold eM
 rw[hne]
 simp
theorem G3(h:pE T D n p){i j x y:Nat}(hij:i≤j)(hj:j≤p.length)(hx:cE T n (p.take i)=(x:Int))(hy:cE T n (p.take j)=(y:Int)):ej T D n p i j=true↔fH T D x y=0∧eM T D x y=true∧cm T D x y=dP p i j:=by
 have ha:=h.aR
 have hv:=h.valid
 obtain⟨x',hx',hxN⟩:=cr hv h.node ha i (by omega)
 obtain⟨y',hy',hyN⟩:=cr hv h.node ha j hj
 have e1:x'=x:=by omega
 have e2:y'=y:=by omega
 subst e1
 subst e2
 rw[mC h hij hj hx hy,nS hv h.fits hxN hyN,vk hv h.fits hxN hyN]
 constructor
 ·rintro⟨h1,h2⟩
  have h0:=(h1.cost hv hyN).2
  exact⟨by rw[if_neg (by omega)],h2,(eP hv hyN hxN h0).unique hv hyN h1 h2⟩
 ·rintro⟨h1,h2,h3⟩
  have h0:0≤dN T D y' x':=by
   split at h1
   ·omega
   ·omega
  exact⟨by rw[←h3];exact eP hv hyN hxN h0,h2⟩
theorem xS(h:pE T D n p):∀(f i:Nat),i≤p.length→p.length - i≤f→GN T D n p i (gC T D n p f i)=true
 |f,i,hi,hf=>by
  by_cases hlt:i<p.length
  ·cases f with
   |zero=>omega
   |succ f=>
    cases ht:jm (ej T D n p i) i p.length with
    |none=>
     rw[ob hlt (fun k h1 h2=>lC _ ht k h1 h2)]
     simp only[GN]
     have hst:jG T D n p i ⟨2,p.getD i 0⟩=some (i+1):=by unfold jG;rw[if_pos ⟨rfl,hlt,rfl⟩]
     rw[hst]
     exact xS h f (i+1) (by omega) (by omega)
    |some j=>
     obtain⟨t1,t2,t3,t4⟩:=ou _ _ ht
     rw[kZ hlt t1 t2 t3 t4]
     simp only[GN]
     have hst:jG T D n p i ⟨1,cE T n (p.take j)⟩=some j:=by
      unfold jG
      simp only
      rw[if_neg (by omega),if_pos trivial,oH h (by omega) t2 t3,if_pos ⟨rfl,t3⟩]
     rw[hst]
     exact xS h f j t2 (by omega)
  ·rw[oc f i (by omega)]
   simp only[GN,decide_eq_true_eq]
   omega
theorem Fy:∀f i,(gC T D n p f i).length≤f:=fun f=>by
 induction f with
 |zero=>intro i;simp[gC]
 |succ f ih=>
  intro i
  simp only[gC]
  split
  ·split
   ·have:=ih ‹Nat›;simp only[List.length_cons];omega
   ·have:=ih (i+1);simp only[List.length_cons];omega
  ·simp
theorem wq(h:pE T D n p):eI T D n p=0:=by
 unfold eI
 have h2:dL T n p=0:=by unfold dL;rw[if_pos h.valid,if_pos h.node];exact h.walk
 rw[if_pos (by rw[h.valid,h.fits];rfl),if_pos h2,if_neg]
 intro e
 obtain⟨x,h3,h4⟩:=List.any_eq_true.1 e
 rw[h.up x h3]at h4
 cases h4
end
end PW
end Go.Proofs.YtnegbdpggideiaaGreatDoor
namespace Go.Proofs.YtnegbdpggideiaaGreatDoor
namespace PW
open Go.RowKit cH Mem Net
def fI(D:List Bool)(q:List Int):Bool:= !q.any fun a=>aW D a.toNat
theorem mv{D:List Bool}{q:List Int}:fI D q=true↔∀a∈q,aW D a.toNat=false:=by
 unfold fI
 rw[Bool.not_eq_true',List.any_eq_false]
 constructor
 ·intro h a ha
  have:=h a ha
  simpa using this
 ·intro h a ha
  rw[h a ha]
  simp
theorem wS{D:List Bool}{q:List Int}{a:Int}(ha:a∈q)(h:aW D a.toNat=true):fI D q=false:=by
 unfold fI
 rw[Bool.not_eq_false',List.any_eq_true]
 exact⟨a,ha,h⟩
theorem Hx(T:an)(D:List Bool)(q:List Int)(hf:bL T D=true)(ha:∀a∈q,eA T a=true)(hq:q.length≤1000):Can Tryz.prog 121 [aM D,aw q] (· =flag (fI D q)):=by
 refine aF Tryz.func121 rfl Tryz.ntmps121 rfl<|ab (.a 1 rfl<|.k [0,1] rfl)<|aj<|ab (.a 3 rfl<|.k [0,7,8,9] rfl)<|au<|ee [0,7,8,9] rfl<|bf (fun r st=>∃k:Nat,k≤q.length∧r=q.length - k∧(∀a∈q.take k,aW D a.toNat=false)∧st=⟨[(0,aM D),(7,aw q),(8,num q.length),(9,num k)],[]⟩) q.length ⟨0,by omega,by omega,by simp,rfl⟩ ?_
 rintro r st ⟨k,hk,rfl,hdn,rfl⟩
 refine ab (.a 1 rfl<|.k [0,7,8,9,10] rfl)<|aj<|af rfl (fun hy=>?_) (fun hy=>?_)
 ·have hlt:k<q.length:=by have:=tt hy;omega
  have hmem:=bR (d:=0) hlt
  have hab:=ha _ hmem
  simp only[eA,decide_eq_true_eq]at hab
  obtain⟨a,hae⟩:∃a:Nat,q.getD k 0=(a:Int):=⟨(q.getD k 0).toNat,by omega⟩
  have hD:D.length=0∨a<D.length:=by simp only[bL,decide_eq_true_eq]at hf;omega
  refine ak<|aj<|au<|ab (.v (aI (k) rfl) rfl<|.v (aK rfl ((ay q k hlt).trans (by rw[hae]))) rfl<|.a 1 rfl<|.k [0,6,7,8,9] rfl)<|ab (.a 2 rfl<|.c rfl (iY D a hD) rfl<|.k [0,7,8,9,15] rfl)<|af rfl (fun hz=>?_) (fun hz=>?_)
  ·have he:=wS (D:=D) hmem (by rw[hae];exact hz)
   exact ab (.a 1 rfl<|.k [4] rfl)<|ao<|⟨_,_,aA.of rfl,ax.pure,by rw[he];rfl⟩
  ·skip
   refine ak<|aB (.v (aP rfl) rfl<|.a 1 rfl<|.k [0,7,8,9] rfl) ?_
   refine⟨q.length - (k+1),by omega,k+1,by omega,rfl,fun x hx=>?_,rfl⟩
   rw[cX q k 0 hlt]at hx
   rcases List.mem_append.1 hx with h|h
   ·exact hdn x h
   ·simp only[List.mem_singleton]at h;rw[h,hae];exact hz
 ·have hke:k=q.length:=by have:=ff hy;omega
  subst hke
  rw[List.take_length]at hdn
  exact aY<|ab (.a 1 rfl<|.k [4] rfl)<|ao<|⟨_,_,aA.of rfl,ax.pure,by rw[mv.2 hdn];rfl⟩
theorem pY(T:an)(D:List Bool)(q:List Int)(hf:bL T D=true)(ha:∀a∈q,eA T a=true)(hq:q.length≤1000):Can Tryz.prog 211 [aM D,aw q] (· =flag (fI D q)):=by
 refine aF Tryz.func211 rfl Tryz.ntmps211 rfl<|ab (.a 1 rfl<|.k [0,1] rfl)<|aj<|ab (.a 1 rfl<|.k [0,1,5] rfl)<|au<|ee [0,1,5] rfl<|bf (fun r st=>∃k:Nat,k≤q.length∧r=q.length - k∧(∀a∈q.take k,aW D a.toNat=false)∧st=⟨[(0,aM D),(1,aw q),(5,num k)],[]⟩) q.length ⟨0,by omega,by omega,by simp,rfl⟩ ?_
 rintro r st ⟨k,hk,rfl,hdn,rfl⟩
 refine aj<|ab (.a 4 rfl<|.k [0,1,5,9] rfl)<|af rfl (fun hy=>?_) (fun hy=>?_)
 ·have hlt:k<q.length:=by have:=tt hy;omega
  have hmem:=bR (d:=0) hlt
  have hab:=ha _ hmem
  simp only[eA,decide_eq_true_eq]at hab
  obtain⟨a,hae⟩:∃a:Nat,q.getD k 0=(a:Int):=⟨(q.getD k 0).toNat,by omega⟩
  have hD:D.length=0∨a<D.length:=by simp only[bL,decide_eq_true_eq]at hf;omega
  refine ak<|aj<|au<|ab (.a 3 rfl<|.v (aI (k) rfl) rfl<|.v (aK rfl ((ay q k hlt).trans (by rw[hae]))) rfl<|.c rfl (nz D a hD) rfl<|.a 1 rfl<|.k [0,1,5,18] rfl)<|af rfl (fun hz=>?_) (fun hz=>?_)
  ·have hz1:aW D a=true:=by simpa using hz
   have he:=wS (D:=D) hmem (by rw[hae];exact hz1)
   exact ab (.a 1 rfl<|.k [4] rfl)<|ao<|⟨_,_,aA.of rfl,ax.pure,by rw[he];rfl⟩
  ·have hz1:aW D a=false:=by simpa using hz
   refine ak<|aB (.a 1 rfl<|.v (aP rfl) rfl<|.a 1 rfl<|.k [0,1,5] rfl) ?_
   refine⟨q.length - (k+1),by omega,k+1,by omega,rfl,fun x hx=>?_,rfl⟩
   rw[cX q k 0 hlt]at hx
   rcases List.mem_append.1 hx with h|h
   ·exact hdn x h
   ·simp only[List.mem_singleton]at h;rw[h,hae];exact hz1
 ·have hke:k=q.length:=by have:=ff hy;omega
  subst hke
  rw[List.take_length]at hdn
  exact aY<|ab (.a 1 rfl<|.k [4] rfl)<|ao<|⟨_,_,aA.of rfl,ax.pure,by rw[mv.2 hdn];rfl⟩
theorem wK{T:an}{D:List Bool}{n:Int}{p:List Int}(hvf:(av T&&bL T D)=true)(h:dL T n p≠0):eI T D n p=dL T n p:=by unfold eI;rw[if_pos hvf,if_neg h]
theorem sR{T:an}{D:List Bool}{n:Int}{p:List Int}(hvf:(av T&&bL T D)=true)(h:dL T n p=0):eI T D n p=if fI D p=true then 0 else 7:=by
 unfold eI fI
 rw[if_pos hvf,if_pos h]
 cases p.any fun a=>aW D a.toNat<;>rfl
theorem yJ(T:an)(D:List Bool)(p:List Int)(n:Int)(hp:p.length≤1000)(hlk:T.ag.length≤256):Can Tryz.prog 63 [aJ T,aM D,aw p,num n] (· =num (eI T D n p)):=by
 obtain⟨q1,hq1⟩:∃q,av T=q:=⟨_,rfl⟩
 obtain⟨q2,hq2⟩:∃q,bL T D=q:=⟨_,rfl⟩
 refine aF Tryz.func63 rfl Tryz.ntmps63 rfl<|ab (.a 2 rfl<|.k [1,2,3,4] rfl)<|aj<|bx 20 (.raw (.bool ((!q1)|| !q2))) [1,2,3,4] rfl ?_ ?_
 ·refine .a 1 rfl<|.c rfl (hq1▸er T) rfl<|.a 2 rfl<|?_
  cases q1
  ·exact .a 5 rfl<|.k [20,1,2,3,4] rfl
  ·exact .a 2 rfl<|.c rfl (hq2▸lJ T D (by omega)) rfl<|.a 2 rfl<|.k [20,1,2,3,4] rfl
 refine af rfl (fun hc=>?_) (fun hc=>?_)
 ·have he:eI T D n p=1:=by unfold eI;rw[hq1,hq2];cases q1<;>cases q2<;>first|rfl|cases hc
  exact ab (.a 1 rfl<|.k [8] rfl)<|ao<|⟨_,_,aA.of rfl,ax.pure,by rw[he];rfl⟩
 ·have hv:av T=true:=by rw[hq1];cases q1;cases hc;rfl
  have hf:bL T D=true:=by rw[hq2];cases q2;cases q1<;>cases hc;rfl
  have hvf:(av T&&bL T D)=true:=by rw[hv,hf];rfl
  refine ak<|aj<|ab (.a 3 rfl<|.c rfl (wa T n p (by omega)) rfl<|.a 7 rfl<|.k [1,2,11] rfl)<|ab (.a 2 rfl<|.k [1,2,11,30] rfl)<|af rfl (fun hx=>?_) (fun hx=>?_)
  ·have hx1:dL T n p≠0:=tt hx
   exact ab (.a 2 rfl<|.k [8] rfl)<|ao<|⟨_,_,aA.of rfl,ax.pure,by rw[wK hvf hx1];rfl⟩
  ·have hx1:dL T n p=0:=Classical.byContradiction (ff hx)
   obtain⟨_,hn,hw⟩:=kl hx1
   have ha:=kd hw
   rw[sR hvf hx1]
   refine ak<|aj<|ab (.a 2 rfl<|.c rfl (Hx T D p hf ha hp) rfl<|.a 1 rfl<|.k [35] rfl)<|af rfl (fun hy=>?_) (fun hy=>?_)
   ·have hy1:fI D p=false:=by simpa using hy
    exact ab (.a 1 rfl<|.k [8] rfl)<|ao<|⟨_,_,aA.of rfl,ax.pure,by rw[hy1];rfl⟩
   ·have hy1:fI D p=true:=by simpa using hy
    exact ak<|ab (.a 1 rfl<|.k [8] rfl)<|ao<|⟨_,_,aA.of rfl,ax.pure,by rw[hy1];rfl⟩
theorem vA(T:an)(D:List Bool)(p:List Int)(n:Int)(hp:p.length≤1000):Can Tryz.prog 195 [aJ T,aM D,aw p,num n] (· =num (eI T D n p)):=by
 obtain⟨q1,hq1⟩:∃q,(av T&&bL T D)=q:=⟨_,rfl⟩
 refine aF Tryz.func195 rfl Tryz.ntmps195 rfl<|ab (.a 2 rfl<|.k [1,2,3,4] rfl)<|aj<|ab (.a 2 rfl<|.c rfl (hq1▸jM T D) rfl<|.a 1 rfl<|.k [1,2,3,4,15] rfl)<|af rfl (fun hc=>?_) (fun hc=>?_)
 ·have h1:q1=false:=by cases q1;rfl;cases hc
  have he:eI T D n p=1:=by unfold eI;rw[hq1,h1];rfl
  exact ab (.a 1 rfl<|.k [8] rfl)<|ao<|⟨_,_,aA.of rfl,ax.pure,by rw[he];rfl⟩
 ·have h1:q1=true:=by cases q1;cases hc;rfl
  subst h1
  obtain⟨hv,hf⟩:=Bool.and_eq_true_iff.1 hq1
  refine ak<|ab (.a 3 rfl<|.c rfl (zV T n p (by omega)) rfl<|.a 7 rfl<|.k [1,2,11] rfl)<|aj<|ab (.a 2 rfl<|.k [1,2,11,25] rfl)<|af rfl (fun hx=>?_) (fun hx=>?_)
  ·have hx1:dL T n p≠0:=tt hx
   exact ab (.a 2 rfl<|.k [8] rfl)<|ao<|⟨_,_,aA.of rfl,ax.pure,by rw[wK hq1 hx1];rfl⟩
  ·have hx1:dL T n p=0:=Classical.byContradiction (ff hx)
   obtain⟨_,hn,hw⟩:=kl hx1
   have ha:=kd hw
   rw[sR hq1 hx1]
   refine ak<|aj<|ab (.a 2 rfl<|.c rfl (pY T D p hf ha hp) rfl<|.a 1 rfl<|.k [30] rfl)<|af rfl (fun hy=>?_) (fun hy=>?_)
   ·have hy1:fI D p=false:=by simpa using hy
    exact ab (.a 1 rfl<|.k [8] rfl)<|ao<|⟨_,_,aA.of rfl,ax.pure,by rw[hy1];rfl⟩
   ·have hy1:fI D p=true:=by simpa using hy
    exact ak<|ab (.a 1 rfl<|.k [8] rfl)<|ao<|⟨_,_,aA.of rfl,ax.pure,by rw[hy1];rfl⟩
section
variable {T:an} {D:List Bool} {n:Int} {p:List Int}
theorem ig(T:an):bL T []=true:=by simp[bL]
theorem pE.bare(h:pE T D n p):pE T [] n p:=⟨h.valid,ig T,h.node,h.walk,fun a _=>by simp[aW]⟩
theorem IU{n:Int}{p:List Int}(h:eI T D n p=0):eI T [] n p=0:=wq (xW h).bare
end
theorem AD(T:an)(D:List Bool)(p:List Int)(n:Int)(hp:p.length≤1000)(hlk:T.ag.length≤256)(h12:T.nodes≤12):Can Tryz.prog 18 [aJ T,aM D,aw p,num n] (· =mQ (eI T D n p) (iZ T [] n p)):=by
 refine aF Tryz.func18 rfl Tryz.ntmps18 rfl<|ab (.a 3 rfl<|.k [1,2,3,4] rfl)<|aj<|ab (.a 4 rfl<|.c rfl (yJ T D p n hp hlk) rfl<|.a 1 rfl<|.k [2,3,4,10] rfl)<|ab (.a 2 rfl<|.k [2,3,4,10,17] rfl)<|af rfl (fun hc=>?_) (fun hc=>?_)
 ·have he:eI T D n p≠0:=tt hc
  exact ab (.a 3 rfl<|.k [8,9] rfl)<|ao<|⟨_,_,aA.of rfl,ax.ba (ai.cons ax.bO (ai.cons ax.pure ai.nil)),by unfold mQ;rw[if_neg he];rfl⟩
 ·have he:eI T D n p=0:=Classical.byContradiction (ff hc)
  have hl:=AG T [] p n hp hlk h12
  rw[IU he]at hl
  rw[he]
  exact ak<|ab (.a 3 rfl<|.v (tI rfl (ai.cons ax.pure<|ai.cons ax.bO<|ai.cons ax.pure<|ai.cons ax.pure ai.nil) (hl)) rfl<|.a 4 rfl<|.k [8,9] rfl)<|ao<|⟨_,_,aA.of rfl,ax.pure,rfl⟩
end PW
end Go.Proofs.YtnegbdpggideiaaGreatDoor
namespace Go.Proofs.YtnegbdpggideiaaGreatDoor
namespace PW
open Go.RowKit cH Mem Net
def GP(K:St→Prop):Exit→St→Prop
 | .normal,s=>K s
 |_,_=>False
theorem ue{P:Program}{N L:Nat}{x y:Code}{st:St}{Q:Exit→St→Prop}{Q1:St→Prop}(h:W P N L x st (GP Q1))(k:∀s,Q1 s→W P N L y s Q):W P N L (.seq x y) st Q:=
 aj (h.mono fun e s hq=>by
  cases e<;>first|exact k s hq|exact hq.elim)
section
variable {T:an} {D:List Bool} {n:Int} {p:List Int}
end
end PW
end Go.Proofs.YtnegbdpggideiaaGreatDoor
namespace Go.Proofs.YtnegbdpggideiaaGreatDoor
namespace PW
open Go.RowKit cH Mem Net
section
variable {T:an} {D:List Bool}
theorem Ch.aR{d m:Nat}{q:List Int}(h:Ch T D d m q):∀a∈q,eA T a=true:=by
 induction h with
 |nil=>intro a ha;cases ha
 | @cons n a m p ha ht hu hm ho hp ih=>
  intro b hb
  rcases List.mem_cons.1 hb with rfl|hb
  ·exact cT.2 ⟨by omega,by omega⟩
  ·exact ih b hb
theorem mD{x y:Int}(h:fH T D x y=0):∃a b:Nat,x=(a:Int)∧y=(b:Int)∧(a:Int)<T.nodes∧(b:Int)<T.nodes∧av T=true∧SP T D b a (cm T D x.toNat y.toNat):=by
 unfold fH at h
 split at h
 ·rename_i he
  obtain⟨hv,hf,hn,hd⟩:=eH he
  rw[aO]at hn hd
  obtain⟨a,rfl⟩:=Int.eq_ofNat_of_zero_le hn.1
  obtain⟨b,rfl⟩:=Int.eq_ofNat_of_zero_le hd.1
  refine⟨a,b,rfl,rfl,hn.2,hd.2,hv,?_⟩
  simp only[Int.toNat_natCast]at h ⊢
  exact eP hv hd.2 hn.2 (by split at h<;>omega)
 ·rename_i he
  exact absurd h he
end
theorem Hs(l:List cq)(k:Nat)(s:cq)(h:l[k]? =some s):(eF l)[k*2+0]? =some (num s.kind):=vN l k 0 s h (by omega)
theorem Ho(l:List cq)(k:Nat)(s:cq)(h:l[k]? =some s):(eF l)[k*2+1]? =some (num s.num):=vN l k 1 s h (by omega)
instance (T:an) (n:Int) (l:List Int):lR (jA T n l):=by unfold jA;infer_instance
end PW
end Go.Proofs.YtnegbdpggideiaaGreatDoor
namespace Go.Proofs.YtnegbdpggideiaaGreatDoor
namespace PW
open Go.RowKit cH Mem Net
noncomputable def D5(T:an)(D:List Bool)(x y:Int):Bool:=(((av T&&bL T D)&& !decide (x=y))&&eM T [] x y)&&fI D (cm T [] x.toNat y.toNat)
theorem nW{T:an}{D:List Bool}{x y:Int}(h:eM T D x y=true):fH T D x y=0:=by
 unfold eM at h
 rw[Bool.and_eq_true,decide_eq_true_eq,decide_eq_true_eq]at h
 obtain⟨h1,h2⟩:=h
 obtain⟨hv,hf,hn,hd⟩:=eH h1
 rw[aO]at hn hd
 obtain⟨a,rfl⟩:=Int.eq_ofNat_of_zero_le hn.1
 obtain⟨b,rfl⟩:=Int.eq_ofNat_of_zero_le hd.1
 simp only[Int.toNat_natCast]at h2
 unfold fH
 rw[if_pos h1,if_neg]
 simp only[Int.toNat_natCast]
 intro h0
 rw[zr hv hd.2 hn.2 h0]at h2
 omega
theorem BB(T:an)(D:List Bool)(x y:Int)(h12:T.nodes≤12):Can Tryz.prog 212 [aJ T,aM D,num x,num y] (· =flag (D5 T D x y)):=by
 obtain⟨q1,hq1⟩:∃q,(av T&&bL T D)=q:=⟨_,rfl⟩
 obtain⟨q3,hq3⟩:∃q,decide (x=y)=q:=⟨_,rfl⟩
 obtain⟨q4,hq4⟩:∃q,eM T [] x y=q:=⟨_,rfl⟩
 have hS:D5 T D x y=(((q1&& !q3)&&q4)&&fI D (cm T [] x.toNat y.toNat)):=by unfold D5;rw[hq1,hq3,hq4]
 rw[hS]
 refine aF Tryz.func212 rfl Tryz.ntmps212 rfl<|ab (.a 2 rfl<|.k [1,2,3,4] rfl)<|aj<|bx 26 (.raw (.bool (((!q1)||q3)|| !q4))) [1,2,3,4] rfl ?_ ?_
 ·refine .a 2 rfl<|.c rfl (hq1▸jM T D) rfl<|.a 2 rfl<|?_
  cases q1
  ·exact .a 11 rfl<|.k [26,1,2,3,4] rfl
  ·refine .a 2 rfl<|.v (b7 rfl (hq3)) rfl<|.a 2 rfl<|?_
   cases q3
   ·exact .a 3 rfl<|.v (tI rfl (ai.cons ax.pure<|ai.cons ax.bO<|ai.cons ax.pure<|ai.cons ax.pure ai.nil) (hq4▸wz T [] x y h12)) rfl<|.a 2 rfl<|.k [26,1,2,3,4] rfl
   ·exact .a 6 rfl<|.k [26,1,2,3,4] rfl
 refine af rfl (fun hc=>?_) (fun hc=>?_)
 ·skip
  exact ab (.a 1 rfl<|.k [8] rfl)<|ao<|⟨_,_,aA.of rfl,ax.pure,by cases q1<;>cases q3<;>cases q4<;>first|rfl|cases hc⟩
 ·have h4:q1=true∧q3=false∧q4=true:=by cases q1<;>cases q3<;>cases q4<;>first|exact⟨rfl,rfl,rfl⟩|cases hc
  obtain⟨rfl,rfl,rfl⟩:=h4
  obtain⟨hv,hf⟩:=Bool.and_eq_true_iff.1 hq1
  have hsp:=nq T [] x y
  have hs0:=nW hq4
  rw[hs0]at hsp
  obtain⟨xa,yb,hxa,hyb,hxN,hyN,_,hpath⟩:=mD hs0
  have hlt:=hpath.xt hv hyN
  have hu:=pY T D (cm T [] x.toNat y.toNat) hf hpath.ch.aR (by omega)
  obtain⟨p1,hp1⟩:∃q,decide ((0:Int)=0)=q:=⟨_,rfl⟩
  have hpt:p1=true:=by rw[←hp1];rfl
  obtain⟨p2,hp2⟩:∃q,fI D (cm T [] x.toNat y.toNat)=q:=⟨_,rfl⟩
  rw[hp2]at hu ⊢
  refine ak<|ab (.a 3 rfl<|.v (tI rfl (ai.cons ax.pure<|ai.cons ax.bO<|ai.cons ax.pure<|ai.cons ax.pure ai.nil) (hsp)) rfl<|.a 5 rfl<|.k [1,9,10] rfl)<|bx 8 (.raw (.bool (p1&&p2))) [] rfl ?_ ?_
  ·refine .a 1 rfl<|.v (b7 rfl (hp1)) rfl<|.a 1 rfl<|?_
   cases p1
   ·exact .a 5 rfl<|.k [8] rfl
   ·exact .a 2 rfl<|.c rfl (hu) rfl<|.a 2 rfl<|.k [8] rfl
  exact ao<|⟨_,_,aA.of rfl,ax.pure,by rw[hpt];rfl⟩
section
variable {T:an} {D:List Bool} {n:Int} {p:List Int}
theorem qC(h:pE T D n p){i k x y:Nat}(hik:i<k)(hk:k≤p.length)(hx:cE T n (p.take i)=(x:Int))(hy:cE T n (p.take k)=(y:Int)):(D5 T D x y&&je (cm T [] x y) (dP p i k))=ej T [] n p i k:=by
 have hb:=h.bare
 have ha:=h.aR
 have hv:=h.valid
 obtain⟨x',hx',hxN⟩:=cr hv h.node ha i (by omega)
 obtain⟨y',hy',hyN⟩:=cr hv h.node ha k hk
 have e1:x'=x:=by omega
 have e2:y'=y:=by omega
 subst e1
 subst e2
 rw[Bool.eq_iff_iff,G3 hb (by omega) hk hx hy]
 unfold D5 je
 simp only[Int.toNat_natCast,Bool.and_eq_true,Bool.not_eq_true',decide_eq_true_eq,decide_eq_false_iff_not]
 constructor
 ·rintro⟨⟨⟨_,h3⟩,h4⟩,h5⟩
  exact⟨nW h3,h3,h5⟩
 ·rintro⟨h1,h2,h3⟩
  refine⟨⟨⟨⟨⟨hv,h.fits⟩,fun e=>?_⟩,h2⟩,?_⟩,h3⟩
  ·have e2:x'=y':=by omega
   subst e2
   rw[nS hv (ig T) hxN hxN]at h1
   have hsp:=eP (D:=[]) hv hxN hxN (by split at h1<;>omega)
   have h6:=hsp.self
   rw[h6]at h3
   have:=jS p (show i≤k by omega) hk
   rw[←h3]at this
   simp at this
   omega
  ·rw[h3,mv]
   exact fun a ha=>h.up a (vL ha)
end
theorem yN(T:an)(D:List Bool)(n:Int)(p:List Int)(h:pE T D n p)(h12:T.nodes≤12)(hp:p.length≤1000){i k:Nat}(hik:i<k)(hk:k≤p.length):Can Tryz.prog 196 [aJ T,aM D,aw (dP p i k)] (· =flag (ej T [] n p i k)):=by
 have ha:=h.aR
 have hv:=h.valid
 obtain⟨x,hx,hxN⟩:=cr hv h.node ha i (by omega)
 obtain⟨y,hy,hyN⟩:=cr hv h.node ha k hk
 rw[←qC h hik hk hx hy]
 have hpl:=jS p (show i≤k by omega) hk
 obtain⟨q,hq⟩:∃q,dP p i k=q:=⟨_,rfl⟩
 have htl:=oA h (show i<p.length by omega) hx
 have hed:=fv T n p (k - 1) (by omega)
 rw[show k - 1+1=k by omega,hy]at hed
 have h1:q.getD 0 0=p.getD i 0:=by rw[←hq,xI p hik hk]
 have h2:q.getD (q.length - 1) 0=p.getD (k - 1) 0:=by rw[←hq,hpl,DH p (by omega)];congr 1;omega
 have hqa:∀a∈q,eA T a=true:=fun a h=>ha a (vL (by rw[hq];exact h))
 rw[hq]at hpl ⊢
 have ht:=rh T hv _ (hqa _ (bR (d:=0) (show 0<q.length by omega)))
 have hh:=nh T hv _ (hqa _ (bR (d:=0) (show q.length - 1<q.length by omega)))
 rw[h1,htl]at ht
 rw[h2,←hed]at hh
 obtain⟨s,hs⟩:∃s,D5 T D x y=s:=⟨_,rfl⟩
 rw[hs]
 refine aF Tryz.func196 rfl Tryz.ntmps196 rfl<|ab (.a 2 rfl<|.k [1,2,3] rfl)<|dH mixed (by kernel_rfl) (.a 2 rfl<|.v [12] (aI (0) rfl) rfl rfl<|.v [13] (aK rfl ((ay q 0 (by omega)).trans (by rw[h1]))) rfl rfl<|.v [11,14] (dw rfl (ht)) rfl rfl<|.a 4 rfl<|.v [19] (aP rfl) rfl rfl<|.v [17,20] (aI ((q.length - 1)) rfl) rfl rfl<|.v [21] (aK rfl ((ay q (q.length - 1) (by omega)).trans (by rw[h2]))) rfl rfl<|.v [16,22] (dw rfl (hh)) rfl rfl<|.a 2 rfl<|.k [1,2,3,7,8] rfl) ?_
 refine aj<|ab (.a 4 rfl<|.c rfl (hs▸BB T D x y h12) rfl<|.a 1 rfl<|.k [2,3,7,8,29] rfl)<|af rfl (fun hc=>?_) (fun hc=>?_)
 ·have h3:s=false:=by simpa using hc
  subst h3
  exact ab (.a 1 rfl<|.k [6] rfl)<|ao<|⟨_,_,aA.of rfl,ax.pure,rfl⟩
 ·have h3:s=true:=by simpa using hc
  subst h3
  have hu:eM T [] x y=true:=by
   unfold D5 at hs
   simp only[Bool.and_eq_true]at hs
   exact hs.1.2
  have hsp:=nq T [] (x:Int) (y:Int)
  rw[nW hu]at hsp
  simp only[Int.toNat_natCast]at hsp
  exact ak<|ab (.a 3 rfl<|.v (tI rfl (ai.cons ax.pure<|ai.cons ax.bO<|ai.cons ax.pure<|ai.cons ax.pure ai.nil) (hsp)) rfl<|.a 5 rfl<|.k [2,9] rfl)<|ab (.a 2 rfl<|.c rfl (lU (cm T [] x y) q) rfl<|.a 1 rfl<|.k [6] rfl)<|ao<|⟨_,_,aA.of rfl,ax.pure,rfl⟩
section
variable {P:Program} {σ:cg} {t:b9} {o:Oper}
theorem Im{ty e i j:Nat}{z:Int}{x hi':Operand}{L:List Int}(ho:o.op= .slice ty x none (some hi') none)(he:sw P ty=some (e,1))(hx:aE t x=some (aw (L.drop i)))(hhi:aE t hi'=some (num z))(hz:z=(j:Int) - i)(hij:i≤j)(hj:j≤L.length):bp P σ t o (aw (dP L i j)):=by
 have hl:(L.drop i).length=L.length - i:=by simp
 have:=so (σ:=σ) (h:=j - i) ho he hx hhi (by rw[sh];omega) (by omega) (by omega)
 have e1:aw (dP L i j)= .slice (j - i) ((aN (L.drop i)).take ((j - i)*1)):=by
  unfold aw
  rw[jS L hij hj,Nat.mul_one]
  unfold aN dP
  rw[List.map_take]
 rw[e1]
 exact this
theorem Ii{ty e i j:Nat}{z:Int}{x lo:Operand}{L:List Int}(ho:o.op= .slice ty x (some lo) none none)(he:sw P ty=some (e,1))(hx:aE t x=some (aw (L.drop i)))(hlo:aE t lo=some (num z))(hz:z=(j:Int) - i)(hij:i≤j)(hj:j≤L.length):bp P σ t o (aw (L.drop j)):=by
 have hl:(L.drop i).length=L.length - i:=by simp
 have:=sa (σ:=σ) (l:=j - i) ho he hx hlo (by rw[sh];omega) (by omega) (by omega)
 have e1:aw (L.drop j)= .slice ((L.drop i).length - (j - i)) (((aN (L.drop i)).drop ((j - i)*1)).take (((L.drop i).length - (j - i))*1)):=by
  have h2:L.drop j=(L.drop i).drop (j - i):=by rw[List.drop_drop];congr 1;omega
  rw[h2]
  unfold aw
  rw[List.length_drop,Nat.mul_one,Nat.mul_one]
  unfold aN
  rw[←List.map_drop,List.take_of_length_le (by simp;omega)]
 rw[e1]
 exact this
end
theorem vK(p:List Int)(i k:Nat):(p.drop i).getD k 0=p.getD (i+k) 0:=by rw[List.getD_eq_getElem?_getD,List.getElem?_drop,List.getD_eq_getElem?_getD]
set_option maxHeartbeats 2000000 in
theorem yE(T:an)(D:List Bool)(p:List Int)(n:Int)(hp:p.length≤1000)(h12:T.nodes≤12):Can Tryz.prog 170 [aJ T,aM D,aw p,num n] (· =mQ (eI T D n p) (iZ T [] n p)):=by
 refine aF Tryz.func170 rfl Tryz.ntmps170 rfl<|ab (.a 3 rfl<|.k [1,2,3,4] rfl)<|ab (.a 4 rfl<|.c rfl (vA T D p n hp) rfl<|.a 1 rfl<|.k [1,2,4,10] rfl)<|aj<|ab (.a 2 rfl<|.k [1,2,4,10,21] rfl)<|af rfl (fun hc=>?_) (fun hc=>?_)
 ·have he:eI T D n p≠0:=tt hc
  exact ab (.a 3 rfl<|.k [8,9] rfl)<|ao<|⟨_,_,aA.of rfl,ax.ba (ai.cons ax.bO (ai.cons ax.pure ai.nil)),by unfold mQ;rw[if_neg he];rfl⟩
 ·have he:eI T D n p=0:=Classical.byContradiction (ff hc)
  have hF:=xW he
  have hv:=hF.valid
  have ha:=hF.aR
  rw[he]
  clear hc
  refine ak<|ab (.a 1 rfl<|.k [1,2,4,11] rfl)<|eo 11 103 2 rfl ?_
  refine aj<|au<|ee [1,2,4,11] rfl<|bf (fun r st=>∃(l:List cq) (i f:Nat),i≤p.length∧p.length - i≤f∧l.length≤i∧r=p.length - i∧iZ T [] n p=l++gC T [] n p f i∧st=⟨[(1,aM D),(2,aw (p.drop i)),(4,.aX (bn T) 0),(11,.own 0)],[rf l]⟩) p.length ⟨[],0,p.length,by omega,by omega,by simp,by omega,rfl,rfl⟩ ?_
  rintro r st ⟨l,i,f,hi,hif,hli,rfl,hl,rfl⟩
  have hdl:(p.drop i).length=p.length - i:=by simp
  refine aj<|ab (.a 3 rfl<|.k [1,2,4,11,25] rfl)<|af rfl (fun h1=>?_) (fun h1=>?_)
  ·have hlt:i<p.length:=by have:=tt h1;omega
   obtain⟨hn1,hn2⟩:=zW (T:=T) (D:=[]) (n:=n) i hlt
   refine ak<|au<|aH<|aq 1 rfl<|bA (aI (0) rfl) rfl<|bA (aK rfl ((ay (p.drop i) 0 (by omega)).trans (by rw[vK,Nat.add_zero]))) rfl<|aq 4 rfl<|aD [1,2,4,11,12,13] rfl ?_
   refine aj<|ab (.a 1 rfl<|.k [1,2,4,11,12,13,14] rfl)<|au<|ee [1,2,4,11,12,13,14] rfl<|bf (fun r st=>∃m:Nat,i≤m∧m≤p.length∧r=p.length - m∧st=⟨[(1,aM D),(2,aw (p.drop i)),(4,.aX (bn T) 0),(11,.own 0),(12,.ptr 1 0),(13,num (((fQ T [] n p i m).2:Int) - i)),(14,num ((m:Int)+1 - i))],[rf l,some (.cells 103 (mL (fQ T [] n p i m).1))]⟩) (p.length - i) ⟨i,by omega,by omega,rfl,by simp only[yA];rw[show(((i+1:Nat):Int) - (i:Int))=1 by omega,show(i:Int)+1 - i=1 by omega];rfl⟩ ?_
   rintro r st ⟨m,him,hm,rfl,rfl⟩
   refine aj<|ab (.a 4 rfl<|.k [1,2,4,11,12,13,14,33] rfl)<|af rfl (fun h2=>?_) (fun h2=>?_)
   ·have hlt2:m+1≤p.length:=by have:=tt h2;omega
    have hed:=fv T n p m (by omega)
    have hco:=yN T D n p hF h12 hp (i:=i) (k:=m+1) (by omega) hlt2
    have hhd:=nh T hv (p.getD m 0) (ha _ (bR (by omega)))
    rw[←hed]at hhd
    have hgd:(p.drop i).getD (m - i) 0=p.getD m 0:=by rw[vK];congr 1;omega
    refine ak<|aj<|au<|dH mixed (by kernel_rfl) (.a 4 rfl<|.v [38,39] (Im (j:=m+1) rfl (bF.el.get rfl) rfl rfl (by omega) (by omega) hlt2) rfl rfl<|.v [36,37,40] (dw rfl (hco)) rfl rfl<|.k [1,2,4,11,12,13,14,41] rfl) ?_
    refine af rfl (fun h3=>?_) (fun h3=>?_)
    ·have hb:=Dq him h3
     refine cS 9 20 mixed (
      .val [4] rfl (bI rfl) rfl rfl<|
      .val [2] rfl (bI rfl) rfl rfl<|
      .val [14] rfl (bI rfl) rfl rfl<|
      .val [44] rfl (aP rfl (hc:=(show(m:Int)+1 - i - 1=((m - i:Nat):Int) by omega))) rfl rfl<|
      .val [43,45] rfl (aI ((m - i)) rfl) rfl rfl<|
      .val [46] rfl (aK rfl ((ay (p.drop i) (m - i) (by omega)).trans (by rw[hgd]))) rfl rfl<|
      .val [42,47] rfl (dw rfl (hhd)) rfl rfl<|
      .val [48] rfl (bI rfl) rfl rfl<|
      .late [14] rfl (lP rfl rfl) inferInstance rfl rfl<|
      .nil) (by kernel_rfl) rfl rfl (bd (ks:=[1,2,4,11,12,14,49,50]) rfl) ?_
     refine aq 2 rfl<|aD [1,2,4,11,12,13,14] rfl ?_
     refine aB (.a 1 rfl<|.v (aP rfl) rfl<|.a 1 rfl<|.k [1,2,4,11,12,13,14] rfl) ?_
     refine⟨p.length - (m+1),by omega,m+1,by omega,hlt2,rfl,?_⟩
     rw[hb,show((m+1:Nat):Int)+1 - i=(m:Int)+1 - i+1 by omega]
     all_goals first
      |rfl
      |(simp only;rw[show((m+1:Nat):Int) - i=(m:Int)+1 - i by omega])
    ·have hb:=Ew him h3
     refine ak<|aB (.a 1 rfl<|.v (aP rfl) rfl<|.a 1 rfl<|.k [1,2,4,11,12,13,14] rfl) ?_
     refine⟨p.length - (m+1),by omega,m+1,by omega,hlt2,rfl,?_⟩
     rw[hb,show((m+1:Nat):Int)+1 - i=(m:Int)+1 - i+1 by omega]
     all_goals first
      |rfl
      |(simp only;rw[show((m+1:Nat):Int) - i=(m:Int)+1 - i by omega])
   ·have hme:m=p.length:=by have:=ff h2;omega
    subst hme
    refine aY<|aH<|aq 3 rfl<|cf (bu rfl (bF.rk.get rfl) rfl rfl rfl rfl (by unfold maxLen;omega)) rfl<|aq 1 rfl ?_
    refine de [2] (.c 1<|.c 2<|.c 4<|.c 11<|.c 13<|.nil) (.kept rfl (.ec rfl (nm _ (fQ T [] n p i p.length).1))<|.nil) rfl rfl (aU ?_)
    refine aB (.a 2 rfl<|.v (Ii (j:=(fQ T [] n p i p.length).2) rfl (bF.el.get rfl) rfl rfl rfl (by omega) hn2) rfl<|.a 1 rfl<|.k [1,2,4,11] rfl) ?_
    cases f with
    |zero=>omega
    |succ f=>
     refine⟨p.length - (fQ T [] n p i p.length).2,by omega,l++[(fQ T [] n p i p.length).1],(fQ T [] n p i p.length).2,f,hn2,by omega,by simp;omega,rfl,?_,?_⟩
     ·rw[hl,BM hlt,List.append_assoc];rfl
     ·unfold rf;simp only[List.length_append,List.length_singleton]
  ·have hie:i=p.length:=by have:=ff h1;omega
   rw[oc f i (by omega),List.append_nil]at hl
   exact aY<|ab (.a 3 rfl<|.k [8,9] rfl)<|ao<|⟨_,_,aA.of rfl,ax.ba (ai.cons (ax.dX rfl ai.pure) (ai.cons ax.pure ai.nil)),by unfold mQ;rw[if_pos rfl,hl];rfl⟩
end PW
end Go.Proofs.YtnegbdpggideiaaGreatDoor
namespace Go.Proofs.YtnegbdpggideiaaGreatDoor
namespace PW
open Go.RowKit cH Mem Net
noncomputable def yc(T:an)(n:Int)(p:List Int)(x:Int)(i:Nat):Nat→Nat→Option Nat
 |0,_=>none
 |f+1,j=>if cE T n (p.take j)=x∧ej T [] n p i j=true then some j else yc T n p x i f (j+1)
noncomputable def qS(T:an)(n:Int)(p:List Int)(i:Nat)(s:cq):Option Nat:=
 if s.kind=2∧i<p.length∧p.getD i 0=s.num then some (i+1)
 else if s.kind=1 then yc T n p s.num i (p.length - i) (i+1)
 else none
noncomputable def HU(T:an)(n:Int)(p:List Int):Nat→List cq→Bool
 |i,[]=>decide (i=p.length)
 |i,s::l=>match qS T n p i s with
  |some j=>HU T n p j l
  |none=>false
def p7(T:an):Int→List cq→Bool
 |_,[]=>true
 |x,s::l=>if s.kind=1∧s.num=x then false else p7 T (xZ T s x).1 l
section
variable {T:an} {n:Int} {p:List Int}
theorem tr{x:Int}{i:Nat}:∀(f j k:Nat),yc T n p x i f j=some k→j≤k∧k<j+f∧cE T n (p.take k)=x∧ej T [] n p i k=true∧∀m,j≤m→m<k→¬(cE T n (p.take m)=x∧ej T [] n p i m=true)
 |0,j,k,h=>by simp[yc]at h
 |f+1,j,k,h=>by
  simp only[yc]at h
  split at h
  ·rename_i h1;cases h;exact⟨Nat.le_refl _,by omega,h1.1,h1.2,fun m h2 h3=>by omega⟩
  ·rename_i h1
   obtain⟨a,b,c,d,e⟩:=tr f (j+1) k h
   refine⟨by omega,by omega,c,d,fun m h2 h3=>?_⟩
   by_cases hm:m=j
   ·subst hm;exact h1
   ·exact e m (by omega) h3
theorem zw{x:Int}{i:Nat}:∀(f j k:Nat),j≤k→k<j+f→cE T n (p.take k)=x→ej T [] n p i k=true→(∀m,j≤m→m<k→¬(cE T n (p.take m)=x∧ej T [] n p i m=true))→yc T n p x i f j=some k
 |0,j,k,h1,h2,_,_,_=>by omega
 |f+1,j,k,h1,h2,h3,h4,h5=>by
  simp only[yc]
  by_cases e:j=k
  ·subst e;rw[if_pos ⟨h3,h4⟩]
  ·rw[if_neg (h5 j (Nat.le_refl _) (by omega))]
   exact zw f (j+1) k (by omega) (by omega) h3 h4 (fun m h6 h7=>h5 m (by omega) h7)
theorem qQ(h:pE T [] n p){i:Nat}(hi:i≤p.length)(s:cq)(j:Nat):qS T n p i s=some j↔jG T [] n p i s=some j∧¬(s.kind=1∧s.num=cE T n (p.take i)):=by
 unfold qS jG
 by_cases h1:s.kind=2∧i<p.length∧p.getD i 0=s.num
 ·rw[if_pos h1,if_pos h1]
  constructor
  ·intro e;exact⟨e,fun e2=>by omega⟩
  ·intro e;exact e.1
 ·rw[if_neg h1,if_neg h1]
  by_cases h2:s.kind=1
  ·rw[if_pos h2,if_pos h2]
   constructor
   ·intro e
    obtain⟨a,b,c,d,_⟩:=tr _ _ _ e
    have hf:=oH h (show i≤j by omega) (by omega) d
    rw[c]at hf
    rw[hf,if_pos ⟨c,d⟩]
    refine⟨rfl,fun e2=>?_⟩
    have:=ua (T:=T) (n:=n) (p:=p) s.num (p.length - i) i i (Nat.le_refl _) (by omega) e2.2.symm (fun k h3 h4=>by omega)
    omega
   ·rintro⟨e1,e2⟩
    split at e1
    ·rename_i h3
     simp only[Option.some.injEq]at e1
     have hge:=xR (T:=T) (n:=n) (p:=p) s.num (p.length - i) i
     have hno:=BX (T:=T) (n:=n) (p:=p) s.num (p.length - i) i
     rw[e1]at h3 hge hno
     have hne:i≠j:=fun e=>e2 ⟨h2,by rw[e];exact h3.1.symm⟩
     exact zw _ _ _ (by omega) (by omega) h3.1 h3.2 (fun m h4 h5 h6=>hno m (by omega) h5 h6.1)
    ·cases e1
  ·rw[if_neg h2,if_neg h2]
   simp
theorem step_end(h:pE T [] n p){i j:Nat}(hi:i≤p.length){s:cq}(hst:jG T [] n p i s=some j):(xZ T s (cE T n (p.take i))).1=cE T n (p.take j)∧(xZ T s (cE T n (p.take i))).2=0∧j≤p.length:=by
 have ha:=h.aR
 have hv:=h.valid
 obtain⟨x,hx,hxN⟩:=cr hv h.node ha i hi
 have hnb:aV T (x:Int)=true:=aO.2 ⟨by omega,hxN⟩
 rw[hx]
 have hss:=hst
 unfold jG at hst
 split at hst
 ·rename_i h1
  cases hst
  have hab:=ha _ (bR (d:=0) h1.2.1)
  have htl:=oA h h1.2.1 hx
  have hed:=fv T n p i h1.2.1
  rw[h1.2.2]at hab htl hed
  have hsg:nV T s=true:=by unfold nV;rw[if_neg (by omega),if_pos h1.1];exact hab
  have hes:xZ T s x=(cE T n (p.take (i+1)),0):=by
   unfold xZ
   rw[if_neg (by rw[hsg];simp),if_neg (by rw[hnb];simp),if_neg (by omega),if_pos h1.1,if_neg (by rw[htl];simp),hed]
  rw[hes]
  exact⟨rfl,rfl,h1.2.1⟩
 ·split at hst
  ·rename_i h2
   split at hst
   ·rename_i h3
    simp only[Option.some.injEq]at hst
    have hge:=xR (T:=T) (n:=n) (p:=p) s.num (p.length - i) i
    rw[hst]at h3 hge
    obtain⟨y,hy,hyN⟩:=cr hv h.node ha j (by omega)
    have hsy:s.num=(y:Int):=by rw[←h3.1];exact hy
    have hsg:nV T s=true:=by unfold nV;rw[if_pos h2,hsy];exact aO.2 ⟨by omega,hyN⟩
    have hes:xZ T s x=(s.num,0):=by
     unfold xZ
     rw[if_neg (by rw[hsg];simp),if_neg (by rw[hnb];simp),if_pos h2]
    rw[hes]
    exact⟨h3.1.symm,rfl,by omega⟩
   ·cases hst
  ·cases hst
theorem Cn(h:pE T [] n p):∀(l:List cq) (i:Nat),i≤p.length→HU T n p i l=(GN T [] n p i l&&p7 T (cE T n (p.take i)) l)
 | [],i,hi=>by simp[HU,GN,p7]
 |s::l,i,hi=>by
  simp only[HU,GN,p7]
  cases hX:jG T [] n p i s with
  |none=>
   have hP:qS T n p i s=none:=by
    cases hP:qS T n p i s with
    |none=>rfl
    |some j=>have:=((qQ h hi s j).1 hP).1;rw[hX]at this;cases this
   rw[hP]
   rfl
  |some j=>
   obtain⟨e1,e2,e3⟩:=step_end h hi hX
   by_cases hd:s.kind=1∧s.num=cE T n (p.take i)
   ·have hP:qS T n p i s=none:=by
     cases hP:qS T n p i s with
     |none=>rfl
     |some j=>exact absurd hd ((qQ h hi s j).1 hP).2
    rw[hP,if_pos hd]
    simp
   ·rw[(qQ h hi s j).2 ⟨hX,hd⟩,if_neg hd,e1]
    simp only
    exact Cn h l j e3
theorem tG(h:pE T [] n p):∀(f i:Nat),i≤p.length→p7 T (cE T n (p.take i)) (gC T [] n p f i)=true
 |f,i,hi=>by
  by_cases hlt:i<p.length
  ·cases f with
   |zero=>rfl
   |succ f=>
    cases ht:jm (ej T [] n p i) i p.length with
    |none=>
     rw[ob hlt (fun k h1 h2=>lC _ ht k h1 h2)]
     have hst:jG T [] n p i ⟨2,p.getD i 0⟩=some (i+1):=by unfold jG;rw[if_pos ⟨rfl,hlt,rfl⟩]
     simp only[p7]
     rw[if_neg (by rintro⟨h1,_⟩;omega),(step_end h hi hst).1]
     exact tG h f (i+1) (by omega)
    |some j=>
     obtain⟨t1,t2,t3,t4⟩:=ou _ _ ht
     rw[kZ hlt t1 t2 t3 t4]
     have hf:=oH h (show i≤j by omega) t2 t3
     have hst:jG T [] n p i ⟨1,cE T n (p.take j)⟩=some j:=by
      unfold jG
      simp only
      rw[if_neg (by omega),if_pos trivial,hf,if_pos ⟨rfl,t3⟩]
     simp only[p7]
     rw[if_neg,(step_end h hi hst).1]
     ·exact tG h f j t2
     ·rintro⟨_,h2⟩
      have:=ua (T:=T) (n:=n) (p:=p) (cE T n (p.take j)) (p.length - i) i i (Nat.le_refl _) (by omega) h2.symm (fun k h3 h4=>by omega)
      omega
  ·rw[oc f i (by omega)]
   rfl
end
noncomputable def IM(T:an)(D:List Bool)(l:List cq)(n:Int)(p:List Int):Bool:=if eI T D n p=0 then HU T n p 0 l else false
end PW
end Go.Proofs.YtnegbdpggideiaaGreatDoor
namespace Go.Proofs.YtnegbdpggideiaaGreatDoor
namespace PW
open Go.RowKit cH Mem Net ft
theorem wU(p:List Int)(u:PV):bV Tryz.prog 190 [aw p,.ptr 0 0] [some (.cells 37 [u])] (fun r σ'=>r= .tuple []∧σ'=[some (.cells 37 [aw p])]):=by
 refine ct Tryz.func190 rfl Tryz.ntmps190 rfl<|bq<|aq 2 rfl<|aD [] rfl ?_
 exact⟨_,aA.of rfl,rfl,rfl⟩
theorem xX(T:an)(D:List Bool)(n d:Int):bV Tryz.prog 184 [aJ T,aM D,num n,num d,.func 190 [.ptr 0 0]] [some (.cells 37 [.raw (.slice none 0 0)])] (fun r σ'=>r=num (fH T D n d)∧σ'=[some (.cells 37 [if fH T D n d=0 then aw (cm T D n.toNat d.toNat) else .raw (.slice none 0 0)])]):=by
 refine ct Tryz.func184 rfl Tryz.ntmps184 rfl<|ab (.a 2 rfl<|.k [1,2,3,4,5] rfl)<|ab (.a 4 rfl<|.c rfl (sT T D n d) rfl<|.a 5 rfl<|.k [4,11,12] rfl)<|aj<|ab (.a 2 rfl<|.k [4,11,12,22] rfl)<|af rfl (fun h1=>?_) (fun h1=>?_)
 ·have he:fH T D n d=0:=tt h1
  refine bq<|aq 2 rfl<|cP rfl rfl (bV.mono (wU _ _) (fun r σ' h=>?_))
  obtain⟨rfl,rfl⟩:=h
  refine aD [12] rfl ?_
  refine ab (.a 2 rfl<|.k [10] rfl)<|ao ?_
  first
   |exact⟨_,aA.of rfl,rfl,by rw[if_neg he]⟩
   |exact⟨_,aA.of rfl,rfl,by simp only[if_pos he]⟩
 ·have he:¬fH T D n d=0:=ff h1
  refine ak<|ab (.a 2 rfl<|.k [10] rfl)<|ao ?_
  first
   |exact⟨_,aA.of rfl,rfl,by rw[if_neg he]⟩
   |exact⟨_,aA.of rfl,rfl,by simp only[if_pos he]⟩
theorem xj(T:an)(D:List Bool)(n d:Int):Can Tryz.prog 162 [aJ T,aM D,num n,num d] (· =df (fH T D n d) (cm T D n.toNat d.toNat)):=by
 obtain⟨u,hu⟩:∃u:PV,(if fH T D n d=0 then aw (cm T D n.toNat d.toNat) else .raw (.slice none 0 0))=u:=⟨_,rfl⟩
 have hf:=xX T D n d
 rw[hu]at hf
 refine aF Tryz.func162 rfl Tryz.ntmps162 rfl<|ab (.a 3 rfl<|.k [1,2,3,4] rfl)<|aH<|aq 1 rfl<|aD [1,2,3,4,10] rfl ?_
 refine aH<|aq 5 rfl<|cP rfl rfl (bV.mono hf (fun r σ' h=>?_))
 obtain⟨rfl,rfl⟩:=h
 refine aq 1 rfl<|aD [10,11] rfl ?_
 refine ab (.v (aK rfl ((show some u=some u from rfl))) rfl<|.a 3 rfl<|.k [8,9] rfl)<|ao<|⟨_,_,aA.of rfl,ax.ba (ai.cons (y:=aw (if fH T D n d=0 then cm T D n.toNat d.toNat else [])) ?_ (ai.cons ax.pure ai.nil)),rfl⟩
 rw[←hu]
 by_cases he:fH T D n d=0
 ·rw[if_pos he,if_pos he];exact ax.pure
 ·rw[if_neg he,if_neg he];exact ax.bO
end PW
end Go.Proofs.YtnegbdpggideiaaGreatDoor
namespace Go.Proofs.YtnegbdpggideiaaGreatDoor
namespace PW
open Go.RowKit cH Mem Net
section
variable {T:an} {D:List Bool}
theorem vV{d:Nat}:∀ {m:Nat} {q:List Int},Ch T D d m q→(q=[]∨cN T m=false)→dz T false m q=0
 |m,[],_,_=>rfl
 |m,a::q,h,ho=>by
  cases h with
  | @cons _ b k _ ha ht hu hm hov hp=>
   rw[mB (cT.2 ⟨by omega,by omega⟩) (by rw[Int.toNat_natCast];exact ht) (.inr (by rcases ho with h|h;cases h;rw[Int.toNat_natCast];exact h)),Int.toNat_natCast,hm]
   exact vV hp hov
theorem yW{d m:Nat}{q:List Int}(h:Ch T D d m q):dz T true m q=0:=by
 cases h with
 |nil=>rfl
 | @cons _ b k q ha ht hu hm hov hp=>
  rw[mB (cT.2 ⟨by omega,by omega⟩) (by rw[Int.toNat_natCast];exact ht) (.inl rfl),Int.toNat_natCast,hm]
  exact vV hp hov
theorem Ch.bare{d m:Nat}{q:List Int}(h:Ch T D d m q):Ch T [] d m q:=by
 induction h with
 |nil=>exact .nil
 |cons ha ht hu hm ho hp ih=>exact .cons ha ht (by simp[aW]) hm ho ih
theorem Ch.mask{d m:Nat}{q:List Int}(h:Ch T [] d m q)(hc:∀a∈q,aW D a.toNat=false):Ch T D d m q:=by
 induction h with
 |nil=>exact .nil
 | @cons n a m p ha ht hu hm ho hp ih=>exact .cons ha ht (by have:=hc a (by simp);rw[Int.toNat_natCast]at this;exact this) hm ho (ih fun b hb=>hc b (by simp[hb]))
structure iy (T:an) (D:List Bool) (x y:Nat) (p:List Int):Prop where
 valid:av T=true
 fits:bL T D=true
 ne:x≠y
 hx:(x:Int)<T.nodes
 hy:(y:Int)<T.nodes
 uniq:eM T [] x y=true
 sp:SP T [] y x p
 up:∀a∈p,aW D a.toNat=false
theorem Ga{x y:Int}(h:D5 T D x y=true):∃a b:Nat,x=(a:Int)∧y=(b:Int)∧iy T D a b (cm T [] a b)∧fH T [] x y=0:=by
 unfold D5 at h
 simp only[Bool.and_eq_true,Bool.not_eq_true',decide_eq_false_iff_not]at h
 obtain⟨⟨⟨⟨hv,hf⟩,hne⟩,hu⟩,hc⟩:=h
 obtain⟨a,b,rfl,rfl,ha,hb,_,hsp⟩:=mD (nW hu)
 simp only[Int.toNat_natCast]at hsp hc
 exact⟨a,b,rfl,rfl,⟨hv,hf,fun e=>hne (by rw[e]),ha,hb,hu,hsp,mv.1 hc⟩,nW hu⟩
variable {x y:Nat} {p:List Int}
theorem iy.pos(h:iy T D x y p):0<p.length:=by
 have hsp:=h.sp
 cases hsp with
 |nil=>exact absurd rfl h.ne
 |cons _ _ _=>simp
theorem iy.G9(h:iy T D x y p):pE T D x p:=⟨h.valid,h.fits,aO.2 ⟨by omega,h.hx⟩,yW h.sp.ch,h.up⟩
theorem iy.lX(h:iy T D x y p):dF T [] y x=1:=(vk h.valid (ig T) h.hx h.hy).1 h.uniq
theorem iy.IP(h:iy T D x y p):ej T [] x p 0 p.length=true:=by
 have he:cE T (x:Int) (p.take p.length)=(y:Int):=by rw[List.take_length];exact h.sp.ch.fin
 rw[mC h.G9.bare (Nat.zero_le _) (Nat.le_refl _) (u:=x) rfl he]
 have:dP p 0 p.length=p:=by unfold dP;simp
 rw[this]
 exact⟨h.sp,h.lX⟩
theorem iy.part(h:iy T D x y p){i k:Nat}(hik:i≤k)(hk:k<p.length):D5 T D (bw T (p.getD i 0).toNat) (bb T (p.getD k 0).toNat)=true:=by
 have hF:=h.G9
 have ha:=hF.aR
 have hc:=Gq hF.bare (i:=0) (j:=p.length) (i':=i) (j':=k+1) (Nat.zero_le _) (by omega) (by omega) (Nat.le_refl _) h.IP
 obtain⟨u,hu,huN⟩:=cr h.valid hF.node ha i (by omega)
 obtain⟨v,hv,hvN⟩:=cr h.valid hF.node ha (k+1) (by omega)
 rw[oA hF (by omega) hu,←fv T x p k hk,hv]
 rw[←qC hF (by omega) (by omega) hu hv,Bool.and_eq_true]at hc
 exact hc.1
theorem iy.next(h:iy T D x y p){i u:Nat}(hi:i<p.length)(hu:cE T x (p.take i)=(u:Int)):bm T [] u y=[p.getD i 0]∧bm T D u y=[p.getD i 0]∧(u:Int)<T.nodes:=by
 have hF:=h.G9
 have hv:=h.valid
 have ha:=hF.aR
 obtain⟨u',hu',huN⟩:=cr hv hF.node ha i (by omega)
 have:u'=u:=by omega
 subst this
 have hfin:cE T (x:Int) (p.take p.length)=(y:Int):=by rw[List.take_length];exact h.sp.ch.fin
 have hch:=hF.bare.ch (i:=0) (j:=i) (Nat.zero_le _) (by omega) (u:=x) rfl hu
 have hpp:dP p 0 i++dP p i p.length=p:=by rw[←kp p (Nat.zero_le _) (by omega)];unfold dP;simp
 have hsp:=h.sp
 rw[←hpp]at hsp
 obtain⟨s1,s2⟩:=hsp.suffix hv h.hy h.lX hch
 have hdr:dP p i p.length=p.getD i 0::p.drop (i+1):=by
  unfold dP
  rw[List.take_of_length_le (by simp),drop_cons p i hi]
 rw[hdr]at s1
 have hup:∀c∈p.getD i 0::p.drop (i+1),aW D c.toNat=false:=fun c hc=>by
  rw[←drop_cons p i hi]at hc
  exact h.up c (List.mem_of_mem_drop hc)
 have hchD:=s1.ch.mask hup
 have hd0:=s1.cost hv h.hy
 generalize p.getD i 0=a0 at*
 generalize p.drop (i+1)=q at*
 cases s1 with
 | @cons _ a m _ hn hm hq=>
  obtain⟨b,hb,_,_⟩:=tW hv h.hy huN hn.ne s2
  have hab:=fq hn ((aQ hv).cost a hn.iM).1
  rw[hb]at hab
  simp only[List.mem_singleton]at hab
  rw[←hab]at hb
  refine⟨hb,?_,huN⟩
  have hDle:=hchD.le hv h.hy
  have mono:∀k:Nat,(k:Int)<T.nodes→0≤dN T D y k→0≤dN T [] y k∧dN T [] y k≤dN T D y k:=fun k hk h0=>by
   have hs:=eP hv h.hy hk h0
   have:=hs.ch.bare.le hv h.hy
   rw[←(hs.cost hv h.hy).1]at this
   exact this
  have hmu:=mono u' huN hDle.1
  have heq:dN T D y u'=dN T [] y u':=by omega
  have hall:∀c∈bm T D u' y,c=(a:Int):=fun c hc=>by
   obtain⟨k,rfl,hk⟩:=dj hc
   obtain⟨z,hz,hzN⟩:=du hv hk.iM
   have g:=hk.dN hz
   have g2:=mono z hzN g.1
   have hs:=eP (D:=[]) hv h.hy hzN g2.1
   have hch2:Ch T [] y u' ((k:Int)::cm T [] z y):=.cons hk.iM hk.tail (by simp[aW]) hz (by
    rcases hk.pass with e|e
    ·left
     have:z=y:=by omega
     subst this
     exact hs.self
    ·right
     rw[hz,Int.toNat_natCast]at e
     exact e) hs.ch
   have g3:=hch2.le hv h.hy
   rw[fJ,←(hs.cost hv h.hy).1,Int.toNat_natCast]at g3
   have hnr:jq T [] u' y k:=⟨hk.iM,hk.tail,by simp[aW],hk.ne,by rw[hz,Int.toNat_natCast];exact g2.1,hk.pass,by
    rw[hz,Int.toNat_natCast]
    show dN T [] y u'=dN T [] y z+cb T k
    omega⟩
   have:=fq hnr ((aQ hv).cost k hk.iM).1
   rw[hb]at this
   simpa using this
  obtain⟨k,hk⟩:=kB (D:=D) hv huN h.hy hn.ne hDle.1
  have hmem:=fq hk ((aQ hv).cost k hk.iM).1
  have hso:=lu T D u' y
  cases hx:bm T D u' y with
  |nil=>rw[hx]at hmem;cases hmem
  |cons c l=>
   rw[hx]at hall hso
   have hc:=hall c (by simp)
   subst hc
   cases l with
   |nil=>rfl
   |cons c2 l=>
    have:=hall c2 (by simp)
    have h3:=(List.pairwise_cons.1 hso).1 c2 (by simp)
    omega
end
end PW
end Go.Proofs.YtnegbdpggideiaaGreatDoor
namespace Go.Proofs.YtnegbdpggideiaaGreatDoor
namespace PW
open Go.RowKit cH Mem Net
def sb(k:Nat):List mN:=(List.range k).map fun(i:Nat)=>⟨(i:Int),(((i+1) % 4:Nat):Int),1,1,0,1,0⟩
def cO:an:=⟨4,[],sb 4⟩
def Ct(d:Nat):List Int:=match d with
 |0=>[0,1,2,1]
 |1=>[1,0,1,2]
 |2=>[2,1,0,1]
 |_=>[1,2,1,0]
theorem kL:av cO=true:=by kernel_rfl
def Ik(T:an)(n:Nat)(out:List Int)(a:Nat):Bool:=decide (0≤at' out (cL T false a))&&(decide (cL T false a=(n:Int))|| !cN T (cL T false a).toNat)
theorem tC(n:Nat)(out:List Int)(a:Nat):Net.Way cO [] n false out a↔Ik cO n out a=true:=by
 unfold Net.Way Ik
 have:aW [] a=false:=by simp[aW]
 simp[this]
theorem xC(l:List mN)(e:mN):gG l++jz e=gG (l++[e]):=by simp[gG]
theorem xk(k:Nat):sb (k+1)=sb k++[⟨(k:Int),(((k+1) % 4:Nat):Int),1,1,0,1,0⟩]:=by simp[sb,List.range_succ]
theorem Cw{P:Program}{σ:cg}{t:b9}{o:Oper}{ty:TypeId}{v0 v1 c0 c1:Value}(ho:o.op= .build ty #[(0,.const v0),(1,.const v1)])(hb:P.built ty [(0,v0),(1,v1)]=some #[c0,c1]):bp P σ t o (.agg [.raw c0,.raw c1]):=by
 intro F base E ρ w hρ hS hT
 have hrun:=run_build (P:=P) w ty #[(0,v0),(1,v1)] #[c0,c1] hb
 have h0:ρ (.const v0)=v0:=hρ.const v0
 have h1:ρ (.const v1)=v1:=hρ.const v1
 have hr:(execOp ρ o).run P w= .ok (.value (.agg #[c0,c1])) w:=by
  simp only[execOp,ho,Sem.run_bind,List.map_toArray,List.map_cons,List.map_nil,h0,h1,hrun,Result.andThen_ok,Sem.run_pure]
 rw[hr]
 refine br (.agg #[c0,c1] _ rfl (fun i x u k1 k2=>?_))
 match i,k1,k2 with
 |0,k1,k2=>simp at k1 k2;subst k1;subst k2;exact .raw _
 |1,k1,k2=>simp at k1 k2;subst k1;subst k2;exact .raw _
 |_+2,k1,k2=>simp at k2
end PW
end Go.Proofs.YtnegbdpggideiaaGreatDoor
namespace Go.Proofs.YtnegbdpggideiaaGreatDoor
namespace PW
open Go.RowKit cH Mem Net
end PW
end Go.Proofs.YtnegbdpggideiaaGreatDoor
namespace Go.Proofs.YtnegbdpggideiaaGreatDoor
namespace PW
open Go.RowKit cH Mem Net
section
variable {P:Program} {σ:cg} {t:b9} {o:Oper}
end
end PW
end Go.Proofs.YtnegbdpggideiaaGreatDoor
namespace Go.Proofs.YtnegbdpggideiaaGreatDoor
namespace PW
open Go.RowKit cH Mem Net
def kO(T:an)(D:List Bool)(L:List Int)(m d:Nat):List Int:=if m=d∨L.getD m 0<0 then [] else jC T D L (L.getD m 0) d (bC T m)
def yt(T:an)(D:List Bool)(L:List Int)(d:Nat):Nat→Nat→Int
 |0,m=>if m=d then 1 else 0
 |f+1,m=>if m=d then 1 else(kO T D L m d).foldl (fun c a=>min 2 (c+yt T D L d f (bb T a.toNat).toNat)) 0
def Bq(y u:Nat)(c:Int):Bool:=decide ((Ct y).getD u 0=c)&&(decide (bQ cO [] (u:Int) (y:Int)=0)&&decide (yt cO [] (Ct y) y ((Ct y).getD u 0).toNat u=1))
end PW
end Go.Proofs.YtnegbdpggideiaaGreatDoor
namespace Go.Proofs.YtnegbdpggideiaaGreatDoor
namespace PW
open Go.RowKit cH Mem Net
instance (l:List cq):mn (eF l):=⟨fun i u h=>by
 obtain⟨s,_,hs⟩:=List.mem_flatMap.1 (List.mem_of_getElem? h)
 simp only[mL,List.mem_cons,List.not_mem_nil,or_false]at hs
 rcases hs with rfl|rfl
 ·infer_instance
 ·infer_instance⟩
end PW
end Go.Proofs.YtnegbdpggideiaaGreatDoor
namespace Go.Proofs.YtnegbdpggideiaaGreatDoor
namespace PW
open Go.RowKit cH Mem Net
section
variable {H:Type} {enc:TypeId×Value→H} {W:World}
end
end PW
end Go.Proofs.YtnegbdpggideiaaGreatDoor
