/- Texts of the proof, part 4. -/
import Derived.Lib.AppendStr
import Derived.Lib.UnsafeStr
import Derived.Lib.Builder
import Derived.Shelf.Strings.Builder1
import Derived.Shelf.Strings.Builder2
import Derived.Shelf.Strings.OnBuilder
import Derived.Shelf.Strings.BuilderF
import Derived.Shelf.Strings.BuilderK
import Derived.Shelf.Strings.Builder2Cap
import Derived.Shelf.Strconv.Itoa0
import Derived.Shelf.Strconv.Itoa1
import Derived.Shelf.LaysM
import Derived.Shelf.Strconv.Itoa2
import Derived.Shelf.Strconv.Itoa3
import Derived.Shelf.Strings.BuilderCap
import Derived.Ground.Names2Prog
import Derived.Shelf.Slices.Clone
import Derived.Shelf.Slices.SearchI
import Derived.Ground.SlgnProg
import Derived.Shelf.SlicesE.Clone
import Derived.Test.YtnegbdpggideiaaDoorProg
import Derived.Test.YtnegbdpggideiaaDoorCardTXB3
set_option linter.unusedVariables false
set_option linter.unusedSimpArgs false
set_option maxRecDepth 10000
set_option maxHeartbeats 1000000
namespace Go.Proofs.YtnegbdpggideiaaDoor
namespace PW
section
open Go.RowKit bm Mem
section
variable {P:Program} {σ:bt} {t:aZ} {o:Oper}
def bS(l:List UInt8):List PV:=l.map fun b=>.raw (.int .u8 b.toNat)
instance (l:List UInt8):ao (bS l):=ao.map _ _ fun _=>inferInstance
theorem dF(a b:List UInt8):bS a++bS b=bS (a++b):=by simp[bS]
theorem fN{w:World}(base:Nat)(t u ty e:TypeId)(i:TypeInfo)(ht:P.underlying t=some (.slice e))(hu:P.underlying u=some .string)(hi:P.info? e=some i)(hz:i.zero=some (.int .u8 0))
  (hsize:i.size=1) (hby:i.bytes=1) (v:Value) (n:Nat) (xs:List Value) (hown:w.ownsRow base e 1 v n xs) (s:ByteArray)
  (h63:n+s.size≤maxLen) (hbytes:n+s.size≤140737488355328) (hbase:base≤w.heap.size):
  ∃v' w',(Builtin.append_ #[t,u] ty #[v,.string s]).run P w= .ok v' w'∧w'.ownsRow base e 1 v' (n+s.size) (xs++Lib.strCells s)∧w.grownBy w' v.ownBlock∧(v'.ownBlock=v.ownBlock∨v'.ownBlock=some w.heap.size):=by
 obtain⟨v',w',hr,h2,h3,h4⟩:=Lib.run_append_own_string (P:=P) w base t u ty e i ht hu hi hz hsize hby v n xs hown s h63 hbytes hbase
 refine⟨v',w',hr,h2,h3,?_⟩
 have hsmall:n+s.size≤9223372036854775807:=by simp only[maxLen]at h63;omega
 rcases hown.2 with⟨rfl,rfl⟩|⟨g,cap,cur,rfl,hbg,hg,hnc,hcm,hcs,htake⟩
 ·by_cases hm:s.size=0
  ·rw[h4.2 ⟨rfl,hm⟩];exact .inl rfl
  ·have hr':=run_append_nil_string (P:=P) w t u ty e i (.int .u8 0) ht hu hi hz s (by omega) (by omega) (by rw[hby];omega)
   rw[hr']at hr
   cases hr
   exact .inr rfl
 ·by_cases hroom:n+s.size≤cap
  ·have hr':=Lib.run_append_room_string (P:=P) w t u ty e i ht hu hi hsize g n cap cur hg s hroom (by rw[hcs];omega)
   rw[hr']at hr
   cases hr
   exact .inl rfl
  ·have holds:∀(j:Nat) u,xs[j]? =some u→w.cell? ((⟨g,0,none⟩:Addr).add j)=some u:=hown.cells (g:=g) I
   have hr':=Lib.run_append_grow_string (P:=P) w t u ty e i (.int .u8 0) ht hu hi hz ⟨g,0,none⟩ n cap xs (by rw[hsize];exact hown.1) holds s (by omega) (by omega) (growslice_fits (by omega) (by rw[hby];omega))
   rw[hr']at hr
   cases hr
   exact .inr rfl
def mD(P:Program)(ty sy:TypeId):Option TypeId:=
 match P.underlying ty,P.underlying sy with
 |some (.slice e),some .string=>match P.info? e with
  |some i=>match i.zero with
   |some (.int .u8 0)=>bif Nat.beq i.size 1&&Nat.beq i.bytes 1 then some e else none
   |_=>none
  |none=>none
 |_,_=>none
theorem ll{ty sy e:TypeId}(h:mD P ty sy=some e):P.underlying ty=some (.slice e)∧P.underlying sy=some .string∧∃i,P.info? e=some i∧i.zero=some (.int .u8 0)∧i.size=1∧i.bytes=1:=by
 unfold mD at h
 split at h
 ·rename_i e' h1 h2
  split at h
  ·rename_i i hi
   split at h
   ·rename_i hz
    rw[Bool.cond_eq_ite]at h
    split at h
    ·rename_i hb
     cases h
     obtain⟨b1,b2⟩:=Bool.and_eq_true_iff.1 hb
     exact⟨h1,h2,i,hi,hz,Nat.eq_of_beq_eq_true b1,Nat.eq_of_beq_eq_true b2⟩
    ·cases h
   ·cases h
  ·cases h
 ·cases h
theorem kS{ty sy e n i:Nat}{xs:List PV}{x y:Operand}{s:ByteArray}(ho:o.op= .call {callee:=.builtin .append,args:= #[x,y],argTypes:= #[ty,sy]})(hk:mD P ty sy=some e)(hx:ag t x=some (.own i))(hi:σ[i]? =some (some (.row e 1 n xs)))
  (hy:ag t y=some (.raw (.string s))) (hn:n+s.size≤140737488355328):
  e6 P σ t o (.own σ.length) (σ.set i none++[some (.row e 1 (n+s.size) (xs++bS s.data.toList))]):=by
 intro F base E ρ w hρ hS hT
 have h1:=af hρ hT hx
 have h2:=af hρ hT hy
 generalize hz1:ρ x=v at h1
 generalize hz2:ρ y=u at h2
 cases h2
 obtain⟨hu,hu2,inf,hinf,hz,hs,hby⟩:=ll hk
 cases h1 with
 |own _ hiL _ hat hone=>
  obtain⟨cs,k1,k2⟩:=hS.blk i _ hi
  rw[hat]at k1
  have hob:aD (E.at_ i)=v.ownBlock:=by rw[hat];exact cp k1
  obtain⟨v',w',hrun,hown,hg,hw⟩:=fN (P:=P) (w:=w) base ty sy o.type e inf hu hu2 hinf hz hs hby v n cs k1 s (by unfold maxLen;omega) hn hS.bl
  have hr:(execOp ρ o).run P w= .ok (.value v') w':=by
   simp only[execOp,ho,resolve,invoke,builtin,Sem.run_bind,Sem.run_pure,Result.andThen_ok,List.map_toArray,List.map_cons,List.map_nil,hz1,hz2,hrun]
  have hnw:aA E w (Lib.strCells s) (bS s.data.toList):=by
   refine⟨by simp[Lib.strCells,bS],fun j c u h1 h2=>?_⟩
   simp only[Lib.strCells,bS,List.getElem?_map,Option.map_eq_some_iff]at h1 h2
   obtain⟨b,hb,rfl⟩:=h1
   obtain⟨b',hb',rfl⟩:=h2
   rw[hb]at hb'
   cases hb'
   exact .raw _
  have hv':∀b,aD v'=some b→aD (E.at_ i)=some b∨w.heap.size≤b:=fun b hb=>by
   rw[cp hown]at hb
   rcases hw with h|h
   ·rw[hob,←h];exact .inl hb
   ·rw[h]at hb;cases hb;exact .inr (Nat.le_refl _)
  obtain⟨a1,a2⟩:=hS.swap (w':=w') (blk:=.row e 1 (n+s.size) (xs++bS s.data.toList)) hi hg.size (fun k hk hne=>hg.block k hk (by rw[←hob];exact Ne.symm hne)) hv' (fun E' g=>⟨cs++Lib.strCells s,hown,(k2.append hnw).goes g⟩)
  refine⟨v',w',_,.inl hr,a1,a2,⟨hg.os,hg.tape,hg.output,hg.size,fun k hk=>hg.block k (Nat.lt_of_lt_of_le hk hS.bl) (fun e=>?_)⟩,.own σ.length (by simp[Env.push,Env.kill,hS.len]) v' (by simp[Env.push,Env.kill,hS.len]) ?_⟩
  ·have:=(k1.lt k e.symm).1;omega
  ·rcases hown.2 with⟨rfl,_⟩|⟨g',cap,cur,rfl,_⟩<;>rfl
theorem Sat.drop{F:Nat→Prop}{base:Nat}{E:Env}{w w':World}(hS:Sat F base σ E w){j g:Nat}{bj:cI}(hj:σ[j]? =some (some bj))(hb:aD (E.at_ j)=some g)(hs:w.heap.size≤w'.heap.size)(ho:∀k,k<w.heap.size→k≠g→w'.heap[k]? =w.heap[k]?):
  Sat F base (σ.set j none) (E.kill j) w'∧bH E w (E.kill j) w':=by
 have hgM:E.M g:=(hS.mm g).2 (.inr ⟨j,bj,hj,hb⟩)
 obtain⟨k1,_⟩:=hS.kill j hj
 have g':bH E w (E.kill j) w':=⟨Nat.le_refl _,fun _ _=>rfl,fun b _ hM h=>hM h.1,hs,fun k hk hM=>ho k hk (fun e=>hM (by rw[e];exact hgM))⟩
 refine⟨⟨Nat.le_trans hS.bl hs,fun b hb'=>⟨Nat.lt_of_lt_of_le (k1.fb b hb').1 hs,(k1.fb b hb').2⟩,k1.len,k1.mm,fun i bl hi=>?_,k1.inj,hS.gl.goes g'⟩,g'⟩
 obtain⟨hne,h3⟩:=dm hi
 exact(hS.blk i bl h3).goes g' (fun k hk=>ho k ((hS.blk i bl h3).lt hk).2 (fun e=>hne (hS.inj i j bl bj g h3 hj (by rw[←e];exact hk) hb)))
theorem o7{ty:TypeId}{x:Operand}{s:ByteArray}(ho:o.op= .call {callee:=.builtin .len,args:= #[x],argTypes:= #[ty]})(hu:P.underlying ty=some .string)(hx:ag t x=some (.raw (.string s))):ay P σ t o (.raw (.int .i64 s.size)):=by
 intro F base E ρ w hρ _ hT
 have h1:=af hρ hT hx
 generalize hz:ρ x=z at h1
 cases h1
 simp[execOp,ho,resolve,invoke,builtin,Builtin.len_,hz,run_underlying hu,goInt]
 exact aC (.raw _)
theorem kr{ty:TypeId}{x:Operand}{j e s n:Nat}{xs:List PV}(ho:o.op= .call {callee:=.builtin .unsafeSliceData,args:= #[x],argTypes:= #[ty]})(hx:ag t x=some (.own j))(hj:σ[j]? =some (some (.row e s n xs)))(hn:0<n):ay P σ t o (.ptr j 0):=by
 intro F base E ρ w hρ hS hT
 have h1:=af hρ hT hx
 generalize hz:ρ x=z at h1
 cases h1 with
 |own _ hi _ h hone=>
  obtain⟨cs,k1,_⟩:=hS.blk j _ hj
  rw[h]at k1
  rcases k1.2 with⟨_,h0⟩|⟨g,cap,cur,hv,_,_,hnc,_⟩
  ·omega
  ·subst hv
   have:=Lib.run_unsafeSliceData_row (P:=P) w #[ty] o.type ⟨g,0,none⟩ n cap (by omega)
   simp only[execOp,ho,resolve,invoke,builtin,Sem.run_bind,Sem.run_pure,Result.andThen_ok,List.map_toArray,List.map_cons,List.map_nil,hz,this]
   exact aC (.ptr j 0 g hi (.inr ⟨n,cap,h⟩))
theorem kL{pt it:TypeId}{x y:Operand}{j e:Nat}{l:List UInt8}(ho:o.op= .call {callee:=.builtin .unsafeString,args:= #[x,y],argTypes:= #[pt,it]})(hp:P.underlying pt=some (.pointer e))(hc:P.cellsOf e=1)(hx:ag t x=some (.ptr j 0))(hy:ag t y=some (.raw (.int .i64 l.length)))(hj:σ[j]? =some (some (.row e 1 l.length (bS l))))(hl:0<l.length):
  e6 P σ t o (.raw (.string ⟨l.toArray⟩)) (σ.set j none):=by
 intro F base E ρ w hρ hS hT
 have h1:=af hρ hT hx
 have h2:=af hρ hT hy
 generalize hz:ρ x=z at h1
 generalize hz':ρ y=z' at h2
 cases h2
 cases h1 with
 |ptr _ _ b hi h=>
  obtain⟨cs,k1,k2⟩:=hS.blk j _ hj
  have hcs:cs=Lib.byteCells l:=by
   apply List.ext_getElem?
   intro i
   by_cases hi':i<l.length
   ·have h3:=k2.2 i (cs[i]'(by rw[k2.1];simpa[bS]using hi')) (.raw (.int .u8 (l[i]).toNat)) (by simp) (by simp[bS,hi'])
    have h4:cs[i]'(by rw[k2.1];simpa[bS]using hi')= .int .u8 (l[i]).toNat:=by
     generalize cs[i]'(by rw[k2.1];simpa[bS]using hi')=q at h3
     cases h3;rfl
    rw[List.getElem?_eq_getElem (by rw[k2.1];simpa[bS]using hi'),h4]
    simp[Lib.byteCells,hi']
   ·rw[List.getElem?_eq_none (by rw[k2.1];simp[bS];omega),List.getElem?_eq_none (by simp[Lib.byteCells];omega)]
  subst hcs
  have k3:=k1
  rcases k1.2 with⟨hv,h0⟩|⟨g,cap,cur,hv,hbg,hg,hnc,hcm,hsz,htk⟩
  ·omega
  ·have hbeq:b=g:=by
    rcases h with h|⟨n,c,h⟩
    ·rw[hv]at h;cases h
    ·rw[hv]at h;cases h;rfl
   subst hbeq
   have hblk:aD (E.at_ j)=some b:=by rw[hv];rfl
   have hrun:=Lib.run_unsafeString_row (P:=P) w pt it o.type e hp hc b cur.size (by simp[World.shape?,hg]) l (by intro e';rw[e']at hl;simp at hl) (by omega) (by unfold maxLen at hcm;omega) (fun i x hx'=>k3.cells (g:=b) (by rw[hv];rfl) i (.int .u8 x.toNat) (by simp[Lib.byteCells,hx']))
   have hr:(execOp ρ o).run P w= .ok (.value (.string ⟨l.toArray⟩)) (w.freeze ⟨b,0,none⟩ l.length):=by
    simp only[execOp,ho,resolve,invoke,builtin,Sem.run_bind,Sem.run_pure,Result.andThen_ok,List.map_toArray,List.map_cons,List.map_nil,hz,hz',hrun]
   have hfz:∀k,k≠b→(w.freeze ⟨b,0,none⟩ l.length).heap[k]? =w.heap[k]? :=fun k hk=>by
    unfold World.freeze
    split
    ·rfl
    ·simp only[Array.getElem?_modify]
     rw[if_neg (Ne.symm hk)]
   have hsz':w.heap.size≤(w.freeze ⟨b,0,none⟩ l.length).heap.size:=by
    unfold World.freeze
    split<;>simp
   obtain⟨a1,a2⟩:=Sat.drop (w':=w.freeze ⟨b,0,none⟩ l.length) hS hj hblk hsz' (fun k _ hk=>hfz k hk)
   exact⟨_,_,_,.inl hr,a1,a2,Lib.below_freeze (Below.refl base w) (p:=⟨b,0,none⟩) hbg _,.raw _⟩
theorem k7{x y:Operand}{ty tz:TypeId}(ho:o.op= .binOp .eql ty x y tz)(hk:j8 P ty=true)(hx:ag t x=some (.raw (.pointer none)))(hy:ag t y=some (.raw (.pointer none))):ay P σ t o (.raw (.bool true)):=by
 refine kx ho hx hy fun w=>?_
 unfold j8 at hk
 split at hk
 ·rename_i e hu
  have key:∀d,(Op.equalIn (d+1) ty (.pointer none) (.pointer none)).run P w= .ok true w:=fun d=>by
   simp only[Op.equalIn,Sem.run_bind,run_underlying hu,Result.andThen_ok,Sem.run_pure,Option.isNone_none]
  have:=key 9999
  simp only[Nat.reduceAdd]at this
  simp[eqGuard,binOp,Op.equal,Op.maxDepth,this]
 ·cases hk
theorem jd{x y:Operand}{ty te tz:TypeId}{i k:Nat}{ji:TypeInfo}(ho:o.op= .binOp .neq ty x y tz)(hp:P.underlying ty=some (.pointer te))(hte:P.info? te=some ji)(hx:ag t x=some (.ptr i k))(hy:ag t y=some (.ptr i k)):ay P σ t o (.raw (.bool false)):=by
 intro F base E ρ w hρ hS hT
 have h1:=af hρ hT hx
 have h2:=af hρ hT hy
 have he:ρ x=ρ y:=kQ.rZ E w _ _ h1 h2
 generalize hz:ρ x=z at h1
 have hz':ρ y=z:=by rw[←he,hz]
 cases h1 with
 |ptr _ _ b hi h=>
  have hb:=Lib.run_neq_ptr_same (P:=P) w ⟨b,k,none⟩ hp hte
  have hr:(execOp ρ o).run P w= .ok (.value (.bool false)) w:=by
   simp only[execOp,ho,hz,hz',Sem.run_bind,Sem.run_pure]
   have hg:(eqGuard .neq ty x y (.pointer (some ⟨b,k,none⟩)) (.pointer (some ⟨b,k,none⟩))).run P w= .ok () w:=rfl
   rw[hg]
   simp only[Result.andThen_ok,hb]
  rw[hr]
  exact aC (.raw _)
theorem iy{src dst te ty:TypeId}{x:Operand}{i:Nat}{ji:TypeInfo}{xs:List PV}(ho:o.op= .convert src dst x)(hs:P.underlying src=some (.pointer te))(hd:P.underlying dst=some .unsafePointer)(ht:P.info? te=some ji)(hj:ji.size≠0)(hx:ag t x=some (.ptr i 0))(hi:σ[i]? =some (some (.cells ty xs)))(hl:0<xs.length):ay P σ t o (.ptr i 0):=by
 intro F base E ρ w hρ hS hT
 have h1:=af hρ hT hx
 have h1':=h1
 generalize hz:ρ x=z at h1 h1'
 obtain⟨b,cs,k1,k2,k3,k4⟩:=hS.blk i _ hi
 cases h1 with
 |ptr _ _ b' hi' h=>
  have hb:b'=b:=by
   rcases h with h|⟨n,c,h⟩<;>rw[k1]at h<;>cases h
   rfl
  subst hb
  have:=Lib.run_to_unsafe (P:=P) w ⟨b',0,none⟩ hs hd ht hj (e:=ty) (cells:=cs.size) (by simp[World.shape?,k3]) (by have:=k4.1;simp at this ⊢;omega)
  simp only[execOp,ho,hz,Sem.run_bind,this,Result.andThen_ok,Sem.run_pure]
  exact aC h1'
theorem fL{src dst u ty:TypeId}{x:Operand}{i:Nat}{ji:TypeInfo}{xs:List PV}(ho:o.op= .convert src dst x)(hs:P.underlying src=some .unsafePointer)(hd:P.underlying dst=some (.pointer u))(ht:P.info? u=some ji)(hx:ag t x=some (.ptr i 0))(hi:σ[i]? =some (some (.cells ty xs)))(hl:liesAt P P.depth ty (xs.length / P.cellsOf ty) 0 u 1=true):ay P σ t o (.ptr i 0):=by
 intro F base E ρ w hρ hS hT
 have h1:=af hρ hT hx
 have h1':=h1
 generalize hz:ρ x=z at h1 h1'
 obtain⟨b,cs,k1,k2,k3,k4⟩:=hS.blk i _ hi
 cases h1 with
 |ptr _ _ b' hi' h=>
  have hb:b'=b:=by
   rcases h with h|⟨n,c,h⟩<;>rw[k1]at h<;>cases h
   rfl
  subst hb
  have hsz:cs.size=xs.length:=by have:=k4.1;simpa using this
  have:=Lib.run_from_unsafe (P:=P) w ⟨b',0,none⟩ hs hd ht (e:=ty) (cells:=cs.size) (by simp[World.shape?,k3]) (by rw[hsz];exact hl)
  simp only[execOp,ho,hz,Sem.run_bind,this,Result.andThen_ok,Sem.run_pure]
  exact aC h1'
theorem gY{f:FuncId}{x a:Operand}{ats:Array TypeId}{p:PV}(ho:o.op= .call {callee:=.value x,args:= #[a],argTypes:=ats})(hx:ag t x=some (.func f []))(ha:ag t a=some p)(hr:∀v w,(callFunc f #[v]).run P w= .ok (.value v) w):ay P σ t o p:=by
 intro F base E ρ w hρ hS hT
 have h1:=af hρ hT hx
 have h2:=af hρ hT ha
 generalize hz:ρ x=z at h1
 cases h1 with
 |func _ cs _ hl hr'=>
  have hcs:cs= #[]:=Array.eq_empty_of_size_eq_zero (by simpa using hl)
  subst hcs
  have h3:(execOp ρ o).run P w= .ok (.value (ρ a)) w:=by
   have:=hr (ρ a) w
   simp[execOp,ho,resolve,hz,Deferred.ofValue,invoke,this]
  rw[h3]
  exact aC h2
end
end
end PW
end Go.Proofs.YtnegbdpggideiaaDoor
namespace Go.Proofs
open Go.Shelf
def Tryd.gi:Go.Shelf.Ren:=⟨fun|156=>53|165=>79|166=>52|169=>24|240=>78|241=>90|276=>89|277=>102|n=>n,fun|31=>69|9=>9|3=>3|4=>4|0=>0|20=>20|72=>67|76=>97|70=>64|37=>65|75=>96|127=>102|164=>124|5=>5|80=>71|n=>n,fun|n=>n⟩
theorem Tryd.mb:Go.Proofs.Lays.n156 Tryd.prog Tryd.gi:= {
 mixed:=by kernel_rfl
 f156:=Tryd.func53.trans (congrArg some (by kernel_rfl))
 f165:=Tryd.func79.trans (congrArg some (by kernel_rfl))
 f166:=Tryd.func52.trans (congrArg some (by kernel_rfl))
 f169:=Tryd.func24.trans (congrArg some (by kernel_rfl))
 f240:=Tryd.func78.trans (congrArg some (by kernel_rfl))
 f241:=Tryd.func90.trans (congrArg some (by kernel_rfl))
 f276:=Tryd.func89.trans (congrArg some (by kernel_rfl))
 f277:=Tryd.func102.trans (congrArg some (by kernel_rfl))
 t0:=Tryd.underlying0
 a0:=Tryd.isAgg0
 z0:=Tryd.sizeOf0
 v0:=Tryd.zeroValue0
 t3:=Tryd.underlying3
 a3:=Tryd.isAgg3
 z3:=Tryd.sizeOf3
 v3:=Tryd.zeroValue3
 t4:=Tryd.underlying4
 a4:=Tryd.isAgg4
 z4:=Tryd.sizeOf4
 v4:=Tryd.zeroValue4
 t9:=Tryd.underlying9
 a9:=Tryd.isAgg9
 z9:=Tryd.sizeOf9
 v9:=Tryd.zeroValue9
 t20:=Tryd.underlying20
 a20:=Tryd.isAgg20
 z20:=Tryd.sizeOf20
 v20:=Tryd.zeroValue20
 t31:=Tryd.underlying69
 a31:=Tryd.isAgg69
 z31:=Tryd.sizeOf69
 v31:=Tryd.zeroValue69
 t37:=Tryd.underlying65
 a37:=Tryd.isAgg65
 z37:=Tryd.sizeOf65
 v37:=Tryd.zeroValue65
 t70:=Tryd.underlying64
 a70:=Tryd.isAgg64
 z70:=Tryd.sizeOf64
 v70:=Tryd.zeroValue64
 t72:=Tryd.underlying67
 a72:=Tryd.isAgg67
 z72:=Tryd.sizeOf67
 v72:=Tryd.zeroValue67
 t75:=Tryd.underlying96
 a75:=Tryd.isAgg96
 z75:=Tryd.sizeOf96
 v75:=Tryd.zeroValue96
 t76:=Tryd.underlying97
 a76:=Tryd.isAgg97
 z76:=Tryd.sizeOf97
 v76:=Tryd.zeroValue97
 t127:=Tryd.underlying102
 a127:=Tryd.isAgg102
 z127:=Tryd.sizeOf102
 v127:=Tryd.zeroValue102
 t164:=Tryd.underlying124
 a164:=Tryd.isAgg124
 z164:=Tryd.sizeOf124
 v164:=Tryd.zeroValue124}
theorem Tryd.dy:Builder.Extra Tryd.prog Tryd.gi:= {
 sizeBuilder:=by kernel_rfl
 liesBuilder:=by kernel_rfl
 t5:=Tryd.underlying5
 a5:=Tryd.isAgg5
 z5:=Tryd.sizeOf5
 v5:=Tryd.zeroValue5
 infoByte:=by kernel_rfl
 cellsByte:=by kernel_rfl
 sizeByte:=by kernel_rfl
 neB5:=by decide}
open Go.RowKit in
theorem Tryd.strings_Join_none(a:Option Addr)(c:Nat)(sep:ByteArray)(w:World):
  Calls Tryd.prog 53 #[.slice a 0 c,.string sep] w fun e w'=>e= .returned (.string ⟨#[]⟩)∧w'=w:=Any.strings_Join_none Tryd.mb Tryd.dy a c sep w
open Go.RowKit in
theorem Tryd.strings_Join(bk o c:Nat)(xs:List ByteArray)(sep:ByteArray)(w:World)(hcells:∀(j:Nat) x,xs[j]? =some x→w.cell? ⟨bk,o+j,none⟩=some (.string x))(hbk:bk<w.heap.size)(hN:xs.length≤140737488355328)(hcap:xs.length≤c)(hlen:(Lib.join (xs.map (·.data.toList)) sep.data.toList).length≤140737488355328):
  Calls Tryd.prog 53 #[.slice (some ⟨bk,o,none⟩) xs.length c,.string sep] w fun e w'=>e= .returned (.string ⟨(Lib.join (xs.map (·.data.toList)) sep.data.toList).toArray⟩)∧Below w.heap.size w w':=Any.strings_Join Tryd.mb Tryd.dy bk o c xs sep w hcells hbk hN hcap hlen
def Tryd.qh:Go.Shelf.Ren:=⟨fun|246=>80|283=>91|284=>92|285=>93|286=>94|129=>104|317=>103|318=>105|319=>106|320=>107|337=>112|338=>113|n=>n,fun|2=>2|3=>3|9=>9|4=>4|171=>126|0=>0|53=>73|37=>65|5=>5|173=>129|212=>144|51=>145|20=>20|213=>146|46=>103|232=>159|233=>160|n=>n,fun|17=>0|18=>2|19=>3|n=>n⟩
def Tryd.pE:Go.Shelf.Ren:=⟨fun|243=>55|246=>80|283=>91|284=>92|285=>93|286=>94|129=>104|317=>103|318=>105|319=>106|320=>107|337=>112|338=>113|n=>n,fun|3=>3|9=>9|2=>2|4=>4|171=>126|0=>0|53=>73|37=>65|5=>5|173=>129|212=>144|51=>145|20=>20|213=>146|46=>103|232=>159|233=>160|n=>n,fun|17=>0|18=>2|19=>3|n=>n⟩
def Tryd.jV:Go.Shelf.Ren:=⟨fun|171=>21|243=>55|246=>80|283=>91|284=>92|285=>93|286=>94|129=>104|317=>103|318=>105|319=>106|320=>107|337=>112|338=>113|n=>n,fun|3=>3|9=>9|2=>2|4=>4|171=>126|0=>0|53=>73|37=>65|5=>5|173=>129|212=>144|51=>145|20=>20|213=>146|46=>103|232=>159|233=>160|n=>n,fun|17=>0|18=>2|19=>3|n=>n⟩
theorem Tryd.oL:Go.Proofs.LaysM.n171 Tryd.prog Tryd.jV:= {
 mixed:=by kernel_rfl
 f129:=Tryd.func104.trans (congrArg some (by kernel_rfl))
 f171:=Tryd.func21.trans (congrArg some (by kernel_rfl))
 f243:=Tryd.func55.trans (congrArg some (by kernel_rfl))
 f246:=Tryd.func80.trans (congrArg some (by kernel_rfl))
 f283:=Tryd.func91.trans (congrArg some (by kernel_rfl))
 f284:=Tryd.func92.trans (congrArg some (by kernel_rfl))
 f285:=Tryd.func93.trans (congrArg some (by kernel_rfl))
 f286:=Tryd.func94.trans (congrArg some (by kernel_rfl))
 f317:=Tryd.func103.trans (congrArg some (by kernel_rfl))
 f318:=Tryd.func105.trans (congrArg some (by kernel_rfl))
 f319:=Tryd.func106.trans (congrArg some (by kernel_rfl))
 f320:=Tryd.func107.trans (congrArg some (by kernel_rfl))
 f337:=Tryd.func112.trans (congrArg some (by kernel_rfl))
 f338:=Tryd.func113.trans (congrArg some (by kernel_rfl))
 t0:=Tryd.underlying0
 a0:=Tryd.isAgg0
 z0:=Tryd.sizeOf0
 v0:=Tryd.zeroValue0
 t2:=Tryd.underlying2
 a2:=Tryd.isAgg2
 z2:=Tryd.sizeOf2
 v2:=Tryd.zeroValue2
 t3:=Tryd.underlying3
 a3:=Tryd.isAgg3
 z3:=Tryd.sizeOf3
 v3:=Tryd.zeroValue3
 t4:=Tryd.underlying4
 a4:=Tryd.isAgg4
 z4:=Tryd.sizeOf4
 v4:=Tryd.zeroValue4
 t5:=Tryd.underlying5
 a5:=Tryd.isAgg5
 z5:=Tryd.sizeOf5
 v5:=Tryd.zeroValue5
 t9:=Tryd.underlying9
 a9:=Tryd.isAgg9
 z9:=Tryd.sizeOf9
 v9:=Tryd.zeroValue9
 t20:=Tryd.underlying20
 a20:=Tryd.isAgg20
 z20:=Tryd.sizeOf20
 v20:=Tryd.zeroValue20
 t37:=Tryd.underlying65
 a37:=Tryd.isAgg65
 z37:=Tryd.sizeOf65
 v37:=Tryd.zeroValue65
 t46:=Tryd.underlying103
 a46:=Tryd.isAgg103
 z46:=Tryd.sizeOf103
 v46:=Tryd.zeroValue103
 t51:=Tryd.underlying145
 a51:=Tryd.isAgg145
 z51:=Tryd.sizeOf145
 v51:=Tryd.zeroValue145
 t53:=Tryd.underlying73
 a53:=Tryd.isAgg73
 z53:=Tryd.sizeOf73
 v53:=Tryd.zeroValue73
 t171:=Tryd.underlying126
 a171:=Tryd.isAgg126
 z171:=Tryd.sizeOf126
 v171:=Tryd.zeroValue126
 t173:=Tryd.underlying129
 a173:=Tryd.isAgg129
 z173:=Tryd.sizeOf129
 v173:=Tryd.zeroValue129
 t212:=Tryd.underlying144
 a212:=Tryd.isAgg144
 z212:=Tryd.sizeOf144
 v212:=Tryd.zeroValue144
 t213:=Tryd.underlying146
 a213:=Tryd.isAgg146
 z213:=Tryd.sizeOf146
 t232:=Tryd.underlying159
 a232:=Tryd.isAgg159
 z232:=Tryd.sizeOf159
 v232:=Tryd.zeroValue159
 t233:=Tryd.underlying160
 a233:=Tryd.isAgg160
 z233:=Tryd.sizeOf160
 v233:=Tryd.zeroValue160
 g17:=by kernel_rfl
 g18:=by kernel_rfl
 g19:=by kernel_rfl
 i0:=by kernel_rfl
 i2:=by kernel_rfl
 i3:=by kernel_rfl
 i4:=by kernel_rfl
 i5:=by kernel_rfl
 i9:=by kernel_rfl
 i20:=by kernel_rfl
 i37:=by kernel_rfl
 i46:=by kernel_rfl
 i51:=by kernel_rfl
 i53:=by kernel_rfl
 i171:=by kernel_rfl
 i173:=by kernel_rfl
 i212:=by kernel_rfl
 i232:=by kernel_rfl
 i233:=by kernel_rfl
 m17:=by kernel_rfl
 m18:=by kernel_rfl
 m19:=by kernel_rfl}
open Go.RowKit Go.Sort Go.Lib in
theorem Tryd.strconv_Itoa(n:Int)(h0: -9223372036854775808≤n)(h1:n≤9223372036854775807)(w:World)(htab:Lib.TabIs Tryd.prog w "internal/strconv.uint64pow10" .u64 Lib.pow10Tab):
  Calls Tryd.prog 21 #[.int .i64 n] w fun e w'=>e= .returned (.string ⟨(Lib.itoa n).toArray⟩)∧∃k os,w'=grow (w.drewN k) os:=Any.strconv_Itoa Tryd.oL n h0 h1 w htab
def Tryd.kt:Go.Shelf.Ren:=⟨fun|171=>21|243=>55|246=>80|283=>91|284=>92|285=>93|286=>94|129=>104|317=>103|318=>105|319=>106|320=>107|337=>112|338=>113|n=>n,fun|3=>3|9=>9|2=>2|4=>4|171=>126|0=>0|53=>73|37=>65|5=>5|173=>129|212=>144|51=>145|20=>20|213=>146|46=>103|232=>159|233=>160|n=>n,fun|17=>0|18=>2|19=>3|n=>n⟩
theorem Tryd.pV:Go.Proofs.Lays.n171 Tryd.prog Tryd.kt:= {
 mixed:=by kernel_rfl
 f129:=Tryd.func104.trans (congrArg some (by kernel_rfl))
 f171:=Tryd.func21.trans (congrArg some (by kernel_rfl))
 f243:=Tryd.func55.trans (congrArg some (by kernel_rfl))
 f246:=Tryd.func80.trans (congrArg some (by kernel_rfl))
 f283:=Tryd.func91.trans (congrArg some (by kernel_rfl))
 f284:=Tryd.func92.trans (congrArg some (by kernel_rfl))
 f285:=Tryd.func93.trans (congrArg some (by kernel_rfl))
 f286:=Tryd.func94.trans (congrArg some (by kernel_rfl))
 f317:=Tryd.func103.trans (congrArg some (by kernel_rfl))
 f318:=Tryd.func105.trans (congrArg some (by kernel_rfl))
 f319:=Tryd.func106.trans (congrArg some (by kernel_rfl))
 f320:=Tryd.func107.trans (congrArg some (by kernel_rfl))
 f337:=Tryd.func112.trans (congrArg some (by kernel_rfl))
 f338:=Tryd.func113.trans (congrArg some (by kernel_rfl))
 t0:=Tryd.underlying0
 a0:=Tryd.isAgg0
 z0:=Tryd.sizeOf0
 v0:=Tryd.zeroValue0
 t2:=Tryd.underlying2
 a2:=Tryd.isAgg2
 z2:=Tryd.sizeOf2
 v2:=Tryd.zeroValue2
 t3:=Tryd.underlying3
 a3:=Tryd.isAgg3
 z3:=Tryd.sizeOf3
 v3:=Tryd.zeroValue3
 t4:=Tryd.underlying4
 a4:=Tryd.isAgg4
 z4:=Tryd.sizeOf4
 v4:=Tryd.zeroValue4
 t5:=Tryd.underlying5
 a5:=Tryd.isAgg5
 z5:=Tryd.sizeOf5
 v5:=Tryd.zeroValue5
 t9:=Tryd.underlying9
 a9:=Tryd.isAgg9
 z9:=Tryd.sizeOf9
 v9:=Tryd.zeroValue9
 t20:=Tryd.underlying20
 a20:=Tryd.isAgg20
 z20:=Tryd.sizeOf20
 v20:=Tryd.zeroValue20
 t37:=Tryd.underlying65
 a37:=Tryd.isAgg65
 z37:=Tryd.sizeOf65
 v37:=Tryd.zeroValue65
 t46:=Tryd.underlying103
 a46:=Tryd.isAgg103
 z46:=Tryd.sizeOf103
 v46:=Tryd.zeroValue103
 t51:=Tryd.underlying145
 a51:=Tryd.isAgg145
 z51:=Tryd.sizeOf145
 v51:=Tryd.zeroValue145
 t53:=Tryd.underlying73
 a53:=Tryd.isAgg73
 z53:=Tryd.sizeOf73
 v53:=Tryd.zeroValue73
 t171:=Tryd.underlying126
 a171:=Tryd.isAgg126
 z171:=Tryd.sizeOf126
 v171:=Tryd.zeroValue126
 t173:=Tryd.underlying129
 a173:=Tryd.isAgg129
 z173:=Tryd.sizeOf129
 v173:=Tryd.zeroValue129
 t212:=Tryd.underlying144
 a212:=Tryd.isAgg144
 z212:=Tryd.sizeOf144
 v212:=Tryd.zeroValue144
 t213:=Tryd.underlying146
 a213:=Tryd.isAgg146
 z213:=Tryd.sizeOf146
 t232:=Tryd.underlying159
 a232:=Tryd.isAgg159
 z232:=Tryd.sizeOf159
 v232:=Tryd.zeroValue159
 t233:=Tryd.underlying160
 a233:=Tryd.isAgg160
 z233:=Tryd.sizeOf160
 v233:=Tryd.zeroValue160
 g17:=by kernel_rfl
 g18:=by kernel_rfl
 g19:=by kernel_rfl}
open Go.RowKit Go.Sort Go.Lib in
theorem Tryd.strconv_Itoa_small(i:Nat)(hi:i<100)(w:World):
  Calls Tryd.prog 21 #[.int .i64 i] w fun e w'=>e= .returned (.string ⟨(Lib.decDigits i).toArray⟩)∧w'=w:=Any.strconv_Itoa_small Tryd.pV i hi w
end Go.Proofs
namespace Go.Proofs.YtnegbdpggideiaaDoor
namespace PW
section
open Go.RowKit bm Mem
def e9(j:Nat)(u:Bool)(l:List UInt8):bt:=some (.cells 67 [if u then .ptr 0 0 else .raw (.pointer none),.own j])::(List.replicate (j - 1) none++[some (.row 5 1 l.length (bS l))])
theorem kC:∃i,Tryd.prog.info? 67=some i∧i.size=2:=by
 have h:(Tryd.prog.info? 67).map (·.size)=some 2:=by kernel_rfl
 obtain⟨i,h1,h2⟩:=Option.map_eq_some_iff.1 h
 exact⟨i,h1,h2⟩
theorem fH(v:Value)(w:World):(callFunc 89 #[v]).run Tryd.prog w= .ok (.value v) w:=by
 rw[run_callFunc_extern Tryd.func89 (by kernel_rfl) (by kernel_rfl) (by kernel_rfl) (e:=Extern.AbiNoEscape.same) (by kernel_rfl),Lib.run_noEscape]
 rfl
theorem lf:mD Tryd.prog 65 9=some 5:=by kernel_rfl
theorem ml(u:Bool)(l:List UInt8):bG Tryd.prog 78 [.ptr 0 0] (e9 1 u l) (fun _ σ'=>σ'=e9 1 true l):=by
 obtain⟨ji,hji,hjs⟩:=kC
 refine cg Tryd.func78 I Tryd.ntmps78 I ?_
 cases u
 ·refine bp<|av (bW I I) I I I ?_
  refine av (cy I I) I I I ?_
  refine av (bg I) I I I ?_
  refine av (cu I (aV.tk.get I) I I I) I I I ?_
  refine av (k7 I (aV.pk.get I) I I) I I I (ab ?_)
  refine mq I ?_
  refine a6<|av (bW I I) I I I ?_
  refine av (bW I I) I I I ?_
  refine av (iy I Tryd.underlying64 Tryd.underlying124 hji (by rw[hjs];decide) I I (by decide)) I I I ?_
  refine av (gY I I I fH) I I I ?_
  refine av (fL I Tryd.underlying124 Tryd.underlying64 hji rfl rfl (by kernel_rfl)) I I I ?_
  refine av (cy I I) I I I ?_
  refine av (bg I) I I I ?_
  refine bc (fv I (aV.tk.get I) I I I (Nat.le_of_ble_eq_true rfl)) I I (ab ?_)
  exact⟨_,.nil,rfl⟩
 ·refine bp<|av (bW I I) I I I ?_
  refine av (cy I I) I I I ?_
  refine av (bg I) I I I ?_
  refine av (cu I (aV.tk.get I) I I I) I I I ?_
  refine av (ir I (aV.pk.get I) I I) I I I (ab ?_)
  refine gN I ?_
  refine bp<|av (bW I I) I I I ?_
  refine av (cy I I) I I I ?_
  refine av (bg I) I I I ?_
  refine av (cu I (aV.tk.get I) I I I) I I I ?_
  refine av (bW I I) I I I ?_
  refine av (jd I Tryd.underlying64 hji rfl rfl) I I I (ab ?_)
  refine gN I ?_
  exact au ⟨_,.nil,rfl⟩
theorem rI(u:Bool)(l:List UInt8)(s:ByteArray)(hn:l.length+s.size≤1000000000):bG Tryd.prog 52 [.ptr 0 0,.raw (.string s)] (e9 1 u l) (fun _ σ'=>σ'=e9 2 true (l++s.data.toList)):=by
 refine cg Tryd.func52 I Tryd.ntmps52 I<|ai (.a 2 I<|.k [0,1] I)<|bp<|aK 1 I<|bQ I I (bG.mono (ml u l) (fun _ σ' h=>?_))
 subst h
 refine bd [0,1] I ?_
 refine bp<|aK 6 I<|aO (kS I lf rfl rfl rfl (by omega)) I<|aK 3 I<|bd [1] I ?_
 refine ai (.a 1 I<|.v (o7 I Tryd.underlying9 rfl) I<|.a 2 I<|.k [4,5] I)<|aF<|⟨_,aL.of I,?_⟩
 have hl:(l++s.data.toList).length=l.length+s.size:=by simp
 unfold e9
 rw[hl,←dF]
 rfl
theorem rN(u:Bool)(l:List UInt8)(c:UInt8)(hn:l.length≤1000000000):bG Tryd.prog 54 [.ptr 0 0,.raw (.int .u8 c.toNat)] (e9 1 u l) (fun _ σ'=>σ'=e9 2 true (l++[c])):=by
 refine cg Tryd.func54 I Tryd.ntmps54 I<|ai (.a 1 I<|.k [0,1] I)<|bp<|aK 1 I<|bQ I I (bG.mono (ml u l) (fun _ σ' h=>?_))
 subst h
 refine bd [0,1] I ?_
 refine bp<|aK 7 I<|aO (ax I (aV.rk.get I) I I I I (by unfold maxLen;omega)) I<|aK 3 I<|bd [] I ?_
 refine ai (.a 1 I<|.k [4] I)<|aF<|⟨_,aL.of I,?_⟩
 unfold e9
 rw[←dF]
 simp only[List.length_append,List.length_singleton]
 rfl
theorem qa(u:Bool)(l:List UInt8):bG Tryd.prog 78 [.ptr 0 0] (e9 2 u l) (fun _ σ'=>σ'=e9 2 true l):=by
 obtain⟨ji,hji,hjs⟩:=kC
 refine cg Tryd.func78 I Tryd.ntmps78 I ?_
 cases u
 ·refine bp<|av (bW I I) I I I ?_
  refine av (cy I I) I I I ?_
  refine av (bg I) I I I ?_
  refine av (cu I (aV.tk.get I) I I I) I I I ?_
  refine av (k7 I (aV.pk.get I) I I) I I I (ab ?_)
  refine mq I ?_
  refine a6<|av (bW I I) I I I ?_
  refine av (bW I I) I I I ?_
  refine av (iy I Tryd.underlying64 Tryd.underlying124 hji (by rw[hjs];decide) I I (by decide)) I I I ?_
  refine av (gY I I I fH) I I I ?_
  refine av (fL I Tryd.underlying124 Tryd.underlying64 hji rfl rfl (by kernel_rfl)) I I I ?_
  refine av (cy I I) I I I ?_
  refine av (bg I) I I I ?_
  refine bc (fv I (aV.tk.get I) I I I (Nat.le_of_ble_eq_true rfl)) I I (ab ?_)
  exact⟨_,.nil,rfl⟩
 ·refine bp<|av (bW I I) I I I ?_
  refine av (cy I I) I I I ?_
  refine av (bg I) I I I ?_
  refine av (cu I (aV.tk.get I) I I I) I I I ?_
  refine av (ir I (aV.pk.get I) I I) I I I (ab ?_)
  refine gN I ?_
  refine bp<|av (bW I I) I I I ?_
  refine av (cy I I) I I I ?_
  refine av (bg I) I I I ?_
  refine av (cu I (aV.tk.get I) I I I) I I I ?_
  refine av (bW I I) I I I ?_
  refine av (jd I Tryd.underlying64 hji rfl rfl) I I I (ab ?_)
  refine gN I ?_
  exact au ⟨_,.nil,rfl⟩
theorem qT(u:Bool)(l:List UInt8)(c:UInt8)(hn:l.length≤1000000000):bG Tryd.prog 54 [.ptr 0 0,.raw (.int .u8 c.toNat)] (e9 2 u l) (fun _ σ'=>σ'=e9 3 true (l++[c])):=by
 refine cg Tryd.func54 I Tryd.ntmps54 I<|ai (.a 1 I<|.k [0,1] I)<|bp<|aK 1 I<|bQ I I (bG.mono (qa u l) (fun _ σ' h=>?_))
 subst h
 refine bd [0,1] I ?_
 refine bp<|aK 7 I<|aO (ax I (aV.rk.get I) I I I I (by unfold maxLen;omega)) I<|aK 3 I<|bd [] I ?_
 refine ai (.a 1 I<|.k [4] I)<|aF<|⟨_,aL.of I,?_⟩
 unfold e9
 rw[←dF]
 simp only[List.length_append,List.length_singleton]
 rfl
theorem gL(u:Bool)(l:List UInt8)(hl:0<l.length):bG Tryd.prog 24 [.ptr 0 0] (e9 1 u l) (fun r _=>r= .raw (.string ⟨l.toArray⟩)):=by
 refine cg Tryd.func24 I Tryd.ntmps24 I ?_
 cases u
 all_goals
  refine ai (.a 1 I<|.k [0] I)<|mx 10 20 mixed (
   .val [0] I (bg I) I I<|
   .val [3] I (bg I) I I<|
   .val [4] I (bg I) I I<|
   .val [5] I (bg I) I I<|
   .val [6] I (kr I I I hl) I I<|
   .val [0] I (bg I) I I<|
   .val [8] I (bg I) I I<|
   .val [9] I (bg I) I I<|
   .val [10] I (bg I) I I<|
   .val [11] I (bg I) I I<|
   .nil) (by kernel_rfl) I I (al (ks:=[7,12]) I) ?_
  refine aO (kL I Tryd.underlying102 (by kernel_rfl) I I I hl) I<|aK 1 I<|bd [2] I ?_
  exact aF<|⟨_,aL.of I,rfl⟩
def ed(l:List UInt8):PV:=.raw (.string ⟨l.toArray⟩)
theorem cc(i:Nat)(hi:i<100):Can Tryd.prog 21 [num i] (· =ed (Lib.decDigits i)):=fun F w vs _ _ hR=>by
 obtain⟨v,rfl,h1⟩:=oH hR
 cases dP h1
 refine(Tryd.strconv_Itoa_small i hi w).mono ?_
 rintro e w' ⟨rfl,rfl⟩
 exact⟨_,rfl,Ext.refl _,_,rfl,.raw _⟩
def aT(L:List (List UInt8)):List PV:=L.map ed
def dG(L:List (List UInt8)):PV:=.slice L.length (aT L)
instance (l:List UInt8):IsPure (ed l):=by unfold ed;infer_instance
instance (l:List UInt8):cJ (ed l):=by unfold ed;infer_instance
instance (L:List (List UInt8)):ao (aT L):=ao.map _ _ fun _=>inferInstance
instance (L:List (List UInt8)):cn (aT L):=cn.map _ _ fun _=>inferInstance
instance (L:List (List UInt8)):IsPure (dG L):=by unfold dG;infer_instance
theorem oV(L:List (List UInt8))(sep:List UInt8)(hLl:L.length≤1000000)(hlen:(Lib.join L sep).length≤140737488355328):Can Tryd.prog 53 [dG L,ed sep] (· =ed (Lib.join L sep)):=fun F w vs _ _ hR=>by
 obtain⟨v,u,rfl,h1,h2⟩:=ru hR
 cases dP h2
 have hmap:(L.map fun l=>(⟨l.toArray⟩:ByteArray)).map (·.data.toList)=L:=by simp[Function.comp_def]
 unfold dG at h1
 generalize hn:L.length=n at h1
 generalize hys:aT L=ys at h1
 have none_case:∀(a:Option Addr) (c:Nat),L=[]→Calls Tryd.prog 53 #[.slice a 0 c,.string ⟨sep.toArray⟩] w (qw (fun x w'=>∃r,r=ed (Lib.join L sep)∧bB (EF F) w' x r) w):=fun a c hL=>by
  subst hL
  refine(Tryd.strings_Join_none a c ⟨sep.toArray⟩ w).mono ?_
  rintro e w' ⟨rfl,rfl⟩
  exact⟨_,rfl,Ext.refl _,_,rfl,.raw _⟩
 cases h1 with
 |cl=>exact none_case none 0 (List.eq_nil_of_length_eq_zero hn)
 |empty a c hc=>exact none_case (some a) c (List.eq_nil_of_length_eq_zero hn)
 |slice b off _ c cs _ h0 h1 h2 hb hM hc hl hr=>
  have hcell:∀(j:Nat) x,(L.map fun l=>(⟨l.toArray⟩:ByteArray))[j]? =some x→w.cell? ⟨b,off+j,none⟩=some (.string x):=fun j x hx=>by
   simp only[List.getElem?_map,Option.map_eq_some_iff]at hx
   obtain⟨l,hl1,rfl⟩:=hx
   have hj:j<cs.length:=by rw[hl,←hys];simp[aT];exact(List.getElem?_eq_some_iff.1 hl1).1
   have h3:=hr j cs[j] (ed l) (by simp[hj]) (by simp[←hys,aT,hl1])
   have h4:cs[j]= .string ⟨l.toArray⟩:=dP h3
   exact hc j _ (by simp[hj,h4])
  have h5:=Tryd.strings_Join b off c (L.map fun l=>(⟨l.toArray⟩:ByteArray)) ⟨sep.toArray⟩ w hcell hb (by simp only[List.length_map];omega) (by simpa[hn]using h1) (by rw[hmap];exact hlen)
  rw[hmap,List.length_map,hn]at h5
  refine h5.mono ?_
  rintro e w' ⟨rfl,hB⟩
  exact⟨_,rfl,⟨hB.os,hB.tape,hB.output,hB.size,hB.block⟩,_,rfl,.raw _⟩
end
end PW
end Go.Proofs.YtnegbdpggideiaaDoor
namespace Go.Proofs.YtnegbdpggideiaaDoor
namespace Heap
section
def par(q:Nat):Nat:=(q - 1) / 2
theorem b9{q:Nat}(h:0<q):par q<q:=by unfold par;omega
theorem pP{p c:Nat}(h:0<c)(hc:par c=p):c=2*p+1∨c=2*p+2:=by unfold par at hc;omega
def iw(f:Nat→Int)(len:Nat):Prop:=∀q,0<q→q<len→f (par q)≤f q
def qn(f:Nat→Int)(len p:Nat):Prop:=0<p→∀c,0<c→c<len→par c=p→f (par p)≤f c
def fq(f:Nat→Int)(len p:Nat):Prop:=(∀q,0<q→q<len→q≠p→par q≠p→f (par q)≤f q)∧qn f len p
def jG(f:Nat→Int)(len p:Nat):Prop:=(∀q,0<q→q<len→par q≠p→f (par q)≤f q)∧qn f len p
def px(f:Nat→Int)(p q x:Nat):Int:=if x=p then f q else if x=q then f p else f x
theorem kB(f:Nat→Int)(p q:Nat):px f p q p=f q:=by simp[px]
theorem rH(f:Nat→Int)(p q:Nat):px f p q q=f p:=by
 unfold px;split
 ·rename_i h;rw[h]
 ·simp
theorem dW(f:Nat→Int){p q x:Nat}(h1:x≠p)(h2:x≠q):px f p q x=f x:=by simp[px,h1,h2]
theorem oM{f:Nat→Int}{len p:Nat}(h:fq f len p)(hp:0<p)(hl:p<len)(_:f p<f (par p)):fq (px f p (par p)) len (par p):=by
 have hpp:=b9 hp
 refine⟨fun q h0 hq h1 h2=>?_,fun hg c h0 hc hpc=>?_⟩
 ·by_cases e:par q=p
  ·have hqp:=b9 h0
   rw[e,kB,dW f (by omega) h1]
   exact h.2 hp q h0 hq e
  ·have hqp:q≠p:=fun e'=>h2 (by rw[e'])
   rw[dW f e h2,dW f hqp h1]
   exact h.1 q h0 hq hqp e
 ·have hgg:=b9 hg
  rw[dW f (by omega) (by omega)]
  have h3:=h.1 (par p) hg (by omega) (by omega) (by omega)
  by_cases e:c=p
  ·rw[e,kB];exact h3
  ·have:=b9 h0
   rw[dW f e (by omega)]
   have:=h.1 c h0 hc e (by omega)
   rw[hpc]at this
   omega
theorem lb{f:Nat→Int}{len p:Nat}(h:fq f len p)(hp:p=0∨f (par p)≤f p):jG f len p:=
 ⟨fun q h0 hq h2=>by
  by_cases e:q=p
  ·subst e
   rcases hp with h'|h'
   ·omega
   ·exact h'
  ·exact h.1 q h0 hq e h2,h.2⟩
theorem lY{f:Nat→Int}{len p:Nat}(h:jG f len p)(hk:∀c,0<c→c<len→par c=p→f p≤f c):iw f len:=fun q h0 hq=>by
 by_cases e:par q=p
 ·rw[e];exact hk q h0 hq e
 ·exact h.1 q h0 hq e
theorem lA{f:Nat→Int}{len p c:Nat}(h:jG f len p)(hc0:0<c)(hcl:c<len)(hcp:par c=p)(hlt:f c<f p)(hk:∀c',0<c'→c'<len→par c'=p→f c≤f c'):jG (px f p c) len c:=by
 have hpc:=b9 hc0
 refine⟨fun q h0 hq h2=>?_,fun _ d h0 hd hdc=>?_⟩
 ·have hqq:=b9 h0
  by_cases e:par q=p
  ·rw[e,kB]
   by_cases e':q=c
   ·rw[e',rH];omega
   ·rw[dW f (by omega) e'];exact hk q h0 hq e
  ·rw[dW f e h2]
   by_cases e':q=p
   ·rw[e',kB]
    exact h.2 (by omega) c hc0 hcl hcp
   ·rw[dW f e' (fun e2=>e (by rw[e2];exact hcp))]
    exact h.1 q h0 hq e
 ·have hdd:=b9 h0
  rw[hcp,kB,dW f (by omega) (by omega)]
  have:=h.1 d h0 hd (by omega)
  rw[hdc]at this
  exact this
theorem nm{f:Nat→Int}{len:Nat}(h:iw f len):∀q,q<len→f 0≤f q:=by
 intro q
 induction q using Nat.strongRecOn with
 |_ q ih=>
  intro hq
  by_cases e:q=0
  ·rw[e];exact Int.le_refl _
  ·have:=b9 (q:=q) (by omega)
   exact Int.le_trans (ih (par q) this (by omega)) (h q (by omega) hq)
theorem kI{f g:Nat→Int}{len p:Nat}(h:iw f len)(he:∀q,q<len→q≠p→g q=f q)(hp:p<len):fq g len p:=by
 refine⟨fun q h0 hq h1 h2=>?_,fun hp0 c h0 hc hcp=>?_⟩
 ·have:=b9 h0
  rw[he q hq h1,he (par q) (by omega) h2];exact h q h0 hq
 ·have:=b9 h0
  have:=b9 hp0
  rw[he (par p) (by omega) (by omega),he c hc (by omega)]
  have h1:=h c h0 hc
  rw[hcp]at h1
  exact Int.le_trans (h p hp0 hp) h1
theorem lg{f g:Nat→Int}{len:Nat}(h:iw f len)(he:∀q,q<len→g q=f q):fq g (len+1) len:=by
 refine⟨fun q h0 hq h1 _=>?_,fun hp0 c h0 hc hcp=>?_⟩
 ·have:=b9 h0
  rw[he q (by omega),he (par q) (by omega)];exact h q h0 (by omega)
 ·have:=b9 h0;omega
theorem ln{f g:Nat→Int}{len:Nat}(h:iw f (len+1))(he:∀q,q<len→q≠0→g q=f q):fq g len 0:=by
 refine⟨fun q h0 hq h1 h2=>?_,fun hp0=>by omega⟩
 have:=b9 h0
 rw[he q hq h1,he (par q) (by omega) h2];exact h q h0 (by omega)
def jW(K:List Int)(i:Int):Int:=K.getD i.toNat 0*65536+i
def rk(K O:List Int)(p:Nat):Int:=jW K (O.getD p 0)
theorem pU{K:List Int}{i j:Int}(hi:0≤i)(hi':i<65536)(hj:0≤j)(hj':j<65536):
  decide (jW K i<jW K j)=(if K.getD i.toNat 0=K.getD j.toNat 0 then decide (i<j) else decide (K.getD i.toNat 0<K.getD j.toNat 0)):=by
 unfold jW
 generalize K.getD i.toNat 0=a
 generalize K.getD j.toNat 0=b
 split
 ·simp only[decide_eq_decide];omega
 ·simp only[decide_eq_decide];omega
theorem oh{K:List Int}{i j:Int}(hi:0≤i)(hj':j<65536)(h:jW K i≤jW K j):K.getD i.toNat 0≤K.getD j.toNat 0:=by
 unfold jW at h;omega
def b8(O:List Int)(p q:Nat):List Int:=(O.set p (O.getD q 0)).set q (O.getD p 0)
theorem cN(O:List Int)(p q:Nat):(b8 O p q).length=O.length:=by simp[b8]
theorem bO(L:List Int)(i j:Nat)(c:Int)(hi:i<L.length):(L.set i c).getD j 0=if j=i then c else L.getD j 0:=by
 simp only[List.getD_eq_getElem?_getD,List.getElem?_set]
 by_cases h:i=j
 ·subst h;simp[hi]
 ·rw[if_neg h,if_neg (Ne.symm h)]
theorem bI(O:List Int)(p q x:Nat)(hp:p<O.length)(hq:q<O.length):(b8 O p q).getD x 0=if x=q then O.getD p 0 else if x=p then O.getD q 0 else O.getD x 0:=by
 unfold b8
 rw[bO _ _ _ _ (by simpa using hq),bO _ _ _ _ hp]
theorem mA(K O:List Int)(p q:Nat)(hp:p<O.length)(hq:q<O.length):rk K (b8 O p q)=px (rk K O) p q:=by
 funext x
 unfold rk px
 rw[bI O p q x hp hq]
 by_cases h1:x=q
 ·subst h1
  rw[if_pos rfl]
  by_cases h2:x=p
  ·rw[if_pos h2,h2]
  ·rw[if_neg h2,if_pos rfl]
 ·rw[if_neg h1]
  by_cases h2:x=p
  ·rw[if_pos h2,if_pos h2]
  ·rw[if_neg h2,if_neg h2,if_neg h1]
def bU(O:List Int)(i:Int):Prop:=∃p,p<O.length∧O.getD p 0=i
theorem eX(O:List Int)(p q:Nat)(hp:p<O.length)(hq:q<O.length)(i:Int):bU (b8 O p q) i↔bU O i:=by
 unfold bU
 rw[cN]
 constructor
 ·rintro⟨x,hx,rfl⟩
  rw[bI O p q x hp hq]
  split
  ·exact⟨p,hp,rfl⟩
  ·split
   ·exact⟨q,hq,rfl⟩
   ·exact⟨x,hx,rfl⟩
 ·rintro⟨x,hx,rfl⟩
  by_cases h1:x=p
  ·exact⟨q,hq,by rw[bI O p q q hp hq,if_pos rfl,h1]⟩
  ·by_cases h2:x=q
   ·exact⟨p,hp,by
     rw[bI O p q p hp hq]
     by_cases h3:p=q
     ·omega
     ·rw[if_neg h3,if_pos rfl,h2]⟩
   ·exact⟨x,hx,by rw[bI O p q x hp hq,if_neg h2,if_neg h1]⟩
structure bx (N:Nat) (P O:List Int):Prop where
 len:P.length=N
 item:∀p,p<O.length→0≤O.getD p 0∧O.getD p 0<N∧P.getD (O.getD p 0).toNat 0=(p:Int)+1
 place:∀i,i<N→P.getD i 0=0∨∃p,p<O.length∧O.getD p 0=(i:Int)
theorem bx.inj{N:Nat}{P O:List Int}(h:bx N P O){p q:Nat}(hp:p<O.length)(hq:q<O.length)(he:O.getD p 0=O.getD q 0):p=q:=by
 have h1:=(h.item p hp).2.2
 have h2:=(h.item q hq).2.2
 rw[he]at h1
 omega
def cO(P O:List Int)(p q:Nat):List Int:=(P.set (O.getD q 0).toNat ((p:Int)+1)).set (O.getD p 0).toNat ((q:Int)+1)
theorem bx.swap{N:Nat}{P O:List Int}(h:bx N P O){p q:Nat}(hp:p<O.length)(hq:q<O.length):bx N (cO P O p q) (b8 O p q):=by
 have ip:=h.item p hp
 have iq:=h.item q hq
 have hl:=h.len
 refine⟨by simp[cO,h.len],fun x hx=>?_,fun i hi=>?_⟩
 ·rw[cN]at hx
  have ix:=h.item x hx
  have e:∀j:Int,0≤j→j<N→(cO P O p q).getD j.toNat 0=if j=O.getD p 0 then(q:Int)+1 else if j=O.getD q 0 then(p:Int)+1 else P.getD j.toNat 0:=fun j h0 h1=>by
   unfold cO
   rw[bO _ _ _ _ (by rw[List.length_set];omega),bO _ _ _ _ (by omega)]
   have e1:(j.toNat=(O.getD p 0).toNat)=(j=O.getD p 0):=by apply propext;omega
   have e2:(j.toNat=(O.getD q 0).toNat)=(j=O.getD q 0):=by apply propext;omega
   simp only[e1,e2]
  rw[bI O p q x hp hq]
  by_cases h1:x=q
  ·rw[if_pos h1,e _ ip.1 ip.2.1,if_pos rfl]
   exact⟨ip.1,ip.2.1,by rw[h1]⟩
  ·rw[if_neg h1]
   by_cases h2:x=p
   ·rw[if_pos h2,e _ iq.1 iq.2.1,if_neg (fun e=>by have:=h.inj hq hp e;omega),if_pos rfl]
    exact⟨iq.1,iq.2.1,by rw[h2]⟩
   ·rw[if_neg h2,e _ ix.1 ix.2.1,if_neg (fun e=>h2 (h.inj hx hp e)),if_neg (fun e=>h1 (h.inj hx hq e))]
    exact ix
 ·by_cases hH:bU O (i:Int)
  ·exact .inr ((eX O p q hp hq (i:Int)).2 hH)
  ·rcases h.place i hi with h0|h0
   ·refine .inl ?_
    unfold cO
    rw[bO _ _ _ _ (by rw[List.length_set];omega),bO _ _ _ _ (by omega),if_neg (fun e=>hH ⟨p,hp,by omega⟩),if_neg (fun e=>hH ⟨q,hq,by omega⟩)]
    exact h0
   ·exact absurd h0 hH
theorem bx.zero{N:Nat}{P O:List Int}(h:bx N P O){i:Nat}(hi:i<N):P.getD i 0=0↔¬bU O (i:Int):=by
 constructor
 ·rintro h0 ⟨p,hp,he⟩
  have:=(h.item p hp).2.2
  rw[he,Int.toNat_natCast,h0]at this
  omega
 ·intro hn
  rcases h.place i hi with h0|h0
  ·exact h0
  ·exact absurd h0 hn
theorem bx.push{N:Nat}{P O:List Int}(h:bx N P O){i:Nat}(hi:i<N)(hn:¬bU O (i:Int)):bx N (P.set i ((O.length:Int)+1)) (O++[(i:Int)]):=by
 have hl:=h.len
 refine⟨by simp[h.len],fun x hx=>?_,fun j hj=>?_⟩
 ·rw[bO _ _ _ _ (by omega)]
  by_cases h1:x<O.length
  ·have ix:=h.item x h1
   have e:(O++[(i:Int)]).getD x 0=O.getD x 0:=by simp[List.getD_eq_getElem?_getD,List.getElem?_append_left h1]
   rw[e,if_neg (fun e=>hn ⟨x,h1,by omega⟩)]
   exact ix
  ·have:x=O.length:=by simp at hx;omega
   subst this
   have e:(O++[(i:Int)]).getD O.length 0=i:=by simp
   rw[e,Int.toNat_natCast,if_pos rfl]
   exact⟨by omega,by omega,rfl⟩
 ·rw[bO _ _ _ _ (by omega)]
  by_cases hji:j=i
  ·exact .inr ⟨O.length,by simp,by simp[hji]⟩
  ·rw[if_neg hji]
   rcases h.place j hj with h0|⟨p,hp,he⟩
   ·exact .inl h0
   ·exact .inr ⟨p,by simp;omega,by simp[List.getD_eq_getElem?_getD,List.getElem?_append_left hp]at he ⊢;exact he⟩
theorem nq(O:List Int)(i j:Int):bU (O++[i]) j↔j=i∨bU O j:=by
 constructor
 ·rintro⟨p,hp,rfl⟩
  by_cases h1:p<O.length
  ·exact .inr ⟨p,h1,by simp[List.getD_eq_getElem?_getD,List.getElem?_append_left h1]⟩
  ·have:p=O.length:=by simp at hp;omega
   subst this
   exact .inl (by simp)
 ·rintro(rfl|⟨p,hp,rfl⟩)
  ·exact⟨O.length,by simp,by simp⟩
  ·exact⟨p,by simp;omega,by simp[List.getD_eq_getElem?_getD,List.getElem?_append_left hp]⟩
theorem eM(O:List Int)(m x:Nat)(h:x<m):(O.take m).getD x 0=O.getD x 0:=by
 simp[List.getD_eq_getElem?_getD,h]
theorem bx.pop{N:Nat}{P O:List Int}{m:Nat}(h:bx N P O)(hm:O.length=m+1):bx N (P.set (O.getD m 0).toNat 0) (O.take m):=by
 have hl:=h.len
 have im:=h.item m (by omega)
 refine⟨by simp[h.len],fun x hx=>?_,fun j hj=>?_⟩
 ·have hx':x<m:=by simp at hx;omega
  rw[eM O m x hx',bO _ _ _ _ (by omega)]
  have ix:=h.item x (by omega)
  rw[if_neg (fun e=>by have:=h.inj (p:=x) (q:=m) (by omega) (by omega) (by omega);omega)]
  exact ix
 ·rw[bO _ _ _ _ (by omega)]
  by_cases hjm:j=(O.getD m 0).toNat
  ·exact .inl (if_pos hjm)
  ·rw[if_neg hjm]
   rcases h.place j hj with h0|⟨p,hp,he⟩
   ·exact .inl h0
   ·have:p≠m:=fun e=>hjm (by rw[←e,he];rfl)
    exact .inr ⟨p,by simp;omega,by rw[eM O m p (by omega)];exact he⟩
theorem ov{N:Nat}{P O:List Int}{m:Nat}(h:bx N P O)(hm:O.length=m+1)(j:Int):bU (O.take m) j↔bU O j∧j≠O.getD m 0:=by
 constructor
 ·rintro⟨p,hp,rfl⟩
  have hp':p<m:=by simp at hp;omega
  rw[eM O m p hp']
  exact⟨⟨p,by omega,rfl⟩,fun e=>by have:=h.inj (p:=p) (q:=m) (by omega) (by omega) e;omega⟩
 ·rintro⟨⟨p,hp,rfl⟩,hne⟩
  have:p≠m:=fun e=>hne (by rw[e])
  exact⟨p,by simp;omega,eM O m p (by omega)⟩
theorem lq:∀(N m:Nat) (f:Nat→Nat),(∀p,p<m→f p<N)→(∀p q,p<m→q<m→f p=f q→p=q)→m≤N
 |0,m,f,h,_=>by
  rcases Nat.eq_zero_or_pos m with h0|h0
  ·omega
  ·have:=h 0 h0;omega
 |N+1,m,f,h,hi=>by
  by_cases hx:∃p,p<m∧f p=N
  ·obtain⟨p0,hp0,he⟩:=hx
   have:=lq N (m - 1) (fun p=>if p=p0 then f (m - 1) else f p) (fun p hp=>by
    by_cases e:p=p0
    ·simp only[e,if_true]
     have h1:=h (m - 1) (by omega)
     have h2:f (m - 1)≠N:=fun e'=>by have:=hi (m - 1) p0 (by omega) hp0 (by omega);omega
     omega
    ·simp only[e,if_false]
     have h1:=h p (by omega)
     have h2:f p≠N:=fun e'=>e (hi p p0 (by omega) hp0 (by omega))
     omega) (fun p q hp hq hpq=>by
    by_cases e:p=p0<;>by_cases e':q=p0
    ·omega
    ·simp only[e,e',if_true,if_false]at hpq
     have:=hi (m - 1) q (by omega) (by omega) hpq
     omega
    ·simp only[e,e',if_true,if_false]at hpq
     have:=hi p (m - 1) (by omega) (by omega) hpq
     omega
    ·simp only[e,e',if_false]at hpq
     exact hi p q (by omega) (by omega) hpq)
   omega
  ·have:=lq N m f (fun p hp=>by
    have h1:=h p hp
    have h2:f p≠N:=fun e=>hx ⟨p,hp,e⟩
    omega) hi
   omega
theorem dt{N:Nat}{P O:List Int}(h:bx N P O):O.length≤N:=
 lq N O.length (fun p=>(O.getD p 0).toNat) (fun p hp=>by have:=h.item p hp;omega) (fun p q hp hq e=>by
  have h1:=h.item p hp
  have h2:=h.item q hq
  exact h.inj hp hq (by omega))
end
end Heap
end Go.Proofs.YtnegbdpggideiaaDoor
namespace Go.Proofs.YtnegbdpggideiaaDoor
namespace PW
section
open Go.RowKit bm Mem Net Heap
def cY(b:Bool)(d:Option cI)(N n:Nat)(K P O:List Int):bt:=
 match b with
 |false=>[d,some (.cells 158 [.own 2,.own 3,.own 4]),some (.row 3 1 N (aS K)),some (.row 3 1 N (aS P)),some (.row 3 1 n (aS O))]
 |true=>[d,some (.cells 158 [.own 2,.own 3,.own 5]),some (.row 3 1 N (aS K)),some (.row 3 1 N (aS P)),none,some (.row 3 1 n (aS O))]
def rm:cI→Prop
 | .cells _ xs=>ao xs
 | .row _ _ _ xs=>ao xs
 | .mp kv=>ao (kv.map (·.2))
def gC(d:Option cI):Prop:=∀b,d=some b→rm b
theorem dO.same{fs:List Nat}{σ σ':bt}{js:List Nat}{j:Nat}{d:Option cI}(hd:gC d)(h:σ[j]? =some d)(hs:dO fs σ σ' js):dO fs σ (d::σ') (j::js):=by
 cases d with
 |none=>exact .gone hs
 |some b=>
  have hb:=hd b rfl
  cases b with
  |cells ty xs=>haveI:ao xs:=hd _ rfl;exact .kept h (.cells aw.pure) hs
  |row e s n xs=>haveI:ao xs:=hd _ rfl;exact .kept h (.row aw.pure) hs
  |mp kv=>haveI:ao (kv.map (·.2)):=hd _ rfl;exact .kept h .mp hs
def k0(K P O:List Int):PV:=.bT [aR K,aR P,aR O] 0
theorem ib(b:Bool)(d:Option cI){N n:Nat}{K P O:List Int}(hK:K.length=N)(hP:P.length=N)(hO:O.length=n):aW (cY b d N n K P O) (.ptr 1 0) (k0 K P O):=by
 subst hK;subst hO
 unfold k0 aR
 rw[hP]
 cases b<;>exact aW.qA rfl (aI.cons (aW.gH rfl aI.pure) (aI.cons (aW.gH rfl aI.pure) (aI.cons (aW.gH rfl aI.pure) aI.nil)))
theorem dL{N:Nat}{P O:List Int}(h:bx N P O){p:Nat}(hp:p<O.length):∃i:Nat,O.getD p 0=(i:Int)∧i<N:=by
 obtain⟨h1,h2,_⟩:=h.item p hp
 exact⟨(O.getD p 0).toNat,by omega,by omega⟩
theorem iN{N:Nat}(K P O:List Int)(hP:bx N P O)(hK:K.length=N)(hN:N≤65536)(p q:Nat)(hp:p<O.length)(hq:q<O.length):
  Can Tryd.prog 116 [k0 K P O,num p,num q] (· =flag (decide (rk K O p<rk K O q))):=by
 obtain⟨i,hi,hi'⟩:=dL hP hp
 obtain⟨j,hj,hj'⟩:=dL hP hq
 have hr:decide (rk K O p<rk K O q)=if K.getD i 0=K.getD j 0 then decide ((i:Int)<(j:Int)) else decide (K.getD i 0<K.getD j 0):=by
  unfold rk
  rw[hi,hj,pU (by omega) (by omega) (by omega) (by omega),Int.toNat_natCast,Int.toNat_natCast]
 refine aY Tryd.func116 I Tryd.ntmps116 I<|ai (.a 1 I<|.k [0,1,2] I)<|fa mixed (by kernel_rfl) (.a 5 I<|.v [12,13] (bf (p) I) I I<|.v [14] (aN I ((aM O p hp).trans (by rw[hi]))) I I<|.a 5 I<|.v [19,20] (bf (q) I) I I<|.v [21] (aN I ((aM O q hq).trans (by rw[hj]))) I I<|.a 2 I<|.k [0,7,8] I) ?_
 refine ak<|fa mixed (by kernel_rfl) (.a 5 I<|.v [26,27] (bf (i) I) I I<|.v [28] (aN I (aM K i (by omega))) I I<|.a 5 I<|.v [33,34] (bf (j) I) I I<|.v [35] (aN I (aM K j (by omega))) I I<|.a 1 I<|.k [0,7,8,37] I) ?_
 refine aq I (fun hc=>?_) (fun hc=>?_)
 ·have:=of_decide_eq_true hc
  rw[if_neg this]at hr
  refine fa mixed (by kernel_rfl) (.a 5 I<|.v [41,42] (bf (i) I) I I<|.v [43] (aN I (aM K i (by omega))) I I<|.a 5 I<|.v [48,49] (bf (j) I) I I<|.v [50] (aN I (aM K j (by omega))) I I<|.a 2 I<|.k [6] I) ?_
  exact aF<|⟨_,_,aL.of I,aW.pure,by rw[hr];rfl⟩
 ·have:=of_decide_eq_false hc
  rw[if_pos (by simpa using this)]at hr
  exact au<|ai (.a 4 I<|.k [6] I)<|aF<|⟨_,_,aL.of I,aW.pure,by rw[hr];rfl⟩
theorem ic{N n:Nat}(b:Bool)(d:Option cI)(K P O:List Int)(hP:bx N P O)(hO:O.length=n)(hN:N≤65536)(p q:Nat)(hp:p<O.length)(hq:q<O.length):
  bG Tryd.prog 117 [.ptr 1 0,num p,num q] (cY b d N n K P O) (fun _ σ'=>σ'=cY b d N n K (cO P O p q) (b8 O p q)):=by
 obtain⟨i,hi,hi'⟩:=dL hP hp
 obtain⟨j,hj,hj'⟩:=dL hP hq
 have hlen:=dt hP
 have hPl:=hP.len
 have gp:(b8 O p q).getD p 0=j:=by
  rw[bI O p q p hp hq]
  by_cases h:p=q
  ·rw[if_pos h];subst h;omega
  ·rw[if_neg h,if_pos rfl,hj]
 have gq:(b8 O p q).getD q 0=i:=by rw[bI O p q q hp hq,if_pos rfl,hi]
 have hsw:b8 O p q=(O.set p (j:Int)).set q (i:Int):=by unfold b8;rw[hi,hj]
 rw[hsw]at gp gq
 refine cg Tryd.func117 I Tryd.ntmps117 I ?_
 cases b
 all_goals
  refine mx 25 20 mixed (
   .val [0] I (bg I) I I<|
   .val [6] I (bg I) I I<|
   .val [7] I (bg I) I I<|
   .val [8] I (bg I) I I<|
   .val [1] I (bg I) I I<|
   .val [0] I (bg I) I I<|
   .val [11] I (bg I) I I<|
   .val [12] I (bg I) I I<|
   .val [13] I (bg I) I I<|
   .late [2] I (nO rfl rfl) inferInstance rfl rfl<|
   .val [0] I (bg I) I I<|
   .val [16] I (bg I) I I<|
   .val [17] I (bg I) I I<|
   .val [18] I (bg I) I I<|
   .val [2] I (bg I) I I<|
   .val [19,20] I (bf (q) I) I I<|
   .val [21] I (aN I ((aM O q hq).trans (by rw[hj]))) I I<|
   .val [0] I (bg I) I I<|
   .val [23] I (bg I) I I<|
   .val [24] I (bg I) I I<|
   .val [25] I (bg I) I I<|
   .val [1] I (bg I) I I<|
   .val [26,27] I (bf (p) I) I I<|
   .val [28] I (aN I ((aM O p hp).trans (by rw[hi]))) I I<|
   .val [9,10] I (bf (p) I) I I<|
   .nil) (by kernel_rfl) I I (al (ks:=[0,1,2,14,15,22,29,30]) I) ?_
  refine bc ((by first|exact bF I (aV.tk.get I) I I I (by first|omega|(simp;omega))|exact bC I (aV.tk.get I) I I I (by first|omega|(simp;omega)))) I I<|an (bf (q) I) I<|bc ((by first|exact bF I (aV.tk.get I) I I I (by first|omega|(simp;omega))|exact bC I (aV.tk.get I) I I I (by first|omega|(simp;omega)))) I I<|bd [0,1,2] I ?_
  refine mx 14 20 mixed (
   .val [0] I (bg I) I I<|
   .val [32] I (bg I) I I<|
   .val [33] I (bg I) I I<|
   .val [34] I (bg I) I I<|
   .val [0] I (bg I) I I<|
   .val [36] I (bg I) I I<|
   .val [37] I (bg I) I I<|
   .val [38] I (bg I) I I<|
   .val [1] I (bg I) I I<|
   .val [39,40] I (bf (p) I) I I<|
   .val [41] I (aN I ((aM ((O.set p (j:Int)).set q (i:Int)) p (by simpa using hp)).trans (by rw[gp]))) I I<|
   .val [1] I (bg I) I I<|
   .val [43] I (bA I) I I<|
   .val [35,42] I (bf (j) I) I I<|
   .nil) (by kernel_rfl) I I (al (ks:=[0,2,44,45]) I) ?_
  refine bc ((by first|exact bF I (aV.tk.get I) I I I (by first|omega|(simp;omega))|exact bC I (aV.tk.get I) I I I (by first|omega|(simp;omega)))) I I<|bd [0,2] I ?_
  refine gd 14 20 mixed (
   .val [0] I (bg I) I I<|
   .val [46] I (bg I) I I<|
   .val [47] I (bg I) I I<|
   .val [48] I (bg I) I I<|
   .val [0] I (bg I) I I<|
   .val [50] I (bg I) I I<|
   .val [51] I (bg I) I I<|
   .val [52] I (bg I) I I<|
   .val [2] I (bg I) I I<|
   .val [53,54] I (bf (q) I) I I<|
   .val [55] I (aN I ((aM ((O.set p (j:Int)).set q (i:Int)) q (by simpa using hq)).trans (by rw[gq]))) I I<|
   .val [2] I (bg I) I I<|
   .val [57] I (bA I) I I<|
   .val [49,56] I (bf (i) I) I I<|
   .nil) (by kernel_rfl) I I (al (ks:=[58,59]) I) ?_
  refine bc ((by first|exact bF I (aV.tk.get I) I I I (by first|omega|(simp;omega))|exact bC I (aV.tk.get I) I I I (by first|omega|(simp;omega)))) I I<|bd [] I ?_
  refine⟨_,aL.of I,?_⟩
  unfold cO
  rw[hi,hj,hsw]
  rfl
theorem ou(p:Nat)(h:0<p):((p:Int) - 1).tdiv 2=((par p:Nat):Int):=by
 rw[Int.tdiv_eq_ediv_of_nonneg (by omega)];unfold par;omega
theorem mI{σ:bt}{K P O:List Int}(h:aW σ (.ptr 1 0) (k0 K P O))(p q:Int):aI σ ([.ptr 1 0,num p,num q]++[]) [k0 K P O,num p,num q]:=aI.cons h (aI.cons aW.pure (aI.cons aW.pure aI.nil))
theorem fg{N n:Nat}(b:Bool)(d:Option cI)(K P O:List Int)(hP:bx N P O)(hO:O.length=n)(hK:K.length=N)(hN:N≤65536)(p:Nat)(hp:p<n)(hL:fq (rk K O) n p):
  bG Tryd.prog 114 [.ptr 1 0,num p] (cY b d N n K P O) (fun _ σ'=>∃P' O',σ'=cY b d N n K P' O'∧bx N P' O'∧O'.length=n∧iw (rk K O') n∧∀i,bU O' i↔bU O i):=by
 have hlen:=dt hP
 refine cg Tryd.func114 I Tryd.ntmps114 I ?_
 cases b
 all_goals
  refine ak<|aB<|gU [0,1] I<|bz (fun r s=>∃P' O' p',bx N P' O'∧O'.length=n∧fq (rk K O') n p'∧p'<n∧(∀i,bU O' i↔bU O i)∧r=p'∧s=⟨[(0,.ptr 1 0),(1,num p')],cY _ d N n K P' O'⟩) p ⟨P,O,p,hP,hO,hL,hp,fun _=>Iff.rfl,rfl,rfl⟩ ?_
  rintro r s ⟨P',O',p',hP',hO',hL',hp',hH',rfl,rfl⟩
  refine ak ?_
  obtain⟨q1,hq1⟩:∃q,decide ((0:Int)<(r:Int))=q:=⟨_,rfl⟩
  obtain⟨q2,hq2⟩:∃q,decide (rk K O' r<rk K O' (par r))=q:=⟨_,rfl⟩
  refine b4 15 (.raw (.bool (q1&&q2))) [0,1] I ?_ ?_
  ·refine .a 1 I<|.v (et I (hq1)) I<|.a 1 I<|?_
   cases q1
   ·exact .a 7 I<|.k [15,0,1] I
   ·exact .a 3 I<|.v (bA I) I<|.v (jB I I I (by decide) (ou r (by have:=of_decide_eq_true hq1;omega)) (by unfold In64 par;omega)) I<|.v (qB I (mI (ib _ d hK hP'.len hO') _ _) (hq2▸iN K P' O' hP' hK hN r (par r) (by omega) (by have:=of_decide_eq_true hq1;have:=b9 (q:=r) (by omega);omega))) I<|.a 1 I<|.k [15,0,1] I
  refine aq I (fun hc=>?_) (fun hc=>?_)
  ·obtain⟨c1,c2⟩:=Bool.and_eq_true_iff.1 hc
   rw[c1]at hq1
   rw[c2]at hq2
   have hr0:0<r:=by have:=of_decide_eq_true hq1;omega
   have hlt:=of_decide_eq_true hq2
   have hpl:=b9 hr0
   refine au<|aB<|bp<|aK 3 I<|an (bA I) I<|an (jB I I I (by decide) (ou r hr0) (by unfold In64;omega)) I<|bQ I I (bG.mono (ic _ d K P' O' hP' hO' hN r (par r) (by omega) (by omega)) (fun _ σ' h=>?_))
   subst h
   refine bd [0,1] I ?_
   refine aE (.a 1 I<|.v (bA I) I<|.v (jB I I I (by decide) (ou r hr0) (by unfold In64;omega)) I<|.a 1 I<|.k [0,1] I) ?_
   refine⟨par r,hpl,cO P' O' r (par r),b8 O' r (par r),par r,hP'.swap (by omega) (by omega),by rw[cN];exact hO',?_,by omega,fun i=>(eX O' r (par r) (by omega) (by omega) i).trans (hH' i),rfl,rfl⟩
   rw[mA K O' r (par r) (by omega) (by omega)]
   exact oM hL' hr0 hp' hlt
  ·have hdn:jG (rk K O') n r:=lb hL' (by
    by_cases h0:r=0
    ·exact .inl h0
    ·refine .inr ?_
     have h1:q1=true:=by rw[←hq1];simp;omega
     rw[h1]at hc
     simp only[Bool.true_and]at hc
     rw[hc]at hq2
     have:=of_decide_eq_false hq2
     omega)
   clear hL' hq1 hq2 hc
   refine bh<|aB<|gU [0,1] I<|bz (fun r s=>∃P' O' p',bx N P' O'∧O'.length=n∧jG (rk K O') n p'∧p'<n∧(∀i,bU O' i↔bU O i)∧r=n - p'∧s=⟨[(0,.ptr 1 0),(1,num p')],cY _ d N n K P' O'⟩) (n - r) ⟨P',O',r,hP',hO',hdn,hp',hH',rfl,rfl⟩ ?_
   clear hP' hO' hdn hH' P' O' hp' r
   rintro r s ⟨P',O',p',hP',hO',hdn,hp',hH',rfl,rfl⟩
   refine aB<|ai (.a 2 I<|.k [0,1,4] I)<|ak<|ai (.a 1 I<|.v (bA I) I<|.v (bA I) I<|.a 1 I<|.k [0,1,4,5] I)<|aB<|gU [0,1,4,5] I<|bz (fun r s=>∃c l,2*p'+1≤c∧c≤2*p'+3∧r=2*p'+3 - c∧l<n∧(l=p'∨(par l=p'∧0<l∧rk K O' l<rk K O' p'))∧(∀x,2*p'+1≤x→x<c→x<n→rk K O' l≤rk K O' x)∧s=⟨[(0,.ptr 1 0),(1,num p'),(4,num l),(5,num c)],cY _ d N n K P' O'⟩) 2 ⟨2*p'+1,p',by omega,by omega,by omega,hp',.inl rfl,fun x h1 h2=>by omega,rfl⟩ ?_
   rintro r s ⟨c,l,hc1,hc2,rfl,hl,hl2,hl3,rfl⟩
   refine ak ?_
   obtain⟨q1,hq1⟩:∃q,decide ((c:Int)≤2*(p':Int)+2)=q:=⟨_,rfl⟩
   obtain⟨q2,hq2⟩:∃q,decide ((c:Int)<(n:Int))=q:=⟨_,rfl⟩
   refine b4 42 (.raw (.bool (q1&&q2))) [0,1,4,5] I ?_ ?_
   ·refine .a 2 I<|.v (bA I) I<|.v (bA I) I<|.v (et I (hq1)) I<|.a 1 I<|?_
    cases q1
    ·exact .a 8 I<|.k [42,0,1,4,5] I
    ·exact .a 6 I<|.v (et I (hq2)) I<|.a 1 I<|.k [42,0,1,4,5] I
   refine aq I (fun hc=>?_) (fun hc=>?_)
   ·obtain⟨c1,c2⟩:=Bool.and_eq_true_iff.1 hc
    rw[c1]at hq1
    rw[c2]at hq2
    have hcn:c<n:=by have:=of_decide_eq_true hq2;omega
    have hc4:c≤2*p'+2:=by have:=of_decide_eq_true hq1;omega
    have hpc:par c=p':=by unfold par;omega
    refine au<|ak<|aB<|ai (.a 3 I<|.v (qB I (mI (ib _ d hK hP'.len hO') _ _) (iN K P' O' hP' hK hN c l (by omega) (by omega))) I<|.k [0,1,4,5,48] I)<|aq I (fun hb=>?_) (fun hb=>?_)
    ·have hb':=of_decide_eq_true hb
     refine aE (.a 2 I<|.k [0,1,4,5] I) ?_
     refine aE (.a 1 I<|.v (bA I) I<|.a 1 I<|.k [0,1,4,5] I) ?_
     first
      |exact⟨2*p'+3 - (c+1),by omega,c+1,c,by omega,by omega,rfl,hcn,.inr ⟨hpc,by omega,by rcases hl2 with h|h;(rw[h]at hb';exact hb');omega⟩,fun x h1 h2 h3=>by by_cases e:x=c;(rw[e];exact Int.le_refl _);(have:=hl3 x h1 (by omega) h3;omega),rfl⟩
      |exact⟨2*p'+3 - (c+1),by omega,c+1,l,by omega,by omega,rfl,hl,hl2,fun x h1 h2 h3=>by by_cases e:x=c;(rw[e];omega);exact hl3 x h1 (by omega) h3,rfl⟩
    ·have hb':=of_decide_eq_false hb
     refine au<|aE (.a 1 I<|.v (bA I) I<|.a 1 I<|.k [0,1,4,5] I) ?_
     first
      |exact⟨2*p'+3 - (c+1),by omega,c+1,c,by omega,by omega,rfl,hcn,.inr ⟨hpc,by omega,by rcases hl2 with h|h;(rw[h]at hb';exact hb');omega⟩,fun x h1 h2 h3=>by by_cases e:x=c;(rw[e];exact Int.le_refl _);(have:=hl3 x h1 (by omega) h3;omega),rfl⟩
      |exact⟨2*p'+3 - (c+1),by omega,c+1,l,by omega,by omega,rfl,hl,hl2,fun x h1 h2 h3=>by by_cases e:x=c;(rw[e];omega);exact hl3 x h1 (by omega) h3,rfl⟩
   ·have hmin:∀x,0<x→x<n→par x=p'→rk K O' l≤rk K O' x:=fun x h0 hx hpx=>by
     refine hl3 x (by unfold par at hpx;omega) ?_ hx
     rcases Nat.lt_or_ge x c with h|h
     ·exact h
     ·exfalso
      have hx2:=pP h0 hpx
      have h1:q1=true:=by rw[←hq1];simp;omega
      rw[h1]at hc
      simp only[Bool.true_and]at hc
      rw[hc]at hq2
      have:=of_decide_eq_false hq2
      omega
    clear hc hq1 hq2 hl3
    refine bh<|ak<|ai (.a 3 I<|.k [0,1,4,52] I)<|aq I (fun hc=>?_) (fun hc=>?_)
    ·have hlp:l=p':=by have:=of_decide_eq_true hc;omega
     refine aF<|⟨_,aL.of I,P',O',rfl,hP',hO',?_,hH'⟩
     refine lY hdn fun x h0 hx hpx=>?_
     have:=hmin x h0 hx hpx
     rw[hlp]at this
     exact this
    ·have hlp:l≠p':=by have:=of_decide_eq_false hc;omega
     obtain⟨hlp1,hl0,hllt⟩:=hl2.resolve_left hlp
     refine au<|bp<|aK 3 I<|bQ I I (bG.mono (ic _ d K P' O' hP' hO' hN p' l (by omega) (by omega)) (fun _ σ' h=>?_))
     subst h
     refine bd [0,4] I ?_
     refine aE (.a 2 I<|.k [0,1] I) ?_
     have hpl:=b9 hl0
     refine⟨n - l,by omega,cO P' O' p' l,b8 O' p' l,l,hP'.swap (by omega) (by omega),by rw[cN];exact hO',?_,hl,fun i=>(eX O' p' l (by omega) (by omega) i).trans (hH' i),rfl,rfl⟩
     rw[mA K O' p' l (by omega) (by omega)]
     exact lA hdn hl0 hl hlp1 hllt hmin
def nK(N n:Nat)(K P O:List Int):Prop:=bx N P O∧O.length=n∧K.length=N∧iw (rk K O) n
theorem nU{N n:Nat}(d:Option cI)(hd:gC d)(K P O:List Int)(h:nK N (n+1) K P O)(hN:N≤65536)(i:Nat)(hi:O.getD 0 0=(i:Int)):
  bG Tryd.prog 115 [.ptr 1 0,num 0] (cY false d N (n+1) K P O) (fun _ σ'=>∃P' O',σ'=cY true d N n (K.set i 0) P' O'∧nK N n (K.set i 0) P' O'∧∀j,bU O' j↔bU O j∧j≠(i:Int)):=by
 obtain⟨hP,hO,hK,hH⟩:=h
 have hlen:=dt hP
 have hiN:i<N:=by have:=(hP.item 0 (by omega)).2.1;rw[hi]at this;omega
 have hPs:=hP.swap (p:=0) (q:=n) (by omega) (by omega)
 have hg:(b8 O 0 n).getD n 0=(i:Int):=by rw[bI O 0 n n (by omega) (by omega),if_pos rfl,hi]
 have hPp:=hPs.pop (m:=n) (by rw[cN];exact hO)
 rw[hg,Int.toNat_natCast]at hPp
 have hheld:∀j,bU ((b8 O 0 n).take n) j↔bU O j∧j≠(i:Int):=fun j=>by
  rw[ov hPs (by rw[cN];exact hO) j,hg,eX O 0 n (by omega) (by omega)]
 have hOt:((b8 O 0 n).take n).length=n:=by rw[List.length_take,cN];omega
 have hPll:(cO P O 0 n).length=N:=hPs.len
 have hrk:∀x,x<n→x≠0→rk (K.set i 0) ((b8 O 0 n).take n) x=rk K O x:=fun x hx hx0=>by
  unfold rk
  rw[eM _ _ _ hx,bI O 0 n x (by omega) (by omega),if_neg (by omega),if_neg hx0]
  unfold jW
  have hne:(O.getD x 0).toNat≠i:=fun e=>by
   have h1:=hP.item x (by omega)
   have:=hP.inj (p:=x) (q:=0) (by omega) (by omega) (by rw[hi];omega)
   omega
  rw[bO _ _ _ _ (by omega),if_neg hne]
 have hloose:fq (rk (K.set i 0) ((b8 O 0 n).take n)) n 0:=ln hH hrk
 refine cg Tryd.func115 I Tryd.ntmps115 I<|ai (.a 5 I<|.v (bA I (hc:=(show(((n+1:Nat):Int)) - 1=(n:Int) by omega))) I<|.a 1 I<|.k [0,1,4] I)<|ai (.a 5 I<|.v (bf (0) I) I<|.v (aN I ((aM O 0 (by omega)).trans (by rw[hi]))) I<|.a 1 I<|.k [0,1,4,5] I)<|bp<|aK 3 I<|bQ I I (bG.mono (ic false d K P O hP hO hN 0 n (by omega) (by omega)) (fun _ σ' h=>?_))
 subst h
 refine bd [0,1,4,5] I ?_
 refine bp<|aK 6 I<|aO (kh I (aV.el.get I) I I I I (by omega)) I<|aK 3 I ?_
 refine c5 [0,1,2,3,4,5] (.c 0<|.c 1<|.c 4<|.c 5<|.nil) (.same hd rfl<|.kept rfl (.cells (aw.c<|aw.c<|aw.c<|aw.nil))<|.kept rfl (.row aw.pure)<|.kept rfl (.row aw.pure)<|.gone<|.kept rfl (.du rfl (show(aS (b8 O 0 n)).take (n*1)=aS ((b8 O 0 n).take n) by rw[Nat.mul_one];unfold aS;rw[List.map_take]))<|.nil) I I (ab ?_)
 refine mx 11 20 mixed (
  .val [0] I (bg I) I I<|
  .val [32] I (bg I) I I<|
  .val [33] I (bg I) I I<|
  .val [34] I (bg I) I I<|
  .val [5] I (bg I) I I<|
  .val [0] I (bg I) I I<|
  .val [37] I (bg I) I I<|
  .val [38] I (bg I) I I<|
  .val [39] I (bg I) I I<|
  .late [5] I (nO rfl rfl) inferInstance rfl rfl<|
  .val [35,36] I (bf (i) I) I I<|
  .nil) (by kernel_rfl) I I (al (ks:=[0,1,4,40,41,42]) I) ?_
 refine bc ((by first|exact bF I (aV.tk.get I) I I I (by first|omega|(simp;omega))|exact bC I (aV.tk.get I) I I I (by first|omega|(simp;omega)))) I I<|an (bf (i) I) I<|bc ((by first|exact bF I (aV.tk.get I) I I I (by first|omega|(simp;omega))|exact bC I (aV.tk.get I) I I I (by first|omega|(simp;omega)))) I I<|bd [0,1,4] I ?_
 refine ai (.a 3 I<|.k [0,1,46] I)<|aq I (fun hc=>?_) (fun hc=>?_)
 ·have hn0:0<n:=by have:=of_decide_eq_true hc;omega
  refine a6<|aK 2 I<|bQ I I (bG.mono (fg true d (K.set i 0) ((cO P O 0 n).set i 0) ((b8 O 0 n).take n) hPp hOt (by simpa using hK) hN 0 hn0 hloose) (fun _ σ' h=>?_))
  obtain⟨P',O',rfl,h1,h2,h3,h4⟩:=h
  refine bd [] I ?_
  first
   |exact⟨_,aL.of rfl,P',O',rfl,⟨h1,h2,by simpa using hK,h3⟩,fun j=>(h4 j).trans (hheld j)⟩
   |exact⟨_,aL.of rfl,(cO P O 0 n).set i 0,(b8 O 0 n).take n,rfl,⟨hPp,hOt,by simpa using hK,fun q h0 hq=>by omega⟩,hheld⟩
 ·have hn0:n=0:=by have:=of_decide_eq_false hc;omega
  refine au ?_
  first
   |exact⟨_,aL.of rfl,P',O',rfl,⟨h1,h2,by simpa using hK,h3⟩,fun j=>(h4 j).trans (hheld j)⟩
   |exact⟨_,aL.of rfl,(cO P O 0 n).set i 0,(b8 O 0 n).take n,rfl,⟨hPp,hOt,by simpa using hK,fun q h0 hq=>by omega⟩,hheld⟩
theorem pS{N:Nat}(K P O:List Int)(hP:P.length=N)(hK:K.length=N)(hN:N≤65536)(i:Nat)(hi:i<N):
  Can Tryd.prog 111 [k0 K P O,num i] (· = .tuple [num (if P.getD i 0=0 then 0 else K.getD i 0),flag (!decide (P.getD i 0=0))]):=by
 refine aY Tryd.func111 I Tryd.ntmps111 I<|ai (.a 2 I<|.k [0,1] I)<|ak ?_
 obtain⟨q1,hq1⟩:∃q,decide ((i:Int)<0)=q:=⟨_,rfl⟩
 obtain⟨q2,hq2⟩:∃q,decide ((K.length:Int)≤(i:Int))=q:=⟨_,rfl⟩
 obtain⟨q3,hq3⟩:∃q,decide (P.getD i 0=0)=q:=⟨_,rfl⟩
 refine b4 30 (.raw (.bool (q1||q2||q3))) [0,1] I ?_ ?_
 ·refine .a 4 I<|.v (et I (hq1)) I<|.a 2 I<|?_
  cases q1
  ·refine .a 6 I<|.v (et I (hq2)) I<|.a 2 I<|?_
   cases q2
   ·exact .a 5 I<|.v (bf (i) I) I<|.v (aN I (aM P i (by omega))) I<|.v (et I (hq3)) I<|.a 1 I<|.k [30,0,1] I
   ·exact .a 9 I<|.k [30,0,1] I
  ·exact .a 18 I<|.k [30,0,1] I
 refine aq I (fun hc=>?_) (fun hc=>?_)
 ·have h1:q1=false:=by rw[←hq1];simp
  have h2:q2=false:=by rw[←hq2];simp;omega
  rw[h1,h2]at hc
  simp only[Bool.false_or]at hc
  rw[hc]at hq3
  refine ai (.a 2 I<|.k [4,5] I)<|aF<|⟨_,_,aL.of I,aW.pure,?_⟩
  rw[hq3]
  first
   |(rw[if_pos (of_decide_eq_true hq3)];rfl)
   |(rw[if_neg (of_decide_eq_false hq3)];rfl)
 ·have hc3:q3=false:=by revert hc;cases q3<;>simp
  rw[hc3]at hq3
  refine au<|ai (.a 5 I<|.v (bf (i) I) I<|.v (aN I (aM K i (by omega))) I<|.a 2 I<|.k [4,5] I)<|aF<|⟨_,_,aL.of I,aW.pure,?_⟩
  rw[hq3]
  first
   |(rw[if_pos (of_decide_eq_true hq3)];rfl)
   |(rw[if_neg (of_decide_eq_false hq3)];rfl)
theorem p8{N n:Nat}(d:Option cI)(hd:gC d)(K P O:List Int)(h:nK N n K P O)(hN:N≤65536):
  bG Tryd.prog 110 [.ptr 1 0] (cY false d N n K P O) (fun r σ'=>(n=0∧r= .tuple [num 0,num 0,flag false]∧σ'=cY false d N n K P O)∨
   ∃(n' i:Nat) (P' O':List Int),n=n'+1∧i<N∧O.getD 0 0=(i:Int)∧r= .tuple [num i,num (K.getD i 0),flag true]∧σ'=cY true d N n' (K.set i 0) P' O'∧nK N n' (K.set i 0) P' O'∧∀j,bU O' j↔bU O j∧j≠(i:Int)):=by
 have h':=h
 obtain⟨hP,hO,hK,hH⟩:=h'
 refine cg Tryd.func110 I Tryd.ntmps110 I<|ai (.a 3 I<|.k [0] I)<|ak ?_
 obtain⟨q1,hq1⟩:∃q,decide ((n:Int)=0)=q:=⟨_,rfl⟩
 refine b4 14 (.raw (.bool (q1))) [0] I ?_ ?_
 ·exact .a 8 I<|.v (et I (hq1)) I<|.a 1 I<|.k [14,0] I
 refine aq I (fun hc=>?_) (fun hc=>?_)
 ·have hn0:n=0:=by rw[hc]at hq1;have:=of_decide_eq_true hq1;omega
  refine ai (.a 3 I<|.k [2,3,4] I)<|aF ?_
  first
   |exact⟨_,aL.of rfl,.inl ⟨hn0,rfl,rfl⟩⟩
   |exact⟨_,aL.of rfl,.inr ⟨n',i,P',O',rfl,hiN,hi,rfl,rfl,h1,h2⟩⟩
 ·have hn0:n≠0:=by rw[hc]at hq1;have:=of_decide_eq_false hq1;omega
  obtain⟨n',rfl⟩:∃n',n=n'+1:=⟨n - 1,by omega⟩
  obtain⟨i,hi,hiN⟩:=dL hP (p:=0) (by omega)
  refine au<|ai (.a 4 I<|.v (bf (0) I) I<|.v (aN I ((aM O 0 (by omega)).trans (by rw[hi]))) I<|.a 1 I<|.k [0,2] I)<|ai (.a 5 I<|.v (bf (i) I) I<|.v (aN I (aM K i (by omega))) I<|.a 1 I<|.k [0,2,3] I)<|bp<|aK 1 I<|bQ I I (bG.mono (nU d hd K P O h hN i hi) (fun _ σ' h=>?_))
  obtain⟨P',O',rfl,h1,h2⟩:=h
  refine bd [2,3] I ?_
  refine ai (.a 5 I<|.k [2,3,4] I)<|aF ?_
  first
   |exact⟨_,aL.of rfl,.inl ⟨hn0,rfl,rfl⟩⟩
   |exact⟨_,aL.of rfl,.inr ⟨n',i,P',O',rfl,hiN,hi,rfl,rfl,h1,h2⟩⟩
theorem nT{N:Nat}{P O:List Int}(hP:bx N P O){i:Nat}(hi:i<N)(h:P.getD i 0≠0):∃p,p<O.length∧O.getD p 0=(i:Int)∧P.getD i 0=(p:Int)+1:=by
 rcases hP.place i hi with h0|⟨p,hp,he⟩
 ·exact absurd h0 h
 ·have:=(hP.item p hp).2.2
  rw[he,Int.toNat_natCast]at this
  exact⟨p,hp,he,this⟩
theorem ob{N:Nat}{K P O:List Int}(hP:bx N P O)(hK:K.length=N){i:Nat}(hi:i<N)(c:Int){x:Nat}(hx:x<O.length)(hne:O.getD x 0≠(i:Int)):rk (K.set i c) O x=rk K O x:=by
 unfold rk jW
 have h1:=hP.item x hx
 rw[bO _ _ _ _ (by omega),if_neg (by omega)]
theorem my{N n:Nat}(d:Option cI)(hd:gC d)(K P O:List Int)(h:nK N n K P O)(hN:N≤65536)(i:Nat)(hi:i<N)(key:Int):
  bG Tryd.prog 109 [.ptr 1 0,num i,num key] (cY false d N n K P O) (fun r σ'=>∃(b:Bool) (n':Nat) (P' O':List Int),σ'=cY b d N n' (K.set i key) P' O'∧nK N n' (K.set i key) P' O'∧∀j,bU O' j↔bU O j∨j=(i:Int)):=by
 obtain⟨hP,hO,hK,hH⟩:=h
 have hlen:=dt hP
 have hPl:=hP.len
 refine cg Tryd.func109 I Tryd.ntmps109 I<|ai (.a 1 I<|.k [0,1,2] I)<|ak<|ai (.a 2 I<|.k [0,1,2,8] I)<|aq I (fun hc=>?_) (fun hc=>?_)
 ·cases hc
 ·refine au<|ak ?_
  obtain⟨q1,hq1⟩:∃q,decide ((i:Int)<0)=q:=⟨_,rfl⟩
  obtain⟨q2,hq2⟩:∃q,decide ((N:Int)≤(i:Int))=q:=⟨_,rfl⟩
  refine b4 19 (.raw (.bool (q1||q2))) [0,1,2] I ?_ ?_
  ·refine .a 1 I<|.v (et I (hq1)) I<|.a 1 I<|?_
   cases q1
   ·exact .a 6 I<|.v (et I (hq2)) I<|.a 1 I<|.k [19,0,1,2] I
   ·exact .a 8 I<|.k [19,0,1,2] I
  refine aq I (fun hc=>?_) (fun hc=>?_)
  ·have h1:q1=false:=by rw[←hq1];simp
   have h2:q2=false:=by rw[←hq2];simp;omega
   rw[h1,h2]at hc
   cases hc
  ·refine au<|bp<|aK 6 I<|an (bf (i) I) I<|bc ((by first|exact bF I (aV.tk.get I) I I I (by first|omega|(simp;omega))|exact bC I (aV.tk.get I) I I I (by first|omega|(simp;omega)))) I I<|bd [0,1] I ?_
   refine ak<|ai (.a 5 I<|.v (bf (i) I) I<|.v (aN I (aM P i (by omega))) I<|.a 1 I<|.k [0,1,34] I)<|aq I (fun hc=>?_) (fun hc=>?_)
   ·have hp0:P.getD i 0=0:=of_decide_eq_true hc
    have hnh:=(hP.zero hi).1 hp0
    have hPp:=hP.push hi hnh
    have hOl:(O++[(i:Int)]).length=n+1:=by simp[hO]
    rw[hO]at hPp
    have hPi2:(P.set i ((n:Int)+1)).getD i 0=(n:Int)+1:=by rw[bO _ _ _ _ (by omega),if_pos rfl]
    have hlt2:i<(P.set i ((n:Int)+1)).length:=by simp;omega
    have hsb:((n:Int)+1) - 1=(n:Int):=by omega
    have hnb:n<N:=by have:=dt hPp;simp at this;omega
    have hset:=fg true d (K.set i key) (P.set i ((n:Int)+1)) (O++[(i:Int)]) hPp hOl (by simpa using hK) hN n (by omega) (lg hH fun q hq=>by
     have e:(O++[(i:Int)]).getD q 0=O.getD q 0:=by simp[List.getD_eq_getElem?_getD,List.getElem?_append_left (show q<O.length by omega)]
     have:=ob hP hK hi key (x:=q) (by omega) (fun e=>hnh ⟨q,by omega,e⟩)
     unfold rk at this ⊢
     rw[e];exact this)
    have hfin:∀j,bU (O++[(i:Int)]) j↔bU O j∨j=(i:Int):=fun j=>(nq O i j).trans Or.comm
    refine bp<|aK 7 I<|aO (ax I (aV.rk.get I) I I I I (by unfold maxLen;omega)) I<|aK 3 I ?_
    refine c5 [0,1,2,3,4,5] (.c 0<|.c 1<|.nil) (.same hd rfl<|.kept rfl (.cells (aw.c<|aw.c<|aw.c<|aw.nil))<|.kept rfl (.row aw.pure)<|.kept rfl (.row aw.pure)<|.gone<|.kept rfl (.du rfl (dj _ _))<|.nil) I I (ab ?_)
    refine gd 11 20 mixed (
     .val [0] I (bg I) I I<|
     .val [45] I (bg I) I I<|
     .val [46] I (bg I) I I<|
     .val [47] I (bg I) I I<|
     .val [1] I (bg I) I I<|
     .val [0] I (bg I) I I<|
     .val [50] I (bg I) I I<|
     .val [51] I (bg I) I I<|
     .val [52] I (bg I) I I<|
     .val [53] I (bg I) I I<|
     .val [48,49] I (bf (i) I) I I<|
     .nil) (by kernel_rfl) I I (al (ks:=[0,1,54,55]) I) ?_
    refine bc ((by first|exact bF I (aV.tk.get I) I I I (by first|omega|(simp;omega))|exact bC I (aV.tk.get I) I I I (by first|omega|(simp;omega)))) I I<|bd [0,1] I ?_
    refine bp<|aK 6 I<|an (bf (i) I) I<|an (aN I ((aM _ i hlt2).trans (congrArg (fun z=>some (PV.raw (.int .i64 z))) hPi2))) I<|an (bA I (hc:=hsb)) I<|bQ I I (bG.mono hset (fun _ σ' h=>?_))
    obtain⟨P',O',rfl,h1,h2,h3,h4⟩:=h
    refine bd [] I ?_
    refine ai (.a 1 I<|.k [6] I)<|aF ?_
    first
     |exact⟨_,aL.of rfl,true,_,P',O',rfl,⟨h1,h2,by simpa using hK,h3⟩,fun j=>(h4 j).trans (hfin j)⟩
     |exact⟨_,aL.of rfl,false,_,P',O',rfl,⟨h1,h2,by simpa using hK,h3⟩,fun j=>(h4 j).trans (hfin j)⟩
   ·have hp0:P.getD i 0≠0:=of_decide_eq_false hc
    obtain⟨p,hp,hpi,hPi2⟩:=nT hP hi hp0
    have hlt2:i<P.length:=by omega
    have hsb:((p:Int)+1) - 1=(p:Int):=by omega
    have hset:=fg false d (K.set i key) P O hP hO (by simpa using hK) hN p (by omega) (kI hH (fun q hq hqp=>ob hP hK hi key (x:=q) (by omega) (fun e=>hqp (hP.inj (by omega) hp (by rw[e,hpi])))) (by omega))
    have hfin:∀j,bU O j↔bU O j∨j=(i:Int):=fun j=>⟨.inl,fun h=>h.elim id fun e=>⟨p,hp,by rw[hpi,e]⟩⟩
    refine au<|bp<|aK 6 I<|an (bf (i) I) I<|an (aN I ((aM _ i hlt2).trans (congrArg (fun z=>some (PV.raw (.int .i64 z))) hPi2))) I<|an (bA I (hc:=hsb)) I<|bQ I I (bG.mono hset (fun _ σ' h=>?_))
    obtain⟨P',O',rfl,h1,h2,h3,h4⟩:=h
    refine bd [] I ?_
    refine ai (.a 1 I<|.k [6] I)<|aF ?_
    first
     |exact⟨_,aL.of rfl,true,_,P',O',rfl,⟨h1,h2,by simpa using hK,h3⟩,fun j=>(h4 j).trans (hfin j)⟩
     |exact⟨_,aL.of rfl,false,_,P',O',rfl,⟨h1,h2,by simpa using hK,h3⟩,fun j=>(h4 j).trans (hfin j)⟩
theorem pK(N:Nat)(d:Option cI)(hd:gC d)(hN:N≤65536):
  bG Tryd.prog 108 [num N] [d] (fun r σ'=>r= .tuple [.ptr 1 0,num 0]∧σ'=cY false d N 0 (List.replicate N 0) (List.replicate N 0) []):=by
 refine cg Tryd.func108 I Tryd.ntmps108 I<|ai (.a 2 I<|.k [0] I) ?_
 obtain⟨q1,hq1⟩:∃q,decide ((N:Int)<0)=q:=⟨_,rfl⟩
 obtain⟨q2,hq2⟩:∃q,decide ((65536:Int)<(N:Int))=q:=⟨_,rfl⟩
 refine ak<|b4 9 (.raw (.bool (q1||q2))) [0] I ?_ ?_
 ·refine .a 1 I<|.v (et I (hq1)) I<|.a 1 I<|?_
  cases q1
  ·exact .a 1 I<|.v (et I (hq2)) I<|.a 1 I<|.k [9,0] I
  ·exact .a 3 I<|.k [9,0] I
 have h1:q1=false:=by rw[←hq1];simp
 have h2:q2=false:=by rw[←hq2];simp;omega
 refine aq (b:=q1||q2) I (fun hc=>?_) (fun hc=>?_)
 ·rw[h1,h2]at hc
  cases hc
 ·clear hc hq1 hq2 h1 h2
  refine au<|jb mixed ?_
  have hfin:W Tryd.prog 16 1 .ret ⟨[(2,.ptr 1 0),(3,num 0)],cY false d N 0 (List.replicate N 0) (List.replicate N 0) []⟩ (ra Tryd.prog Tryd.f108 (fun r σ'=>r= .tuple [.ptr 1 0,num 0]∧σ'=cY false d N 0 (List.replicate N 0) (List.replicate N 0) [])):=
   aF ⟨_,.cons (.tmp rfl) (.cons (.tmp rfl) .nil),rfl,rfl⟩
  refine ae 0 [2] (by kernel_rfl) ?_
  refine aa I I (av (bW I I) I I I (ab ?_)) ?_
  ·refine ae 1 [2] (by kernel_rfl) ?_
   refine aa I I (bu (cF I (aV.rk.get I) I I I I ⟨by unfold maxLen;omega,by omega⟩) I I I (ab ?_)) ?_
   ·refine ae 2 [] (by kernel_rfl) ?_
    refine aa I I (av (bW I I) I I I (ab ?_)) ad
    refine ae 3 [] (by kernel_rfl) ?_
    refine aa I I (bu (cF I (aV.rk.get I) I I I I ⟨by unfold maxLen;omega,by omega⟩) I I I (ab ?_)) ad
    refine ae 4 [] (by kernel_rfl) ?_
    refine aa I I (av (dD (xs:=[_,_,_]) I (aV.st.get I) I I) I I I (ab ?_)) ad
    refine ae 5 [] (by kernel_rfl) ?_
    refine aa I I (bu (jt I I I) I I I (ab ?_)) ad
    refine ae 6 [] (by kernel_rfl) ?_
    refine aa I I (av (bR I I) I I I (ab ?_)) ad
    refine ae 7 [] (by kernel_rfl) ?_
    refine aa I I (av (bR I I) I I I (ab ?_)) ad
    refine aU (by kernel_rfl) ?_
    refine bD 3 2 3 1 I I ?_
    exact b0 [0,3,1,2,4] (.cons 2 I (Ren.ptr (i:=1) I)<|.cons 3 I Ren.pure<|.nil) (.same hd rfl<|.kept rfl (.cells (aw.cons (Ren.own (i:=2) I)<|aw.cons (Ren.own (i:=3) I)<|aw.cons (Ren.own (i:=4) I) aw.nil))<|.kept rfl (.du rfl (bn N))<|.kept rfl (.du rfl (bn N))<|.kept rfl (.row aw.pure)<|.nil) I I hfin
   refine aa I I (av (bW I I) I I I (ab ?_)) ad
   refine ae 1 [3] (by kernel_rfl) ?_
   refine aa I I (bu (cF I (aV.rk.get I) I I I I ⟨by unfold maxLen;omega,by omega⟩) I I I (ab ?_)) ?_
   ·refine ae 3 [] (by kernel_rfl) ?_
    refine aa I I (bu (cF I (aV.rk.get I) I I I I ⟨by unfold maxLen;omega,by omega⟩) I I I (ab ?_)) ad
    refine ae 4 [] (by kernel_rfl) ?_
    refine aa I I (av (dD (xs:=[_,_,_]) I (aV.st.get I) I I) I I I (ab ?_)) ad
    refine ae 5 [] (by kernel_rfl) ?_
    refine aa I I (bu (jt I I I) I I I (ab ?_)) ad
    refine ae 6 [] (by kernel_rfl) ?_
    refine aa I I (av (bR I I) I I I (ab ?_)) ad
    refine ae 7 [] (by kernel_rfl) ?_
    refine aa I I (av (bR I I) I I I (ab ?_)) ad
    refine aU (by kernel_rfl) ?_
    refine bD 3 2 3 1 I I ?_
    exact b0 [0,3,1,2,4] (.cons 2 I (Ren.ptr (i:=1) I)<|.cons 3 I Ren.pure<|.nil) (.same hd rfl<|.kept rfl (.cells (aw.cons (Ren.own (i:=2) I)<|aw.cons (Ren.own (i:=3) I)<|aw.cons (Ren.own (i:=4) I) aw.nil))<|.kept rfl (.du rfl (bn N))<|.kept rfl (.du rfl (bn N))<|.kept rfl (.row aw.pure)<|.nil) I I hfin
   refine aa I I (bu (cF I (aV.rk.get I) I I I I ⟨by unfold maxLen;omega,by omega⟩) I I I (ab ?_)) ad
   refine ae 1 [] (by kernel_rfl) ?_
   refine aa I I (bu (cF I (aV.rk.get I) I I I I ⟨by unfold maxLen;omega,by omega⟩) I I I (ab ?_)) ad
   refine ae 4 [] (by kernel_rfl) ?_
   refine aa I I (av (dD (xs:=[_,_,_]) I (aV.st.get I) I I) I I I (ab ?_)) ad
   refine ae 5 [] (by kernel_rfl) ?_
   refine aa I I (bu (jt I I I) I I I (ab ?_)) ad
   refine ae 6 [] (by kernel_rfl) ?_
   refine aa I I (av (bR I I) I I I (ab ?_)) ad
   refine ae 7 [] (by kernel_rfl) ?_
   refine aa I I (av (bR I I) I I I (ab ?_)) ad
   refine aU (by kernel_rfl) ?_
   refine bD 3 2 3 1 I I ?_
   exact b0 [0,3,2,1,4] (.cons 2 I (Ren.ptr (i:=1) I)<|.cons 3 I Ren.pure<|.nil) (.same hd rfl<|.kept rfl (.cells (aw.cons (Ren.own (i:=2) I)<|aw.cons (Ren.own (i:=3) I)<|aw.cons (Ren.own (i:=4) I) aw.nil))<|.kept rfl (.du rfl (bn N))<|.kept rfl (.du rfl (bn N))<|.kept rfl (.row aw.pure)<|.nil) I I hfin
  refine aa I I (av (bW I I) I I I (ab ?_)) ad
  refine ae 0 [3] (by kernel_rfl) ?_
  refine aa I I (av (bW I I) I I I (ab ?_)) ?_
  ·refine ae 1 [3] (by kernel_rfl) ?_
   refine aa I I (bu (cF I (aV.rk.get I) I I I I ⟨by unfold maxLen;omega,by omega⟩) I I I (ab ?_)) ?_
   ·refine ae 3 [] (by kernel_rfl) ?_
    refine aa I I (bu (cF I (aV.rk.get I) I I I I ⟨by unfold maxLen;omega,by omega⟩) I I I (ab ?_)) ad
    refine ae 4 [] (by kernel_rfl) ?_
    refine aa I I (av (dD (xs:=[_,_,_]) I (aV.st.get I) I I) I I I (ab ?_)) ad
    refine ae 5 [] (by kernel_rfl) ?_
    refine aa I I (bu (jt I I I) I I I (ab ?_)) ad
    refine ae 6 [] (by kernel_rfl) ?_
    refine aa I I (av (bR I I) I I I (ab ?_)) ad
    refine ae 7 [] (by kernel_rfl) ?_
    refine aa I I (av (bR I I) I I I (ab ?_)) ad
    refine aU (by kernel_rfl) ?_
    refine bD 3 2 3 1 I I ?_
    exact b0 [0,3,1,2,4] (.cons 2 I (Ren.ptr (i:=1) I)<|.cons 3 I Ren.pure<|.nil) (.same hd rfl<|.kept rfl (.cells (aw.cons (Ren.own (i:=2) I)<|aw.cons (Ren.own (i:=3) I)<|aw.cons (Ren.own (i:=4) I) aw.nil))<|.kept rfl (.du rfl (bn N))<|.kept rfl (.du rfl (bn N))<|.kept rfl (.row aw.pure)<|.nil) I I hfin
   refine aa I I (bu (cF I (aV.rk.get I) I I I I ⟨by unfold maxLen;omega,by omega⟩) I I I (ab ?_)) ad
   refine ae 1 [] (by kernel_rfl) ?_
   refine aa I I (bu (cF I (aV.rk.get I) I I I I ⟨by unfold maxLen;omega,by omega⟩) I I I (ab ?_)) ad
   refine ae 4 [] (by kernel_rfl) ?_
   refine aa I I (av (dD (xs:=[_,_,_]) I (aV.st.get I) I I) I I I (ab ?_)) ad
   refine ae 5 [] (by kernel_rfl) ?_
   refine aa I I (bu (jt I I I) I I I (ab ?_)) ad
   refine ae 6 [] (by kernel_rfl) ?_
   refine aa I I (av (bR I I) I I I (ab ?_)) ad
   refine ae 7 [] (by kernel_rfl) ?_
   refine aa I I (av (bR I I) I I I (ab ?_)) ad
   refine aU (by kernel_rfl) ?_
   refine bD 3 2 3 1 I I ?_
   exact b0 [0,3,2,1,4] (.cons 2 I (Ren.ptr (i:=1) I)<|.cons 3 I Ren.pure<|.nil) (.same hd rfl<|.kept rfl (.cells (aw.cons (Ren.own (i:=2) I)<|aw.cons (Ren.own (i:=3) I)<|aw.cons (Ren.own (i:=4) I) aw.nil))<|.kept rfl (.du rfl (bn N))<|.kept rfl (.du rfl (bn N))<|.kept rfl (.row aw.pure)<|.nil) I I hfin
  refine aa I I (bu (cF I (aV.rk.get I) I I I I ⟨by unfold maxLen;omega,by omega⟩) I I I (ab ?_)) ad
  refine ae 0 [] (by kernel_rfl) ?_
  refine aa I I (av (bW I I) I I I (ab ?_)) ad
  refine ae 1 [] (by kernel_rfl) ?_
  refine aa I I (bu (cF I (aV.rk.get I) I I I I ⟨by unfold maxLen;omega,by omega⟩) I I I (ab ?_)) ad
  refine ae 4 [] (by kernel_rfl) ?_
  refine aa I I (av (dD (xs:=[_,_,_]) I (aV.st.get I) I I) I I I (ab ?_)) ad
  refine ae 5 [] (by kernel_rfl) ?_
  refine aa I I (bu (jt I I I) I I I (ab ?_)) ad
  refine ae 6 [] (by kernel_rfl) ?_
  refine aa I I (av (bR I I) I I I (ab ?_)) ad
  refine ae 7 [] (by kernel_rfl) ?_
  refine aa I I (av (bR I I) I I I (ab ?_)) ad
  refine aU (by kernel_rfl) ?_
  refine bD 3 2 3 1 I I ?_
  exact b0 [0,3,2,1,4] (.cons 2 I (Ren.ptr (i:=1) I)<|.cons 3 I Ren.pure<|.nil) (.same hd rfl<|.kept rfl (.cells (aw.cons (Ren.own (i:=2) I)<|aw.cons (Ren.own (i:=3) I)<|aw.cons (Ren.own (i:=4) I) aw.nil))<|.kept rfl (.du rfl (bn N))<|.kept rfl (.du rfl (bn N))<|.kept rfl (.row aw.pure)<|.nil) I I hfin
end
section
open Go.RowKit bm Mem
section
variable {P:Program} {N L:Nat}
theorem mV(p:PV)(n:Nat):cw [p] n=List.replicate n p:=by
 induction n with
 |zero=>rfl
 |succ n ih=>simp only[cw,ih,List.replicate_succ];rfl
theorem dO.of{fs:List Nat}{σ:bt}:∀(σ':bt) (js:List Nat),σ'.length=js.length→(∀(i:Nat) b' j,σ'[i]? =some (some b')→js[i]? =some j→∃b,σ[j]? =some (some b)∧lh fs b' b)→dO fs σ σ' js
 | [],[],_,_=>.nil
 |none::σ',j::js,hl,h=>.gone (dO.of σ' js (by simpa using hl) (fun i b' k h1 h2=>h (i+1) b' k (by simpa using h1) (by simpa using h2)))
 |some b'::σ',j::js,hl,h=>by
  obtain⟨b,h1,h2⟩:=h 0 b' j rfl rfl
  exact .kept h1 h2 (dO.of σ' js (by simpa using hl) (fun i b' k h1 h2=>h (i+1) b' k (by simpa using h1) (by simpa using h2)))
 | [],_::_,hl,_=>by simp at hl
 |_::_,[],hl,_=>by simp at hl
theorem jE:∀(l:List Nat),l.Nodup→dE l=true
 | [],_=>rfl
 |x::l,h=>by
  rw[List.nodup_cons]at h
  simp[dE,h.1,jE l h.2]
theorem lu{c:Code}{t:aZ}{σ:bt}{Q:Exit→St→Prop}(i k e s:Nat){e1 s1 n:Nat}{xs:List PV}(hi:σ[i]? =some (some (.row e1 s1 n xs)))(hk:xs[k]? =some (.raw (.slice none 0 0)))
  (h:W P N L c ⟨t,(σ++[some (cI.row e s 0 [])]).set i (some (.row e1 s1 n (xs.set k (.own σ.length))))⟩ Q):W P N L c ⟨t,σ⟩ Q:=fun F base E₀ w₀ E a w hc hs=>by
 obtain⟨a1,a2,a3⟩:=pc hs.sat e s
 have hil:=(List.getElem?_eq_some_iff.1 hi).1
 have hi':(σ++[some (cI.row e s 0 [])])[i]? =some (some (.row e1 s1 n xs)):=by rw[List.getElem?_append_left hil];exact hi
 obtain⟨cs,h2,h3⟩:=a1.blk i _ hi'
 obtain⟨cv,hcv,hrep⟩:=h3.get hk
 cases hrep
 have hb:∃b,aD ((E.push (.slice none 0 0)).at_ i)=some b:=by
  rcases h2.2 with hz|⟨g,cap,cur,hv,_⟩
  ·have h4:=h2.1
   rw[hz.2,Nat.zero_mul]at h4
   rw[List.eq_nil_of_length_eq_zero h4]at hcv
   simp at hcv
  ·exact⟨g,by rw[hv];rfl⟩
 obtain⟨b,hb⟩:=hb
 obtain⟨b1,b2⟩:=a1.p7 hi' (b:=b) hb (Nat.le_refl _) (fun _ _ _=>rfl) (bi':=.row e1 s1 n (xs.set k (.own σ.length))) ⟨cs,h2,by
  have:=h3.set k a3
  rw[jj hcv]at this
  exact this⟩
 exact h F base E₀ w₀ _ a w (hc.on (a2.trans b2) (Below.refl _ _)) ⟨b1,(hs.tmp.goes a2).goes b2,hs.gy,hs.size⟩
def cz(n:Nat):List PV:=(List.range n).map fun i=>.own (i+1)
def eP(e1 e:TypeId)(rs:List (List Int)):bt:=some (.row e1 1 rs.length (cz rs.length))::rs.map fun r=>some (.row e 1 r.length (aS r))
def fM(e1 e n k:Nat):bt:=some (.row e1 1 n (cz k++List.replicate (n - k) (PV.raw (.slice none 0 0))))::List.replicate k (some (.row e 1 0 []))
theorem mG{c:Code}{t:aZ}{Q:Exit→St→Prop}(e1 e n:Nat)(h:W P N L c ⟨t,fM e1 e n n⟩ Q):∀m k,k+m=n→W P N L c ⟨t,fM e1 e n k⟩ Q
  | 0, k, hk => by obtain rfl : k = n := by omega
                   exact h
  |m+1,k,hk=>by
    have ih:=mG e1 e n h m (k+1) (by omega)
    have hol:(cz k).length=k:=by simp[cz]
    refine lu 0 k e 1 (e1:=e1) (s1:=1) (n:=n) (xs:=cz k++List.replicate (n - k) (PV.raw (.slice none 0 0))) I ?_ ?_
    · rw[List.getElem?_append_right (by omega),hol,List.getElem?_replicate,if_pos (by omega)]
    · have e2:(fM e1 e n k++[some (cI.row e 1 0 [])]).set 0 (some (.row e1 1 n ((cz k++List.replicate (n - k) (PV.raw (.slice none 0 0))).set k (.own (fM e1 e n k).length))))=fM e1 e n (k+1):=by
        unfold fM
        simp only[List.cons_append,List.set_cons_zero,List.length_cons,List.length_replicate]
        congr 3
        · rw[List.set_append_right _ _ (by omega),hol,Nat.sub_self,show n - k=(n - (k+1))+1 by omega,List.replicate_succ,List.set_cons_zero]
          unfold cz
          rw[List.range_succ,List.map_append]
          simp
        · rw[List.replicate_succ']
      rw[e2];exact ih
theorem kX{c:Code}{t:aZ}{Q:Exit→St→Prop}(e1 e n:Nat)(h:W P N L c ⟨t,eP e1 e (List.replicate n [])⟩ Q):W P N L c ⟨t,[some (.row e1 1 n (cw [.raw (.slice none 0 0)] n))]⟩ Q:=by
 have:=mG (P:=P) (N:=N) (L:=L) (c:=c) (t:=t) (Q:=Q) e1 e n (by
  have e2:fM e1 e n n=eP e1 e (List.replicate n []):=by
   unfold fM eP
   simp[aS]
  rw[e2];exact h) n 0 (by omega)
 rw[mV]
 simpa[fM,cz]using this
def pD(n k:Nat):List Nat:=0::(List.range n).map fun i=>if i=k then n+1 else i+1
theorem mY(n k:Nat):dE (pD n k)=true:=by
 apply jE
 unfold pD
 rw[List.nodup_cons]
 constructor
 ·simp only[List.mem_map,not_exists,not_and]
  intro i _ h
  split at h<;>omega
 ·rw[List.nodup_iff_pairwise_ne,List.pairwise_map]
  refine List.Pairwise.imp_of_mem ?_ (List.nodup_iff_pairwise_ne.1 List.nodup_range)
  intro i j hi hj hij h
  have:=List.mem_range.1 hi
  have:=List.mem_range.1 hj
  split at h<;>split at h<;>omega
theorem jQ(n k i:Nat)(hi:i<n):(pD n k)[i+1]? =some (if i=k then n+1 else i+1):=by
 unfold pD
 simp[hi]
theorem fx(n i:Nat)(hi:i<n):(cz n)[i]? =some (.own (i+1)):=by simp[cz,hi]
theorem ft(e1 e:TypeId)(rs:List (List Int))(k:Nat)(hk:k<rs.length):(eP e1 e rs)[k+1]? =some (some (.row e 1 (rs.getD k []).length (aS (rs.getD k [])))):=by
 unfold eP
 simp[hk]
theorem po(e1 e:TypeId)(rs:List (List Int))(k:Nat)(hk:k<rs.length)(x:Int):
  dO (pD rs.length k) (((eP e1 e rs).set (k+1) none++[some (cI.row e 1 ((rs.getD k []).length+1) (aS (rs.getD k [])++[.raw (.int .i64 x)]))]).set 0 (some (.row e1 1 rs.length (over (cz rs.length) k [.own (eP e1 e rs).length])))) (eP e1 e (rs.set k (rs.getD k []++[x]))) (pD rs.length k):=by
 have hol:(cz rs.length).length=rs.length:=by simp[cz]
 have hlen:(eP e1 e rs).length=rs.length+1:=by simp[eP]
 have hov:over (cz rs.length) k [.own (eP e1 e rs).length]=(cz rs.length).set k (.own (rs.length+1)):=by
  unfold over
  rw[hlen,List.set_eq_take_append_cons_drop,if_pos (by omega)]
  simp
 rw[hov]
 apply dO.of
 ·simp[eP,pD]
 ·intro i b' j h1 h2
  cases i with
  |zero=>
   simp only[eP,List.getElem?_cons_zero,Option.some.injEq,List.length_set]at h1
   simp only[pD,List.getElem?_cons_zero,Option.some.injEq]at h2
   subst h1;subst h2
   refine⟨.row e1 1 rs.length ((cz rs.length).set k (.own (rs.length+1))),by simp[eP],.row ⟨by simp,fun i a b k1 k2=>?_⟩⟩
   have hi:i<rs.length:=by have:=(List.getElem?_eq_some_iff.1 k1).1;omega
   rw[fx _ _ hi]at k1
   cases k1
   rw[List.getElem?_set]at k2
   split at k2
   ·rename_i e';subst e'
    rw[if_pos (by omega)]at k2
    cases k2
    exact .own (by rw[jQ _ _ _ hi,if_pos rfl])
   ·rename_i e'
    rw[fx _ _ hi]at k2
    cases k2
    exact .own (by rw[jQ _ _ _ hi,if_neg (Ne.symm e')])
  |succ i=>
   have hi:i<rs.length:=by
    have:=(List.getElem?_eq_some_iff.1 h1).1
    simp[eP]at this
    exact this
   rw[ft _ _ _ _ (by simpa using hi)]at h1
   rw[jQ _ _ _ hi]at h2
   cases h1
   by_cases e':i=k
   ·rw[if_pos e']at h2
    cases h2
    subst e'
    refine⟨.row e 1 ((rs.getD i []).length+1) (aS (rs.getD i [])++[.raw (.int .i64 x)]),?_,?_⟩
    ·rw[List.getElem?_set_ne (by omega),List.getElem?_append_right (by simp[hlen])]
     simp[hlen]
    ·have hg:(rs.set i (rs.getD i []++[x])).getD i []=rs.getD i []++[x]:=by simp[List.getD_eq_getElem?_getD,hi]
     rw[hg,dj]
     exact .du (by simp) I
   ·rw[if_neg e']at h2
    cases h2
    refine⟨.row e 1 (rs.getD i []).length (aS (rs.getD i [])),?_,?_⟩
    ·rw[List.getElem?_set_ne (by omega),List.getElem?_append_left (by simp[hlen];omega),List.getElem?_set_ne (by omega),ft _ _ _ _ hi]
    ·have hg:(rs.set k (rs.getD k []++[x])).getD i []=rs.getD i []:=by simp[List.getD_eq_getElem?_getD,List.getElem?_set,Ne.symm e']
     rw[hg]
     exact .row aw.pure
def jg(rs:List (List Int)):PV:=.slice rs.length (rs.map aR)
instance (rs:List (List Int)):ao (rs.map aR):=ao.map _ _ fun _=>inferInstance
instance (rs:List (List Int)):IsPure (jg rs):=by unfold jg;infer_instance
theorem oz(e1 e:TypeId)(rs:List (List Int)):aW (eP e1 e rs) (.own 0) (jg rs):=by
 refine aW.gH rfl ⟨by simp[cz],fun i a b h1 h2=>?_⟩
 have hi:i<rs.length:=by have:=(List.getElem?_eq_some_iff.1 h2).1;simpa using this
 rw[fx _ _ hi]at h1
 cases h1
 have:b=aR (rs.getD i []):=by simpa[hi]using h2.symm
 subst this
 exact aW.gH (ft e1 e rs i hi) aI.pure
def cb(f:Nat→Int)(n k:Nat):List (List Int):=(List.range n).map fun(m:Nat)=>((List.range k).filter fun a=>decide (f a=(m:Int))).map Int.ofNat
theorem eS(f:Nat→Int)(n k:Nat):(cb f n k).length=n:=by simp[cb]
theorem gg(f:Nat→Int)(n k m:Nat)(hm:m<n):(cb f n k).getD m []=((List.range k).filter fun a=>decide (f a=(m:Int))).map Int.ofNat:=by simp[cb,hm]
theorem lF(f:Nat→Int)(n:Nat):cb f n 0=List.replicate n []:=by
 apply List.ext_getElem?
 intro i
 simp only[cb,List.range_zero,List.filter_nil,List.map_nil,List.getElem?_map,List.getElem?_replicate]
 by_cases h:i<n<;>simp[h]
theorem lZ(f:Nat→Int)(n k m:Nat)(hm:f k=(m:Int))(hmn:m<n):cb f n (k+1)=(cb f n k).set m ((cb f n k).getD m []++[(k:Int)]):=by
 apply List.ext_getElem?
 intro i
 rw[List.getElem?_set]
 by_cases h:i<n
 ·have hl:i<(cb f n k).length:=by rw[eS];exact h
  by_cases e:m=i
  ·subst e
   rw[if_pos rfl,if_pos hl,gg _ _ _ _ h]
   simp[cb,h,List.range_succ,List.filter_append,hm]
  ·rw[if_neg e]
   simp[cb,h,List.range_succ,List.filter_append,hm]
   omega
 ·have hl:¬i<(cb f n k).length:=by rw[eS];exact h
  have:(cb f n (k+1))[i]? =none:=by simp[cb,h]
  rw[this]
  split
  ·rw[if_neg (by omega)]
  ·simp[cb,h]
end
end
end PW
end Go.Proofs.YtnegbdpggideiaaDoor
