/- Texts of the proof, part 13. -/
import Derived.Lib.AppendStr
import Derived.Lib.UnsafeStr
import Derived.Lib.Builder
import Derived.Shelf.Strings.Builder1
import Derived.Shelf.Strings.BuilderF
import Derived.Shelf.Strings.BuilderK
import Derived.Shelf.Strconv.Itoa0
import Derived.Shelf.Strconv.Itoa1
import Derived.Shelf.LaysM
import Derived.Shelf.Strconv.Itoa2
import Derived.Shelf.Strconv.Itoa3
import Derived.Test.YtnegbdpggideiaaGreatDoorProg
import Derived.RangeFuncNested
import Derived.RangeFuncBound
import Derived.RangeFuncCalls
import Derived.RangeFuncLeaves
import Derived.Shelf.Abstract
import Derived.Shelf.RegionOpen
import Derived.WalkKit
import Derived.OwnWalkIn
import Derived.TacticsInMore
import Derived.LoopNIn
import Derived.LoopIn
import Derived.Test.YtnegbdpggideiaaGreatDoorCardXLB12
set_option linter.unusedVariables false
set_option linter.unusedSimpArgs false
set_option maxRecDepth 10000
set_option maxHeartbeats 1000000
namespace Go.Proofs.YtnegbdpggideiaaGreatDoor
namespace PW
section
open Go.RowKit cE Mem
section
variable {P:Program} {σ:cc} {t:cg} {o:Oper}
def eK(l:List UInt8):List PV:=l.map fun b=>.raw (.int .u8 b.toNat)
instance (l:List UInt8):aL (eK l):=aL.map _ _ fun _=>inferInstance
theorem j8(a b:List UInt8):eK a++eK b=eK (a++b):=by simp[eK]
theorem ou{w:World}(base:Nat)(t u ty e:TypeId)(i:TypeInfo)(ht:P.underlying t=some (.slice e))(hu:P.underlying u=some .string)(hi:P.info? e=some i)(hz:i.zero=some (.int .u8 0))
  (hsize:i.size=1) (hby:i.bytes=1) (v:Value) (n:Nat) (xs:List Value) (hown:w.ownsRow base e 1 v n xs) (s:ByteArray)
  (h63:n+s.size≤maxLen) (hbytes:n+s.size≤140737488355328) (hbase:base≤w.heap.size):
  ∃v' w',(Builtin.append_ #[t,u] ty #[v,.string s]).run P w= .ok v' w'∧w'.ownsRow base e 1 v' (n+s.size) (xs++Lib.strCells s)∧w.grownBy w' v.ownBlock∧(v'.ownBlock=v.ownBlock∨v'.ownBlock=some w.heap.size):=by
 obtain⟨v',w',hr,h2,h3,h4⟩:=Lib.run_append_own_string (P:=P) w base t u ty e i ht hu hi hz hsize hby v n xs hown s h63 hbytes hbase
 refine⟨v',w',hr,h2,h3,?_⟩
 have hsmall:n+s.size≤9223372036854775807:=by simp only[maxLen]at h63;omega
 rcases hown.2 with⟨rfl,rfl⟩|⟨g,cap,cur,rfl,hbg,hg,hnc,hcm,hcs,htake⟩
 ·by_cases hm:s.size=0
  ·rw[h4.2 ⟨rfl,hm⟩];exact .inl rfl
  ·have hr':=run_append_nil_string (P:=P) w t u ty e i (.int .u8 0) ht hu hi hz s (by omega) (by omega) (by rw[hby];omega)
   rw[hr']at hr
   cases hr
   exact .inr rfl
 ·by_cases hroom:n+s.size≤cap
  ·have hr':=Lib.run_append_room_string (P:=P) w t u ty e i ht hu hi hsize g n cap cur hg s hroom (by rw[hcs];omega)
   rw[hr']at hr
   cases hr
   exact .inl rfl
  ·have holds:∀(j:Nat) u,xs[j]? =some u→w.cell? ((⟨g,0,none⟩:Addr).add j)=some u:=hown.cells (g:=g) I
   have hr':=Lib.run_append_grow_string (P:=P) w t u ty e i (.int .u8 0) ht hu hi hz ⟨g,0,none⟩ n cap xs (by rw[hsize];exact hown.1) holds s (by omega) (by omega) (growslice_fits (by omega) (by rw[hby];omega))
   rw[hr']at hr
   cases hr
   exact .inr rfl
def AB(P:Program)(ty sy:TypeId):Option TypeId:=
 match P.underlying ty,P.underlying sy with
 |some (.slice e),some .string=>match P.info? e with
  |some i=>match i.zero with
   |some (.int .u8 0)=>bif Nat.beq i.size 1&&Nat.beq i.bytes 1 then some e else none
   |_=>none
  |none=>none
 |_,_=>none
theorem zp{ty sy e:TypeId}(h:AB P ty sy=some e):P.underlying ty=some (.slice e)∧P.underlying sy=some .string∧∃i,P.info? e=some i∧i.zero=some (.int .u8 0)∧i.size=1∧i.bytes=1:=by
 unfold AB at h
 split at h
 ·rename_i e' h1 h2
  split at h
  ·rename_i i hi
   split at h
   ·rename_i hz
    rw[Bool.cond_eq_ite]at h
    split at h
    ·rename_i hb
     cases h
     obtain⟨b1,b2⟩:=Bool.and_eq_true_iff.1 hb
     exact⟨h1,h2,i,hi,hz,Nat.eq_of_beq_eq_true b1,Nat.eq_of_beq_eq_true b2⟩
    ·cases h
   ·cases h
  ·cases h
 ·cases h
theorem pP{ty sy e n i:Nat}{xs:List PV}{x y:Operand}{s:ByteArray}(ho:o.op= .call {callee:=.builtin .append,args:= #[x,y],argTypes:= #[ty,sy]})(hk:AB P ty sy=some e)(hx:aF t x=some (.own i))(hi:σ[i]? =some (some (.row e 1 n xs)))
  (hy:aF t y=some (.raw (.string s))) (hn:n+s.size≤140737488355328):
  cj P σ t o (.own σ.length) (σ.set i none++[some (.row e 1 (n+s.size) (xs++eK s.data.toList))]):=by
 intro F base E ρ w hρ hS hT
 have h1:=aA hρ hT hx
 have h2:=aA hρ hT hy
 generalize hz1:ρ x=v at h1
 generalize hz2:ρ y=u at h2
 cases h2
 obtain⟨hu,hu2,inf,hinf,hz,hs,hby⟩:=zp hk
 cases h1 with
 |own _ hiL _ hat hone=>
  obtain⟨cs,k1,k2⟩:=hS.blk i _ hi
  rw[hat]at k1
  have hob:bF (E.at_ i)=v.ownBlock:=by rw[hat];exact gm k1
  obtain⟨v',w',hrun,hown,hg,hw⟩:=ou (P:=P) (w:=w) base ty sy o.type e inf hu hu2 hinf hz hs hby v n cs k1 s (by unfold maxLen;omega) hn hS.bl
  have hr:(execOp ρ o).run P w= .ok (.value v') w':=by
   simp only[execOp,ho,resolve,invoke,builtin,Sem.run_bind,Sem.run_pure,Result.andThen_ok,List.map_toArray,List.map_cons,List.map_nil,hz1,hz2,hrun]
  have hnw:bd E w (Lib.strCells s) (eK s.data.toList):=by
   refine⟨by simp[Lib.strCells,eK],fun j c u h1 h2=>?_⟩
   simp only[Lib.strCells,eK,List.getElem?_map,Option.map_eq_some_iff]at h1 h2
   obtain⟨b,hb,rfl⟩:=h1
   obtain⟨b',hb',rfl⟩:=h2
   rw[hb]at hb'
   cases hb'
   exact .raw _
  have hv':∀b,bF v'=some b→bF (E.at_ i)=some b∨w.heap.size≤b:=fun b hb=>by
   rw[gm hown]at hb
   rcases hw with h|h
   ·rw[hob,←h];exact .inl hb
   ·rw[h]at hb;cases hb;exact .inr (Nat.le_refl _)
  obtain⟨a1,a2⟩:=hS.swap (w':=w') (blk:=.row e 1 (n+s.size) (xs++eK s.data.toList)) hi hg.size (fun k hk hne=>hg.block k hk (by rw[←hob];exact Ne.symm hne)) hv' (fun E' g=>⟨cs++Lib.strCells s,hown,(k2.append hnw).goes g⟩)
  refine⟨v',w',_,.inl hr,a1,a2,⟨hg.os,hg.tape,hg.output,hg.size,fun k hk=>hg.block k (Nat.lt_of_lt_of_le hk hS.bl) (fun e=>?_)⟩,.own σ.length (by simp[Env.push,Env.kill,hS.len]) v' (by simp[Env.push,Env.kill,hS.len]) ?_⟩
  ·have:=(k1.lt k e.symm).1;omega
  ·rcases hown.2 with⟨rfl,_⟩|⟨g',cap,cur,rfl,_⟩<;>rfl
theorem Sat.drop{F:Nat→Prop}{base:Nat}{E:Env}{w w':World}(hS:Sat F base σ E w){j g:Nat}{bj:cJ}(hj:σ[j]? =some (some bj))(hb:bF (E.at_ j)=some g)(hs:w.heap.size≤w'.heap.size)(ho:∀k,k<w.heap.size→k≠g→w'.heap[k]? =w.heap[k]?):
  Sat F base (σ.set j none) (E.kill j) w'∧dj E w (E.kill j) w':=by
 have hgM:E.M g:=(hS.mm g).2 (.inr ⟨j,bj,hj,hb⟩)
 obtain⟨k1,_⟩:=hS.kill j hj
 have g':dj E w (E.kill j) w':=⟨Nat.le_refl _,fun _ _=>rfl,fun b _ hM h=>hM h.1,hs,fun k hk hM=>ho k hk (fun e=>hM (by rw[e];exact hgM))⟩
 refine⟨⟨Nat.le_trans hS.bl hs,fun b hb'=>⟨Nat.lt_of_lt_of_le (k1.fb b hb').1 hs,(k1.fb b hb').2⟩,k1.len,k1.mm,fun i bl hi=>?_,k1.inj,hS.gl.goes g'⟩,g'⟩
 obtain⟨hne,h3⟩:=iD hi
 exact(hS.blk i bl h3).goes g' (fun k hk=>ho k ((hS.blk i bl h3).lt hk).2 (fun e=>hne (hS.inj i j bl bj g h3 hj (by rw[←e];exact hk) hb)))
theorem wG{ty:TypeId}{x:Operand}{s:ByteArray}(ho:o.op= .call {callee:=.builtin .len,args:= #[x],argTypes:= #[ty]})(hu:P.underlying ty=some .string)(hx:aF t x=some (.raw (.string s))):bA P σ t o (.raw (.int .i64 s.size)):=by
 intro F base E ρ w hρ _ hT
 have h1:=aA hρ hT hx
 generalize hz:ρ x=z at h1
 cases h1
 simp[execOp,ho,resolve,invoke,builtin,Builtin.len_,hz,run_underlying hu,goInt]
 exact bz (.raw _)
theorem we{ty:TypeId}{x:Operand}{j e s n:Nat}{xs:List PV}(ho:o.op= .call {callee:=.builtin .unsafeSliceData,args:= #[x],argTypes:= #[ty]})(hx:aF t x=some (.own j))(hj:σ[j]? =some (some (.row e s n xs)))(hn:0<n):bA P σ t o (.ptr j 0):=by
 intro F base E ρ w hρ hS hT
 have h1:=aA hρ hT hx
 generalize hz:ρ x=z at h1
 cases h1 with
 |own _ hi _ h hone=>
  obtain⟨cs,k1,_⟩:=hS.blk j _ hj
  rw[h]at k1
  rcases k1.2 with⟨_,h0⟩|⟨g,cap,cur,hv,_,_,hnc,_⟩
  ·omega
  ·subst hv
   have:=Lib.run_unsafeSliceData_row (P:=P) w #[ty] o.type ⟨g,0,none⟩ n cap (by omega)
   simp only[execOp,ho,resolve,invoke,builtin,Sem.run_bind,Sem.run_pure,Result.andThen_ok,List.map_toArray,List.map_cons,List.map_nil,hz,this]
   exact bz (.ptr j 0 g hi (.inr ⟨n,cap,h⟩))
theorem vL{pt it:TypeId}{x y:Operand}{j e:Nat}{l:List UInt8}(ho:o.op= .call {callee:=.builtin .unsafeString,args:= #[x,y],argTypes:= #[pt,it]})(hp:P.underlying pt=some (.pointer e))(hc:P.cellsOf e=1)(hx:aF t x=some (.ptr j 0))(hy:aF t y=some (.raw (.int .i64 l.length)))(hj:σ[j]? =some (some (.row e 1 l.length (eK l))))(hl:0<l.length):
  cj P σ t o (.raw (.string ⟨l.toArray⟩)) (σ.set j none):=by
 intro F base E ρ w hρ hS hT
 have h1:=aA hρ hT hx
 have h2:=aA hρ hT hy
 generalize hz:ρ x=z at h1
 generalize hz':ρ y=z' at h2
 cases h2
 cases h1 with
 |ptr _ _ b hi h=>
  obtain⟨cs,k1,k2⟩:=hS.blk j _ hj
  have hcs:cs=Lib.byteCells l:=by
   apply List.ext_getElem?
   intro i
   by_cases hi':i<l.length
   ·have h3:=k2.2 i (cs[i]'(by rw[k2.1];simpa[eK]using hi')) (.raw (.int .u8 (l[i]).toNat)) (by simp) (by simp[eK,hi'])
    have h4:cs[i]'(by rw[k2.1];simpa[eK]using hi')= .int .u8 (l[i]).toNat:=by
     generalize cs[i]'(by rw[k2.1];simpa[eK]using hi')=q at h3
     cases h3;rfl
    rw[List.getElem?_eq_getElem (by rw[k2.1];simpa[eK]using hi'),h4]
    simp[Lib.byteCells,hi']
   ·rw[List.getElem?_eq_none (by rw[k2.1];simp[eK];omega),List.getElem?_eq_none (by simp[Lib.byteCells];omega)]
  subst hcs
  have k3:=k1
  rcases k1.2 with⟨hv,h0⟩|⟨g,cap,cur,hv,hbg,hg,hnc,hcm,hsz,htk⟩
  ·omega
  ·have hbeq:b=g:=by
    rcases h with h|⟨n,c,h⟩
    ·rw[hv]at h;cases h
    ·rw[hv]at h;cases h;rfl
   subst hbeq
   have hblk:bF (E.at_ j)=some b:=by rw[hv];rfl
   have hrun:=Lib.run_unsafeString_row (P:=P) w pt it o.type e hp hc b cur.size (by simp[World.shape?,hg]) l (by intro e';rw[e']at hl;simp at hl) (by omega) (by unfold maxLen at hcm;omega) (fun i x hx'=>k3.cells (g:=b) (by rw[hv];rfl) i (.int .u8 x.toNat) (by simp[Lib.byteCells,hx']))
   have hr:(execOp ρ o).run P w= .ok (.value (.string ⟨l.toArray⟩)) (w.freeze ⟨b,0,none⟩ l.length):=by
    simp only[execOp,ho,resolve,invoke,builtin,Sem.run_bind,Sem.run_pure,Result.andThen_ok,List.map_toArray,List.map_cons,List.map_nil,hz,hz',hrun]
   have hfz:∀k,k≠b→(w.freeze ⟨b,0,none⟩ l.length).heap[k]? =w.heap[k]? :=fun k hk=>by
    unfold World.freeze
    split
    ·rfl
    ·simp only[Array.getElem?_modify]
     rw[if_neg (Ne.symm hk)]
   have hsz':w.heap.size≤(w.freeze ⟨b,0,none⟩ l.length).heap.size:=by
    unfold World.freeze
    split<;>simp
   obtain⟨a1,a2⟩:=Sat.drop (w':=w.freeze ⟨b,0,none⟩ l.length) hS hj hblk hsz' (fun k _ hk=>hfz k hk)
   exact⟨_,_,_,.inl hr,a1,a2,Lib.below_freeze (Below.refl base w) (p:=⟨b,0,none⟩) hbg _,.raw _⟩
theorem Fw{x y:Operand}{ty tz:TypeId}(ho:o.op= .binOp .eql ty x y tz)(hk:pK P ty=true)(hx:aF t x=some (.raw (.pointer none)))(hy:aF t y=some (.raw (.pointer none))):bA P σ t o (.raw (.bool true)):=by
 refine xB ho hx hy fun w=>?_
 unfold pK at hk
 split at hk
 ·rename_i e hu
  have key:∀d,(Op.equalIn (d+1) ty (.pointer none) (.pointer none)).run P w= .ok true w:=fun d=>by
   simp only[Op.equalIn,Sem.run_bind,run_underlying hu,Result.andThen_ok,Sem.run_pure,Option.isNone_none]
  have:=key 9999
  simp only[Nat.reduceAdd]at this
  simp[eqGuard,binOp,Op.equal,Op.maxDepth,this]
 ·cases hk
theorem tJ{x y:Operand}{ty te tz:TypeId}{i k:Nat}{ji:TypeInfo}(ho:o.op= .binOp .neq ty x y tz)(hp:P.underlying ty=some (.pointer te))(hte:P.info? te=some ji)(hx:aF t x=some (.ptr i k))(hy:aF t y=some (.ptr i k)):bA P σ t o (.raw (.bool false)):=by
 intro F base E ρ w hρ hS hT
 have h1:=aA hρ hT hx
 have h2:=aA hρ hT hy
 have he:ρ x=ρ y:=tj.Lb E w _ _ h1 h2
 generalize hz:ρ x=z at h1
 have hz':ρ y=z:=by rw[←he,hz]
 cases h1 with
 |ptr _ _ b hi h=>
  have hb:=Lib.run_neq_ptr_same (P:=P) w ⟨b,k,none⟩ hp hte
  have hr:(execOp ρ o).run P w= .ok (.value (.bool false)) w:=by
   simp only[execOp,ho,hz,hz',Sem.run_bind,Sem.run_pure]
   have hg:(eqGuard .neq ty x y (.pointer (some ⟨b,k,none⟩)) (.pointer (some ⟨b,k,none⟩))).run P w= .ok () w:=rfl
   rw[hg]
   simp only[Result.andThen_ok,hb]
  rw[hr]
  exact bz (.raw _)
theorem zI{src dst te ty:TypeId}{x:Operand}{i:Nat}{ji:TypeInfo}{xs:List PV}(ho:o.op= .convert src dst x)(hs:P.underlying src=some (.pointer te))(hd:P.underlying dst=some .unsafePointer)(ht:P.info? te=some ji)(hj:ji.size≠0)(hx:aF t x=some (.ptr i 0))(hi:σ[i]? =some (some (.cells ty xs)))(hl:0<xs.length):bA P σ t o (.ptr i 0):=by
 intro F base E ρ w hρ hS hT
 have h1:=aA hρ hT hx
 have h1':=h1
 generalize hz:ρ x=z at h1 h1'
 obtain⟨b,cs,k1,k2,k3,k4⟩:=hS.blk i _ hi
 cases h1 with
 |ptr _ _ b' hi' h=>
  have hb:b'=b:=by
   rcases h with h|⟨n,c,h⟩<;>rw[k1]at h<;>cases h
   rfl
  subst hb
  have:=Lib.run_to_unsafe (P:=P) w ⟨b',0,none⟩ hs hd ht hj (e:=ty) (cells:=cs.size) (by simp[World.shape?,k3]) (by have:=k4.1;simp at this ⊢;omega)
  simp only[execOp,ho,hz,Sem.run_bind,this,Result.andThen_ok,Sem.run_pure]
  exact bz h1'
theorem uL{src dst u ty:TypeId}{x:Operand}{i:Nat}{ji:TypeInfo}{xs:List PV}(ho:o.op= .convert src dst x)(hs:P.underlying src=some .unsafePointer)(hd:P.underlying dst=some (.pointer u))(ht:P.info? u=some ji)(hx:aF t x=some (.ptr i 0))(hi:σ[i]? =some (some (.cells ty xs)))(hl:liesAt P P.depth ty (xs.length / P.cellsOf ty) 0 u 1=true):bA P σ t o (.ptr i 0):=by
 intro F base E ρ w hρ hS hT
 have h1:=aA hρ hT hx
 have h1':=h1
 generalize hz:ρ x=z at h1 h1'
 obtain⟨b,cs,k1,k2,k3,k4⟩:=hS.blk i _ hi
 cases h1 with
 |ptr _ _ b' hi' h=>
  have hb:b'=b:=by
   rcases h with h|⟨n,c,h⟩<;>rw[k1]at h<;>cases h
   rfl
  subst hb
  have hsz:cs.size=xs.length:=by have:=k4.1;simpa using this
  have:=Lib.run_from_unsafe (P:=P) w ⟨b',0,none⟩ hs hd ht (e:=ty) (cells:=cs.size) (by simp[World.shape?,k3]) (by rw[hsz];exact hl)
  simp only[execOp,ho,hz,Sem.run_bind,this,Result.andThen_ok,Sem.run_pure]
  exact bz h1'
theorem yx{f:FuncId}{x a:Operand}{ats:Array TypeId}{p:PV}(ho:o.op= .call {callee:=.value x,args:= #[a],argTypes:=ats})(hx:aF t x=some (.func f []))(ha:aF t a=some p)(hr:∀v w,(callFunc f #[v]).run P w= .ok (.value v) w):bA P σ t o p:=by
 intro F base E ρ w hρ hS hT
 have h1:=aA hρ hT hx
 have h2:=aA hρ hT ha
 generalize hz:ρ x=z at h1
 cases h1 with
 |func _ cs _ hl hr'=>
  have hcs:cs= #[]:=Array.eq_empty_of_size_eq_zero (by simpa using hl)
  subst hcs
  have h3:(execOp ρ o).run P w= .ok (.value (ρ a)) w:=by
   have:=hr (ρ a) w
   simp[execOp,ho,resolve,hz,Deferred.ofValue,invoke,this]
  rw[h3]
  exact bz h2
end
end
end PW
end Go.Proofs.YtnegbdpggideiaaGreatDoor
namespace Go.Proofs
open Go.Shelf
def Tryz.FT:Go.Shelf.Ren:=⟨fun|246=>220|283=>227|284=>228|285=>229|286=>230|129=>241|317=>242|318=>243|319=>244|320=>245|337=>252|338=>253|n=>n,fun|2=>2|3=>3|9=>9|4=>4|171=>248|0=>0|53=>249|37=>26|5=>5|173=>252|212=>264|51=>262|20=>20|213=>265|46=>247|232=>275|233=>276|n=>n,fun|17=>0|18=>1|19=>2|n=>n⟩
def Tryz.Gd:Go.Shelf.Ren:=⟨fun|243=>208|246=>220|283=>227|284=>228|285=>229|286=>230|129=>241|317=>242|318=>243|319=>244|320=>245|337=>252|338=>253|n=>n,fun|3=>3|9=>9|2=>2|4=>4|171=>248|0=>0|53=>249|37=>26|5=>5|173=>252|212=>264|51=>262|20=>20|213=>265|46=>247|232=>275|233=>276|n=>n,fun|17=>0|18=>1|19=>2|n=>n⟩
def Tryz.GA:Go.Shelf.Ren:=⟨fun|171=>187|243=>208|246=>220|283=>227|284=>228|285=>229|286=>230|129=>241|317=>242|318=>243|319=>244|320=>245|337=>252|338=>253|n=>n,fun|3=>3|9=>9|2=>2|4=>4|171=>248|0=>0|53=>249|37=>26|5=>5|173=>252|212=>264|51=>262|20=>20|213=>265|46=>247|232=>275|233=>276|n=>n,fun|17=>0|18=>1|19=>2|n=>n⟩
def Tryz.vG:Go.Shelf.Ren:=⟨fun|171=>187|243=>208|246=>220|283=>227|284=>228|285=>229|286=>230|129=>241|317=>242|318=>243|319=>244|320=>245|337=>252|338=>253|n=>n,fun|3=>3|9=>9|2=>2|4=>4|171=>248|0=>0|53=>249|37=>26|5=>5|173=>252|212=>264|51=>262|20=>20|213=>265|46=>247|232=>275|233=>276|n=>n,fun|17=>0|18=>1|19=>2|n=>n⟩
theorem Tryz.Hj:Go.Proofs.Lays.n171 Tryz.prog Tryz.vG:= {
 mixed:=by kernel_rfl
 f129:=Tryz.func241.trans (congrArg some (by kernel_rfl))
 f171:=Tryz.func187.trans (congrArg some (by kernel_rfl))
 f243:=Tryz.func208.trans (congrArg some (by kernel_rfl))
 f246:=Tryz.func220.trans (congrArg some (by kernel_rfl))
 f283:=Tryz.func227.trans (congrArg some (by kernel_rfl))
 f284:=Tryz.func228.trans (congrArg some (by kernel_rfl))
 f285:=Tryz.func229.trans (congrArg some (by kernel_rfl))
 f286:=Tryz.func230.trans (congrArg some (by kernel_rfl))
 f317:=Tryz.func242.trans (congrArg some (by kernel_rfl))
 f318:=Tryz.func243.trans (congrArg some (by kernel_rfl))
 f319:=Tryz.func244.trans (congrArg some (by kernel_rfl))
 f320:=Tryz.func245.trans (congrArg some (by kernel_rfl))
 f337:=Tryz.func252.trans (congrArg some (by kernel_rfl))
 f338:=Tryz.func253.trans (congrArg some (by kernel_rfl))
 t0:=Tryz.underlying0
 a0:=Tryz.isAgg0
 z0:=Tryz.sizeOf0
 v0:=Tryz.zeroValue0
 t2:=Tryz.underlying2
 a2:=Tryz.isAgg2
 z2:=Tryz.sizeOf2
 v2:=Tryz.zeroValue2
 t3:=Tryz.underlying3
 a3:=Tryz.isAgg3
 z3:=Tryz.sizeOf3
 v3:=Tryz.zeroValue3
 t4:=Tryz.underlying4
 a4:=Tryz.isAgg4
 z4:=Tryz.sizeOf4
 v4:=Tryz.zeroValue4
 t5:=Tryz.underlying5
 a5:=Tryz.isAgg5
 z5:=Tryz.sizeOf5
 v5:=Tryz.zeroValue5
 t9:=Tryz.underlying9
 a9:=Tryz.isAgg9
 z9:=Tryz.sizeOf9
 v9:=Tryz.zeroValue9
 t20:=Tryz.underlying20
 a20:=Tryz.isAgg20
 z20:=Tryz.sizeOf20
 v20:=Tryz.zeroValue20
 t37:=Tryz.underlying26
 a37:=Tryz.isAgg26
 z37:=Tryz.sizeOf26
 v37:=Tryz.zeroValue26
 t46:=Tryz.underlying247
 a46:=Tryz.isAgg247
 z46:=Tryz.sizeOf247
 v46:=Tryz.zeroValue247
 t51:=Tryz.underlying262
 a51:=Tryz.isAgg262
 z51:=Tryz.sizeOf262
 v51:=Tryz.zeroValue262
 t53:=Tryz.underlying249
 a53:=Tryz.isAgg249
 z53:=Tryz.sizeOf249
 v53:=Tryz.zeroValue249
 t171:=Tryz.underlying248
 a171:=Tryz.isAgg248
 z171:=Tryz.sizeOf248
 v171:=Tryz.zeroValue248
 t173:=Tryz.underlying252
 a173:=Tryz.isAgg252
 z173:=Tryz.sizeOf252
 v173:=Tryz.zeroValue252
 t212:=Tryz.underlying264
 a212:=Tryz.isAgg264
 z212:=Tryz.sizeOf264
 v212:=Tryz.zeroValue264
 t213:=Tryz.underlying265
 a213:=Tryz.isAgg265
 z213:=Tryz.sizeOf265
 t232:=Tryz.underlying275
 a232:=Tryz.isAgg275
 z232:=Tryz.sizeOf275
 v232:=Tryz.zeroValue275
 t233:=Tryz.underlying276
 a233:=Tryz.isAgg276
 z233:=Tryz.sizeOf276
 v233:=Tryz.zeroValue276
 g17:=by kernel_rfl
 g18:=by kernel_rfl
 g19:=by kernel_rfl}
open Go.RowKit Go.Sort Go.Lib in
theorem Tryz.strconv_Itoa_small(i:Nat)(hi:i<100)(w:World):
  Calls Tryz.prog 187 #[.int .i64 i] w fun e w'=>e= .returned (.string ⟨(Lib.decDigits i).toArray⟩)∧w'=w:=Any.strconv_Itoa_small Tryz.Hj i hi w
end Go.Proofs
namespace Go.Proofs.YtnegbdpggideiaaGreatDoor
namespace PW
section
open Go.RowKit cE Mem
def Ey(j:Nat)(u:Bool)(l:List UInt8):cc:=some (.cells 214 [if u then .ptr 0 0 else .raw (.pointer none),.own j])::(List.replicate (j - 1) none++[some (.row 5 1 l.length (eK l))])
theorem wP:∃i,Tryz.prog.info? 214=some i∧i.size=2:=by
 have h:(Tryz.prog.info? 214).map (·.size)=some 2:=by kernel_rfl
 obtain⟨i,h1,h2⟩:=Option.map_eq_some_iff.1 h
 exact⟨i,h1,h2⟩
theorem uR(v:Value)(w:World):(callFunc 219 #[v]).run Tryz.prog w= .ok (.value v) w:=by
 rw[run_callFunc_extern Tryz.func219 (by kernel_rfl) (by kernel_rfl) (by kernel_rfl) (e:=Extern.AbiNoEscape.same) (by kernel_rfl),Lib.run_noEscape]
 rfl
theorem qZ:AB Tryz.prog 26 9=some 5:=by kernel_rfl
theorem Hc(u:Bool)(l:List UInt8):bT Tryz.prog 207 [.ptr 0 0] (Ey 1 u l) (fun _ σ'=>σ'=Ey 1 true l):=by
 obtain⟨ji,hji,hjs⟩:=wP
 refine ct Tryz.func207 I Tryz.ntmps207 I ?_
 cases u
 ·refine aP<|bJ (fV I I) I I I ?_
  refine bJ (jF I I) I I I ?_
  refine bJ (aZ I) I I I ?_
  refine bJ (aR I (ba.tk.get I) I I I) I I I ?_
  refine bJ (Fw I (ba.pk.get I) I I) I I I (bn ?_)
  refine HO I ?_
  refine bG<|bJ (fV I I) I I I ?_
  refine bJ (fV I I) I I I ?_
  refine bJ (zI I Tryz.underlying212 Tryz.underlying241 hji (by rw[hjs];decide) I I (by decide)) I I I ?_
  refine bJ (yx I I I uR) I I I ?_
  refine bJ (uL I Tryz.underlying241 Tryz.underlying212 hji rfl rfl (by kernel_rfl)) I I I ?_
  refine bJ (jF I I) I I I ?_
  refine bJ (aZ I) I I I ?_
  refine bb (cb I (ba.tk.get I) I I I (Nat.le_of_ble_eq_true rfl)) I I (bn ?_)
  exact⟨_,.nil,rfl⟩
 ·refine aP<|bJ (fV I I) I I I ?_
  refine bJ (jF I I) I I I ?_
  refine bJ (aZ I) I I I ?_
  refine bJ (aR I (ba.tk.get I) I I I) I I I ?_
  refine bJ (rG I (ba.pk.get I) I I) I I I (bn ?_)
  refine qB I ?_
  refine aP<|bJ (fV I I) I I I ?_
  refine bJ (jF I I) I I I ?_
  refine bJ (aZ I) I I I ?_
  refine bJ (aR I (ba.tk.get I) I I I) I I I ?_
  refine bJ (fV I I) I I I ?_
  refine bJ (tJ I Tryz.underlying212 hji rfl rfl) I I I (bn ?_)
  refine qB I ?_
  exact ai ⟨_,.nil,rfl⟩
theorem J7(u:Bool)(l:List UInt8)(s:ByteArray)(hn:l.length+s.size≤1000000000):bT Tryz.prog 186 [.ptr 0 0,.raw (.string s)] (Ey 1 u l) (fun _ σ'=>σ'=Ey 2 true (l++s.data.toList)):=by
 refine ct Tryz.func186 I Tryz.ntmps186 I<|ab (.a 2 I<|.k [0,1] I)<|aP<|av 1 I<|cM I I (bT.mono (Hc u l) (fun _ σ' h=>?_))
 subst h
 refine aG [0,1] I ?_
 refine aP<|av 6 I<|b7 (pP I qZ rfl rfl rfl (by omega)) I<|av 3 I<|aG [1] I ?_
 refine ab (.a 1 I<|.v (wG I Tryz.underlying9 rfl) I<|.a 2 I<|.k [4,5] I)<|ao<|⟨_,az.of I,?_⟩
 have hl:(l++s.data.toList).length=l.length+s.size:=by simp
 unfold Ey
 rw[hl,←j8]
 rfl
theorem Hh(u:Bool)(l:List UInt8)(hl:0<l.length):bT Tryz.prog 189 [.ptr 0 0] (Ey 1 u l) (fun r _=>r= .raw (.string ⟨l.toArray⟩)):=by
 refine ct Tryz.func189 I Tryz.ntmps189 I ?_
 cases u
 all_goals
  refine ab (.a 1 I<|.k [0] I)<|iC 10 20 mixed (
   .val [0] I (aZ I) I I<|
   .val [3] I (aZ I) I I<|
   .val [4] I (aZ I) I I<|
   .val [5] I (aZ I) I I<|
   .val [6] I (we I I I hl) I I<|
   .val [0] I (aZ I) I I<|
   .val [8] I (aZ I) I I<|
   .val [9] I (aZ I) I I<|
   .val [10] I (aZ I) I I<|
   .val [11] I (aZ I) I I<|
   .nil) (by kernel_rfl) I I (aY (ks:=[7,12]) I) ?_
  refine b7 (vL I Tryz.underlying233 (by kernel_rfl) I I I hl) I<|av 1 I<|aG [2] I ?_
  exact ao<|⟨_,az.of I,rfl⟩
def JS(l:List UInt8):PV:=.raw (.string ⟨l.toArray⟩)
theorem nA(i:Nat)(hi:i<100):Can Tryz.prog 187 [num i] (· =JS (Lib.decDigits i)):=fun F w vs _ _ hR=>by
 obtain⟨v,rfl,h1⟩:=JB hR
 cases eo h1
 refine(Tryz.strconv_Itoa_small i hi w).mono ?_
 rintro e w' ⟨rfl,rfl⟩
 exact⟨_,rfl,Ext.refl _,_,rfl,.raw _⟩
open Net
def A5(l:List UInt8)(x:Option cJ):cc:=[some (.cells 214 [.ptr 0 0,.own 1]),some (.row 5 1 l.length (eK l)),x]
def Bl(l:List UInt8)(x:Option cJ):cc:=[some (.cells 214 [.ptr 0 0,.own 3]),none,x,some (.row 5 1 l.length (eK l))]
theorem AQ(l:List UInt8)(x:Option cJ):bT Tryz.prog 207 [.ptr 0 0] (A5 l x) (fun _ σ'=>σ'=A5 l x):=by
 obtain⟨ji,hji,hjs⟩:=wP
 refine ct Tryz.func207 I Tryz.ntmps207 I<|aP<|bJ (fV I I) I I I ?_
 refine bJ (jF I I) I I I ?_
 refine bJ (aZ I) I I I ?_
 refine bJ (aR I (ba.tk.get I) I I I) I I I ?_
 refine bJ (rG I (ba.pk.get I) I I) I I I (bn ?_)
 refine qB I ?_
 refine aP<|bJ (fV I I) I I I ?_
 refine bJ (jF I I) I I I ?_
 refine bJ (aZ I) I I I ?_
 refine bJ (aR I (ba.tk.get I) I I I) I I I ?_
 refine bJ (fV I I) I I I ?_
 refine bJ (tJ I Tryz.underlying212 hji rfl rfl) I I I (bn ?_)
 refine qB I ?_
 exact ai ⟨_,.nil,rfl⟩
theorem Ie(l:List UInt8)(x:Option cJ)(s:ByteArray)(hn:l.length+s.size≤1000000000):bT Tryz.prog 186 [.ptr 0 0,.raw (.string s)] (A5 l x) (fun _ σ'=>σ'=Bl (l++s.data.toList) x):=by
 refine ct Tryz.func186 I Tryz.ntmps186 I<|ab (.a 2 I<|.k [0,1] I)<|aP<|av 1 I<|cM I I (bT.mono (AQ l x) (fun _ σ' h=>?_))
 subst h
 refine aG [0,1] I ?_
 refine aP<|av 6 I<|b7 (pP I qZ rfl rfl rfl (by omega)) I<|av 3 I<|aG [1] I ?_
 refine ab (.a 1 I<|.v (wG I Tryz.underlying9 rfl) I<|.a 2 I<|.k [4,5] I)<|ao<|⟨_,az.of I,?_⟩
 have hl:(l++s.data.toList).length=l.length+s.size:=by simp
 unfold Bl
 rw[hl,←j8]
 rfl
theorem ET(l:List UInt8)(x:Option cJ)(c:UInt8)(hn:l.length≤1000000000):bT Tryz.prog 188 [.ptr 0 0,.raw (.int .u8 c.toNat)] (A5 l x) (fun _ σ'=>σ'=Bl (l++[c]) x):=by
 refine ct Tryz.func188 I Tryz.ntmps188 I<|ab (.a 1 I<|.k [0,1] I)<|aP<|av 1 I<|cM I I (bT.mono (AQ l x) (fun _ σ' h=>?_))
 subst h
 refine aG [0,1] I ?_
 refine aP<|av 7 I<|b7 (bg I (ba.rk.get I) I I I I (by unfold maxLen;omega)) I<|av 3 I<|aG [] I ?_
 refine ab (.a 1 I<|.k [4] I)<|ao<|⟨_,az.of I,?_⟩
 unfold Bl
 rw[←j8]
 simp only[List.length_append,List.length_singleton]
 rfl
theorem I7{P:Program}{M:Nat}{c:Code}{t:cg}{Q:Exit→St→Prop}{l:List UInt8}{ty:TypeId}{xs:List PV}[aL xs](hT:nv [0,3,2] t t)(h:W P M 0 c ⟨t,A5 l (some (.cells ty xs))⟩ Q):W P M 0 c ⟨t,Bl l (some (.cells ty xs))⟩ Q:=
 dI [0,3,2] hT (.kept rfl (.cells (aH.cons (Ren.ptr (i:=0) I)<|aH.cons (Ren.own (i:=1) I) aH.nil))<|.kept rfl (.row aH.pure)<|.kept rfl (.cells aH.pure)<|.nil) I I h
theorem KC{P:Program}{M:Nat}{c:Code}{t:cg}{Q:Exit→St→Prop}{l:List UInt8}{x:Option cJ}(hT:nv [0,3] t t)(h:W P M 0 c ⟨t,Ey 1 true l⟩ Q):W P M 0 c ⟨t,Bl l x⟩ Q:=
 dI [0,3] hT (.kept rfl (.cells (aH.cons (Ren.ptr (i:=0) I)<|aH.cons (Ren.own (i:=1) I) aH.nil))<|.kept rfl (.row aH.pure)<|.nil) I I h
theorem KL{P:Program}{M:Nat}{c:Code}{t:cg}{Q:Exit→St→Prop}{l:List UInt8}(hT:nv [0,2] t t)(h:W P M 0 c ⟨t,Ey 1 true l⟩ Q):W P M 0 c ⟨t,Ey 2 true l⟩ Q:=
 dI [0,2] hT (.kept rfl (.cells (aH.cons (Ren.ptr (i:=0) I)<|aH.cons (Ren.own (i:=1) I) aH.nil))<|.kept rfl (.row aH.pure)<|.nil) I I h
theorem CJ(s:List bU)(i:Nat)(g:bU)(h:s[i]? =some g)(n:Nat):ew n (s.take (i+1))=(((ew n (s.take i)++[32])++Lib.decDigits g.kind.toNat)++[58])++Lib.decDigits g.num.toNat:=by
 unfold ew
 rw[List.take_add_one,h]
 simp[FV]
theorem zB{s:List bU}(h:gW s)(i:Nat):gW (s.take i):=fun g hg=>h g (List.mem_of_mem_take hg)
theorem BN{n:Nat}{s:List bU}(hn:n<100)(h:gW s):(ew n s).length≤2+s.length*6:=by
 have h1:=kO hn
 have h2:=Fs h
 unfold ew
 rw[List.length_append]
 omega
theorem CX(n:Nat)(s:List bU)(hn:n<100)(hs:gW s)(hl:s.length≤1000):Can Tryz.prog 159 [num n,ca s] (· =JS (ew n s)):=by
 refine aI Tryz.func159 I Tryz.ntmps159 I<|ab (.a 1 I<|.k [0,1] I)<|aP<|av 1 I<|aG [0,1,5] I ?_
 refine cw 0 1 5 1 I I ?_
 refine eI (σ':=Ey 1 false []) I ?_
 refine aP<|av 1 I<|fe I (nA n hn) I<|cM I I (bT.mono (J7 false [] ⟨(Lib.decDigits n).toArray⟩ (show([]:List UInt8).length+(Lib.decDigits n).toArray.size≤1000000000 by have:=kO hn;simp;omega)) (fun _ σ' h=>?_))
 subst h
 refine aG [1,5] I ?_
 refine KL (.cons 1 I Ren.pure<|.cons 5 I (Ren.ptr (i:=0) I)<|.nil) ?_
 refine aj<|ab (.a 3 I<|.k [5,11,12,13] I)<|aw<|eS [5,11,12,13] I<|bu (fun r st=>∃i,i≤s.length∧r=s.length - i∧st=⟨[(5,.ptr 0 0),(11,ca s),(12,num s.length),(13,num i)],Ey 1 true (ew n (s.take i))⟩) s.length ⟨0,by omega,by omega,by simp[ew]⟩ ?_
 rintro r st ⟨i,hi,rfl,rfl⟩
 refine ab (.a 1 I<|.k [5,11,12,13,14] I)<|aj<|ah I (fun hc=>?_) (fun hc=>?_)
 ·have hlt:i<s.length:=by have:=of_decide_eq_true hc;omega
  obtain⟨g,hg,_⟩:=Cf s i hlt
  obtain⟨a1,a2,a3,a4⟩:=hs g (List.mem_of_getElem? hg)
  have hst:=CJ s i g hg n
  have hln:=BN hn (zB hs i)
  rw[List.length_take]at hln
  obtain⟨gk,gn⟩:=g
  simp only at a1 a2 a3 a4 hst
  obtain⟨ka,rfl⟩:=Int.eq_ofNat_of_zero_le a1
  obtain⟨na,rfl⟩:=Int.eq_ofNat_of_zero_le a3
  have hk2:=kO (n:=ka) (by omega)
  have hn2:=kO (n:=na) (by omega)
  rw[Int.toNat_natCast,Int.toNat_natCast]at hst
  have hmin:min i s.length=i:=by omega
  rw[hmin]at hln
  generalize hl0:ew n (s.take i)=l0 at*
  refine ai<|aj<|aw<|aP<|bw (aM ((i*2)) I) I<|bw (fG I (gg s i _ hg) I) I<|av 2 I<|aG [5,7,11,12,13] I ?_
  refine eI (σ':=A5 l0 (some (.cells 103 (oL ⟨(ka:Int),(na:Int)⟩)))) I ?_
  refine aP<|cM I I (bT.mono (ET l0 _ 32 (by omega)) (fun _ σ' h=>?_))
  subst h
  refine aG [5,7,11,12,13] I ?_
  refine I7 (.cons 5 I (Ren.ptr (i:=0) I)<|.cons 7 I (Ren.ptr (i:=2) I)<|.cons 11 I Ren.pure<|.cons 12 I Ren.pure<|.cons 13 I Ren.pure<|.nil) ?_
  refine aP<|av 1 I<|bw (aJ I (rfl)) I<|fe I (nA ka (by omega)) I<|cM I I (bT.mono (Ie (l0++[32]) _ ⟨(Lib.decDigits ka).toArray⟩ (show(l0++[32]).length+(Lib.decDigits ka).toArray.size≤1000000000 by simp;omega)) (fun _ σ' h=>?_))
  subst h
  refine aG [5,7,11,12,13] I ?_
  refine I7 (.cons 5 I (Ren.ptr (i:=0) I)<|.cons 7 I (Ren.ptr (i:=2) I)<|.cons 11 I Ren.pure<|.cons 12 I Ren.pure<|.cons 13 I Ren.pure<|.nil) ?_
  refine aP<|cM I I (bT.mono (ET ((l0++[32])++Lib.decDigits ka) _ 58 (by simp;omega)) (fun _ σ' h=>?_))
  subst h
  refine aG [5,7,11,12,13] I ?_
  refine I7 (.cons 5 I (Ren.ptr (i:=0) I)<|.cons 7 I (Ren.ptr (i:=2) I)<|.cons 11 I Ren.pure<|.cons 12 I Ren.pure<|.cons 13 I Ren.pure<|.nil) ?_
  refine bG<|av 1 I<|bw (aJ I (rfl)) I<|fe I (nA na (by omega)) I<|cM I I (bT.mono (Ie (((l0++[32])++Lib.decDigits ka)++[58]) _ ⟨(Lib.decDigits na).toArray⟩ (show(((l0++[32])++Lib.decDigits ka)++[58]).length+(Lib.decDigits na).toArray.size≤1000000000 by simp;omega)) (fun _ σ' h=>?_))
  subst h
  refine aG [5,11,12,13] I ?_
  refine KC (.cons 5 I (Ren.ptr (i:=0) I)<|.cons 11 I Ren.pure<|.cons 12 I Ren.pure<|.cons 13 I Ren.pure<|.nil) ?_
  refine aC (.v (aV I) I<|.a 1 I<|.k [5,11,12,13] I) ?_
  exact⟨s.length - (i+1),by omega,i+1,by omega,rfl,by rw[hst];rfl⟩
 ·have hie:i=s.length:=by have:=of_decide_eq_false hc;omega
  subst hie
  rw[List.take_length]
  refine bh<|aP<|cM I I (bT.mono (Hh true (ew n s) (by have:=kO hn;unfold ew;simp;omega)) (fun _ σ' h=>?_))
  subst h
  refine av 1 I<|aG [4] I ?_
  exact ao<|⟨_,_,az.of I,ay.pure,rfl⟩
theorem yg(T:an)(L:List de)(n:Int)(hv:aq T=true)(hL:(L.length:Int)=T.nodes)(hok:∀(i:Nat) x,L[i]? =some x→x.node=(i:Int)∧cV T x=true)(hn:bm T n=true):Can Tryz.prog 157 [aN T,eG L,num n] (· =num 0):=by
 have hN:=fW hv
 obtain⟨q1,hq1⟩:∃q,aq T=q:=⟨_,rfl⟩
 obtain⟨q2,hq2⟩:∃q,decide ((L.length:Int)≠T.nodes)=q:=⟨_,rfl⟩
 refine aI Tryz.func157 I Tryz.ntmps157 I<|ab (.a 2 I<|.k [1,2,3] I)<|aj<|bE 18 (.raw (.bool (!q1 ||q2))) [1,2,3] I ?_ ?_
 ·refine .a 1 I<|.c rfl (hq1▸eN T) I<|.a 2 I<|?_
  cases q1
  ·exact .a 6 I<|.k [18,1,2,3] I
  ·exact .a 3 I<|.v (aJ I (rfl)) I<|.v (cd I (hq2)) I<|.a 1 I<|.k [18,1,2,3] I
 refine ah I (fun hc=>?_) (fun hc=>?_)
 ·rw[←hq1,hv,←hq2,decide_eq_false (by rw[hL];simp)]at hc
  cases hc
 ·refine ai<|aj<|ab (.a 3 I<|.k [2,3,19,20,21] I)<|aw<|eS [2,3,19,20,21] I<|bu (fun r st=>∃i,i≤L.length∧r=L.length - i∧st=⟨[(2,num n),(3,.bc (bC T) 0),(19,eG L),(20,num L.length),(21,num i)],[]⟩) L.length ⟨0,by omega,by omega,rfl⟩ ?_
  rintro r st ⟨i,hi,rfl,rfl⟩
  refine ab (.a 1 I<|.k [2,3,19,20,21,22] I)<|aj<|ah I (fun hc=>?_) (fun hc=>?_)
  ·have hlt:i<L.length:=by have:=of_decide_eq_true hc;omega
   obtain⟨x,hx⟩:∃x,L[i]? =some x:=⟨_,List.getElem?_eq_getElem hlt⟩
   obtain⟨h1,h2⟩:=hok i x hx
   obtain⟨q3,hq3⟩:∃q,decide (x.node≠(i:Int))=q:=⟨_,rfl⟩
   obtain⟨q4,hq4⟩:∃q,cV T x=q:=⟨_,rfl⟩
   refine ai<|aj<|aw<|aP<|av 1 I<|bw (aM ((i*3)) I) I<|bw (fG I (kI L i x hx) I) I<|av 3 I<|aG [2,3,7,8,19,20,21] I ?_
   refine bE 35 (.raw (.bool (q3|| !q4))) [2,3,19,20,21] I ?_ ?_
   ·refine .a 1 I<|.v (aJ I ((rfl:(eR x)[0]? =some (num x.node)))) I<|.a 1 I<|.v (cd I (hq3)) I<|.a 1 I<|?_
    cases q3
    ·exact .a 1 I<|.v (fG I ((rfl:(eR x).take 3=eR x)) I) I<|.c rfl (hq4▸sA T x) I<|.a 2 I<|.k [35,2,3,19,20,21] I
    ·exact .a 5 I<|.k [35,2,3,19,20,21] I
   refine ah I (fun hc=>?_) (fun hc=>?_)
   ·rw[←hq3,←hq4,h2,decide_eq_false (by rw[h1];simp)]at hc
    cases hc
   ·refine ai<|dI [] (.c 2<|.c 3<|.c 19<|.c 20<|.c 21<|.nil) .nil rfl rfl ?_
    refine aC (.v (aV I) I<|.a 1 I<|.k [2,3,19,20,21] I) ?_
    exact⟨L.length - (i+1),by omega,i+1,by omega,rfl,rfl⟩
  ·have hie:i=L.length:=by have:=of_decide_eq_false hc;omega
   refine bh<|aj<|ab (.a 2 I<|.c rfl (hn▸dF T n) I<|.a 1 I<|.k [40] I)<|ah I (fun hc=>?_) (fun hc=>?_)
   ·cases hc
   ·exact ai<|ab (.a 1 I<|.k [6] I)<|ao<|⟨_,_,az.of I,ay.pure,rfl⟩
open eY
theorem cj.to{P:Program}{σ σ' σ'':cc}{t:cg}{o:Oper}{p p':PV}(h:cj P σ t o p σ')(hp:p=p')(hs:σ'=σ''):cj P σ t o p' σ'':=by subst hp;subst hs;exact h
theorem Jl{P:Program}{σ:cc}{t:cg}{o:Oper}{x y:Operand}{ty tz:TypeId}{p:PV}{q:Bool}(ho:o.op= .binOp .neq ty x y tz)(hk:pK P ty=true)(hx:aF t x=some p)(hy:aF t y=some (.raw (.pointer none)))(h:(p= .raw (.pointer none)∧q=false)∨∃xs k,p= .bc xs k∧q=true):bA P σ t o (.raw (.bool q)):=by
 rcases h with⟨rfl,rfl⟩|⟨xs,k,rfl,rfl⟩
 ·exact Hz ho hk hx hy
 ·exact FK ho hk hx hy
def GN:PV:=.func 158 [.ptr 5 0,.ptr 6 0,.ptr 3 0,.ptr 0 0,.ptr 1 0,.ptr 7 0]
def P8(T:an)(tbs:List de)(p1:dv)(j:Nat)(kv:List (List UInt8×PV))(rest:cc):cc:=
 some (.cells 25 (bC T))::some (.cells 43 [eG tbs])::some (.cells 66 (cL p1))::some (.cells 148 [.own (j+8)])::some (.mp (gb ql kv))::
 some (.cells 188 [.own 4])::some (.cells 4 [flag false])::some (.cells 189 [GN])::rest
abbrev fh(L:List PV):Option cJ:=some (.row 147 1 L.length L)
structure gC (j:Nat) (rest rest':cc):Prop where
 len:rest.length≤rest'.length
 same:∀i,i<rest.length→i≠j→rest'[i]? =rest[i]?
theorem gC.trans{j j':Nat}{a b c:cc}(h:gC j a b)(k:gC j' b c)(hj:j'=j∨a.length≤j'):gC j a c:=
 ⟨Nat.le_trans h.len k.len,fun i h1 h2=>(k.same i (Nat.lt_of_lt_of_le h1 h.len) (by omega)).trans (h.same i h1 h2)⟩
section
variable {T:an} {tb:Nat→de} {p0:dv} {Φ:Nat→Nat→List bU→Prop}
def KF(T:an)(tb:Nat→de)(p0:dv)(Φ:Nat→Nat→List bU→Prop)(tbs:List de)(p1:dv)(op:FE)(j:Nat)(rest:cc)(n:Nat)(s:List bU)(r:PV)(σ':cc):Prop:=
 ∃c kv' L' j' rest',Good T tb p0 Φ r n s c∧σ'=P8 T tbs p1 j' kv' rest'∧rest'[j']? =some (fh L')∧gC j rest rest'∧(j'=j∨rest.length≤j')∧nJ T tb p0 Φ op kv' L'
structure JF (T:an) (tb:Nat→de) (p0:dv) (Φ:Nat→Nat→List bU→Prop) (op:FE) (j0:Nat) (rest0:cc) (n:Nat) (s:List bU) (kv:List (List UInt8×PV)) (L:List PV) (j jr:Nat) (rest:cc) (k:Nat) (vs:List PV) (cs:List Int):Prop where
 HX:gC j0 rest0 rest
 len:rest0.length+5≤rest.length
 x:rest[rest0.length+1]? =some (some (.cells 152 [num n,num (bK T tb p0 n s).cT,au (bK T tb p0 n s).ax,.own (jr+8),flag true,num (eQ (bK T tb p0 n s).ax cs)]))
 nb:rest[rest0.length+3]? =some (some (.cells 66 (cL (bK T tb p0 n s).ev)))
 row:rest[jr]? =some (fh vs)
 al:rest[j]? =some (fh L)
 Kt:rest0.length+4≤jr
 j1:j=rest0.length+2∨rest0.length+5≤j
 ne:j≠jr
 ok:nJ T tb p0 Φ ((rest0.length+1,n,s)::op) kv L
 lv:vs.length=k
 lc:cs.length=k
 ch:∀i,i<k→Good T tb p0 Φ (vs.getD i .any) (aS T ((bK T tb p0 n s).ax.getD i 0).toNat).toNat (bK T tb p0 n s).ev.stack (cs.getD i 0)
instance (l:List bU):gu (ca l):=by unfold ca;infer_instance
instance (p:dv):dz (cL p):=by unfold cL;infer_instance
theorem Kc:vu Tryz.prog 188=some (9,147):=by kernel_rfl
theorem LB:H7 Tryz.prog 147=some (.pointer none):=by kernel_rfl
theorem Kb:iN Tryz.prog 9 ql:=IJ Tryz.underlying9
theorem cU{α:Type}{l:List α}{a:α}{i:Nat}(h:l.length=i):(l++[a])[i]? =some a:=by subst h;simp
theorem bS{α:Type}{l:List α}{a b:α}{i:Nat}(h:l[i]? =some b):(l++[a])[i]? =some b:=by
 rw[List.getElem?_append_left (List.getElem?_eq_some_iff.1 h).1];exact h
theorem aD{α:Type}{l:List α}{a:α}{b:Option α}{i j:Nat}(h:l[i]? =b)(hne:j≠i):(l.set j a)[i]? =b:=by
 rw[List.getElem?_set,if_neg hne];exact h
theorem aW{α:Type}{l:List α}{a b:α}{i:Nat}(h:l[i]? =some b):(l.set i a)[i]? =some a:=by
 rw[List.getElem?_set,if_pos rfl,if_pos (List.getElem?_eq_some_iff.1 h).1]
theorem gC.refl(j:Nat)(a:cc):gC j a a:=⟨Nat.le_refl _,fun _ _ _=>rfl⟩
theorem gC.app{j:Nat}{a b:cc}(h:gC j a b)(x:Option cJ):gC j a (b++[x]):=
 ⟨by rw[List.length_append];have:=h.len;omega,fun i h1 h2=>by rw[List.getElem?_append_left (Nat.lt_of_lt_of_le h1 h.len)];exact h.same i h1 h2⟩
theorem gC.put{j:Nat}{a b:cc}(h:gC j a b){k:Nat}(hk:k=j∨a.length≤k)(x:Option cJ):gC j a (b.set k x):=
 ⟨by rw[List.length_set];exact h.len,fun i h1 h2=>by rw[List.getElem?_set,if_neg (by omega)];exact h.same i h1 h2⟩
theorem uP{tbs:List de}{p1:dv}{j i:Nat}{blk:cJ}{kv kv':List (List UInt8×PV)}{rest rest':cc}(hl:rest'.length=rest.length)(h0:rest'[i]? =some none)
  (h:∀k,k≠i→(rest'[k]? =rest[k]? ∨∃b b',rest[k]? =some (some b)∧rest'[k]? =some (some b')∧ur (i+8) blk b b')) (hk:kv'.map (·.1)=kv.map (·.1)) (hf:jI (i+8) blk (kv.map (·.2)) (kv'.map (·.2))):
  zz (i+8) blk (P8 T tbs p1 j kv rest) (P8 T tbs p1 j kv' rest'):=by
 refine⟨by simp[P8,hl],h0,fun m hm=>?_⟩
 match m,hm with
 |0,_=>exact .inl rfl
 |1,_=>exact .inl rfl
 |2,_=>exact .inl rfl
 |3,_=>exact .inl rfl
 |4,_=>
  refine .inr ⟨_,_,rfl,rfl,.mp ?_ ?_⟩
  ·have:∀l:List (List UInt8×PV),(gb ql l).map (·.1)=(l.map (·.1)).map ql:=fun l=>by simp[gb]
   rw[this,this,hk]
  ·have:∀l:List (List UInt8×PV),(gb ql l).map (·.2)=l.map (·.2):=fun l=>by simp[gb]
   rw[this,this]
   exact hf
 |5,_=>exact .inl rfl
 |6,_=>exact .inl rfl
 |7,_=>exact .inl rfl
 |k+8,hm=>exact h k (by omega)
theorem JF.ev(R:iX T tb p0 Φ){u n:Nat}{s:List bU}(h:Φ u n s)(hne:(bK T tb p0 n s).ax≠[]):cP (bK T tb p0 n s).ev (bK T tb p0 n s).ev.stack=cP p0 (bK T tb p0 n s).ev.stack:=by
 rcases R.step h with h|⟨_,h,_⟩
 ·exact absurd h hne
 ·generalize bK T tb p0 n s=O at*
  obtain⟨ax,ev,cT⟩:=O
  simp only at h ⊢
  unfold cA at h
  injection h with _ h2 _
  rw[h2]
  rfl
set_option maxHeartbeats 4000000 in
theorem Ct(R:iX T tb p0 Φ)(hv:aq T=true)(h12:T.nodes≤12){U:List (Nat×List bU)}(hU:∀ {u n s},Φ u n s→(n,s)∈U)(hUl:U.length≤1000000)(tbs:List de)(htb:∀n:Nat,(n:Int)<T.nodes→tbs[n]? =some (tb n))(p1:dv):
  ∀(u n:Nat) (p:dv),Φ u n p.stack→cP p p.stack=cP p0 p.stack→∀(op:FE) (kv:List (List UInt8×PV)) (L:List PV) (j:Nat) (rest:cc),rest[j]? =some (fh L)→nJ T tb p0 Φ op kv L→(∀x∈op,CU T tb p0 x.2.1 x.2.2 n p.stack)→
   bT Tryz.prog 158 [num n,dx p,.ptr 5 0,.ptr 6 0,.ptr 3 0,.ptr 0 0,.ptr 1 0,.ptr 7 0] (P8 T tbs p1 j kv rest) (KF T tb p0 Φ tbs p1 op j rest n p.stack):=by
 intro u
 induction u using Nat.strongRecOn with
 |_ u ih=>
 intro n p hΦ hp op kv L j rest hj hok hop
 have hnn:=R.node hΦ
 obtain⟨hsm,hsl⟩:=R.small hΦ
 obtain⟨pv,hpv⟩:∃pv,(dB (ew n p.stack) kv).getD (.raw (.pointer none))=pv:=⟨_,rfl⟩
 obtain⟨q,hq1,hq2,hq3⟩:∃q,((pv= .raw (.pointer none)∧q=false)∨∃xs k,pv= .bc xs k∧q=true)∧(q=false→dB (ew n p.stack) kv=none)∧(q=true→∃vs c,pv= .bc (dO n (bK T tb p0 n p.stack) vs c) 0∧Good T tb p0 Φ pv n p.stack c):=by
  cases hl:dB (ew n p.stack) kv with
  |none=>exact⟨false,.inl ⟨by rw[←hpv,hl];rfl,rfl⟩,fun _=>rfl,fun h=>(by cases h)⟩
  |some v=>
   obtain⟨c,hg⟩:=hok.EK R h12 hΦ hop hl
   have hvv:pv=v:=by rw[←hpv,hl];rfl
   obtain⟨vs,cs,e1,_⟩:=hg.parts
   exact⟨true,.inr ⟨_,_,hvv.trans e1,rfl⟩,fun h=>(by cases h),fun _=>⟨vs,c,hvv.trans e1,hvv▸hg⟩⟩
 have hjl:=(List.getElem?_eq_some_iff.1 hj).1
 refine ct Tryz.func158 I Tryz.ntmps158 I<|aP<|b7 (cj.to (fx I I I) (p':=.ptr (rest.length+8) 0) (σ'':=P8 T tbs p1 j kv (rest++[some (.cells 66 (cL p))])) I I) I<|av 1 I<|aG [0,2,3,4,5,6,7,9] I ?_
 obtain⟨r1,hr1⟩:∃r1,rest++[some (.cells 66 (cL p))]=r1:=⟨_,rfl⟩
 have l1:r1.length=rest.length+1:=by rw[←hr1];simp
 have k1:gC j rest r1:=hr1▸(gC.refl j rest).app _
 have b1:r1[rest.length]? =some (some (.cells 66 (cL p))):=hr1▸cU rfl
 have j1:r1[j]? =some (fh L):=hr1▸bS hj
 rw[hr1]
 refine ab (.a 2 I<|.v (aR I (ba.tk.get I) I b1 rfl) I<|.c rfl (CX n p.stack (by omega) hsm hsl) I<|.a 1 I<|.k [0,2,3,4,5,6,7,9,11] I)<|aj<|ab (.a 2 I<|.v (vD Kb rfl Kc LB rfl rfl rfl (o3 _) hpv) I<|.a 1 I<|.k [0,2,3,4,5,6,7,9,11,12] I)<|ab (.a 1 I<|.v (Jl I (ba.pk.get I) I I hq1) I<|.k [0,2,3,4,5,6,7,9,11,12,26] I)<|ah I (fun hc=>?_) (fun hc=>?_)
 ·obtain⟨vs0,c0,e0,hg0⟩:=hq3 hc
  subst e0
  refine aP<|av 7 I<|bb (cj.to (cb I (ba.tk.get I) I I I (Nat.le_of_ble_eq_true rfl)) (σ'':=P8 T tbs p1 j kv r1) I I) I I<|aG [12] I ?_
  exact ab (.a 2 I<|.k [10] I)<|ao<|⟨_,az.of I,c0,kv,L,j,r1,hg0,rfl,j1,k1,.inl rfl,hok⟩
 ·have hno:=tR (hq2 hc)
  have hno2:=oN (p:=PV.ptr (rest.length+1+8) 0) (hq2 hc)
  refine ai<|aP<|av 2 I<|b7 (cj.to (fx I I I) (p':=.ptr (rest.length+1+8) 0) (σ'':=P8 T tbs p1 j kv (r1++[some (.cells 152 [num n,num 0,.raw (.slice none 0 0),.raw (.slice none 0 0),flag true,num 0])])) (by rw[←l1];rfl) I) I<|av 1 I<|aG [0,2,3,4,5,6,7,9,11,13] I ?_
  obtain⟨r2,hr2⟩:∃r2,r1++[some (.cells 152 [num n,num 0,.raw (.slice none 0 0),.raw (.slice none 0 0),flag true,num 0])]=r2:=⟨_,rfl⟩
  have l2:r2.length=rest.length+2:=by rw[←hr2];simp[l1]
  have k2:gC j rest r2:=hr2▸k1.app _
  have b2:r2[rest.length]? =some (some (.cells 66 (cL p))):=hr2▸bS b1
  have x2:r2[rest.length+1]? =some (some (.cells 152 [num n,num 0,.raw (.slice none 0 0),.raw (.slice none 0 0),flag true,num 0])):=hr2▸cU l1
  have j2:r2[j]? =some (fh L):=hr2▸bS j1
  rw[hr2]
  refine aP<|av 3 I<|bb (cj.to (ow Kb rfl Kc rfl rfl rfl (o3 _) I) (σ'':=P8 T tbs p1 j (kv++[(ew n p.stack,PV.ptr (rest.length+1+8) 0)]) r2) I (by rw[←hno2];rfl)) I I<|aG [0,3,4,5,6,7,9,13] I ?_
  have hfew:=hok.Jv R h12 hU
  have hlen:=hok.len
  refine aP<|av 3 I<|b7 (cj.to (σ:=P8 T tbs p1 j (kv++[(ew n p.stack,PV.ptr (rest.length+1+8) 0)]) r2) (bg (m:=1) (n:=L.length) (xs:=L) I (ba.rk.get I) I j2 rfl rfl ⟨by unfold maxLen;omega,by omega⟩) (p':=.own (rest.length+2+8)) (σ'':=P8 T tbs p1 j (kv++[(ew n p.stack,PV.ptr (rest.length+1+8) 0)]) (r2.set j none++[fh (L++[PV.ptr (rest.length+1+8) 0])])) (by rw[←l2];rfl) (by unfold fh;rw[List.length_append];rfl)) I<|bb (cj.to (cb I (ba.tk.get I) I I I (Nat.le_of_ble_eq_true rfl)) (σ'':=P8 T tbs p1 (rest.length+2) (kv++[(ew n p.stack,PV.ptr (rest.length+1+8) 0)]) (r2.set j none++[fh (L++[PV.ptr (rest.length+1+8) 0])])) I I) I I<|aG [0,3,5,6,7,9,13] I ?_
  obtain⟨r3,hr3⟩:∃r3,r2.set j none++[fh (L++[PV.ptr (rest.length+1+8) 0])]=r3:=⟨_,rfl⟩
  have l3:r3.length=rest.length+3:=by rw[←hr3];simp[l2]
  have k3:gC j rest r3:=hr3▸(k2.put (.inl rfl) _).app _
  have b3:r3[rest.length]? =some (some (.cells 66 (cL p))):=hr3▸bS (aD b2 (by omega))
  have x3:r3[rest.length+1]? =some (some (.cells 152 [num n,num 0,.raw (.slice none 0 0),.raw (.slice none 0 0),flag true,num 0])):=hr3▸bS (aD x2 (by omega))
  have j3:r3[rest.length+2]? =some (fh (L++[PV.ptr (rest.length+1+8) 0])):=hr3▸cU (by simp[l2])
  rw[hr3]
  have hok3:=hok.push (i:=rest.length+1) hΦ hno
  obtain⟨kv3,hkv3⟩:∃k,kv++[(ew n p.stack,PV.ptr (rest.length+1+8) 0)]=k:=⟨_,rfl⟩
  obtain⟨L3,hL3⟩:∃k,L++[PV.ptr (rest.length+1+8) 0]=k:=⟨_,rfl⟩
  rw[hkv3,hL3]at hok3
  rw[hL3]at j3
  rw[hkv3]
  refine aP<|av 1 I<|bb (cj.to (σ:=P8 T tbs p1 (rest.length+2) kv3 r3) (cb I (ba.tk.get I) I I b3 (Nat.le_of_ble_eq_true rfl)) (σ'':=P8 T tbs p1 (rest.length+2) kv3 (r3.set rest.length (some (.cells 66 (cL (cP p p.stack)))))) I I) I I<|aG [0,3,5,6,7,9,13] I ?_
  obtain⟨r4,hr4⟩:∃r4,r3.set rest.length (some (.cells 66 (cL (cP p p.stack))))=r4:=⟨_,rfl⟩
  have l4:r4.length=rest.length+3:=by rw[←hr4];simp[l3]
  have k4:gC j rest r4:=hr4▸k3.put (.inr (Nat.le_refl _)) _
  have b4:r4[rest.length]? =some (some (.cells 66 (cL (cP p p.stack)))):=hr4▸aW b3
  have x4:r4[rest.length+1]? =some (some (.cells 152 [num n,num 0,.raw (.slice none 0 0),.raw (.slice none 0 0),flag true,num 0])):=hr4▸aD x3 (by omega)
  have j4:r4[rest.length+2]? =some (fh L3):=hr4▸aD j3 (by omega)
  rw[hr4]
  refine aP<|b7 (cj.to (mV I (ba.zk.get I)) (p':=.ptr (rest.length+3+8) 0) (σ'':=P8 T tbs p1 (rest.length+2) kv3 (r4++[some (.cells 66 [num 0,num 0,num 0,num 0,.raw (.slice none 0 0),num 0])])) (by rw[←l4];rfl) I) I<|aG [0,3,5,6,7,9,13,14] I ?_
  obtain⟨r5,hr5⟩:∃r5,r4++[some (.cells 66 [num 0,num 0,num 0,num 0,.raw (.slice none 0 0),num 0])]=r5:=⟨_,rfl⟩
  have l5:r5.length=rest.length+4:=by rw[←hr5];simp[l4]
  have k5:gC j rest r5:=hr5▸k4.app _
  have b5:r5[rest.length]? =some (some (.cells 66 (cL (cP p p.stack)))):=hr5▸bS b4
  have x5:r5[rest.length+1]? =some (some (.cells 152 [num n,num 0,.raw (.slice none 0 0),.raw (.slice none 0 0),flag true,num 0])):=hr5▸bS x4
  have j5:r5[rest.length+2]? =some (fh L3):=hr5▸bS j4
  have n5:r5[rest.length+3]? =some (some (.cells 66 [num 0,num 0,num 0,num 0,.raw (.slice none 0 0),num 0])):=hr5▸cU l4
  rw[hr5]
  have hO:dq T (tb n) (cP p p.stack)=bK T tb p0 n p.stack:=by rw[hp];rfl
  have hbr:=R.step hΦ
  have hpk:=fun h=>JF.ev R hΦ h
  obtain⟨O,hOO⟩:∃O,bK T tb p0 n p.stack=O:=⟨_,rfl⟩
  rw[hOO]at hO hbr hpk
  have htn:=htb n hnn
  have htl:=(List.getElem?_eq_some_iff.1 htn).1
  have hal:O.ax.length≤1000:=by
   rcases hbr with h|⟨h,_⟩
   ·rw[h];simp
   ·exact h
  refine uE 20 3 (P8 T tbs p1 (rest.length+2) kv3 r5::P8 T tbs p1 (rest.length+2) kv3 (r5.set (rest.length+1) (some (.cells 152 [num n,num 0,au O.ax,.raw (.slice none 0 0),flag true,num 0])))::P8 T tbs p1 (rest.length+2) kv3 ((r5.set (rest.length+1) (some (.cells 152 [num n,num 0,au O.ax,.raw (.slice none 0 0),flag true,num 0]))).set (rest.length+3) (some (.cells 66 (cL O.ev))))::P8 T tbs p1 (rest.length+2) kv3 (((r5.set (rest.length+1) (some (.cells 152 [num n,num 0,au O.ax,.raw (.slice none 0 0),flag true,num 0]))).set (rest.length+3) (some (.cells 66 (cL O.ev)))).set (rest.length+1) (some (.cells 152 [num n,num O.cT,au O.ax,.raw (.slice none 0 0),flag true,num 0])))::[]) (⟨_,none,0,0⟩::⟨_,none,0,2⟩::⟨aN T,none,0,0⟩::⟨_,none,0,0⟩::⟨_,none,0,0⟩::⟨_,none,0,0⟩::⟨fv (tb n),none,0,0⟩::⟨dx (cP p p.stack),none,0,0⟩::⟨vv O,none,0,0⟩::⟨vv O,none,0,0⟩::⟨au O.ax,none,0,0⟩::⟨dx O.ev,none,0,1⟩::⟨num O.cT,none,0,2⟩::⟨_,none,0,0⟩::⟨_,none,0,0⟩::⟨_,some 0,0,0⟩::⟨_,some 1,0,0⟩::⟨_,none,2,2⟩::⟨_,none,2,2⟩::⟨_,some 2,0,0⟩::[]) _ mixed ?grd1 rfl rfl rfl rfl (.cons (.val [13] I I (yz (bZ (aZ I) df)) I I)<|.cons (.val [13] I I (yz (bZ (aZ I) (bZ (aZ I) (bZ (aZ I) df)))) I I)<|.cons (.val [5] I I (yz (bZ (aZ I) df)) I I)<|.cons (.val [6] I I (yz (bZ (aZ I) df)) I I)<|.cons (.val [0] I I (yz (bZ (aZ I) df)) I I)<|.cons (.val [50,51] I I (yz (bZ (aM ((n*3)) I) df)) I I)<|.cons (.val [52] I I (yz (bZ (fG I (kI tbs n (tb n) htn) I) df)) I I)<|.cons (.val [9] I I (yz (bZ (cS (σ:=P8 T tbs p1 (rest.length+2) kv3 r5) (blk:=.cells 66 (cL (cP p p.stack))) I (ba.tk.get I) I b5 rfl) df)) I I)<|.cons (.val [49,53,54] I I (yz (bZ (dX I (hO▸EI T (tb n) (cP p p.stack) hsl)) df)) I I)<|.cons (.val [55] I I (yz (bZ (aZ I) df)) I I)<|.cons (.val [46] I I (yz (bZ (aZ I) df)) I I)<|.cons (.val [46] I I (yz (bZ (aZ I) (bZ (aZ I) df))) I I)<|.cons (.val [46] I I (yz (bZ (aZ I) (bZ (aZ I) (bZ (aZ I) df)))) I I)<|.cons (.val [47] I I (yz (bZ (aZ I) df)) I I)<|.cons (.val [59] I I (yz (bZ (aZ I) df)) I I)<|.cons (.lC [56,60] I I I I (cj.to (σ:=P8 T tbs p1 (rest.length+2) kv3 r5) (σ'':=P8 T tbs p1 (rest.length+2) kv3 (r5.set (rest.length+1) (some (.cells 152 [num n,num 0,au O.ax,.raw (.slice none 0 0),flag true,num 0])))) (cb I (ba.tk.get I) I I x5 (Nat.le_of_ble_eq_true rfl)) I I) I)<|.cons (.lC [14,57] I I I I (cj.to (σ:=P8 T tbs p1 (rest.length+2) kv3 (r5.set (rest.length+1) (some (.cells 152 [num n,num 0,au O.ax,.raw (.slice none 0 0),flag true,num 0])))) (σ'':=P8 T tbs p1 (rest.length+2) kv3 ((r5.set (rest.length+1) (some (.cells 152 [num n,num 0,au O.ax,.raw (.slice none 0 0),flag true,num 0]))).set (rest.length+3) (some (.cells 66 (cL O.ev))))) (mG (ys:=cL O.ev) I (ba.tk.get I) I I I I (aD n5 (by omega)) (Nat.le_of_ble_eq_true rfl)) I I) I)<|.cons (.val [48] I I (yz (bZ (aZ I) df)) I I)<|.cons (.val [61] I I (yz (bZ (aZ I) df)) I I)<|.cons (.lC [58,62] I I I I (cj.to (σ:=P8 T tbs p1 (rest.length+2) kv3 ((r5.set (rest.length+1) (some (.cells 152 [num n,num 0,au O.ax,.raw (.slice none 0 0),flag true,num 0]))).set (rest.length+3) (some (.cells 66 (cL O.ev))))) (σ'':=P8 T tbs p1 (rest.length+2) kv3 (((r5.set (rest.length+1) (some (.cells 152 [num n,num 0,au O.ax,.raw (.slice none 0 0),flag true,num 0]))).set (rest.length+3) (some (.cells 66 (cL O.ev)))).set (rest.length+1) (some (.cells 152 [num n,num O.cT,au O.ax,.raw (.slice none 0 0),flag true,num 0])))) (cb I (ba.tk.get I) I I (aD (aW x5) (by omega)) (Nat.le_of_ble_eq_true rfl)) I I) I) .nil) (aY (ks:=[3,5,7,13,14]) I) ?_
  case grd1=>kernel_rfl
  obtain⟨r6,hr6⟩:∃r6,((r5.set (rest.length+1) (some (.cells 152 [num n,num 0,au O.ax,.raw (.slice none 0 0),flag true,num 0]))).set (rest.length+3) (some (.cells 66 (cL O.ev)))).set (rest.length+1) (some (.cells 152 [num n,num O.cT,au O.ax,.raw (.slice none 0 0),flag true,num 0]))=r6:=⟨_,rfl⟩
  have l6:r6.length=rest.length+4:=by rw[←hr6];simp[l5]
  have k6:gC j rest r6:=hr6▸((k5.put (.inr (by omega)) _).put (.inr (by omega)) _).put (.inr (by omega)) _
  have x6:r6[rest.length+1]? =some (some (.cells 152 [num n,num O.cT,au O.ax,.raw (.slice none 0 0),flag true,num 0])):=hr6▸aW (aD (aW x5) (by omega))
  have j6:r6[rest.length+2]? =some (fh L3):=hr6▸aD (aD (aD j5 (by omega)) (by omega)) (by omega)
  have n6:r6[rest.length+3]? =some (some (.cells 66 (cL O.ev))):=hr6▸aD (aW (aD n5 (by omega))) (by omega)
  rw[hr6]
  refine aj<|ab (.a 3 I<|.v (aR I (ba.tk.get I) I x6 rfl) I<|.a 2 I<|.k [3,5,7,13,14,68] I)<|ah I (fun hc=>?_) (fun hc=>?_)
  ·have harc:O.ax=[]:=List.eq_nil_of_length_eq_zero (by have:=tt hc;omega)
   refine bG<|av 3 I<|bb (cj.to (σ:=P8 T tbs p1 (rest.length+2) kv3 r6) (cb I (ba.tk.get I) I I x6 (Nat.le_of_ble_eq_true rfl)) (σ'':=P8 T tbs p1 (rest.length+2) kv3 (r6.set (rest.length+1) (some (.cells 152 [num n,num O.cT,au O.ax,.raw (.slice none 0 0),flag true,num 1])))) I I) I I<|aG [3,5,7,13,14] I ?_
   obtain⟨r7,hr7⟩:∃r7,r6.set (rest.length+1) (some (.cells 152 [num n,num O.cT,au O.ax,.raw (.slice none 0 0),flag true,num 1]))=r7:=⟨_,rfl⟩
   have x7:r7[rest.length+1]? =some (some (.cells 152 [num n,num O.cT,au O.ax,.raw (.slice none 0 0),flag true,num (eQ O.ax [])])):=by
    rw[←hr7,aW x6];unfold eQ;rw[if_pos harc]
   replace l6:r7.length=rest.length+4:=by rw[←hr7];simp[l6]
   replace k6:gC j rest r7:=hr7▸k6.put (.inr (by omega)) _
   replace j6:r7[rest.length+2]? =some (fh L3):=hr7▸aD j6 (by omega)
   replace n6:r7[rest.length+3]? =some (some (.cells 66 (cL O.ev))):=hr7▸aD n6 (by omega)
   rw[hr7]
   refine aj<|ab (.a 3 I<|.v (aR I (ba.tk.get I) I x7 rfl) I<|.a 2 I<|.k [3,5,7,13,14,75,76,77] I)<|aw<|eS [3,5,7,13,14,75,76,77] I<|cw (rest.length+1+8) 3 147 1 x7 rfl ?_
   have hz:(P8 T tbs p1 (rest.length+2) kv3 r7).length=rest.length+4+8:=by rw[←l6];rfl
   rw[hz]
   refine eI (σ':=P8 T tbs p1 (rest.length+2) kv3 ((r7++[fh []]).set (rest.length+1) (some (.cells 152 [num n,num O.cT,au O.ax,.own (rest.length+4+8),flag true,num (eQ O.ax [])])))) I ?_
   refine bu (fun r st=>∃(k:Nat) (kv':List (List UInt8×PV)) (L':List PV) (j' jr:Nat) (rest':cc) (vs:List PV) (cs:List Int),k≤O.ax.length∧r=O.ax.length - k∧JF T tb p0 Φ op j rest n p.stack kv' L' j' jr rest' k vs cs∧st=⟨[(3,.ptr 6 0),(5,.ptr 0 0),(7,.ptr 7 0),(13,.ptr (rest.length+1+8) 0),(14,.ptr (rest.length+3+8) 0),(75,au O.ax),(76,num O.ax.length),(77,num k)],P8 T tbs p1 j' kv' rest'⟩) O.ax.length ⟨0,kv3,L3,rest.length+2,rest.length+4,_,[],[],Nat.zero_le _,rfl,⟨(k6.app _).put (.inr (by omega)) _,by simp[l6],by rw[hOO];exact aW (bS x7),by rw[hOO];exact aD (bS n6) (by omega),aD (cU l6) (by omega),aD (bS j6) (by omega),by omega,.inl rfl,by omega,hok3,rfl,rfl,fun i hi=>absurd hi (Nat.not_lt_zero i)⟩,rfl⟩ ?_
   rintro r st ⟨k,kv',L',j',jr,rest',vs,cs,hk,rfl,V,rfl⟩
   have vx:=V.x
   have vn:=V.nb
   have vr:=V.row
   have va:=V.al
   have vlen:=V.len
   have vj:=V.j1
   have vjr:=V.Kt
   have vne:=V.ne
   have vrl:=(List.getElem?_eq_some_iff.1 vr).1
   rw[hOO]at vx vn
   refine ab (.a 1 I<|.k [3,5,7,13,14,75,76,77,78] I)<|aj<|ah I (fun hc=>?_) (fun hc=>?_)
   ·have hlt:k<O.ax.length:=by have:=tt hc;omega
    have hne:O.ax≠[]:=fun h=>by rw[h]at hlt;simp at hlt
    have hst:∀a∈O.ax,∃b m:Nat,a=(b:Int)∧b<2*T.ag.length∧aS T b=(m:Int)∧∃u',u'<u∧Φ u' m O.ev.stack:=by
     rcases hbr with h|⟨_,_,h⟩
     ·exact absurd h hne
     ·exact h
    have hmem:O.ax.getD k 0∈O.ax:=cm hlt
    obtain⟨b,m,hab,hb,hm,u',hu',hΦ'⟩:=hst _ hmem
    have hop':∀x∈(rest.length+1,n,p.stack)::op,CU T tb p0 x.2.1 x.2.2 m O.ev.stack:=fun x hx=>by
     have ha:O.ax.getD k 0∈(bK T tb p0 n p.stack).ax:=by rw[hOO];exact hmem
     have hm':aS T (O.ax.getD k 0).toNat=(m:Int):=by rw[hab,Int.toNat_natCast];exact hm
     rw[←hOO]
     rcases List.mem_cons.1 hx with rfl|hx
     ·exact .one ha hm'
     ·exact .more (hop x hx) ha hm'
    have hll:=bV hv
    refine ai<|aj<|aw<|ab (.v (aM (k) I) I<|.v (aJ I ((aB _ k hlt).trans (by rw[hab]))) I<|.a 1 I<|.k [3,5,7,13,14,16,75,76,77] I)<|aj<|ab (.a 1 I<|.k [3,5,7,13,14,16,75,76,77,81] I)<|ah I (fun hc=>?_) (fun hc=>?_)
    ·cases hc
    ·refine ai<|C7 5 20 [82,83,84,85,86] mixed (by kernel_rfl) (by kernel_rfl) (by kernel_rfl) I (.a 3 I<|.v [83,84] (dX I ((show Can Tryz.prog 150 [aN T,num b] (· =num m) by have h:=fZ T b hb (by omega);rw[hm]at h;exact h))) I I<|.v [14] (cS (σ:=P8 T tbs p1 j' kv' rest') (blk:=.cells 66 (cL O.ev)) I (ba.tk.get I) I vn rfl) I I<|.k [3,5,7,13,14,75,76,77,82,85,86] I) ?_
     refine cM I I (bT.mono (ih u' hu' m O.ev hΦ' (hpk hne) ((rest.length+1,n,p.stack)::op) kv' L' j' rest' va V.ok hop') (fun y σ' h=>?_))
     obtain⟨c,kv4,L4,j4',r8,hg,rfl,a8,k8,hj8,hok8⟩:=h
     refine av 1 I<|aG [3,5,7,13,14,17,75,76,77] I ?_
     obtain⟨vs1,cs1,hgv,_,_,_,_⟩:=hg.parts
     subst hgv
     have l8:=k8.len
     have x8:r8[rest.length+1]? =some (some (.cells 152 [num n,num O.cT,au O.ax,.own (jr+8),flag true,num (eQ O.ax cs)])):=(k8.same _ (by omega) (by omega)).trans vx
     have n8:r8[rest.length+3]? =some (some (.cells 66 (cL O.ev))):=(k8.same _ (by omega) (by omega)).trans vn
     have w8:r8[jr]? =some (fh vs):=(k8.same _ vrl (by omega)).trans vr
     have kk8:gC j rest r8:=V.HX.trans k8 (by omega)
     have hgb:=hg.bound
     have hlv:=V.lv
     have hlc:=V.lc
     have e8:j4'≠jr:=by omega
     have x8b:(r8.set jr none++[fh (vs++[PV.bc (dO m (bK T tb p0 m O.ev.stack) vs1 c) 0])])[rest.length+1]? =some (some (.cells 152 [num n,num O.cT,au O.ax,.own (jr+8),flag true,num (eQ O.ax cs)])):=bS (aD x8 (by omega))
     refine aP<|av 4 I ?_
     refine bw (aR I (ba.tk.get I) I x8 rfl) I ?_
     refine av 1 I ?_
     refine bw (aU (xs:=[PV.bc (dO m (bK T tb p0 m O.ev.stack) vs1 c) 0]) I (ba.sl.get I) ⟨Nat.le_of_ble_eq_true rfl,Nat.le_of_ble_eq_true rfl⟩ rfl rfl) I ?_
     refine b7 (cj.to (σ:=P8 T tbs p1 j4' kv4 r8) (bg (e:=147) (s:=1) (by':=8) (i:=jr+8) (m:=1) (n:=vs.length) (xs:=vs) (ys:=[PV.bc (dO m (bK T tb p0 m O.ev.stack) vs1 c) 0]) I (ba.rk.get I) I w8 rfl rfl ⟨by unfold maxLen;omega,by omega⟩) (p':=.own (r8.length+8)) (σ'':=P8 T tbs p1 j4' kv4 (r8.set jr none++[fh (vs++[PV.bc (dO m (bK T tb p0 m O.ev.stack) vs1 c) 0])])) I (by unfold fh;rw[List.length_append];rfl)) I ?_
     refine av 2 I ?_
     refine bb (cj.to (σ:=P8 T tbs p1 j4' kv4 (r8.set jr none++[fh (vs++[PV.bc (dO m (bK T tb p0 m O.ev.stack) vs1 c) 0])])) (cb I (ba.tk.get I) I I x8b (Nat.le_of_ble_eq_true rfl)) (σ'':=P8 T tbs p1 j4' kv4 ((r8.set jr none++[fh (vs++[PV.bc (dO m (bK T tb p0 m O.ev.stack) vs1 c) 0])]).set (rest.length+1) (some (.cells 152 [num n,num O.cT,au O.ax,.own (r8.length+8),flag true,num (eQ O.ax cs)])))) I I) I I ?_
     refine aG [3,5,7,13,14,17,75,76,77] I ?_
     obtain⟨r9,hr9⟩:∃r9,(r8.set jr none++[fh (vs++[PV.bc (dO m (bK T tb p0 m O.ev.stack) vs1 c) 0])]).set (rest.length+1) (some (.cells 152 [num n,num O.cT,au O.ax,.own (r8.length+8),flag true,num (eQ O.ax cs)]))=r9:=⟨_,rfl⟩
     have l9:r9.length=r8.length+1:=by rw[←hr9];simp
     have kk9:gC j rest r9:=hr9▸((kk8.put (.inr (by omega)) _).app _).put (.inr (by omega)) _
     have x9:r9[rest.length+1]? =some (some (.cells 152 [num n,num O.cT,au O.ax,.own (r8.length+8),flag true,num (eQ O.ax cs)])):=hr9▸aW x8b
     have n9:r9[rest.length+3]? =some (some (.cells 66 (cL O.ev))):=hr9▸aD (bS (aD n8 (by omega))) (by omega)
     have w9:r9[r8.length]? =some (fh (vs++[PV.bc (dO m (bK T tb p0 m O.ev.stack) vs1 c) 0])):=hr9▸aD (cU (by simp)) (by omega)
     have a9:r9[j4']? =some (fh L4):=hr9▸aD (bS (aD a8 (by omega))) (by omega)
     rw[hr9]
     have hcb:0≤eQ O.ax cs∧eQ O.ax cs≤1001:=by
      unfold eQ
      rw[if_neg hne]
      refine ia cs 0 (by omega) (by omega) fun z hz=>?_
      obtain⟨i,hi⟩:=List.getElem?_of_mem hz
      have hil:=(List.getElem?_eq_some_iff.1 hi).1
      have:=(V.ch i (by omega)).bound.1
      rwa [List.getD_eq_getElem?_getD,hi]at this
     have hbs:eQ O.ax (cs++[c])=min (eQ O.ax cs+c) 1001:=by unfold eQ;rw[if_neg hne,if_neg hne,mc]
     refine dL 13 20 mixed (
      .val [13] I (aZ I) I I<|
      .val [13] I (aZ I) I I<|
      .val [99] I (aZ I) I I<|
      .val [100] I (aZ I) I I<|
      .val [101] I (aR I (ba.tk.get I) I x9 rfl) I I<|
      .val [17] I (aZ I) I I<|
      .val [103] I (aZ I) I I<|
      .val [104] I (aZ I) I I<|
      .val [105] I (aJ I (rfl)) I I<|
      .val [102,106] I (aV I) I I<|
      .val [107] I (uo I I I (hbs.symm)) I I<|
      .val [98] I (aZ I) I I<|
      .val [109] I (aZ I) I I<|
      .nil) (by kernel_rfl) I I (aY (ks:=[3,5,7,13,14,75,76,77,108,110]) I) ?_
     refine bb (cj.to (σ:=P8 T tbs p1 j4' kv4 r9) (cb I (ba.tk.get I) I I x9 (Nat.le_of_ble_eq_true rfl)) (σ'':=P8 T tbs p1 j4' kv4 (r9.set (rest.length+1) (some (.cells 152 [num n,num O.cT,au O.ax,.own (r8.length+8),flag true,num (eQ O.ax (cs++[c]))])))) I I) I I<|aG [3,5,7,13,14,75,76,77] I ?_
     refine aC (.v (aV I) I<|.a 1 I<|.k [3,5,7,13,14,75,76,77] I) ?_
     refine⟨O.ax.length - (k+1),by omega,k+1,kv4,L4,j4',r8.length,_,vs++[PV.bc (dO m (bK T tb p0 m O.ev.stack) vs1 c) 0],cs++[c],by omega,rfl,⟨kk9.put (.inr (by omega)) _,by simp[l9];omega,by rw[hOO];exact aW x9,by rw[hOO];exact aD n9 (by omega),aD w9 (by omega),aD a9 (by omega),by omega,by omega,?_,hok8,by simp[hlv],by simp[hlc],fun i hi=>?_⟩,rfl⟩
     ·have:=(List.getElem?_eq_some_iff.1 a8).1;omega
     ·by_cases hik:i<k
      ·have h1:(vs++[PV.bc (dO m (bK T tb p0 m O.ev.stack) vs1 c) 0]).getD i .any=vs.getD i .any:=by rw[List.getD_eq_getElem?_getD,List.getD_eq_getElem?_getD,List.getElem?_append_left (by omega)]
       have h2:(cs++[c]).getD i 0=cs.getD i 0:=by rw[List.getD_eq_getElem?_getD,List.getD_eq_getElem?_getD,List.getElem?_append_left (by omega)]
       rw[h1,h2]
       exact V.ch i hik
      ·obtain rfl:i=k:=by omega
       have h1:(vs++[PV.bc (dO m (bK T tb p0 m O.ev.stack) vs1 c) 0]).getD i .any=PV.bc (dO m (bK T tb p0 m O.ev.stack) vs1 c) 0:=by rw[List.getD_eq_getElem?_getD,cU hlv];rfl
       have h2:(cs++[c]).getD i 0=c:=by rw[List.getD_eq_getElem?_getD,cU hlc];rfl
       rw[h1,h2,hOO,hab,Int.toNat_natCast,hm,Int.toNat_natCast]
       exact hg
   ·have hke:k=O.ax.length:=by have:=ff hc;omega
    refine bh<|aP<|av 3 I<|bb (cj.to (σ:=P8 T tbs p1 j' kv' rest') (cb I (ba.tk.get I) I I vx (Nat.le_of_ble_eq_true rfl)) (σ'':=P8 T tbs p1 j' kv' (rest'.set (rest.length+1) (some (.cells 152 [num n,num O.cT,au O.ax,.own (jr+8),flag false,num (eQ O.ax cs)])))) I I) I I<|aG [13] I ?_
    subst hke
    have hlv:=V.lv
    have hlc:=V.lc
    have hgood:Good T tb p0 Φ (.bc (dO n O vs (eQ O.ax cs)) 0) n p.stack (eQ O.ax cs):=by
     have:=Good.mk (T:=T) (tb:=tb) (p0:=p0) (Φ:=Φ) (vs:=vs) (cs:=cs) hΦ (by rw[hOO];exact hlv) (by rw[hOO];exact hlc) (fun i hi=>by rw[hOO]at hi;exact V.ch i hi)
     rwa [hOO]at this
    obtain⟨kv9,L9,hok9,hk9,hf9,hL9⟩:=nJ.close (ty:=152) V.ok hgood
    refine oQ (jr+8) (σ':=P8 T tbs p1 j' kv' ((rest'.set jr none).set (rest.length+1) (some (.cells 152 (dO n O vs (eQ O.ax cs)))))) (aD vr (by omega)) (uP (by simp) (aD (aW vr) (by omega)) (fun z hz=>?_) I (jI.refl _)) (.cons 13 I (.same _) .nil) ?_
    ·by_cases h1:z=rest.length+1
     ·subst h1
      exact .inr ⟨_,_,aW vx,aW (aD vx (by omega)),.cells (.cons (.same _)<|.cons (.same _)<|.cons (.same _)<|.cons .own<|.cons (.same _)<|.cons (.same _) .nil)⟩
     ·refine .inl ?_
      rw[List.getElem?_set,if_neg (by omega),List.getElem?_set,if_neg (by omega),List.getElem?_set,if_neg (by omega)]
    refine oQ (rest.length+1+8) (σ':=P8 T tbs p1 j' kv9 ((((rest'.set jr none).set (rest.length+1) (some (.cells 152 (dO n O vs (eQ O.ax cs))))).set (rest.length+1) none).set j' (fh L9))) (aW (aD vx (by omega))) (uP (by simp) (aD (aW (aW (aD vx (by omega)))) (by omega)) (fun z hz=>?_) hk9 hf9) (.cons 13 I (.ptr 0) .nil) ?_
    ·by_cases h1:z=j'
     ·subst h1
      refine .inr ⟨_,_,aD (aD va (by omega)) (by omega),aW (aD (aD (aD va (by omega)) (by omega)) (by omega)),?_⟩
      have:=hL9.1
      rw[this]
      exact .row hL9
     ·refine .inl ?_
      rw[List.getElem?_set,if_neg (by omega),List.getElem?_set,if_neg (by omega)]
    refine ab (.a 2 I<|.k [10] I)<|ao<|⟨_,az.of I,eQ O.ax cs,kv9,L9,j',_,hgood,rfl,?_,?_,by omega,hok9⟩
    ·exact aW (aD (aD (aD va (by omega)) (by omega)) (by omega))
    ·exact(((V.HX.put (.inr (by omega)) _).put (.inr (by omega)) _).put (.inr (by omega)) _).put (by omega) _
  ·have harc:O.ax≠[]:=fun h=>by have:=ff hc;rw[h]at this;simp at this
   have x7:r6[rest.length+1]? =some (some (.cells 152 [num n,num O.cT,au O.ax,.raw (.slice none 0 0),flag true,num (eQ O.ax [])])):=by rw[x6];unfold eQ;rw[if_neg harc];rfl
   obtain⟨r7,hr7⟩:∃r7,r6=r7:=⟨_,rfl⟩
   rw[hr7]at l6 k6 x7 j6 n6 ⊢
   refine ai<|aj<|ab (.a 3 I<|.v (aR I (ba.tk.get I) I x7 rfl) I<|.a 2 I<|.k [3,5,7,13,14,75,76,77] I)<|aw<|eS [3,5,7,13,14,75,76,77] I<|cw (rest.length+1+8) 3 147 1 x7 rfl ?_
   have hz:(P8 T tbs p1 (rest.length+2) kv3 r7).length=rest.length+4+8:=by rw[←l6];rfl
   rw[hz]
   refine eI (σ':=P8 T tbs p1 (rest.length+2) kv3 ((r7++[fh []]).set (rest.length+1) (some (.cells 152 [num n,num O.cT,au O.ax,.own (rest.length+4+8),flag true,num (eQ O.ax [])])))) I ?_
   refine bu (fun r st=>∃(k:Nat) (kv':List (List UInt8×PV)) (L':List PV) (j' jr:Nat) (rest':cc) (vs:List PV) (cs:List Int),k≤O.ax.length∧r=O.ax.length - k∧JF T tb p0 Φ op j rest n p.stack kv' L' j' jr rest' k vs cs∧st=⟨[(3,.ptr 6 0),(5,.ptr 0 0),(7,.ptr 7 0),(13,.ptr (rest.length+1+8) 0),(14,.ptr (rest.length+3+8) 0),(75,au O.ax),(76,num O.ax.length),(77,num k)],P8 T tbs p1 j' kv' rest'⟩) O.ax.length ⟨0,kv3,L3,rest.length+2,rest.length+4,_,[],[],Nat.zero_le _,rfl,⟨(k6.app _).put (.inr (by omega)) _,by simp[l6],by rw[hOO];exact aW (bS x7),by rw[hOO];exact aD (bS n6) (by omega),aD (cU l6) (by omega),aD (bS j6) (by omega),by omega,.inl rfl,by omega,hok3,rfl,rfl,fun i hi=>absurd hi (Nat.not_lt_zero i)⟩,rfl⟩ ?_
   rintro r st ⟨k,kv',L',j',jr,rest',vs,cs,hk,rfl,V,rfl⟩
   have vx:=V.x
   have vn:=V.nb
   have vr:=V.row
   have va:=V.al
   have vlen:=V.len
   have vj:=V.j1
   have vjr:=V.Kt
   have vne:=V.ne
   have vrl:=(List.getElem?_eq_some_iff.1 vr).1
   rw[hOO]at vx vn
   refine ab (.a 1 I<|.k [3,5,7,13,14,75,76,77,78] I)<|aj<|ah I (fun hc=>?_) (fun hc=>?_)
   ·have hlt:k<O.ax.length:=by have:=tt hc;omega
    have hne:O.ax≠[]:=fun h=>by rw[h]at hlt;simp at hlt
    have hst:∀a∈O.ax,∃b m:Nat,a=(b:Int)∧b<2*T.ag.length∧aS T b=(m:Int)∧∃u',u'<u∧Φ u' m O.ev.stack:=by
     rcases hbr with h|⟨_,_,h⟩
     ·exact absurd h hne
     ·exact h
    have hmem:O.ax.getD k 0∈O.ax:=cm hlt
    obtain⟨b,m,hab,hb,hm,u',hu',hΦ'⟩:=hst _ hmem
    have hop':∀x∈(rest.length+1,n,p.stack)::op,CU T tb p0 x.2.1 x.2.2 m O.ev.stack:=fun x hx=>by
     have ha:O.ax.getD k 0∈(bK T tb p0 n p.stack).ax:=by rw[hOO];exact hmem
     have hm':aS T (O.ax.getD k 0).toNat=(m:Int):=by rw[hab,Int.toNat_natCast];exact hm
     rw[←hOO]
     rcases List.mem_cons.1 hx with rfl|hx
     ·exact .one ha hm'
     ·exact .more (hop x hx) ha hm'
    have hll:=bV hv
    refine ai<|aj<|aw<|ab (.v (aM (k) I) I<|.v (aJ I ((aB _ k hlt).trans (by rw[hab]))) I<|.a 1 I<|.k [3,5,7,13,14,16,75,76,77] I)<|aj<|ab (.a 1 I<|.k [3,5,7,13,14,16,75,76,77,81] I)<|ah I (fun hc=>?_) (fun hc=>?_)
    ·cases hc
    ·refine ai<|C7 5 20 [82,83,84,85,86] mixed (by kernel_rfl) (by kernel_rfl) (by kernel_rfl) I (.a 3 I<|.v [83,84] (dX I ((show Can Tryz.prog 150 [aN T,num b] (· =num m) by have h:=fZ T b hb (by omega);rw[hm]at h;exact h))) I I<|.v [14] (cS (σ:=P8 T tbs p1 j' kv' rest') (blk:=.cells 66 (cL O.ev)) I (ba.tk.get I) I vn rfl) I I<|.k [3,5,7,13,14,75,76,77,82,85,86] I) ?_
     refine cM I I (bT.mono (ih u' hu' m O.ev hΦ' (hpk hne) ((rest.length+1,n,p.stack)::op) kv' L' j' rest' va V.ok hop') (fun y σ' h=>?_))
     obtain⟨c,kv4,L4,j4',r8,hg,rfl,a8,k8,hj8,hok8⟩:=h
     refine av 1 I<|aG [3,5,7,13,14,17,75,76,77] I ?_
     obtain⟨vs1,cs1,hgv,_,_,_,_⟩:=hg.parts
     subst hgv
     have l8:=k8.len
     have x8:r8[rest.length+1]? =some (some (.cells 152 [num n,num O.cT,au O.ax,.own (jr+8),flag true,num (eQ O.ax cs)])):=(k8.same _ (by omega) (by omega)).trans vx
     have n8:r8[rest.length+3]? =some (some (.cells 66 (cL O.ev))):=(k8.same _ (by omega) (by omega)).trans vn
     have w8:r8[jr]? =some (fh vs):=(k8.same _ vrl (by omega)).trans vr
     have kk8:gC j rest r8:=V.HX.trans k8 (by omega)
     have hgb:=hg.bound
     have hlv:=V.lv
     have hlc:=V.lc
     have e8:j4'≠jr:=by omega
     have x8b:(r8.set jr none++[fh (vs++[PV.bc (dO m (bK T tb p0 m O.ev.stack) vs1 c) 0])])[rest.length+1]? =some (some (.cells 152 [num n,num O.cT,au O.ax,.own (jr+8),flag true,num (eQ O.ax cs)])):=bS (aD x8 (by omega))
     refine aP<|av 4 I ?_
     refine bw (aR I (ba.tk.get I) I x8 rfl) I ?_
     refine av 1 I ?_
     refine bw (aU (xs:=[PV.bc (dO m (bK T tb p0 m O.ev.stack) vs1 c) 0]) I (ba.sl.get I) ⟨Nat.le_of_ble_eq_true rfl,Nat.le_of_ble_eq_true rfl⟩ rfl rfl) I ?_
     refine b7 (cj.to (σ:=P8 T tbs p1 j4' kv4 r8) (bg (e:=147) (s:=1) (by':=8) (i:=jr+8) (m:=1) (n:=vs.length) (xs:=vs) (ys:=[PV.bc (dO m (bK T tb p0 m O.ev.stack) vs1 c) 0]) I (ba.rk.get I) I w8 rfl rfl ⟨by unfold maxLen;omega,by omega⟩) (p':=.own (r8.length+8)) (σ'':=P8 T tbs p1 j4' kv4 (r8.set jr none++[fh (vs++[PV.bc (dO m (bK T tb p0 m O.ev.stack) vs1 c) 0])])) I (by unfold fh;rw[List.length_append];rfl)) I ?_
     refine av 2 I ?_
     refine bb (cj.to (σ:=P8 T tbs p1 j4' kv4 (r8.set jr none++[fh (vs++[PV.bc (dO m (bK T tb p0 m O.ev.stack) vs1 c) 0])])) (cb I (ba.tk.get I) I I x8b (Nat.le_of_ble_eq_true rfl)) (σ'':=P8 T tbs p1 j4' kv4 ((r8.set jr none++[fh (vs++[PV.bc (dO m (bK T tb p0 m O.ev.stack) vs1 c) 0])]).set (rest.length+1) (some (.cells 152 [num n,num O.cT,au O.ax,.own (r8.length+8),flag true,num (eQ O.ax cs)])))) I I) I I ?_
     refine aG [3,5,7,13,14,17,75,76,77] I ?_
     obtain⟨r9,hr9⟩:∃r9,(r8.set jr none++[fh (vs++[PV.bc (dO m (bK T tb p0 m O.ev.stack) vs1 c) 0])]).set (rest.length+1) (some (.cells 152 [num n,num O.cT,au O.ax,.own (r8.length+8),flag true,num (eQ O.ax cs)]))=r9:=⟨_,rfl⟩
     have l9:r9.length=r8.length+1:=by rw[←hr9];simp
     have kk9:gC j rest r9:=hr9▸((kk8.put (.inr (by omega)) _).app _).put (.inr (by omega)) _
     have x9:r9[rest.length+1]? =some (some (.cells 152 [num n,num O.cT,au O.ax,.own (r8.length+8),flag true,num (eQ O.ax cs)])):=hr9▸aW x8b
     have n9:r9[rest.length+3]? =some (some (.cells 66 (cL O.ev))):=hr9▸aD (bS (aD n8 (by omega))) (by omega)
     have w9:r9[r8.length]? =some (fh (vs++[PV.bc (dO m (bK T tb p0 m O.ev.stack) vs1 c) 0])):=hr9▸aD (cU (by simp)) (by omega)
     have a9:r9[j4']? =some (fh L4):=hr9▸aD (bS (aD a8 (by omega))) (by omega)
     rw[hr9]
     have hcb:0≤eQ O.ax cs∧eQ O.ax cs≤1001:=by
      unfold eQ
      rw[if_neg hne]
      refine ia cs 0 (by omega) (by omega) fun z hz=>?_
      obtain⟨i,hi⟩:=List.getElem?_of_mem hz
      have hil:=(List.getElem?_eq_some_iff.1 hi).1
      have:=(V.ch i (by omega)).bound.1
      rwa [List.getD_eq_getElem?_getD,hi]at this
     have hbs:eQ O.ax (cs++[c])=min (eQ O.ax cs+c) 1001:=by unfold eQ;rw[if_neg hne,if_neg hne,mc]
     refine dL 13 20 mixed (
      .val [13] I (aZ I) I I<|
      .val [13] I (aZ I) I I<|
      .val [99] I (aZ I) I I<|
      .val [100] I (aZ I) I I<|
      .val [101] I (aR I (ba.tk.get I) I x9 rfl) I I<|
      .val [17] I (aZ I) I I<|
      .val [103] I (aZ I) I I<|
      .val [104] I (aZ I) I I<|
      .val [105] I (aJ I (rfl)) I I<|
      .val [102,106] I (aV I) I I<|
      .val [107] I (uo I I I (hbs.symm)) I I<|
      .val [98] I (aZ I) I I<|
      .val [109] I (aZ I) I I<|
      .nil) (by kernel_rfl) I I (aY (ks:=[3,5,7,13,14,75,76,77,108,110]) I) ?_
     refine bb (cj.to (σ:=P8 T tbs p1 j4' kv4 r9) (cb I (ba.tk.get I) I I x9 (Nat.le_of_ble_eq_true rfl)) (σ'':=P8 T tbs p1 j4' kv4 (r9.set (rest.length+1) (some (.cells 152 [num n,num O.cT,au O.ax,.own (r8.length+8),flag true,num (eQ O.ax (cs++[c]))])))) I I) I I<|aG [3,5,7,13,14,75,76,77] I ?_
     refine aC (.v (aV I) I<|.a 1 I<|.k [3,5,7,13,14,75,76,77] I) ?_
     refine⟨O.ax.length - (k+1),by omega,k+1,kv4,L4,j4',r8.length,_,vs++[PV.bc (dO m (bK T tb p0 m O.ev.stack) vs1 c) 0],cs++[c],by omega,rfl,⟨kk9.put (.inr (by omega)) _,by simp[l9];omega,by rw[hOO];exact aW x9,by rw[hOO];exact aD n9 (by omega),aD w9 (by omega),aD a9 (by omega),by omega,by omega,?_,hok8,by simp[hlv],by simp[hlc],fun i hi=>?_⟩,rfl⟩
     ·have:=(List.getElem?_eq_some_iff.1 a8).1;omega
     ·by_cases hik:i<k
      ·have h1:(vs++[PV.bc (dO m (bK T tb p0 m O.ev.stack) vs1 c) 0]).getD i .any=vs.getD i .any:=by rw[List.getD_eq_getElem?_getD,List.getD_eq_getElem?_getD,List.getElem?_append_left (by omega)]
       have h2:(cs++[c]).getD i 0=cs.getD i 0:=by rw[List.getD_eq_getElem?_getD,List.getD_eq_getElem?_getD,List.getElem?_append_left (by omega)]
       rw[h1,h2]
       exact V.ch i hik
      ·obtain rfl:i=k:=by omega
       have h1:(vs++[PV.bc (dO m (bK T tb p0 m O.ev.stack) vs1 c) 0]).getD i .any=PV.bc (dO m (bK T tb p0 m O.ev.stack) vs1 c) 0:=by rw[List.getD_eq_getElem?_getD,cU hlv];rfl
       have h2:(cs++[c]).getD i 0=c:=by rw[List.getD_eq_getElem?_getD,cU hlc];rfl
       rw[h1,h2,hOO,hab,Int.toNat_natCast,hm,Int.toNat_natCast]
       exact hg
   ·have hke:k=O.ax.length:=by have:=ff hc;omega
    refine bh<|aP<|av 3 I<|bb (cj.to (σ:=P8 T tbs p1 j' kv' rest') (cb I (ba.tk.get I) I I vx (Nat.le_of_ble_eq_true rfl)) (σ'':=P8 T tbs p1 j' kv' (rest'.set (rest.length+1) (some (.cells 152 [num n,num O.cT,au O.ax,.own (jr+8),flag false,num (eQ O.ax cs)])))) I I) I I<|aG [13] I ?_
    subst hke
    have hlv:=V.lv
    have hlc:=V.lc
    have hgood:Good T tb p0 Φ (.bc (dO n O vs (eQ O.ax cs)) 0) n p.stack (eQ O.ax cs):=by
     have:=Good.mk (T:=T) (tb:=tb) (p0:=p0) (Φ:=Φ) (vs:=vs) (cs:=cs) hΦ (by rw[hOO];exact hlv) (by rw[hOO];exact hlc) (fun i hi=>by rw[hOO]at hi;exact V.ch i hi)
     rwa [hOO]at this
    obtain⟨kv9,L9,hok9,hk9,hf9,hL9⟩:=nJ.close (ty:=152) V.ok hgood
    refine oQ (jr+8) (σ':=P8 T tbs p1 j' kv' ((rest'.set jr none).set (rest.length+1) (some (.cells 152 (dO n O vs (eQ O.ax cs)))))) (aD vr (by omega)) (uP (by simp) (aD (aW vr) (by omega)) (fun z hz=>?_) I (jI.refl _)) (.cons 13 I (.same _) .nil) ?_
    ·by_cases h1:z=rest.length+1
     ·subst h1
      exact .inr ⟨_,_,aW vx,aW (aD vx (by omega)),.cells (.cons (.same _)<|.cons (.same _)<|.cons (.same _)<|.cons .own<|.cons (.same _)<|.cons (.same _) .nil)⟩
     ·refine .inl ?_
      rw[List.getElem?_set,if_neg (by omega),List.getElem?_set,if_neg (by omega),List.getElem?_set,if_neg (by omega)]
    refine oQ (rest.length+1+8) (σ':=P8 T tbs p1 j' kv9 ((((rest'.set jr none).set (rest.length+1) (some (.cells 152 (dO n O vs (eQ O.ax cs))))).set (rest.length+1) none).set j' (fh L9))) (aW (aD vx (by omega))) (uP (by simp) (aD (aW (aW (aD vx (by omega)))) (by omega)) (fun z hz=>?_) hk9 hf9) (.cons 13 I (.ptr 0) .nil) ?_
    ·by_cases h1:z=j'
     ·subst h1
      refine .inr ⟨_,_,aD (aD va (by omega)) (by omega),aW (aD (aD (aD va (by omega)) (by omega)) (by omega)),?_⟩
      have:=hL9.1
      rw[this]
      exact .row hL9
     ·refine .inl ?_
      rw[List.getElem?_set,if_neg (by omega),List.getElem?_set,if_neg (by omega)]
    refine ab (.a 2 I<|.k [10] I)<|ao<|⟨_,az.of I,eQ O.ax cs,kv9,L9,j',_,hgood,rfl,?_,?_,by omega,hok9⟩
    ·exact aW (aD (aD (aD va (by omega)) (by omega)) (by omega))
    ·exact(((V.HX.put (.inr (by omega)) _).put (.inr (by omega)) _).put (.inr (by omega)) _).put (by omega) _
end
section
variable {T:an} {tb:Nat→de} {p0:dv} {Φ:Nat→Nat→List bU→Prop}
def KU(T:an)(tb:Nat→de)(p0:dv)(Φ:Nat→Nat→List bU→Prop)(n:Nat)(s:List bU)(r:PV):Prop:=
 ∃v c L,r= .tuple [v,.slice L.length L,num 0]∧Good T tb p0 Φ v n s c∧L.length≤1000000∧∀x∈L,∃n s c,Good T tb p0 Φ x n s c
instance:gu GN:=by unfold GN;infer_instance
theorem JQ:xE Tryz.prog 189=some [.nilFunc]:=by kernel_rfl
set_option maxHeartbeats 4000000 in
theorem rS(R:iX T tb p0 Φ)(hv:aq T=true)(h12:T.nodes≤12){U:List (Nat×List bU)}(hU:∀ {u n s},Φ u n s→(n,s)∈U)(hUl:U.length≤1000000)(tbs:List de)(htl:(tbs.length:Int)=T.nodes)(htb:∀n:Nat,(n:Int)<T.nodes→tbs[n]? =some (tb n))
  (hok:∀n:Nat,(n:Int)<T.nodes→(tb n).node=(n:Int)∧cV T (tb n)=true) {u n:Nat} {p:dv} (hΦ:Φ u n p.stack) (hp:cP p p.stack=cP p0 p.stack):
  Can Tryz.prog 115 [aN T,eG tbs,dx p,num n] (KU T tb p0 Φ n p.stack):=by
 have hn:=R.node hΦ
 have hck:=yg T tbs n hv htl (fun i x hx=>by
  have hil:=(List.getElem?_eq_some_iff.1 hx).1
  have:=htb i (by omega)
  rw[this]at hx
  cases hx
  exact hok i (by omega)) (aT.2 ⟨by omega,hn⟩)
 refine aI Tryz.func115 I Tryz.ntmps115 I<|aP<|b7 (fx I I I) I<|b7 (fx (xs:=[_]) I I I) I<|b7 (fx I I I) I<|av 3 I<|aG [3,4,5,6,9] I ?_
 refine aj<|ab (.a 3 I<|.c rfl (hck) I<|.a 1 I<|.k [3,4,5,6,9,11] I)<|ab (.a 2 I<|.k [3,4,5,6,9,11,20] I)<|ah I (fun hc=>?_) (fun hc=>?_)
 ·cases hc
 ·refine ai<|aP<|b7 (pf ql rfl) I<|av 2 I<|aG [3,4,5,6,9,12] I ?_
  refine aP<|av 2 I<|aG [3,4,5,6,9,12,13] I ?_
  refine aP<|b7 (mV (z:=[.nilFunc]) I JQ) I<|aG [3,4,5,6,9,12,13,14] I ?_
  refine aP<|av 1 I ?_
  refine bb (cb (p:=GN) I (ba.tk.get I) I I I (Nat.le_of_ble_eq_true rfl)) I I ?_
  refine aG [3,6,9,13,14] I ?_
  refine cw 3 0 147 1 I I ?_
  refine eI (σ':=P8 T tbs p 0 [] [fh []]) I ?_
  refine aP<|av 3 I<|cM I I (bT.mono (Ct R hv h12 hU hUl tbs htb p u n p hΦ hp [] [] [] 0 [fh []] I ⟨fun e he=>(by cases he),List.nodup_nil,fun e he=>(by cases he),rfl⟩ (fun x hx=>(by cases hx))) (fun y σ' h=>?_))
  obtain⟨c,kv,L,j,rest,hg,rfl,hj,_,_,hkv⟩:=h
  refine av 1 I<|aG [8,9,13] I ?_
  haveI:=hg.pure
  refine aj<|ab (.a 1 I<|.k [8,9,28] I)<|ah I (fun hc=>?_) (fun hc=>?_)
  ·cases hc
  ·refine ai<|rL ([(8,y),(9,.ptr 3 0),(10,num 0)]) (P8 T tbs p j kv rest) mixed ?_ ?_
   ·refine bR 0 [1] (by kernel_rfl) ?_
    refine bp I I (bw (aZ I) I (bn ?_)) ?_
    ·refine bR 1 [2] (by kernel_rfl) ?_
     refine bp I I (bw (aZ I) I (bn ?_)) ?_
     ·refine bR 2 [] (by kernel_rfl) ?_
      refine bp I I (bw (aZ I) I (bn ?_)) bP
      refine bR 3 [] (by kernel_rfl) ?_
      refine bp I I (bb (cj.to (σ:=P8 T tbs p j kv rest) (cb I (ba.tk.get I) I I I (Nat.le_of_ble_eq_true rfl)) (σ'':=P8 T tbs p j kv rest) I I) I I (bn ?_)) bP
      refine bR 4 [] (by kernel_rfl) ?_
      refine bp I I (bw (aZ I) I (bn ?_)) bP
      exact j7 (by kernel_rfl) ⟨rfl,aY (ks:=[8,9,10]) I⟩
     refine bp I I (bw (aZ I) I (bn ?_)) bP
     refine bR 1 [] (by kernel_rfl) ?_
     refine bp I I (bw (aZ I) I (bn ?_)) bP
     refine bR 3 [] (by kernel_rfl) ?_
     refine bp I I (bb (cj.to (σ:=P8 T tbs p j kv rest) (cb I (ba.tk.get I) I I I (Nat.le_of_ble_eq_true rfl)) (σ'':=P8 T tbs p j kv rest) I I) I I (bn ?_)) bP
     refine bR 4 [] (by kernel_rfl) ?_
     refine bp I I (bw (aZ I) I (bn ?_)) bP
     exact j7 (by kernel_rfl) ⟨rfl,aY (ks:=[8,9,10]) I⟩
    refine bp I I (bw (aZ I) I (bn ?_)) bP
    refine bR 0 [] (by kernel_rfl) ?_
    refine bp I I (bw (aZ I) I (bn ?_)) bP
    refine bR 2 [] (by kernel_rfl) ?_
    refine bp I I (bw (aZ I) I (bn ?_)) bP
    refine bR 3 [] (by kernel_rfl) ?_
    refine bp I I (bb (cj.to (σ:=P8 T tbs p j kv rest) (cb I (ba.tk.get I) I I I (Nat.le_of_ble_eq_true rfl)) (σ'':=P8 T tbs p j kv rest) I I) I I (bn ?_)) bP
    refine bR 4 [] (by kernel_rfl) ?_
    refine bp I I (bw (aZ I) I (bn ?_)) bP
    exact j7 (by kernel_rfl) ⟨rfl,aY (ks:=[8,9,10]) I⟩
   refine ao ?_
   have hall:∀x∈L,∃n s c,Good T tb p0 Φ x n s c:=fun x hx=>by
    obtain⟨n1,s1,h1⟩:=hkv.all x hx
    rcases h1 with⟨c1,h1⟩|⟨_,h1,_⟩
    ·exact⟨n1,s1,c1,h1⟩
    ·cases h1
   haveI:aL L:=⟨fun i x hx=>by
    obtain⟨_,_,_,h⟩:=hall x (List.mem_of_getElem? hx)
    exact h.pure⟩
   have hfew:=hkv.Jv R h12 hU
   have hlen:=hkv.len
   exact⟨_,_,az.of I,ay.aX (af.cons ay.pure<|af.cons (ay.fr (i:=j+8) (show(P8 T tbs p j kv rest)[j+8]? =_ from hj) af.pure)<|af.cons ay.pure af.nil),y,c,L,rfl,hg,by omega,hall⟩
set_option maxHeartbeats 4000000 in
theorem vl(R:iX T tb p0 Φ)(hdel:∀ {u n s},Φ u n s→(bK T tb p0 n s).ax=[]→(bK T tb p0 n s).cT= -1)(hv:aq T=true)(h12:T.nodes≤12){U:List (Nat×List bU)}(hU:∀ {u n s},Φ u n s→(n,s)∈U)(hUl:U.length≤1000000)(tbs:List de)(htl:(tbs.length:Int)=T.nodes)(htb:∀n:Nat,(n:Int)<T.nodes→tbs[n]? =some (tb n))
  (hok:∀n:Nat,(n:Int)<T.nodes→(tb n).node=(n:Int)∧cV T (tb n)=true) {u n:Nat} {p:dv} (hΦ:Φ u n p.stack) (hp:cP p p.stack=cP p0 p.stack):
  Can Tryz.prog 56 [aN T,eG tbs,dx p,num n] (· = .tuple [flag true,num 0]):=by
 refine aI Tryz.func56 I Tryz.ntmps56 I<|ab (.a 4 I<|.k [1,3,4,6] I)<|aP<|av 4 I<|cM I I (bT.mono (bT.wS (rS R hv h12 hU hUl tbs htl htb hok hΦ hp)) (fun y σ' h=>?_))
 obtain⟨⟨v,c,L,rfl,hg,hL,hall⟩,rfl⟩:=h
 refine av 7 I<|aG [11,12] I ?_
 haveI:aL L:=⟨fun i x hx=>by
  obtain⟨_,_,_,h⟩:=hall x (List.mem_of_getElem? hx)
  exact h.pure⟩
 refine aj<|ab (.a 2 I<|.k [11,12,25] I)<|ah I (fun hc=>?_) (fun hc=>?_)
 ·cases hc
 ·refine ai<|aj<|ab (.a 3 I<|.k [27,28,29] I)<|aw<|eS [27,28,29] I<|bu (fun r st=>∃k,k≤L.length∧r=L.length - k∧st=⟨[(27,.slice L.length L),(28,num L.length),(29,num k)],[]⟩) L.length ⟨0,by omega,by omega,rfl⟩ ?_
  rintro r st ⟨k,hk,rfl,rfl⟩
  refine ab (.a 1 I<|.k [27,28,29,30] I)<|aj<|ah I (fun hc=>?_) (fun hc=>?_)
  ·have hlt:k<L.length:=by have:=tt hc;omega
   obtain⟨x,hx⟩:∃x,L[k]? =some x:=⟨_,List.getElem?_eq_getElem hlt⟩
   obtain⟨n1,s1,c1,hg1⟩:=hall x (List.mem_of_getElem? hx)
   obtain⟨vs,cs,rfl,_⟩:=hg1.parts
   obtain⟨u1,h1⟩:=hg1.state
   have hd1:=hdel h1
   obtain⟨O,hO⟩:∃O,bK T tb p0 n1 s1=O:=⟨_,rfl⟩
   rw[hO]at hx hd1
   obtain⟨q1,hq1⟩:∃q,decide ((O.ax.length:Int)=0)=q:=⟨_,rfl⟩
   obtain⟨q2,hq2⟩:∃q,decide (O.cT≠ -1)=q:=⟨_,rfl⟩
   refine ai<|aj<|aw<|ab (.v (aM (k) I) I<|.v (aJ I (hx)) I<|.a 1 I<|.k [14,27,28,29] I)<|bE 45 (.raw (.bool (q1&&q2))) [27,28,29] I ?_ ?_
   ·refine .a 5 I<|.v (cd I (hq1)) I<|.a 1 I<|?_
    cases q1
    ·exact .a 6 I<|.k [45,27,28,29] I
    ·exact .a 3 I<|.v (aJ I (rfl)) I<|.v (cd I (hq2)) I<|.a 1 I<|.k [45,27,28,29] I
   refine ah I (fun hc=>?_) (fun hc=>?_)
   ·have hz:(q1&&q2)=false:=by
     cases q1 with
     |false=>rfl
     |true=>
      cases q2 with
      |false=>rfl
      |true=>exact absurd (hd1 (List.eq_nil_of_length_eq_zero (by have:=tt hq1;omega))) (tt hq2)
    rw[hz]at hc
    cases hc
   ·refine ai<|aC (.v (aV I) I<|.a 1 I<|.k [27,28,29] I) ?_
    exact⟨L.length - (k+1),by omega,k+1,by omega,rfl,rfl⟩
  ·have hke:k=L.length:=by have:=ff hc;omega
   exact bh<|ab (.a 2 I<|.k [8,9] I)<|ao<|⟨_,_,az.of I,ay.pure,rfl⟩
end
structure Lone (T:an) (tb:Nat→de) (p0:dv) (Φ:Nat→Nat→List bU→Prop):Prop where
 runs:iX T tb p0 Φ
 one:∀ {u n s},Φ u n s→(bK T tb p0 n s).ax.length≤1
 del:∀ {u n s},Φ u n s→(bK T tb p0 n s).ax=[]→(bK T tb p0 n s).cT= -1
section
variable {T:an} {k x:Int} {d:Nat} {st:Nat→Int} {p0:dv}
end
end
end PW
end Go.Proofs.YtnegbdpggideiaaGreatDoor
namespace Go.Proofs.YtnegbdpggideiaaGreatDoor
namespace eY
section
open Go.RowKit Go.Shelf cE
structure Rest (a b:Nat) (w w':World):Prop where
 os:w'.os=w.os
 tape:w'.tape=w.tape
 output:w'.output=w.output
 size:w.heap.size≤w'.heap.size
 block:∀k,k<w.heap.size→(k<a∨b≤k)→w'.heap[k]? =w.heap[k]?
 cells:∀(k:Nat) (o:Obj),w.heap[k]? =some o→o.isCells=true→w'.heap[k]? =some o
theorem Rest.refl(a b:Nat)(w:World):Rest a b w w:=⟨rfl,rfl,rfl,Nat.le_refl _,fun _ _ _=>rfl,fun _ _ h _=>h⟩
theorem Rest.trans{a b:Nat}{w w' w'':World}(h:Rest a b w w')(k:Rest a b w' w''):Rest a b w w'':=
 ⟨k.os.trans h.os,k.tape.trans h.tape,k.output.trans h.output,Nat.le_trans h.size k.size,fun j h1 h2=>(k.block j (Nat.lt_of_lt_of_le h1 h.size) h2).trans (h.block j h1 h2),fun j o h1 h2=>k.cells j o (h.cells j o h1 h2) h2⟩
theorem Rest.wide{a b a' b':Nat}{w w':World}(h:Rest a b w w')(h1:a'≤a)(h2:b≤b'):Rest a' b' w w':=
 ⟨h.os,h.tape,h.output,h.size,fun k k1 k2=>h.block k k1 (by omega),h.cells⟩
theorem Rest.put{a b l:Nat}{w:World}{o o0:Obj}(h0:w.heap[l]? =some o0)(hc:o0.isCells=false)(h1:a≤l)(h2:l<b):Rest a b w (w.putObj l o):=
 ⟨rfl,rfl,rfl,by simp,fun k _ k2=>World.putObj_heap_other (by omega),fun k o1 k1 k2=>(World.putObj_heap_other (fun e=>by subst e;rw[h0]at k1;cases k1;rw[hc]at k2;cases k2)).trans k1⟩
theorem Hx{w w':World}(h:Ext w w'){l:Nat}{o:Obj}(hl:w.heap.size≤l):Ext w (w'.putObj l o):=
 ⟨h.os,h.tape,h.output,by simp;exact h.size,fun k hk=>(World.putObj_heap_other (by omega)).trans (h.block k hk)⟩
def Calm(G:Value→World→Prop):Prop:=∀v w l r o,G v w→w.heap[l]? =some (Obj.loop r)→G v (w.putObj l o)
def zn(P:Program)(g:Nat)(lb:Array Value)(G:Value→World→Prop)(W₀:World):Prop:=
 ∀(n l:Nat) (W:World) (R:World→World→Prop),Below W₀.heap.size W₀ W→
  (∀W1 W2,R W1 W2→W1.heap.size≤W2.heap.size∧∀k,W.heap.size≤k→k<W1.heap.size→W2.heap[k]? =W1.heap[k]?)→
  (∀m v W1,Ext W W1→G v W1→YieldAt Fence.wide m P l #[v] W1 fun e W2=>e= .returned (.bool true)∧R W1 W2)→
  CallsIn Fence.wide n P g (#[.func (.yield l) #[] #[]]++lb) W fun e W'=>(∃v,e= .returned v)∧∃W1 W2,Ext W W1∧R W1 W2∧Rest W.heap.size W1.heap.size W2 W'
structure Left (s:Nat) (W1 W3:World):Prop where
 size:W1.heap.size≤W3.heap.size
 block:∀k,s≤k→k<W1.heap.size→W3.heap[k]? =W1.heap[k]?
theorem lR{P:Program}{n:Nat}{g:Operand}{ps:Array Tmp}{assign body:Code}{Q:Exit→Act→World→Prop}{a:Act}{w:World}
    {gf:Nat} {lb:Array Value} (hg:a.eval g= .func (.func gf) #[] lb) (eg:∀args w,(callFunc gf args).run P w= .ok (.enter gf args) w)
    {G:Value→World→Prop} (hG:Calm G) (hGx:∀v W W',G v W→Ext W W'→G v W') {W₀:World} (EK:zn P gf lb G W₀) (hb0:Below W₀.heap.size W₀ w) (hps:ps.size=1) (Rx:World→World→Prop)
    (hround:∀m l v (W1:World),l=w.heap.size+1→(∃r,W1.heap[l]? =some (.loop r))→Ext w W1→G v W1→
      assign.wpIn (Fence.wide.inRound l) m P (Exit.then (fun a₁ Wa=>Ext W1 Wa∧∀Wb,(∃r,Wb.heap[l]? =some (.loop r))→Ext w Wb→Wb.heap.size=Wa.heap.size→(∀k,k≠l→Wb.heap[k]? =Wa.heap[k]?)→G v Wb→
        body.wpIn (Fence.wide.inRound l) m P (Exit.then (fun _ W3=>Left w.heap.size Wb W3∧Rx Wb W3) (fun _ _ _=>False)) a₁ Wb) (fun _ _ _=>False))
        {tmps:=(ps.zip #[v]).foldl (fun t (p,v)=>t.setIfInBounds p v) a.tmps,defers:=[]} W1)
    (hdone:∀(Wb W3 W':World),Ext w Wb→w.heap.size<Wb.heap.size→Wb.heap.size≤W3.heap.size→Rx Wb W3→Rest w.heap.size Wb.heap.size W3 W'→W'.heap[w.heap.size]? =some (.deferred (some []))→Q .normal {a with defers:= {target:=.collected w.heap.size,args:= #[]}::a.defers} W'):
    (Code.rangeFunc g ps assign body).wpIn Fence.wide n P Q a w:=by
  refine wpIn_rangeFunc ?_
  intro fn hfn
  obtain⟨rec,hrec⟩:∃rec:LoopState→Option Code→Loop,rec=fun st pe=> {state:=st,pending:=pe,fn,tmps:=a.tmps,params:=ps,assign,body,defers:=w.heap.size}:=⟨_,rfl⟩
  obtain⟨W1,hW1⟩:∃W1,(w.alloc (.deferred (some []))).alloc (.loop (rec .ready none))=W1:=⟨_,rfl⟩
  have hL1:W1.heap[w.heap.size+1]? =some (.loop (rec .ready none)):=by
    rw[←hW1];have:=World.alloc_heap_new (w.alloc (.deferred (some []))) (.loop (rec .ready none));rwa [World.size_alloc]at this
  have hK1:W1.heap[w.heap.size]? =some (.deferred (some [])):=by
    rw[←hW1];exact(Below.heap_alloc _ _ _ (by simp)).trans (World.alloc_heap_new w _)
  have hz1:W1.heap.size=w.heap.size+2:=by rw[←hW1];simp
  have hE1:Ext w W1:=by rw[←hW1];exact((Ext.refl w).alloc _).alloc _
  have hb1:Below W₀.heap.size W₀ W1:=hb0.trans (Below.mono hE1 hb0.size)
  refine⟨w.heap.size+1,[{target:=.collected w.heap.size,args:= #[]}],W1,{target:=.fn (.func gf) lb,args:= #[.func (.yield (w.heap.size+1)) #[] #[]]},W1,gf,
    #[.func (.yield (w.heap.size+1)) #[] #[]]++lb,W1,?_,?_,?_,?_,fun h=>by simp[Fence.wide]at h,?_⟩
  · rw[←hW1,hrec];exact run_enterLoop_outer _ _ _ _ _
  · simp only[resolve,hg]
    simp[go_sem]
  · intro f' _;trivial
  · simp[invoke,go_sem,eg]
  · refine (EK (n - 1) (w.heap.size + 1) W1 (fun A B => A.heap.size ≤ B.heap.size ∧ (∀ k, W1.heap.size ≤ k → k < A.heap.size → B.heap[k]? = A.heap[k]?) ∧
        ∃Wb W3,Ext w Wb∧A.heap.size≤Wb.heap.size∧Wb.heap.size≤W3.heap.size∧Rx Wb W3∧Rest w.heap.size W1.heap.size W3 B∧B.heap[w.heap.size+1]? =some (.loop (rec .ready none))∧B.heap[w.heap.size]? =some (.deferred (some []))) hb1 (fun A B h=>⟨h.1,h.2.1⟩) ?_).mono ?_
    ·
      intro m v W2 hE2 hv
      have hl:W2.heap[w.heap.size+1]? =some (.loop (rec .ready none)):=(hE2.block _ (by omega)).trans hL1
      have hk:W2.heap[w.heap.size]? =some (.deferred (some [])):=(hE2.block _ (by omega)).trans hK1
      have hlt:w.heap.size+1<W2.heap.size:=(Array.getElem?_eq_some_iff.1 hl).1
      have hy:=run_yield (P:=P) (args:= #[v]) hl (by rw[hrec];exact hps.symm)
      rw[hrec]at hy
      refine⟨fn,_,assign,body,hy,roundIn_of_wpIn hfn (wpIn_mono (hround m _ v W2 rfl ⟨_,hl⟩ (hE1.trans hE2) hv) ?_)⟩
      rintro e a1 Wa he
      cases e with
      |normal=>
        obtain⟨hEa,hb⟩:=he
        have hla:Wa.heap[w.heap.size+1]? =some (.loop (rec .ready none)):=(hEa.block _ hlt).trans hl
        have hlta:w.heap.size+1<Wa.heap.size:=(Array.getElem?_eq_some_iff.1 hla).1
        have hza:=hEa.size
        refine⟨_,run_beginRound hla (by rw[hrec]),?_⟩
        obtain⟨Wb,hWb⟩:∃Wb,Wb=Wa.putObj (w.heap.size+1) (.loop {rec .ready none with state:=.busy}):=⟨_,rfl⟩
        have hl2:Wb.heap[w.heap.size+1]? =some (.loop {rec .ready none with state:=.busy}):=by rw[hWb];exact World.putObj_heap_same hlta
        have hk2:Wb.heap[w.heap.size]? =some (.deferred (some [])):=by rw[hWb];exact(World.putObj_heap_other (by omega)).trans ((hEa.block _ (by omega)).trans hk)
        have hzb:Wb.heap.size=Wa.heap.size:=by rw[hWb];simp
        have hEb:Ext w Wb:=by rw[hWb];exact Hx ((hE1.trans hE2).trans hEa) (by omega)
        have hother:∀k,k≠w.heap.size+1→Wb.heap[k]? =Wa.heap[k]? :=fun k hk=>by rw[hWb];exact World.putObj_heap_other hk
        rw[←hWb]
        refine wpIn_mono (hb Wb ⟨_,hl2⟩ hEb hzb hother (by rw[hWb];exact hG _ _ _ _ _ (hGx _ _ _ hv hEa) hla)) ?_
        rintro e2 a3 W3 hp
        cases e2 with
        |normal=>
          obtain⟨hleft,hrx⟩:=hp
          have hl3:W3.heap[w.heap.size+1]? =some (.loop {rec .ready none with state:=.busy}):=(hleft.block _ (by omega) (by omega)).trans hl2
          have hk3:W3.heap[w.heap.size]? =some (.deferred (some [])):=(hleft.block _ (by omega) (by omega)).trans hk2
          have he:=run_endRound (P:=P) none hl3
          rw[hrec]at he
          have hs3:=hleft.size
          refine⟨_,_,he,rfl,?_,?_,Wb,W3,hEb,by omega,hs3,hrx,?_,?_,?_⟩
          · simp only[World.putObj_size];omega
          · intro k h1 h2
            rw[World.putObj_heap_other (by omega),hleft.block k (by omega) (by omega),hother k (by omega),hEa.block k h2]
          · exact Rest.put hl3 rfl (by omega) (by omega)
          · have:=World.putObj_heap_same (w:=W3) (r:=w.heap.size+1) (o:=.loop (rec .ready none)) (by omega)
            rw[hrec]at this ⊢
            exact this
          · rw[World.putObj_heap_other (by omega)];exact hk3
        |_=>exact hp.elim
      |_=>exact he.elim
    ·
      rintro e W' ⟨⟨v,rfl⟩,A,B,hEA,⟨h1,h2,Wb,W3,k1,k2,k3,k4,k5,k6,k7⟩,hrest⟩
      have hzB:w.heap.size+1<B.heap.size:=(Array.getElem?_eq_some_iff.1 k6).1
      have hzA:=hEA.size
      have hl4:W'.heap[w.heap.size+1]? =some (.loop (rec .ready none)):=(hrest.block _ hzB (by omega)).trans k6
      have hk4:W'.heap[w.heap.size]? =some (.deferred (some [])):=(hrest.block _ (by omega) (by omega)).trans k7
      have he:=run_endLoop (P:=P) hl4 (by rw[hrec];simp)
      rw[hrec]at he
      refine⟨none,_,he,hdone Wb W3 _ k1 (by omega) k3 k4 ?_ ?_⟩
      · refine Rest.trans (k5.wide (Nat.le_refl _) (by omega)) (Rest.trans (hrest.wide (by omega) (by omega)) (Rest.put hl4 rfl (by omega) (by omega)))
      · rw[World.putObj_heap_other (by omega)];exact hk4
end
end eY
end Go.Proofs.YtnegbdpggideiaaGreatDoor
namespace Go.Proofs.YtnegbdpggideiaaGreatDoor
namespace PW
section
open Go.RowKit cE Mem
section
variable {P:Program} {ops:Array Oper} {n:Nat}
theorem FU{o:Oper}{a:Act}{w:World}{K K':Act→World→Prop}{Q Q':Exit→Act→World→Prop}(hK:∀a w,K a w→K' a w)(hp:∀c a w,Q (.panic c) a w→Q' (.panic c) a w)(hL:¬LetsOut Q)(h:o.wp P a w K Q):o.wpIn Fence.wide n P a w K' Q':=by
 refine⟨fun _ _=>trivial,?_⟩
 rw[show Fence.wide.round=none from rfl,Oper.semAt_none]
 unfold Oper.wp at h
 generalize (execOp a.eval o).run P w=x at*
 cases x with
 |ok x w'=>
  cases x<;>simp only[Oper.uponIn,Oper.upon]at h ⊢
  case value v=>exact hK _ _ h
  case skip=>exact hK _ _ h
  case defer d=>exact hK _ _ h
  case enter f args=>exact⟨fun h=>by simp[Fence.wide]at h,callsIn_wide.2 (h.mono fun e w'' he=>by cases e<;>first|exact hK _ _ he|exact hp _ _ _ he|exact(hL he).elim)⟩
  case row r args=>exact⟨fun h=>by simp[Fence.wide]at h,fun c cs _=>by
   obtain⟨v,w',r,s⟩:=h c cs
   exact⟨v,w',hK _ _ r,stepsIn_wide.2 s⟩⟩
  all_goals exact h.elim
 |halt x w'=>cases x<;>simp only[Oper.uponIn,Oper.upon]at h ⊢ <;>first|exact hp _ _ _ h|exact h
section
variable {f m:Nat} (hB:wA ops f m=true)
include hB
theorem od{Q:Exit→Act→World→Prop}:∀(r k:Nat) (a:Act) (w:World),k+r=ops.size→m≤k→wpOpsIn Fence.wide n P ops Q (List.range' k r) a w→wpAnyIn Fence.wide n P .any ops Q r (upto ops.size k) a w
 |0,k,a,w,hk,_,h=>by
  obtain rfl:k=ops.size:=by omega
  exact⟨tM,h⟩
 |r+1,k,a,w,hk,hm,h=>by
  have hr:=qK hB k (by omega) hm
  refine⟨fun h0=>absurd (hr.symm.trans h0) (by simp),fun i hi=>?_⟩
  rw[hr]at hi
  simp at hi
  subst hi
  rw[List.range'_succ,wpOpsIn_cons]at h
  rw[wO]
  exact wpOpIn_mono (fun a w h=>od r (i+1) a w (by omega) (by omega) h) h
end
def qG(n:Nat)(P:Program)(ops:Array Oper)(Q:Exit→Act→World→Prop)(m r:Nat):Exit→Act→World→Prop
 | .normal,a,w=>wpOpsIn Fence.wide n P ops Q (List.range' m r) a w
 |_,_,_=>False
theorem uj{Q:Exit→Act→World→Prop}{m r:Nat}:¬LetsOut (qG n P ops Q m r):=fun⟨_,_,h⟩=>h
theorem sD{f m:Nat}(hB:wA ops f m=true)(hm:m≤ops.size){Q:Exit→Act→World→Prop}:∀(fuel:Nat) (l₁ ls:Array Bool) (a:Act) (w:World),l₁.size=m→ls.size=ops.size→(∀i,i<m→ls.getD i true=l₁.getD i true)→(∀i,m≤i→i<ops.size→ls.getD i true=false)→Down ops ls→bM ls m=fuel→
  wpAny P .any (ops.extract 0 m) (qG n P ops Q m (ops.size - m)) fuel l₁ a w→wpAnyIn Fence.wide n P .any ops Q (fuel+(ops.size - m)) ls a w:=by
 have hsz:(ops.extract 0 m).size=m:=by simp;omega
 have hget:∀i,i<m→(ops.extract 0 m)[i]? =ops[i]? :=fun i hi=>by rw[Array.getElem?_extract];simp;omega
 have haft:∀i,i<m→lX (ops.extract 0 m) i=lX ops i:=fun i hi=>by unfold lX;rw[hget i hi]
 intro fuel
 induction fuel with
 |zero=>
  intro l₁ ls a w hs1 hs2 hsame hrest hd hu h
  have:ls=upto ops.size m:=by
   apply Array.ext
   ·simp[upto,hs2]
   ·intro i h1 h2
    have hi:i<ops.size:=by omega
    have e:ls.getD i true=(upto ops.size m).getD i true:=by
     rw[gP _ _ _ hi]
     by_cases him:i<m
     ·rw[dp hu i him];simp[him]
     ·rw[hrest i (by omega) hi];simp[him]
    simpa[h1,h2]using e
  rw[this]
  simpa using od hB (ops.size - m) m a w (by omega) (Nat.le_refl _) h.2
 |succ fuel ih=>
  intro l₁ ls a w hs1 hs2 hsame hrest hd hu h
  have hf:∀b c (i:Nat),i<ops.size→ls.getD i b=ls.getD i c:=fun b c i hi=>by simp[show i<ls.size by omega]
  obtain⟨i0,hi0,hi1,hi2⟩:=fO (ls:=ls) (m:=m) (by omega)
  have hrd:∀i,i∈Region.ready .any ops ls→i<m:=fun i hi=>by
   obtain⟨h1,h2,h3⟩:=cF.1 hi
   rcases Nat.lt_or_ge i m with h'|h'
   ·exact h'
   ·have:=eC hs2 hd (gG hB) f i i0 h1 (pA hB i h1 h' i0 (by omega)) h3
    rw[hf false true i0 (by omega),hi1]at this
    cases this
  have hin:∀i,i∈Region.ready .any ops ls→i∈Region.ready .any (ops.extract 0 m) l₁:=fun i hi=>by
   have him:=hrd i hi
   obtain⟨h1,h2,h3⟩:=cF.1 hi
   refine cF.2 ⟨by omega,by rw[←hsame i him];exact h2,fun k hk=>?_⟩
   rw[haft i him]at hk
   have hki:=gG hB i h1 k hk
   have:=h3 k hk
   rw[hf false true k (by omega),hsame k (by omega)]at this
   simpa[show k<l₁.size by omega]using this
  have hi0r:i0∈Region.ready .any ops ls:=cF.2 ⟨by omega,hi1,fun k hk=>by
   have:=gG hB i0 (by omega) k hk
   rw[hf false true k (by omega)];exact hi2 k this⟩
  rw[show fuel+1+(ops.size - m)=(fuel+(ops.size - m))+1 by omega]
  refine⟨fun h0=>absurd hi0r (by rw[h0];simp),fun i hi=>?_⟩
  have him:=hrd i hi
  obtain⟨h1,h2,h3⟩:=cF.1 hi
  have hstep:=h.2 i (hin i hi)
  have next:∀a w,wpAny P .any (ops.extract 0 m) (qG n P ops Q m (ops.size - m)) fuel (l₁.setIfInBounds i true) a w→wpAnyIn Fence.wide n P .any ops Q (fuel+(ops.size - m)) (ls.setIfInBounds i true) a w:=fun a w hh=>by
   refine ih _ _ a w (by simpa using hs1) (by simpa using hs2) (fun j hj=>?_) (fun j hj hj'=>?_) (fun j hj hj' k hk=>?_) (by have:=fR h2 him (by omega);omega) hh
   ·by_cases e:i=j
    ·subst e;simp[show i<ls.size by omega,show i<l₁.size by omega]
    ·have:=hsame j hj
     simp only[Array.getD_eq_getD_getElem?,Array.getElem?_setIfInBounds_ne e]at this ⊢
     exact this
   ·have:=hrest j hj hj'
    simp only[Array.getD_eq_getD_getElem?,Array.getElem?_setIfInBounds_ne (show i≠j by omega)]at this ⊢
    exact this
   ·by_cases e:i=j
    ·subst e
     have hki:=gG hB i h1 k hk
     have:=h3 k hk
     simp only[Array.getD_eq_getD_getElem?,Array.getElem?_setIfInBounds_ne (show i≠k by omega)]at this ⊢
     exact this
    ·have hj2:ls.getD j true=true:=by
      simp only[Array.getD_eq_getD_getElem?,Array.getElem?_setIfInBounds_ne e]at hj ⊢
      exact hj
     have:=hd j hj2 hj' k hk
     by_cases e2:i=k
     ·subst e2;simp[show i<ls.size by omega]
     ·simp only[Array.getD_eq_getD_getElem?,Array.getElem?_setIfInBounds_ne e2]at this ⊢
      exact this
  unfold wpOp at hstep
  unfold wpOpIn
  rw[hget i him]at hstep
  have ho:ops[i]? =some ops[i]:=by simp[h1]
  rw[ho]at hstep ⊢
  simp only at hstep ⊢
  have hy:Region.wanted ops[i] (yielded (ops.extract 0 m) a.tmps)=Region.wanted ops[i] (yielded ops a.tmps):=by
   unfold Region.wanted
   cases hg:(ops[i]).guard with
   |none=>rfl
   |some g=>
    obtain⟨j,wt⟩:=g
    have:=tG hB i ops[i] j wt ho hg
    simp only[yielded]
    rw[hget j (by omega)]
  rw[hy]at hstep
  split
  ·rename_i hw
   rw[if_pos hw]at hstep
   rcases hstep with hh|⟨hh,hl⟩
   ·exact FU next (fun _ _ _ h=>h.elim) uj hh
   ·exact absurd hl uj
  ·rename_i hw
   rw[if_neg hw]at hstep
   exact⟨fun _ _=>trivial,next _ _ hstep⟩
theorem sL{N:Nat}{id:Nat}{l:List Oper}{t t':cg}{σ:cc}{F:Nat→Prop}{base:Nat}{E:Env}{a:Act}{w:World}{Q:Exit→Act→World→Prop}(m f:Nat)(D:List Nat)(hm:P.follows .mixedOrders=true)(hB:Region.lexB .any (l.take m).toArray=true)
    (hn:((l.take m).all fun o=>o.dst.all fun e=>decide (e<N)&&D.contains e)=true) (hbar:wA l.toArray f m=true) (hml:Nat.ble m l.length=true) (hs:ee F base N ⟨t,σ⟩ E a w)
    (h:eh P N (l.take m).toArray σ (l.take m) t t') (hw:∀a' w',Ext w w'→ee F base N ⟨t',σ⟩ E a' w'→wpOpsIn Fence.wide n P l.toArray Q (List.range' m (l.toArray.size - m)) a' w'):(Code.region id l.toArray true).wpIn Fence.wide n P Q a w:=by
  obtain⟨arr,ds⟩:=a
  have hds:ds=[]:=hs.j9
  have hmle:m≤l.length:=Nat.ble_eq.mp hml
  have hlt:(l.take m).length=m:=by simp;omega
  refine wpIn_region_any hm ?_
  have hfr:=sU (Q:=qG n P l.toArray Q m (l.toArray.size - m)) hs D hB hn h (fun b w' hE hs'=>hw _ _ hE hs')
  have he:l.toArray.extract 0 m=(l.take m).toArray:=by simp
  have := sD (P := P) (n := n) hbar (by simpa using hmle) (Q := Q) m (Array.replicate m false) (Array.replicate l.toArray.size false) ⟨arr, ds⟩ { w with drawn := w.drawn + 1 } (by simp) (by simp) (fun i hi => by rw [dS _ _ hi, dS _ _ (by simp; omega)]) (fun i _ hi => dS _ _ hi _) (fun i hi hi' => by
      have:(Array.replicate l.toArray.size false).getD i true=false:=dS _ _ hi' _
      rw[this]at hi;cases hi) (by
      have:∀k,k≤l.length→bM (Array.replicate l.toArray.size false) k=k:=by
        intro k
        induction k with
        |zero=>intro _;rfl
        |succ k ih=>
          intro hk
          simp only[bM]
          rw[ih (by omega)]
          have:(Array.replicate l.toArray.size false).getD k true=false:=dS _ _ (by simp;omega) _
          rw[this];simp
      exact this m hmle) (by rw[he];rw[hlt]at hfr;exact hfr)
  rw[show m+(l.toArray.size - m)=l.toArray.size by simp;omega]at this
  exact this
end
end
end PW
end Go.Proofs.YtnegbdpggideiaaGreatDoor
