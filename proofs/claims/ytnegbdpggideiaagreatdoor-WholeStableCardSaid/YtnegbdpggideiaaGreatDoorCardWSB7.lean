/- Texts of the proof, part 7. -/
import Derived.RangeFuncNested
import Derived.RangeFuncBound
import Derived.RangeFuncCalls
import Derived.RangeFuncLeaves
import Derived.Shelf.Abstract
import Derived.Shelf.RegionOpen
import Derived.WalkKit
import Derived.OwnWalkIn
import Derived.TacticsInMore
import Derived.LoopNIn
import Derived.LoopIn
import Derived.RangeFuncFrom
import Derived.Test.YtnegbdpggideiaaGreatDoorCardWSB6
set_option linter.unusedVariables false
set_option linter.unusedSimpArgs false
set_option maxRecDepth 10000
set_option maxHeartbeats 1000000
namespace Go.Proofs.YtnegbdpggideiaaGreatDoor
namespace eS
open Go.RowKit Go.Shelf Net
attribute [local go_sem] Oper.semAt_some
structure Kp (G n:Nat) (W W':World):Prop where
 size:W.heap.size≤W'.heap.size
 block:∀b,b<n→b≠G→W'.heap[b]? =W.heap[b]?
theorem Kp.refl(G n:Nat)(W:World):Kp G n W W:=⟨Nat.le_refl _,fun _ _ _=>rfl⟩
theorem Kp.trans{G n:Nat}{A B C:World}(h:Kp G n A B)(k:Kp G n B C):Kp G n A C:=⟨Nat.le_trans h.size k.size,fun b h1 h2=>(k.block b h1 h2).trans (h.block b h1 h2)⟩
theorem Kp.cell{G n:Nat}{W W':World}(h:Kp G n W W'){p:Addr}(hb:p.block<n)(hG:p.block≠G):W'.cell? p=W.cell? p:=World.cell?_of_block (h.block _ hb hG)
theorem gF{W:World}{a:Addr}{v:Value}(o:Obj)(h:W.cell? a=some v):(W.alloc o).cell? a=some v:=cell_kept h (World.grownBy_alloc W o none) (fun r e=>by cases e)
theorem Kp.alloc{G n:Nat}{W:World}(h:n≤W.heap.size)(o:Obj):Kp G n W (W.alloc o):=⟨by simp,fun b h1 _=>Below.heap_alloc _ _ _ (by omega)⟩
def cD(k x:Int)(L:List mc)(i:Nat):Bool:=if k=1 then decide ((i:Int)=x) else if k=2 then decide ((cr L i).a=x)||decide ((cr L i).b=x) else decide ((cr L i).tX=x)
abbrev Ix(N:Nat):= {i:Nat // i<N}
def kz(p:Nat→Bool)(N:Nat):Nat→List (Ix N)
 |0=>[]
 |k+1=>if h:p k=true∧k<N then kz p N k++[⟨k,h.2⟩] else kz p N k
theorem nw(p:Nat→Bool)(N:Nat):∀k,(kz p N k).length≤k
 |0=>Nat.le_refl _
 |k+1=>by
  simp only[kz]
  have:=nw p N k
  split
  ·simp;omega
  ·omega
theorem nz{p:Nat→Bool}{N k:Nat}(h:p k=true)(hk:k<N):kz p N (k+1)=kz p N k++[⟨k,hk⟩]:=by simp only[kz];rw[dif_pos ⟨h,hk⟩]
theorem tP{p:Nat→Bool}{N k:Nat}(h:p k=false):kz p N (k+1)=kz p N k:=by simp only[kz];rw[dif_neg (by rw[h];simp)]
set_option maxRecDepth 100000 in
set_option maxHeartbeats 4000000 in
theorem Ah(F:Fence)(n:Nat)(hf:F.fn 160)(hro:F.round=none)(hn:1≤n)(l Bt Bc G n₁ b off cap:Nat)(L:List mc)(x:Int)(hreach:L.length≤1000)(hb:b<n₁)(hbG:b≠G)(hc1:Bc<n₁)(hcG:Bc≠G)(J Jx:List (Ix L.length)→World→Prop)
  (hY:∀pre (i:Ix L.length) W,J pre W→pre.length<L.length→YieldAt F (n - 1) Tryz.prog l #[.int .i64 (i.1:Int)] W fun e W'=>
   (e= .returned (.bool true)∧J (pre++[i]) W'∧Kp G n₁ W W')∨(e= .returned (.bool false)∧Jx (pre++[i]) W'))
  (W:World) (hBt:W.cell? ⟨Bt,2,none⟩=some (.slice (some ⟨b,off,none⟩) L.length cap)) (hBk:W.cell? ⟨Bc,0,none⟩=some (.int .i64 1)) (hBx:W.cell? ⟨Bc,1,none⟩=some (.int .i64 x))
  (hcs:∀i,i<L.length→W.cell? ⟨b,off+i*7,none⟩=some (.int .i64 (cr L i).a)∧W.cell? ⟨b,off+i*7+1,none⟩=some (.int .i64 (cr L i).b)∧W.cell? ⟨b,off+i*7+2,none⟩=some (.int .i64 (cr L i).c0)∧W.cell? ⟨b,off+i*7+3,none⟩=some (.int .i64 (cr L i).c1)∧W.cell? ⟨b,off+i*7+4,none⟩=some (.int .i64 (cr L i).cap)∧W.cell? ⟨b,off+i*7+5,none⟩=some (.int .i64 (cr L i).eW)∧W.cell? ⟨b,off+i*7+6,none⟩=some (.int .i64 (cr L i).tX))
  (hsz:n₁≤W.heap.size) (hA:AbidesFrom W.heap.size J) (h0:J [] W):
  CallsIn F n Tryz.prog 160 #[.func (.yield l) #[] #[],.pointer (some ⟨Bt,0,none⟩),.pointer (some ⟨Bc,0,none⟩)] W fun e W'=>(∃v,e= .returned v)∧
   ((∃ys,ys=kz (cD 1 x L) L.length L.length∧J ys W')∨(∃pre,Jx pre W')):=by
 refine callsIn_of_wp Tryz.func160 rfl hf ?_ hro
 simp only[Tryz.ntmps160,List.size_toArray,List.length_cons,List.length_nil,Nat.reduceAdd,Nat.reduceSub,Array.replicate_succ,Array.replicate_zero,List.push_toArray,List.append_toArray,List.nil_append,List.cons_append]
 gi_wp2
 gi_loopw [10] (fun i wr=>∃k:Nat,k≤L.length∧i= .int .i64 k∧J (kz (cD 1 x L) L.length k) wr∧Kp G n₁ W wr)
  (fun i _=>L.length - (intOf i).toNat)
 case atStart=>exact⟨0,Nat.zero_le _,rfl,h0,Kp.refl _ _ _⟩
 case round=>
  obtain⟨k,hk,rfl,hJs,hnx⟩:=hrel
  by_cases hlt:k<L.length
  ·obtain⟨a0,a1,a2,a3,a4,a5,a6⟩:=hcs k hlt
   have b0:=(hnx.cell (p:=⟨b,off+k*7,none⟩) hb hbG).trans a0
   have b1:=(hnx.cell (p:=⟨b,off+k*7+1,none⟩) hb hbG).trans a1
   have b2:=(hnx.cell (p:=⟨b,off+k*7+2,none⟩) hb hbG).trans a2
   have b3:=(hnx.cell (p:=⟨b,off+k*7+3,none⟩) hb hbG).trans a3
   have b4:=(hnx.cell (p:=⟨b,off+k*7+4,none⟩) hb hbG).trans a4
   have b5:=(hnx.cell (p:=⟨b,off+k*7+5,none⟩) hb hbG).trans a5
   have b6:=(hnx.cell (p:=⟨b,off+k*7+6,none⟩) hb hbG).trans a6
   have c0:=(hnx.cell (p:=⟨Bc,0,none⟩) hc1 hcG).trans hBk
   have c1:=(hnx.cell (p:=⟨Bc,1,none⟩) hc1 hcG).trans hBx
   clear a0 a1 a2 a3 a4 a5 a6
   obtain⟨fa,hfa⟩:∃v,(cr L k).a=v:=⟨_,rfl⟩
   obtain⟨fb,hfb⟩:∃v,(cr L k).b=v:=⟨_,rfl⟩
   obtain⟨fg,hfg⟩:∃v,(cr L k).tX=v:=⟨_,rfl⟩
   rw[hfa]at b0
   rw[hfb]at b1
   rw[hfg]at b6
   have d0:=gF (.cells #[.int .i64 fa,.int .i64 fb,.int .i64 (cr L k).c0,.int .i64 (cr L k).c1,.int .i64 (cr L k).cap,.int .i64 (cr L k).eW,.int .i64 fg] 127) c0
   have d1:=gF (.cells #[.int .i64 fa,.int .i64 fb,.int .i64 (cr L k).c0,.int .i64 (cr L k).c1,.int .i64 (cr L k).cap,.int .i64 (cr L k).eW,.int .i64 fg] 127) c1
   have hJ2:J (kz (cD 1 x L) L.length k) (wr.alloc (.cells #[.int .i64 fa,.int .i64 fb,.int .i64 (cr L k).c0,.int .i64 (cr L k).c1,.int .i64 (cr L k).cap,.int .i64 (cr L k).eW,.int .i64 fg] 127)):=hA _ _ _ none hJs (World.grownBy_alloc _ _ none) (fun r e=>by cases e)
   have hK2:Kp G n₁ W (wr.alloc (.cells #[.int .i64 fa,.int .i64 fb,.int .i64 (cr L k).c0,.int .i64 (cr L k).c1,.int .i64 (cr L k).cap,.int .i64 (cr L k).eW,.int .i64 fg] 127)):=hnx.trans (Kp.alloc (by have:=hnx.size;omega) _)
   by_cases hp:(k:Int)=x
   ·subst hp
    obtain⟨fn,tmps,assign,body,hy,hR⟩:=hY _ ⟨k,hlt⟩ _ hJ2 (by have:=nw (cD 1 (k:Int) L) L.length k;omega)
    dsimp only at hy
    have hpk:cD 1 (k:Int) L k=true:=by unfold cD;simp
    gi_wp2
    refine hR.mono ?_
    rintro e W3 (⟨rfl,hJ3,hk3⟩|⟨rfl,hJx3⟩)
    ·gi_wp2
     go_roundw
     case rel=>exact⟨k+1,by omega,by simp,by rw[nz hpk hlt];exact hJ3,hK2.trans hk3⟩
     case measure=>simp[intOf];omega
    ·gi_wp2
     refine bodyPost_ret (results_none rfl _ _ _) rfl ?_
     exact⟨⟨_,rfl⟩,.inr ⟨_,hJx3⟩⟩
   ·have hpk:cD 1 x L k=false:=by unfold cD;simp[hfa,hfb,hfg,hp]
    gi_wp2
    refine⟨fun _ h=>(by cases h),?_⟩
    gi_wp2
    go_roundw
    case rel=>exact⟨k+1,by omega,by simp,by rw[tP hpk];exact hJ2,hK2⟩
    case measure=>simp[intOf];omega
  ·obtain rfl:k=L.length:=by omega
   gi_wp2
   go_end0
   exact⟨⟨_,rfl⟩,.inl ⟨_,rfl,hJs⟩⟩
set_option maxRecDepth 100000 in
set_option maxHeartbeats 4000000 in
theorem AR(F:Fence)(n:Nat)(hf:F.fn 160)(hro:F.round=none)(hn:1≤n)(l Bt Bc G n₁ b off cap:Nat)(L:List mc)(x:Int)(hreach:L.length≤1000)(hb:b<n₁)(hbG:b≠G)(hc1:Bc<n₁)(hcG:Bc≠G)(J Jx:List (Ix L.length)→World→Prop)
  (hY:∀pre (i:Ix L.length) W,J pre W→pre.length<L.length→YieldAt F (n - 1) Tryz.prog l #[.int .i64 (i.1:Int)] W fun e W'=>
   (e= .returned (.bool true)∧J (pre++[i]) W'∧Kp G n₁ W W')∨(e= .returned (.bool false)∧Jx (pre++[i]) W'))
  (W:World) (hBt:W.cell? ⟨Bt,2,none⟩=some (.slice (some ⟨b,off,none⟩) L.length cap)) (hBk:W.cell? ⟨Bc,0,none⟩=some (.int .i64 2)) (hBx:W.cell? ⟨Bc,1,none⟩=some (.int .i64 x))
  (hcs:∀i,i<L.length→W.cell? ⟨b,off+i*7,none⟩=some (.int .i64 (cr L i).a)∧W.cell? ⟨b,off+i*7+1,none⟩=some (.int .i64 (cr L i).b)∧W.cell? ⟨b,off+i*7+2,none⟩=some (.int .i64 (cr L i).c0)∧W.cell? ⟨b,off+i*7+3,none⟩=some (.int .i64 (cr L i).c1)∧W.cell? ⟨b,off+i*7+4,none⟩=some (.int .i64 (cr L i).cap)∧W.cell? ⟨b,off+i*7+5,none⟩=some (.int .i64 (cr L i).eW)∧W.cell? ⟨b,off+i*7+6,none⟩=some (.int .i64 (cr L i).tX))
  (hsz:n₁≤W.heap.size) (hA:AbidesFrom W.heap.size J) (h0:J [] W):
  CallsIn F n Tryz.prog 160 #[.func (.yield l) #[] #[],.pointer (some ⟨Bt,0,none⟩),.pointer (some ⟨Bc,0,none⟩)] W fun e W'=>(∃v,e= .returned v)∧
   ((∃ys,ys=kz (cD 2 x L) L.length L.length∧J ys W')∨(∃pre,Jx pre W')):=by
 refine callsIn_of_wp Tryz.func160 rfl hf ?_ hro
 simp only[Tryz.ntmps160,List.size_toArray,List.length_cons,List.length_nil,Nat.reduceAdd,Nat.reduceSub,Array.replicate_succ,Array.replicate_zero,List.push_toArray,List.append_toArray,List.nil_append,List.cons_append]
 gi_wp2
 gi_loopw [10] (fun i wr=>∃k:Nat,k≤L.length∧i= .int .i64 k∧J (kz (cD 2 x L) L.length k) wr∧Kp G n₁ W wr)
  (fun i _=>L.length - (intOf i).toNat)
 case atStart=>exact⟨0,Nat.zero_le _,rfl,h0,Kp.refl _ _ _⟩
 case round=>
  obtain⟨k,hk,rfl,hJs,hnx⟩:=hrel
  by_cases hlt:k<L.length
  ·obtain⟨a0,a1,a2,a3,a4,a5,a6⟩:=hcs k hlt
   have b0:=(hnx.cell (p:=⟨b,off+k*7,none⟩) hb hbG).trans a0
   have b1:=(hnx.cell (p:=⟨b,off+k*7+1,none⟩) hb hbG).trans a1
   have b2:=(hnx.cell (p:=⟨b,off+k*7+2,none⟩) hb hbG).trans a2
   have b3:=(hnx.cell (p:=⟨b,off+k*7+3,none⟩) hb hbG).trans a3
   have b4:=(hnx.cell (p:=⟨b,off+k*7+4,none⟩) hb hbG).trans a4
   have b5:=(hnx.cell (p:=⟨b,off+k*7+5,none⟩) hb hbG).trans a5
   have b6:=(hnx.cell (p:=⟨b,off+k*7+6,none⟩) hb hbG).trans a6
   have c0:=(hnx.cell (p:=⟨Bc,0,none⟩) hc1 hcG).trans hBk
   have c1:=(hnx.cell (p:=⟨Bc,1,none⟩) hc1 hcG).trans hBx
   clear a0 a1 a2 a3 a4 a5 a6
   obtain⟨fa,hfa⟩:∃v,(cr L k).a=v:=⟨_,rfl⟩
   obtain⟨fb,hfb⟩:∃v,(cr L k).b=v:=⟨_,rfl⟩
   obtain⟨fg,hfg⟩:∃v,(cr L k).tX=v:=⟨_,rfl⟩
   rw[hfa]at b0
   rw[hfb]at b1
   rw[hfg]at b6
   have d0:=gF (.cells #[.int .i64 fa,.int .i64 fb,.int .i64 (cr L k).c0,.int .i64 (cr L k).c1,.int .i64 (cr L k).cap,.int .i64 (cr L k).eW,.int .i64 fg] 127) c0
   have d1:=gF (.cells #[.int .i64 fa,.int .i64 fb,.int .i64 (cr L k).c0,.int .i64 (cr L k).c1,.int .i64 (cr L k).cap,.int .i64 (cr L k).eW,.int .i64 fg] 127) c1
   have hJ2:J (kz (cD 2 x L) L.length k) (wr.alloc (.cells #[.int .i64 fa,.int .i64 fb,.int .i64 (cr L k).c0,.int .i64 (cr L k).c1,.int .i64 (cr L k).cap,.int .i64 (cr L k).eW,.int .i64 fg] 127)):=hA _ _ _ none hJs (World.grownBy_alloc _ _ none) (fun r e=>by cases e)
   have hK2:Kp G n₁ W (wr.alloc (.cells #[.int .i64 fa,.int .i64 fb,.int .i64 (cr L k).c0,.int .i64 (cr L k).c1,.int .i64 (cr L k).cap,.int .i64 (cr L k).eW,.int .i64 fg] 127)):=hnx.trans (Kp.alloc (by have:=hnx.size;omega) _)
   by_cases hp:fa=x
   ·subst hp
    obtain⟨fn,tmps,assign,body,hy,hR⟩:=hY _ ⟨k,hlt⟩ _ hJ2 (by have:=nw (cD 2 fa L) L.length k;omega)
    dsimp only at hy
    have hpk:cD 2 fa L k=true:=by unfold cD;simp[hfa,hfb,hfg]
    gi_wp2
    refine hR.mono ?_
    rintro e W3 (⟨rfl,hJ3,hk3⟩|⟨rfl,hJx3⟩)
    ·gi_wp2
     go_roundw
     case rel=>exact⟨k+1,by omega,by simp,by rw[nz hpk hlt];exact hJ3,hK2.trans hk3⟩
     case measure=>simp[intOf];omega
    ·gi_wp2
     refine bodyPost_ret (results_none rfl _ _ _) rfl ?_
     exact⟨⟨_,rfl⟩,.inr ⟨_,hJx3⟩⟩
   ·by_cases hq:fb=x
    ·subst hq
     obtain⟨fn,tmps,assign,body,hy,hR⟩:=hY _ ⟨k,hlt⟩ _ hJ2 (by have:=nw (cD 2 fb L) L.length k;omega)
     dsimp only at hy
     have hpk:cD 2 fb L k=true:=by unfold cD;simp[hfa,hfb,hfg]
     gi_wp2
     refine hR.mono ?_
     rintro e W3 (⟨rfl,hJ3,hk3⟩|⟨rfl,hJx3⟩)
     ·gi_wp2
      go_roundw
      case rel=>exact⟨k+1,by omega,by simp,by rw[nz hpk hlt];exact hJ3,hK2.trans hk3⟩
      case measure=>simp[intOf];omega
     ·gi_wp2
      refine bodyPost_ret (results_none rfl _ _ _) rfl ?_
      exact⟨⟨_,rfl⟩,.inr ⟨_,hJx3⟩⟩
    ·have hpk:cD 2 x L k=false:=by unfold cD;simp[hfa,hfb,hfg,hp,hq]
     gi_wp2
     refine⟨fun _ h=>(by cases h),?_⟩
     gi_wp2
     go_roundw
     case rel=>exact⟨k+1,by omega,by simp,by rw[tP hpk];exact hJ2,hK2⟩
     case measure=>simp[intOf];omega
  ·obtain rfl:k=L.length:=by omega
   gi_wp2
   go_end0
   exact⟨⟨_,rfl⟩,.inl ⟨_,rfl,hJs⟩⟩
set_option maxRecDepth 100000 in
set_option maxHeartbeats 4000000 in
theorem zu(F:Fence)(n:Nat)(hf:F.fn 160)(hro:F.round=none)(hn:1≤n)(l Bt Bc G n₁ b off cap:Nat)(L:List mc)(x:Int)(hreach:L.length≤1000)(hb:b<n₁)(hbG:b≠G)(hc1:Bc<n₁)(hcG:Bc≠G)(J Jx:List (Ix L.length)→World→Prop)
  (hY:∀pre (i:Ix L.length) W,J pre W→pre.length<L.length→YieldAt F (n - 1) Tryz.prog l #[.int .i64 (i.1:Int)] W fun e W'=>
   (e= .returned (.bool true)∧J (pre++[i]) W'∧Kp G n₁ W W')∨(e= .returned (.bool false)∧Jx (pre++[i]) W'))
  (W:World) (hBt:W.cell? ⟨Bt,2,none⟩=some (.slice (some ⟨b,off,none⟩) L.length cap)) (hBk:W.cell? ⟨Bc,0,none⟩=some (.int .i64 3)) (hBx:W.cell? ⟨Bc,1,none⟩=some (.int .i64 x))
  (hcs:∀i,i<L.length→W.cell? ⟨b,off+i*7,none⟩=some (.int .i64 (cr L i).a)∧W.cell? ⟨b,off+i*7+1,none⟩=some (.int .i64 (cr L i).b)∧W.cell? ⟨b,off+i*7+2,none⟩=some (.int .i64 (cr L i).c0)∧W.cell? ⟨b,off+i*7+3,none⟩=some (.int .i64 (cr L i).c1)∧W.cell? ⟨b,off+i*7+4,none⟩=some (.int .i64 (cr L i).cap)∧W.cell? ⟨b,off+i*7+5,none⟩=some (.int .i64 (cr L i).eW)∧W.cell? ⟨b,off+i*7+6,none⟩=some (.int .i64 (cr L i).tX))
  (hsz:n₁≤W.heap.size) (hA:AbidesFrom W.heap.size J) (h0:J [] W):
  CallsIn F n Tryz.prog 160 #[.func (.yield l) #[] #[],.pointer (some ⟨Bt,0,none⟩),.pointer (some ⟨Bc,0,none⟩)] W fun e W'=>(∃v,e= .returned v)∧
   ((∃ys,ys=kz (cD 3 x L) L.length L.length∧J ys W')∨(∃pre,Jx pre W')):=by
 refine callsIn_of_wp Tryz.func160 rfl hf ?_ hro
 simp only[Tryz.ntmps160,List.size_toArray,List.length_cons,List.length_nil,Nat.reduceAdd,Nat.reduceSub,Array.replicate_succ,Array.replicate_zero,List.push_toArray,List.append_toArray,List.nil_append,List.cons_append]
 gi_wp2
 gi_loopw [10] (fun i wr=>∃k:Nat,k≤L.length∧i= .int .i64 k∧J (kz (cD 3 x L) L.length k) wr∧Kp G n₁ W wr)
  (fun i _=>L.length - (intOf i).toNat)
 case atStart=>exact⟨0,Nat.zero_le _,rfl,h0,Kp.refl _ _ _⟩
 case round=>
  obtain⟨k,hk,rfl,hJs,hnx⟩:=hrel
  by_cases hlt:k<L.length
  ·obtain⟨a0,a1,a2,a3,a4,a5,a6⟩:=hcs k hlt
   have b0:=(hnx.cell (p:=⟨b,off+k*7,none⟩) hb hbG).trans a0
   have b1:=(hnx.cell (p:=⟨b,off+k*7+1,none⟩) hb hbG).trans a1
   have b2:=(hnx.cell (p:=⟨b,off+k*7+2,none⟩) hb hbG).trans a2
   have b3:=(hnx.cell (p:=⟨b,off+k*7+3,none⟩) hb hbG).trans a3
   have b4:=(hnx.cell (p:=⟨b,off+k*7+4,none⟩) hb hbG).trans a4
   have b5:=(hnx.cell (p:=⟨b,off+k*7+5,none⟩) hb hbG).trans a5
   have b6:=(hnx.cell (p:=⟨b,off+k*7+6,none⟩) hb hbG).trans a6
   have c0:=(hnx.cell (p:=⟨Bc,0,none⟩) hc1 hcG).trans hBk
   have c1:=(hnx.cell (p:=⟨Bc,1,none⟩) hc1 hcG).trans hBx
   clear a0 a1 a2 a3 a4 a5 a6
   obtain⟨fa,hfa⟩:∃v,(cr L k).a=v:=⟨_,rfl⟩
   obtain⟨fb,hfb⟩:∃v,(cr L k).b=v:=⟨_,rfl⟩
   obtain⟨fg,hfg⟩:∃v,(cr L k).tX=v:=⟨_,rfl⟩
   rw[hfa]at b0
   rw[hfb]at b1
   rw[hfg]at b6
   have d0:=gF (.cells #[.int .i64 fa,.int .i64 fb,.int .i64 (cr L k).c0,.int .i64 (cr L k).c1,.int .i64 (cr L k).cap,.int .i64 (cr L k).eW,.int .i64 fg] 127) c0
   have d1:=gF (.cells #[.int .i64 fa,.int .i64 fb,.int .i64 (cr L k).c0,.int .i64 (cr L k).c1,.int .i64 (cr L k).cap,.int .i64 (cr L k).eW,.int .i64 fg] 127) c1
   have hJ2:J (kz (cD 3 x L) L.length k) (wr.alloc (.cells #[.int .i64 fa,.int .i64 fb,.int .i64 (cr L k).c0,.int .i64 (cr L k).c1,.int .i64 (cr L k).cap,.int .i64 (cr L k).eW,.int .i64 fg] 127)):=hA _ _ _ none hJs (World.grownBy_alloc _ _ none) (fun r e=>by cases e)
   have hK2:Kp G n₁ W (wr.alloc (.cells #[.int .i64 fa,.int .i64 fb,.int .i64 (cr L k).c0,.int .i64 (cr L k).c1,.int .i64 (cr L k).cap,.int .i64 (cr L k).eW,.int .i64 fg] 127)):=hnx.trans (Kp.alloc (by have:=hnx.size;omega) _)
   by_cases hp:fg=x
   ·subst hp
    obtain⟨fn,tmps,assign,body,hy,hR⟩:=hY _ ⟨k,hlt⟩ _ hJ2 (by have:=nw (cD 3 fg L) L.length k;omega)
    dsimp only at hy
    have hpk:cD 3 fg L k=true:=by unfold cD;simp[hfa,hfb,hfg]
    gi_wp2
    refine hR.mono ?_
    rintro e W3 (⟨rfl,hJ3,hk3⟩|⟨rfl,hJx3⟩)
    ·gi_wp2
     go_roundw
     case rel=>exact⟨k+1,by omega,by simp,by rw[nz hpk hlt];exact hJ3,hK2.trans hk3⟩
     case measure=>simp[intOf];omega
    ·gi_wp2
     refine bodyPost_ret (results_none rfl _ _ _) rfl ?_
     exact⟨⟨_,rfl⟩,.inr ⟨_,hJx3⟩⟩
   ·have hpk:cD 3 x L k=false:=by unfold cD;simp[hfa,hfb,hfg,hp]
    gi_wp2
    refine⟨fun _ h=>(by cases h),?_⟩
    gi_wp2
    go_roundw
    case rel=>exact⟨k+1,by omega,by simp,by rw[tP hpk];exact hJ2,hK2⟩
    case measure=>simp[intOf];omega
  ·obtain rfl:k=L.length:=by omega
   gi_wp2
   go_end0
   exact⟨⟨_,rfl⟩,.inl ⟨_,rfl,hJs⟩⟩
end eS
end Go.Proofs.YtnegbdpggideiaaGreatDoor
namespace Go.Proofs.YtnegbdpggideiaaGreatDoor
namespace PW
open Go.RowKit cA Mem Net
section
variable {P:Program} {ops:Array Oper} {Q:Exit→Act→World→Prop}
theorem wF{l n:Nat}{o:Oper}{a:Act}{w:World}{K K':Act→World→Prop}(hnd:∀c,o.op≠ .defer c)(hL:¬LetsOut Q)(hK:∀a w,K a w→K' a w)(h:o.wp P a w K Q):o.wpIn (Fence.wide.inRound l) n P a w K' Q:=by
 refine⟨fun _ _=>trivial,?_⟩
 rw[Fence.inRound_round,Oper.semAt_eq _ _ _ hnd]
 unfold Oper.wp at h
 generalize (execOp a.eval o).run P w=x at*
 cases x with
 |ok x w'=>
  cases x<;>simp only[Oper.uponIn,Oper.upon]at h ⊢
  case value v=>exact hK _ _ h
  case skip=>exact hK _ _ h
  case defer d=>exact hK _ _ h
  case enter f args=>exact⟨fun h=>by simp[Fence.wide]at h,CallsIn.inRound l (callsIn_wide.2 (h.mono fun e w'' he=>by cases e<;>first|exact hK _ _ he|exact he))⟩
  case row r args=>exact⟨fun h=>by simp[Fence.wide]at h,fun c cs _=>by
   obtain⟨v,w',r,s⟩:=h c cs
   exact⟨v,w',hK _ _ r,stepsIn_wide.2 s⟩⟩
  all_goals exact h.elim
 |halt x w'=>cases x<;>simp only[Oper.uponIn,Oper.upon]at h ⊢ <;>exact h
theorem jd{l n:Nat}(hnd:∀(i:Nat) (o:Oper),ops[i]? =some o→∀c,o.op≠ .defer c)(hL:¬LetsOut Q):∀(fuel:Nat) (ls:Array Bool) (a:Act) (w:World),wpAny P .any ops Q fuel ls a w→wpAnyIn (Fence.wide.inRound l) n P .any ops Q fuel ls a w
 |0,ls,a,w,h=>h
 |fuel+1,ls,a,w,h=>by
  refine⟨h.1,fun i hi=>?_⟩
  have h2:=h.2 i hi
  unfold wpOp at h2
  unfold wpOpIn
  cases ho:ops[i]? with
  |none=>rw[ho]at h2;exact jd hnd hL fuel _ a w h2
  |some o=>
   rw[ho]at h2
   simp only at h2 ⊢
   split
   ·rename_i hw
    rw[if_pos hw]at h2
    rcases h2 with h2|h2
    ·exact wF (hnd i o ho) hL (fun a w h=>jd hnd hL fuel _ a w h) h2
    ·exact absurd h2.2 hL
   ·rename_i hw
    rw[if_neg hw]at h2
    exact⟨fun _ _=>trivial,jd hnd hL fuel _ _ w h2⟩
end
end PW
end Go.Proofs.YtnegbdpggideiaaGreatDoor
namespace Go.Proofs.YtnegbdpggideiaaGreatDoor
namespace PW
open Go.RowKit cA Mem Net
def Gq:Code→Option (Array Oper)
 | .block _ (.region _ ops _)=>some ops
 |_=>none
def pc:Code→Option (Operand×Array Tmp×Code×Code)
 | .rangeFunc g ps a b=>some (g,ps,a,b)
 | .seq x y=>(pc x).orElse fun _=>pc y
 | .cond _ x y=>(pc x).orElse fun _=>pc y
 | .block _ x=>pc x
 | .loop x=>pc x
 |_=>none
def opsOf(f:Func):Array Oper:=(((f.body.bind pc).bind fun x=>Gq x.2.2.2).getD #[])
set_option maxHeartbeats 4000000 in
theorem Gs(M:List Bool)(i:Nat)(hi:2*i+1<M.length)(hM:M.length≤1000):WA Tryz.prog 41 2 (opsOf Tryz.f60) 11 #[false,false,false,false,false,false,false,false,false,false,false] ⟨[(6,.ptr 1 0),(9,num i)],[some (.row 4 1 M.length (bP M)),some (.cells 22 [.own 0])]⟩ (fun s=>s.σ=[some (.row 4 1 M.length (bP ((M.set (2*i) true).set (2*i+1) true))),some (.cells 22 [.own 0])]):=by
 have hl1:(M.set (2*i) true).length=M.length:=by simp
 refine tD [[(6,.ptr 1 0),(9,num i),(30,.own 0),(31,num i),(32,num ((2*i:Nat):Int)),(33,.own 0),(34,num i),(35,num ((2*i:Nat):Int)),(36,num ((2*i+1:Nat):Int)),(37,.ptr 0 (2*i)),(38,.ptr 0 (2*i+1))]] [[some (.row 4 1 M.length (bP M)),some (.cells 22 [.own 0])],[some (.row 4 1 M.length (bP (M.set (2*i) true))),some (.cells 22 [.own 0])],[some (.row 4 1 M.length (bP ((M.set (2*i) true).set (2*i+1) true))),some (.cells 22 [.own 0])]] [6,9] rfl (by kernel_rfl) (fun M hi ho=>?_)
 have μ0:M 0 2047 0 [] 2:=hi<|qz rfl (by kernel_rfl) (rfl)
 have μ1:M 1 1023 0 [38] 1:=hi<|aa [(10,2047)] rfl (by kernel_rfl)<|nR rfl rfl (bb rfl (bE.tk.get rfl) rfl rfl rfl (by simp;omega)) rfl rfl (ho μ0) rfl rfl ae
 have μ2:M 2 511 0 [33,36] 1:=hi<|aa [(9,1023)] rfl (by kernel_rfl)<|bc rfl rfl (aI (2*i+1) rfl) rfl (ho μ1) rfl rfl ae
 have μ3:M 3 255 0 [33,36,37] 0:=hi<|aa [(8,511)] rfl (by kernel_rfl)<|nR rfl rfl (bb rfl (bE.tk.get rfl) rfl rfl rfl (by omega)) rfl rfl (ho μ2) rfl rfl ae
 have μ4:M 4 127 0 [30,32,33,36] 0:=hi<|aa [(7,255)] rfl (by kernel_rfl)<|bc rfl rfl (aI (2*i) rfl) rfl (ho μ3) rfl rfl ae
 have μ5:M 3 447 0 [33,35] 1:=hi<|aa [(6,511)] rfl (by kernel_rfl)<|bc rfl rfl (aR rfl (hc:=show((2*i:Nat):Int)+1=((2*i+1:Nat):Int) by omega) (hn:=by unfold In64;omega)) rfl (ho μ2) rfl rfl ae
 have μ6:M 4 191 0 [33,35,37] 0:=hi<|aa [(6,255),(8,447)] rfl (by kernel_rfl)<|bc rfl rfl (aR rfl (hc:=show((2*i:Nat):Int)+1=((2*i+1:Nat):Int) by omega) (hn:=by unfold In64;omega)) rfl (ho μ3) rfl rfl<|nR rfl rfl (bb rfl (bE.tk.get rfl) rfl rfl rfl (by omega)) rfl rfl (ho μ5) rfl rfl ae
 have μ7:M 5 63 0 [30,32,33,35] 0:=hi<|aa [(6,127),(7,191)] rfl (by kernel_rfl)<|bc rfl rfl (aR rfl (hc:=show((2*i:Nat):Int)+1=((2*i+1:Nat):Int) by omega) (hn:=by unfold In64;omega)) rfl (ho μ4) rfl rfl<|bc rfl rfl (aI (2*i) rfl) rfl (ho μ6) rfl rfl ae
 have μ8:M 4 415 0 [33,34] 1:=hi<|aa [(5,447)] rfl (by kernel_rfl)<|bc rfl rfl (aR rfl (hc:=show(2:Int)*(i:Int)=((2*i:Nat):Int) by omega) (hn:=by unfold In64;omega)) rfl (ho μ5) rfl rfl ae
 have μ9:M 5 159 0 [33,34,37] 0:=hi<|aa [(5,191),(8,415)] rfl (by kernel_rfl)<|bc rfl rfl (aR rfl (hc:=show(2:Int)*(i:Int)=((2*i:Nat):Int) by omega) (hn:=by unfold In64;omega)) rfl (ho μ6) rfl rfl<|nR rfl rfl (bb rfl (bE.tk.get rfl) rfl rfl rfl (by omega)) rfl rfl (ho μ8) rfl rfl ae
 have μ10:M 6 31 0 [30,32,33,34] 0:=hi<|aa [(5,63),(7,159)] rfl (by kernel_rfl)<|bc rfl rfl (aR rfl (hc:=show(2:Int)*(i:Int)=((2*i:Nat):Int) by omega) (hn:=by unfold In64;omega)) rfl (ho μ7) rfl rfl<|bc rfl rfl (aI (2*i) rfl) rfl (ho μ9) rfl rfl ae
 have μ11:M 5 399 0 [9,33] 1:=hi<|aa [(4,415)] rfl (by kernel_rfl)<|ag (ho μ8) rfl rfl ae
 have μ12:M 6 143 0 [9,33,37] 0:=hi<|aa [(4,159),(8,399)] rfl (by kernel_rfl)<|ag (ho μ9) rfl rfl<|nR rfl rfl (bb rfl (bE.tk.get rfl) rfl rfl rfl (by omega)) rfl rfl (ho μ11) rfl rfl ae
 have μ13:M 7 15 0 [9,30,32,33] 0:=hi<|aa [(4,31),(7,143)] rfl (by kernel_rfl)<|ag (ho μ10) rfl rfl<|bc rfl rfl (aI (2*i) rfl) rfl (ho μ12) rfl rfl ae
 have μ14:M 3 503 0 [6,36] 1:=hi<|aa [(3,511)] rfl (by kernel_rfl)<|ag (ho μ2) rfl rfl ae
 have μ15:M 4 247 0 [6,36,37] 0:=hi<|aa [(3,255),(8,503)] rfl (by kernel_rfl)<|ag (ho μ3) rfl rfl<|nR rfl rfl (bb rfl (bE.tk.get rfl) rfl rfl rfl (by omega)) rfl rfl (ho μ14) rfl rfl ae
 have μ16:M 5 119 0 [6,30,32,36] 0:=hi<|aa [(3,127),(7,247)] rfl (by kernel_rfl)<|ag (ho μ4) rfl rfl<|bc rfl rfl (aI (2*i) rfl) rfl (ho μ15) rfl rfl ae
 have μ17:M 4 439 0 [6,35] 1:=hi<|aa [(3,447),(6,503)] rfl (by kernel_rfl)<|ag (ho μ5) rfl rfl<|bc rfl rfl (aR rfl (hc:=show((2*i:Nat):Int)+1=((2*i+1:Nat):Int) by omega) (hn:=by unfold In64;omega)) rfl (ho μ14) rfl rfl ae
 have μ18:M 5 183 0 [6,35,37] 0:=hi<|aa [(3,191),(6,247),(8,439)] rfl (by kernel_rfl)<|ag (ho μ6) rfl rfl<|bc rfl rfl (aR rfl (hc:=show((2*i:Nat):Int)+1=((2*i+1:Nat):Int) by omega) (hn:=by unfold In64;omega)) rfl (ho μ15) rfl rfl<|nR rfl rfl (bb rfl (bE.tk.get rfl) rfl rfl rfl (by omega)) rfl rfl (ho μ17) rfl rfl ae
 have μ19:M 6 55 0 [6,30,32,35] 0:=hi<|aa [(3,63),(6,119),(7,183)] rfl (by kernel_rfl)<|ag (ho μ7) rfl rfl<|bc rfl rfl (aR rfl (hc:=show((2*i:Nat):Int)+1=((2*i+1:Nat):Int) by omega) (hn:=by unfold In64;omega)) rfl (ho μ16) rfl rfl<|bc rfl rfl (aI (2*i) rfl) rfl (ho μ18) rfl rfl ae
 have μ20:M 5 407 0 [6,34] 1:=hi<|aa [(3,415),(5,439)] rfl (by kernel_rfl)<|ag (ho μ8) rfl rfl<|bc rfl rfl (aR rfl (hc:=show(2:Int)*(i:Int)=((2*i:Nat):Int) by omega) (hn:=by unfold In64;omega)) rfl (ho μ17) rfl rfl ae
 have μ21:M 6 151 0 [6,34,37] 0:=hi<|aa [(3,159),(5,183),(8,407)] rfl (by kernel_rfl)<|ag (ho μ9) rfl rfl<|bc rfl rfl (aR rfl (hc:=show(2:Int)*(i:Int)=((2*i:Nat):Int) by omega) (hn:=by unfold In64;omega)) rfl (ho μ18) rfl rfl<|nR rfl rfl (bb rfl (bE.tk.get rfl) rfl rfl rfl (by omega)) rfl rfl (ho μ20) rfl rfl ae
 have μ22:M 7 23 0 [6,30,32,34] 0:=hi<|aa [(3,31),(5,55),(7,151)] rfl (by kernel_rfl)<|ag (ho μ10) rfl rfl<|bc rfl rfl (aR rfl (hc:=show(2:Int)*(i:Int)=((2*i:Nat):Int) by omega) (hn:=by unfold In64;omega)) rfl (ho μ19) rfl rfl<|bc rfl rfl (aI (2*i) rfl) rfl (ho μ21) rfl rfl ae
 have μ23:M 6 391 0 [6,9] 1:=hi<|aa [(3,399),(4,407)] rfl (by kernel_rfl)<|ag (ho μ11) rfl rfl<|ag (ho μ20) rfl rfl ae
 have μ24:M 7 135 0 [6,9,37] 0:=hi<|aa [(3,143),(4,151),(8,391)] rfl (by kernel_rfl)<|ag (ho μ12) rfl rfl<|ag (ho μ21) rfl rfl<|nR rfl rfl (bb rfl (bE.tk.get rfl) rfl rfl rfl (by omega)) rfl rfl (ho μ23) rfl rfl ae
 have μ25:M 8 7 0 [6,9,30,32] 0:=hi<|aa [(3,15),(4,23),(7,135)] rfl (by kernel_rfl)<|ag (ho μ13) rfl rfl<|ag (ho μ22) rfl rfl<|bc rfl rfl (aI (2*i) rfl) rfl (ho μ24) rfl rfl ae
 have μ26:M 5 123 0 [30,31,33,36] 0:=hi<|aa [(2,127)] rfl (by kernel_rfl)<|bc rfl rfl (aR rfl (hc:=show(2:Int)*(i:Int)=((2*i:Nat):Int) by omega) (hn:=by unfold In64;omega)) rfl (ho μ4) rfl rfl ae
 have μ27:M 6 59 0 [30,31,33,35] 0:=hi<|aa [(2,63),(6,123)] rfl (by kernel_rfl)<|bc rfl rfl (aR rfl (hc:=show(2:Int)*(i:Int)=((2*i:Nat):Int) by omega) (hn:=by unfold In64;omega)) rfl (ho μ7) rfl rfl<|bc rfl rfl (aR rfl (hc:=show((2*i:Nat):Int)+1=((2*i+1:Nat):Int) by omega) (hn:=by unfold In64;omega)) rfl (ho μ26) rfl rfl ae
 have μ28:M 7 27 0 [30,31,33,34] 0:=hi<|aa [(2,31),(5,59)] rfl (by kernel_rfl)<|bc rfl rfl (aR rfl (hc:=show(2:Int)*(i:Int)=((2*i:Nat):Int) by omega) (hn:=by unfold In64;omega)) rfl (ho μ10) rfl rfl<|bc rfl rfl (aR rfl (hc:=show(2:Int)*(i:Int)=((2*i:Nat):Int) by omega) (hn:=by unfold In64;omega)) rfl (ho μ27) rfl rfl ae
 have μ29:M 8 11 0 [9,30,31,33] 0:=hi<|aa [(2,15),(4,27)] rfl (by kernel_rfl)<|bc rfl rfl (aR rfl (hc:=show(2:Int)*(i:Int)=((2*i:Nat):Int) by omega) (hn:=by unfold In64;omega)) rfl (ho μ13) rfl rfl<|ag (ho μ28) rfl rfl ae
 have μ30:M 6 115 0 [6,30,31,36] 0:=hi<|aa [(2,119),(3,123)] rfl (by kernel_rfl)<|bc rfl rfl (aR rfl (hc:=show(2:Int)*(i:Int)=((2*i:Nat):Int) by omega) (hn:=by unfold In64;omega)) rfl (ho μ16) rfl rfl<|ag (ho μ26) rfl rfl ae
 have μ31:M 7 51 0 [6,30,31,35] 0:=hi<|aa [(2,55),(3,59),(6,115)] rfl (by kernel_rfl)<|bc rfl rfl (aR rfl (hc:=show(2:Int)*(i:Int)=((2*i:Nat):Int) by omega) (hn:=by unfold In64;omega)) rfl (ho μ19) rfl rfl<|ag (ho μ27) rfl rfl<|bc rfl rfl (aR rfl (hc:=show((2*i:Nat):Int)+1=((2*i+1:Nat):Int) by omega) (hn:=by unfold In64;omega)) rfl (ho μ30) rfl rfl ae
 have μ32:M 8 19 0 [6,30,31,34] 0:=hi<|aa [(2,23),(3,27),(5,51)] rfl (by kernel_rfl)<|bc rfl rfl (aR rfl (hc:=show(2:Int)*(i:Int)=((2*i:Nat):Int) by omega) (hn:=by unfold In64;omega)) rfl (ho μ22) rfl rfl<|ag (ho μ28) rfl rfl<|bc rfl rfl (aR rfl (hc:=show(2:Int)*(i:Int)=((2*i:Nat):Int) by omega) (hn:=by unfold In64;omega)) rfl (ho μ31) rfl rfl ae
 have μ33:M 9 3 0 [6,9,30,31] 0:=hi<|aa [(2,7),(3,11),(4,19)] rfl (by kernel_rfl)<|bc rfl rfl (aR rfl (hc:=show(2:Int)*(i:Int)=((2*i:Nat):Int) by omega) (hn:=by unfold In64;omega)) rfl (ho μ25) rfl rfl<|ag (ho μ29) rfl rfl<|ag (ho μ32) rfl rfl ae
 have μ34:M 6 121 0 [9,30,33,36] 0:=hi<|aa [(1,123)] rfl (by kernel_rfl)<|ag (ho μ26) rfl rfl ae
 have μ35:M 7 57 0 [9,30,33,35] 0:=hi<|aa [(1,59),(6,121)] rfl (by kernel_rfl)<|ag (ho μ27) rfl rfl<|bc rfl rfl (aR rfl (hc:=show((2*i:Nat):Int)+1=((2*i+1:Nat):Int) by omega) (hn:=by unfold In64;omega)) rfl (ho μ34) rfl rfl ae
 have μ36:M 8 25 0 [9,30,33,34] 0:=hi<|aa [(1,27),(5,57)] rfl (by kernel_rfl)<|ag (ho μ28) rfl rfl<|bc rfl rfl (aR rfl (hc:=show(2:Int)*(i:Int)=((2*i:Nat):Int) by omega) (hn:=by unfold In64;omega)) rfl (ho μ35) rfl rfl ae
 have μ37:M 9 9 0 [9,30,33] 0:=hi<|aa [(1,11),(4,25)] rfl (by kernel_rfl)<|ag (ho μ29) rfl rfl<|ag (ho μ36) rfl rfl ae
 have μ38:M 7 113 0 [6,9,30,36] 0:=hi<|aa [(1,115),(3,121)] rfl (by kernel_rfl)<|ag (ho μ30) rfl rfl<|ag (ho μ34) rfl rfl ae
 have μ39:M 8 49 0 [6,9,30,35] 0:=hi<|aa [(1,51),(3,57),(6,113)] rfl (by kernel_rfl)<|ag (ho μ31) rfl rfl<|ag (ho μ35) rfl rfl<|bc rfl rfl (aR rfl (hc:=show((2*i:Nat):Int)+1=((2*i+1:Nat):Int) by omega) (hn:=by unfold In64;omega)) rfl (ho μ38) rfl rfl ae
 have μ40:M 9 17 0 [6,9,30,34] 0:=hi<|aa [(1,19),(3,25),(5,49)] rfl (by kernel_rfl)<|ag (ho μ32) rfl rfl<|ag (ho μ36) rfl rfl<|bc rfl rfl (aR rfl (hc:=show(2:Int)*(i:Int)=((2*i:Nat):Int) by omega) (hn:=by unfold In64;omega)) rfl (ho μ39) rfl rfl ae
 have μ41:M 10 1 0 [6,9,30] 0:=hi<|aa [(1,3),(3,9),(4,17)] rfl (by kernel_rfl)<|ag (ho μ33) rfl rfl<|ag (ho μ37) rfl rfl<|ag (ho μ40) rfl rfl ae
 have μ42:M 5 126 0 [6,32,33,36] 0:=hi<|aa [(0,127)] rfl (by kernel_rfl)<|ag (ho μ4) rfl rfl ae
 have μ43:M 6 62 0 [6,32,33,35] 0:=hi<|aa [(0,63),(6,126)] rfl (by kernel_rfl)<|ag (ho μ7) rfl rfl<|bc rfl rfl (aR rfl (hc:=show((2*i:Nat):Int)+1=((2*i+1:Nat):Int) by omega) (hn:=by unfold In64;omega)) rfl (ho μ42) rfl rfl ae
 have μ44:M 7 30 0 [6,32,33,34] 0:=hi<|aa [(0,31),(5,62)] rfl (by kernel_rfl)<|ag (ho μ10) rfl rfl<|bc rfl rfl (aR rfl (hc:=show(2:Int)*(i:Int)=((2*i:Nat):Int) by omega) (hn:=by unfold In64;omega)) rfl (ho μ43) rfl rfl ae
 have μ45:M 8 14 0 [6,9,32,33] 0:=hi<|aa [(0,15),(4,30)] rfl (by kernel_rfl)<|ag (ho μ13) rfl rfl<|ag (ho μ44) rfl rfl ae
 have μ46:M 6 118 0 [6,32,36] 0:=hi<|aa [(0,119),(3,126)] rfl (by kernel_rfl)<|ag (ho μ16) rfl rfl<|ag (ho μ42) rfl rfl ae
 have μ47:M 7 54 0 [6,32,35] 0:=hi<|aa [(0,55),(3,62),(6,118)] rfl (by kernel_rfl)<|ag (ho μ19) rfl rfl<|ag (ho μ43) rfl rfl<|bc rfl rfl (aR rfl (hc:=show((2*i:Nat):Int)+1=((2*i+1:Nat):Int) by omega) (hn:=by unfold In64;omega)) rfl (ho μ46) rfl rfl ae
 have μ48:M 8 22 0 [6,32,34] 0:=hi<|aa [(0,23),(3,30),(5,54)] rfl (by kernel_rfl)<|ag (ho μ22) rfl rfl<|ag (ho μ44) rfl rfl<|bc rfl rfl (aR rfl (hc:=show(2:Int)*(i:Int)=((2*i:Nat):Int) by omega) (hn:=by unfold In64;omega)) rfl (ho μ47) rfl rfl ae
 have μ49:M 9 6 0 [6,9,32] 0:=hi<|aa [(0,7),(3,14),(4,22)] rfl (by kernel_rfl)<|ag (ho μ25) rfl rfl<|ag (ho μ45) rfl rfl<|ag (ho μ48) rfl rfl ae
 have μ50:M 6 122 0 [6,31,33,36] 0:=hi<|aa [(0,123),(2,126)] rfl (by kernel_rfl)<|ag (ho μ26) rfl rfl<|bc rfl rfl (aR rfl (hc:=show(2:Int)*(i:Int)=((2*i:Nat):Int) by omega) (hn:=by unfold In64;omega)) rfl (ho μ42) rfl rfl ae
 have μ51:M 7 58 0 [6,31,33,35] 0:=hi<|aa [(0,59),(2,62),(6,122)] rfl (by kernel_rfl)<|ag (ho μ27) rfl rfl<|bc rfl rfl (aR rfl (hc:=show(2:Int)*(i:Int)=((2*i:Nat):Int) by omega) (hn:=by unfold In64;omega)) rfl (ho μ43) rfl rfl<|bc rfl rfl (aR rfl (hc:=show((2*i:Nat):Int)+1=((2*i+1:Nat):Int) by omega) (hn:=by unfold In64;omega)) rfl (ho μ50) rfl rfl ae
 have μ52:M 8 26 0 [6,31,33,34] 0:=hi<|aa [(0,27),(2,30),(5,58)] rfl (by kernel_rfl)<|ag (ho μ28) rfl rfl<|bc rfl rfl (aR rfl (hc:=show(2:Int)*(i:Int)=((2*i:Nat):Int) by omega) (hn:=by unfold In64;omega)) rfl (ho μ44) rfl rfl<|bc rfl rfl (aR rfl (hc:=show(2:Int)*(i:Int)=((2*i:Nat):Int) by omega) (hn:=by unfold In64;omega)) rfl (ho μ51) rfl rfl ae
 have μ53:M 9 10 0 [6,9,31,33] 0:=hi<|aa [(0,11),(2,14),(4,26)] rfl (by kernel_rfl)<|ag (ho μ29) rfl rfl<|bc rfl rfl (aR rfl (hc:=show(2:Int)*(i:Int)=((2*i:Nat):Int) by omega) (hn:=by unfold In64;omega)) rfl (ho μ45) rfl rfl<|ag (ho μ52) rfl rfl ae
 have μ54:M 7 114 0 [6,31,36] 0:=hi<|aa [(0,115),(2,118),(3,122)] rfl (by kernel_rfl)<|ag (ho μ30) rfl rfl<|bc rfl rfl (aR rfl (hc:=show(2:Int)*(i:Int)=((2*i:Nat):Int) by omega) (hn:=by unfold In64;omega)) rfl (ho μ46) rfl rfl<|ag (ho μ50) rfl rfl ae
 have μ55:M 8 50 0 [6,31,35] 0:=hi<|aa [(0,51),(2,54),(3,58),(6,114)] rfl (by kernel_rfl)<|ag (ho μ31) rfl rfl<|bc rfl rfl (aR rfl (hc:=show(2:Int)*(i:Int)=((2*i:Nat):Int) by omega) (hn:=by unfold In64;omega)) rfl (ho μ47) rfl rfl<|ag (ho μ51) rfl rfl<|bc rfl rfl (aR rfl (hc:=show((2*i:Nat):Int)+1=((2*i+1:Nat):Int) by omega) (hn:=by unfold In64;omega)) rfl (ho μ54) rfl rfl ae
 have μ56:M 9 18 0 [6,31,34] 0:=hi<|aa [(0,19),(2,22),(3,26),(5,50)] rfl (by kernel_rfl)<|ag (ho μ32) rfl rfl<|bc rfl rfl (aR rfl (hc:=show(2:Int)*(i:Int)=((2*i:Nat):Int) by omega) (hn:=by unfold In64;omega)) rfl (ho μ48) rfl rfl<|ag (ho μ52) rfl rfl<|bc rfl rfl (aR rfl (hc:=show(2:Int)*(i:Int)=((2*i:Nat):Int) by omega) (hn:=by unfold In64;omega)) rfl (ho μ55) rfl rfl ae
 have μ57:M 10 2 0 [6,9,31] 0:=hi<|aa [(0,3),(2,6),(3,10),(4,18)] rfl (by kernel_rfl)<|ag (ho μ33) rfl rfl<|bc rfl rfl (aR rfl (hc:=show(2:Int)*(i:Int)=((2*i:Nat):Int) by omega) (hn:=by unfold In64;omega)) rfl (ho μ49) rfl rfl<|ag (ho μ53) rfl rfl<|ag (ho μ56) rfl rfl ae
 have μ58:M 7 120 0 [6,9,33,36] 0:=hi<|aa [(0,121),(1,122)] rfl (by kernel_rfl)<|ag (ho μ34) rfl rfl<|ag (ho μ50) rfl rfl ae
 have μ59:M 8 56 0 [6,9,33,35] 0:=hi<|aa [(0,57),(1,58),(6,120)] rfl (by kernel_rfl)<|ag (ho μ35) rfl rfl<|ag (ho μ51) rfl rfl<|bc rfl rfl (aR rfl (hc:=show((2*i:Nat):Int)+1=((2*i+1:Nat):Int) by omega) (hn:=by unfold In64;omega)) rfl (ho μ58) rfl rfl ae
 have μ60:M 9 24 0 [6,9,33,34] 0:=hi<|aa [(0,25),(1,26),(5,56)] rfl (by kernel_rfl)<|ag (ho μ36) rfl rfl<|ag (ho μ52) rfl rfl<|bc rfl rfl (aR rfl (hc:=show(2:Int)*(i:Int)=((2*i:Nat):Int) by omega) (hn:=by unfold In64;omega)) rfl (ho μ59) rfl rfl ae
 have μ61:M 10 8 0 [6,9,33] 0:=hi<|aa [(0,9),(1,10),(4,24)] rfl (by kernel_rfl)<|ag (ho μ37) rfl rfl<|ag (ho μ53) rfl rfl<|ag (ho μ60) rfl rfl ae
 have μ62:M 8 112 0 [6,9,36] 0:=hi<|aa [(0,113),(1,114),(3,120)] rfl (by kernel_rfl)<|ag (ho μ38) rfl rfl<|ag (ho μ54) rfl rfl<|ag (ho μ58) rfl rfl ae
 have μ63:M 9 48 0 [6,9,35] 0:=hi<|aa [(0,49),(1,50),(3,56),(6,112)] rfl (by kernel_rfl)<|ag (ho μ39) rfl rfl<|ag (ho μ55) rfl rfl<|ag (ho μ59) rfl rfl<|bc rfl rfl (aR rfl (hc:=show((2*i:Nat):Int)+1=((2*i+1:Nat):Int) by omega) (hn:=by unfold In64;omega)) rfl (ho μ62) rfl rfl ae
 have μ64:M 10 16 0 [6,9,34] 0:=hi<|aa [(0,17),(1,18),(3,24),(5,48)] rfl (by kernel_rfl)<|ag (ho μ40) rfl rfl<|ag (ho μ56) rfl rfl<|ag (ho μ60) rfl rfl<|bc rfl rfl (aR rfl (hc:=show(2:Int)*(i:Int)=((2*i:Nat):Int) by omega) (hn:=by unfold In64;omega)) rfl (ho μ63) rfl rfl ae
 have μ65:M 11 0 0 [6,9] 0:=hi<|aa [(0,1),(1,2),(3,8),(4,16)] rfl (by kernel_rfl)<|ag (ho μ41) rfl rfl<|ag (ho μ57) rfl rfl<|ag (ho μ61) rfl rfl<|ag (ho μ64) rfl rfl ae
 exact μ65
end PW
end Go.Proofs.YtnegbdpggideiaaGreatDoor
namespace Go.Proofs.YtnegbdpggideiaaGreatDoor
namespace PW
open Go.RowKit Go.Shelf cA Mem Net eS
attribute [local go_sem] Oper.semAt_some
def cj(k x:Int):List PV:=[num k,num x]
def cu(k x:Int):PV:=.agg (cj k x)
instance (k x:Int):aG (cj k x):=by unfold cj;infer_instance
instance (k x:Int):IsPure (cu k x):=by unfold cu;infer_instance
def bV(T:ai)(k x:Int):Bool:=if k=1 then decide (0≤x)&&decide (x<(T.af.length:Int)) else if k=2 then bu T x else if k=3 then decide (1≤x)&&decide (x≤64) else false
theorem lg(T:ai)(k x:Int):Can Tryz.prog 118 [aP T,cu k x] (· =flag (bV T k x)):=by
 obtain⟨q1,h1⟩:∃q,decide (0≤x)=q:=⟨_,rfl⟩
 obtain⟨q2,h2⟩:∃q,decide (x<(T.af.length:Int))=q:=⟨_,rfl⟩
 obtain⟨q3,h3⟩:∃q,decide (1≤x)=q:=⟨_,rfl⟩
 obtain⟨q4,h4⟩:∃q,decide (x≤64)=q:=⟨_,rfl⟩
 have hB:bV T k x=if k=1 then(q1&&q2) else if k=2 then bu T x else if k=3 then(q3&&q4) else false:=by unfold bV;rw[h1,h2,h3,h4]
 rw[hB]
 refine aF Tryz.func118 rfl Tryz.ntmps118 rfl<|ab (.a 3 rfl<|.k [2,3] rfl)<|aj<|ab (.a 2 rfl<|.k [2,3,6] rfl)<|av<|ab (.a 2 rfl<|.k [2,3,6,7] rfl)<|ah rfl (fun hk1=>?_) (fun hk1=>?_)
 ·have k1:k=1:=tt hk1
  refine bC 4 (.raw (.bool (q1&&q2))) [] rfl ?_ ?_
  ·refine .a 2 rfl<|.v (cC rfl (h1)) rfl<|.a 1 rfl<|?_
   cases q1
   ·exact .a 8 rfl<|.k [4] rfl
   ·exact .a 5 rfl<|.v (cC rfl (h2)) rfl<|.a 2 rfl<|.k [4] rfl
  exact aq<|⟨_,_,aA.of rfl,aB.pure,by rw[if_pos k1];rfl⟩
 ·have k1:¬k=1:=ff hk1
  refine ab (.a 2 rfl<|.k [2,3,6,20] rfl)<|ah rfl (fun hk2=>?_) (fun hk2=>?_)
  ·have k2:k=2:=tt hk2
   exact ab (.a 3 rfl<|.c rfl (da T x) rfl<|.a 1 rfl<|.k [4] rfl)<|aq<|⟨_,_,aA.of rfl,aB.pure,by rw[if_neg k1,if_pos k2];rfl⟩
  ·have k2:¬k=2:=ff hk2
   refine ab (.a 2 rfl<|.k [3,26] rfl)<|ah rfl (fun hk3=>?_) (fun hk3=>?_)
   ·have k3:k=3:=tt hk3
    refine bC 4 (.raw (.bool (q3&&q4))) [] rfl ?_ ?_
    ·refine .a 2 rfl<|.v (cC rfl (h3)) rfl<|.a 1 rfl<|?_
     cases q3
     ·exact .a 5 rfl<|.k [4] rfl
     ·exact .a 2 rfl<|.v (cC rfl (h4)) rfl<|.a 2 rfl<|.k [4] rfl
    exact aq<|⟨_,_,aA.of rfl,aB.pure,by rw[if_neg k1,if_neg k2,if_pos k3];rfl⟩
   ·have k3:¬k=3:=ff hk3
    exact ak<|ab (.a 1 rfl<|.k [4] rfl)<|aq<|⟨_,_,aA.of rfl,aB.pure,by rw[if_neg k1,if_neg k2,if_neg k3];rfl⟩
set_option maxRecDepth 100000 in
theorem CL(c0 c1 c2:Value)(k x:Int)(n:Nat)(w:World):CallsIn Fence.wide n Tryz.prog 119 #[.agg #[c0,c1,c2],.agg #[.int .i64 k,.int .i64 x]] w fun e w'=>
  e= .returned (.func (.func 160) #[] #[.pointer (some ⟨w.heap.size,0,none⟩),.pointer (some ⟨w.heap.size+1,0,none⟩)])∧w'=(w.alloc (.cells #[c0,c1,c2] 25)).alloc (.cells #[.int .i64 k,.int .i64 x] 33):=by
 refine callsIn_of_wp Tryz.func119 rfl trivial ?_ rfl
 simp only[Tryz.ntmps119,List.size_toArray,List.length_cons,List.length_nil,Nat.reduceAdd,Nat.reduceSub,Array.replicate_succ,Array.replicate_zero,List.push_toArray,List.append_toArray,List.nil_append,List.cons_append]
 gi_wp2
 go_ret
 exact⟨rfl,rfl⟩
def FY(W:World)(b off:Nat)(L:List mc):Prop:=∀i,i<L.length→W.cell? ⟨b,off+i*7,none⟩=some (.int .i64 (cr L i).a)∧W.cell? ⟨b,off+i*7+1,none⟩=some (.int .i64 (cr L i).b)∧W.cell? ⟨b,off+i*7+2,none⟩=some (.int .i64 (cr L i).c0)∧W.cell? ⟨b,off+i*7+3,none⟩=some (.int .i64 (cr L i).c1)∧W.cell? ⟨b,off+i*7+4,none⟩=some (.int .i64 (cr L i).cap)∧W.cell? ⟨b,off+i*7+5,none⟩=some (.int .i64 (cr L i).eW)∧W.cell? ⟨b,off+i*7+6,none⟩=some (.int .i64 (cr L i).tX)
set_option maxRecDepth 100000 in
theorem zw(n l Bt Bc cap:Nat)(ad:Option Addr)(J:List (eS.Ix 0)→World→Prop)(W:World)(hBt:W.cell? ⟨Bt,2,none⟩=some (.slice ad 0 cap))(h0:J [] W):
  CallsIn Fence.wide n Tryz.prog 160 #[.func (.yield l) #[] #[],.pointer (some ⟨Bt,0,none⟩),.pointer (some ⟨Bc,0,none⟩)] W fun e W'=>(∃v,e= .returned v)∧J [] W':=by
 refine callsIn_of_wp Tryz.func160 rfl trivial ?_ rfl
 simp only[Tryz.ntmps160,List.size_toArray,List.length_cons,List.length_nil,Nat.reduceAdd,Nat.reduceSub,Array.replicate_succ,Array.replicate_zero,List.push_toArray,List.append_toArray,List.nil_append,List.cons_append]
 gi_wp2
 gi_loopw [10] (fun i wr=>i= .int .i64 0∧J [] wr) (fun _ _=>0)
 case atStart=>exact⟨rfl,h0⟩
 case round=>
  obtain⟨rfl,hJs⟩:=hrel
  gi_wp2
  go_end0
  exact⟨⟨_,rfl⟩,hJs⟩
def Ip(n₁ G:Nat)(W:World)(v:Value)(L:List mc):Prop:=(∃ad cap,v= .slice ad 0 cap∧L=[])∨∃b off cap,v= .slice (some ⟨b,off,none⟩) L.length cap∧b<n₁∧b≠G∧FY W b off L
theorem uA(T:ai)(k x:Int)(hk:k=1∨k=2∨k=3)(hl:T.af.length≤1000)(n Bt Bc G:Nat)(hn:1≤n)(v:Value)(w:World)(hBtl:Bt<w.heap.size)(hBcl:Bc<w.heap.size)(hBcG:Bc≠G)
  (hBt:w.cell? ⟨Bt,2,none⟩=some v) (hBk:w.cell? ⟨Bc,0,none⟩=some (.int .i64 k)) (hBx:w.cell? ⟨Bc,1,none⟩=some (.int .i64 x)) (hv:Ip w.heap.size G w v T.af):
  SeqStopsK Fence.wide n Tryz.prog 160 #[.pointer (some ⟨Bt,0,none⟩),.pointer (some ⟨Bc,0,none⟩)] (fun i:eS.Ix T.af.length=> #[Value.int .i64 (i.1:Int)]) (Kp G w.heap.size) (fun ys=>ys=kz (cD k x T.af) T.af.length T.af.length) (fun _=>True) T.af.length w:=fun l J Jx W hW hA _ hY h0=>by
 have kt:=(hW.cell (p:=⟨Bt,2,none⟩) hBtl).trans hBt
 have kk:=(hW.cell (p:=⟨Bc,0,none⟩) hBcl).trans hBk
 have kx:=(hW.cell (p:=⟨Bc,1,none⟩) hBcl).trans hBx
 rcases hv with⟨ad,cap,rfl,hL⟩|⟨b,off,cap,rfl,hb,hbG,hc⟩
 ·generalize T.af=L at*
  subst hL
  exact(zw n l Bt Bc cap ad J W kt h0).mono fun e W' h=>⟨h.1,.inl ⟨_,rfl,h.2⟩⟩
 ·have hc2:FY W b off T.af:=fun i hi=>by
   obtain⟨a0,a1,a2,a3,a4,a5,a6⟩:=hc i hi
   exact⟨(hW.cell (p:=⟨b,_,none⟩) hb).trans a0,(hW.cell (p:=⟨b,_,none⟩) hb).trans a1,(hW.cell (p:=⟨b,_,none⟩) hb).trans a2,(hW.cell (p:=⟨b,_,none⟩) hb).trans a3,(hW.cell (p:=⟨b,_,none⟩) hb).trans a4,(hW.cell (p:=⟨b,_,none⟩) hb).trans a5,(hW.cell (p:=⟨b,_,none⟩) hb).trans a6⟩
  have fin:∀ {e:Ending} {W':World},(∃v,e= .returned v)∧((∃ys,ys=kz (cD k x T.af) T.af.length T.af.length∧J ys W')∨(∃pre,Jx pre W'))→(∃v,e= .returned v)∧((∃xs,xs=kz (cD k x T.af) T.af.length T.af.length∧J xs W')∨(∃pre,True∧Jx pre W')):=fun h=>⟨h.1,h.2.imp id fun⟨pre,h⟩=>⟨pre,trivial,h⟩⟩
  rcases hk with rfl|rfl|rfl
  ·exact(Ah Fence.wide n trivial rfl hn l Bt Bc G w.heap.size b off cap T.af x hl hb hbG hBcl hBcG J Jx hY W kt kk kx hc2 hW.size hA h0).mono fun e W' h=>fin h
  ·exact(AR Fence.wide n trivial rfl hn l Bt Bc G w.heap.size b off cap T.af x hl hb hbG hBcl hBcG J Jx hY W kt kk kx hc2 hW.size hA h0).mono fun e W' h=>fin h
  ·exact(zu Fence.wide n trivial rfl hn l Bt Bc G w.heap.size b off cap T.af x hl hb hbG hBcl hBcG J Jx hY W kt kk kx hc2 hW.size hA h0).mono fun e W' h=>fin h
end PW
end Go.Proofs.YtnegbdpggideiaaGreatDoor
namespace Go.Proofs.YtnegbdpggideiaaGreatDoor
namespace PW
open Go.RowKit Go.Shelf cA Mem Net eS
theorem rN{E:Env}{w:World}:∀ {cs:List Value} {M:List Bool},aU E w cs (bP M)→cs=M.map Value.bool
 | [],[],_=>rfl
 | [],b::M,h=>by have:=h.1;simp[bP]at this
 |c::cs,[],h=>by have:=h.1;simp[bP]at this
 |c::cs,b::M,h=>by
  have h0:=dE (h.2 0 c (flag b) rfl rfl)
  have h1:aU E w cs (bP M):=⟨by have:=h.1;simpa[bP]using this,fun i x u k1 k2=>h.2 (i+1) x u (by simpa using k1) (by simpa[bP]using k2)⟩
  rw[rN h1,h0]
  rfl
theorem oe{E:Env}{w:World}:∀(M:List Bool),aU E w (M.map Value.bool) (bP M)
 | []=>aU.nil _ _
 |b::M=>aU.cons (.raw _) (oe M)
def A6{N:Nat}(n:Nat)(l:List (eS.Ix N)):List Bool:=l.foldl (fun M i=>(M.set (2*i.1) true).set (2*i.1+1) true) (List.replicate n false)
theorem vp{N n:Nat}(l:List (eS.Ix N))(i:eS.Ix N):A6 n (l++[i])=((A6 n l).set (2*i.1) true).set (2*i.1+1) true:=by unfold A6;rw[List.foldl_append];rfl
theorem sS{N n:Nat}(l:List (eS.Ix N)):(A6 n l).length=n:=by
 unfold A6
 suffices h:∀M:List Bool,(l.foldl (fun M (i:eS.Ix N)=>(M.set (2*i.1) true).set (2*i.1+1) true) M).length=M.length by rw[h];simp
 induction l with
 |nil=>intro M;rfl
 |cons a l ih=>intro M;rw[List.foldl_cons,ih];simp
def aT(T:ai)(k x:Int):List Bool:=(List.range (2*T.af.length)).map fun a=>cD k x T.af (a / 2)
theorem u6(p:Nat→Bool)(N:Nat):∀k,k≤N→∀a,a<2*N→(A6 (2*N) (kz p N k))[a]? =some (decide (a / 2<k)&&p (a / 2))
 |0,_,a,ha=>by
  show(List.replicate (2*N) false)[a]? =_
  rw[List.getElem?_replicate,if_pos ha]
  simp
 |k+1,hk,a,ha=>by
  have ih:=u6 p N k (by omega) a ha
  have hl:=sS (n:=2*N) (kz p N k)
  cases hp:p k with
  |false=>
   rw[tP hp,ih]
   by_cases e:a / 2=k
   ·rw[e,hp];simp
   ·rw[show decide (a / 2<k+1)=decide (a / 2<k) from decide_eq_decide.2 (by omega)]
  |true=>
   rw[nz hp (by omega),vp]
   simp only
   rw[List.getElem?_set]
   by_cases e1:2*k+1=a
   ·rw[if_pos e1,if_pos (by simp;omega),show a / 2=k by omega,hp]
    simp
   ·rw[if_neg e1,List.getElem?_set]
    by_cases e2:2*k=a
    ·rw[if_pos e2,if_pos (by omega),show a / 2=k by omega,hp]
     simp
    ·rw[if_neg e2,ih,show decide (a / 2<k+1)=decide (a / 2<k) from decide_eq_decide.2 (by omega)]
theorem D1(T:ai)(k x:Int):A6 (2*T.af.length) (kz (cD k x T.af) T.af.length T.af.length)=aT T k x:=by
 apply List.ext_getElem?
 intro a
 by_cases ha:a<2*T.af.length
 ·rw[u6 _ _ _ (Nat.le_refl _) a ha]
  unfold aT
  rw[List.getElem?_map,List.getElem?_range ha]
  have:a / 2<T.af.length:=by omega
  simp[this]
 ·rw[List.getElem?_eq_none (by rw[sS];omega),List.getElem?_eq_none (by unfold aT;simp;omega)]
structure kB (base n B:Nat) (v:Value) (Mm:Nat→Prop) (M:List Bool) (W:World):Prop where
 bl:base≤W.heap.size
 row:W.ownsRow base 4 1 v n (M.map Value.bool)
 box:W.heap[B]? =some (.cells #[v] 22 (0,0))
 gl:gI Mm W
theorem uN{W W':World}{base e n:Nat}{v:Value}{xs:List Value}(h:W.ownsRow base e 1 v n xs)(hs:∀(g:Nat) (o:Array Value),W.heap[g]? =some (Obj.cells o e (0,0))→W'.heap[g]? =W.heap[g]?):W'.ownsRow base e 1 v n xs:=by
 refine⟨h.1,h.2.imp id ?_⟩
 rintro⟨g,cap,cur,h1,h2,h3,h4⟩
 exact⟨g,cap,cur,h1,h2,(hs g cur h3).trans h3,h4⟩
theorem kB.same{base n B:Nat}{v:Value}{Mm:Nat→Prop}{M:List Bool}{W W':World}(h:kB base n B v Mm M W)(hz:W.heap.size≤W'.heap.size)(hs:∀(b:Nat) (cs:Array Value) (t:TypeId) (fz:Nat×Nat),W.heap[b]? =some (Obj.cells cs t fz)→W'.heap[b]? =W.heap[b]?):kB base n B v Mm M W':=
 ⟨Nat.le_trans h.bl hz,uN h.row (fun g o hg=>hs g o _ _ hg),(hs B _ _ _ h.box).trans h.box,fun g cs hg=>by
  obtain⟨h1,t,fz,h2⟩:=h.gl g cs hg
  exact⟨h1,t,fz,(hs g _ _ _ h2).trans h2⟩⟩
theorem kB.grown{base n B:Nat}{v:Value}{Mm:Nat→Prop}{M:List Bool}{W W':World}{row:Option Nat}(h:kB base n B v Mm M W)(hg:W.grownBy W' row)(hr:∀r,row=some r→∃o:Obj,W.heap[r]? =some o∧o.isCells=false):kB base n B v Mm M W':=
 h.same hg.size fun b cs t fz hb=>hg.block b (Array.getElem?_eq_some_iff.1 hb).1 fun e=>by
  obtain⟨o,h1,h2⟩:=hr b e.symm
  rw[hb]at h1
  cases h1
  cases h2
theorem kB.sat{base n B:Nat}{E:Env}{M:List Bool}{W W0:World}{bi:cR}{s0:Option cR}(hS:Sat (fun _=>False) base [some bi,s0] E W0)(hs0:s0=some (.cells 22 [.own 0]))(hbi:∃e s m ys,bi= .row e s m ys)(hB:E.at_ 1= .pointer (some ⟨B,0,none⟩))(hBb:base≤B)(hone:(E.at_ 0).oneCell'=true)(h:kB base n B (E.at_ 0) E.M M W):Sat (fun _=>False) base [some (.row 4 1 n (bP M)),some (.cells 22 [.own 0])] E W:=by
 subst hs0
 have hL:E.L=2:=hS.len
 have old:∀(i:Nat) blk,[some (cR.row 4 1 n (bP M)),some (.cells 22 [.own 0])][i]? =some (some blk)→∃blk',[some bi,some (cR.cells 22 [.own 0])][i]? =some (some blk'):=fun i blk h=>by
  match i,h with
  |0,_=>exact⟨_,rfl⟩
  |1,_=>exact⟨_,rfl⟩
  |_+2,h=>simp at h
 have new:∀(i:Nat) blk,[some bi,some (cR.cells 22 [.own 0])][i]? =some (some blk)→∃blk',[some (cR.row 4 1 n (bP M)),some (.cells 22 [.own 0])][i]? =some (some blk'):=fun i blk h=>by
  match i,h with
  |0,_=>exact⟨_,rfl⟩
  |1,_=>exact⟨_,rfl⟩
  |_+2,h=>simp at h
 refine⟨h.bl,fun b hb=>hb.elim,hL,fun b=>?_,fun i blk hi=>?_,fun i j bi' bj b h1 h2 h3 h4=>?_,h.gl⟩
 ·rw[hS.mm b]
  constructor
  ·rintro(h|⟨i,blk,h1,h2⟩)
   ·exact .inl h
   ·obtain⟨blk',h3⟩:=new i blk h1;exact .inr ⟨i,blk',h3,h2⟩
  ·rintro(h|⟨i,blk,h1,h2⟩)
   ·exact .inl h
   ·obtain⟨blk',h3⟩:=old i blk h1;exact .inr ⟨i,blk',h3,h2⟩
 ·match i,hi with
  |0,hi=>cases hi;exact⟨_,h.row,oe M⟩
  |1,hi=>cases hi;exact⟨B,_,hB,hBb,h.box,aU.cons (.own 0 (by omega) _ rfl hone) (aU.nil _ _)⟩
  |_+2,hi=>simp at hi
 ·obtain⟨b1,e1⟩:=old i bi' h1
  obtain⟨b2,e2⟩:=old j bj h2
  exact hS.inj i j b1 b2 b e1 e2 h3 h4
theorem kB.of{base n B:Nat}{E:Env}{M:List Bool}{W:World}(hS:Sat (fun _=>False) base [some (.row 4 1 n (bP M)),some (.cells 22 [.own 0])] E W)(hB:E.at_ 1= .pointer (some ⟨B,0,none⟩)):kB base n B (E.at_ 0) E.M M W∧(E.at_ 0).oneCell'=true:=by
 obtain⟨cs,h1,h2⟩:=hS.blk 0 _ rfl
 rw[rN h2]at h1
 obtain⟨b,cs1,k1,k2,k3,k4⟩:=hS.blk 1 _ rfl
 have hbB:b=B:=by rw[hB]at k1;cases k1;rfl
 subst hbB
 obtain⟨cl⟩:=cs1
 match cl,k4 with
 | [],k4=>have:=k4.1;simp at this
 |_::_::_,k4=>have:=k4.1;simp at this
 | [u],k4=>
  have hu:=k4.2 0 u _ rfl rfl
  cases hu with
  |own _ _ _ hu ho=>
   subst hu
   exact⟨⟨hS.bl,h1,k3,hS.gl⟩,ho⟩
theorem FQ(w:World)(a b:Value)(t:TypeId):(w.alloc (.cells #[a,b] t)).cell? ⟨w.heap.size,0,none⟩=some a∧(w.alloc (.cells #[a,b] t)).cell? ⟨w.heap.size,1,none⟩=some b:=by
 unfold World.cell?
 simp only[World.alloc_heap_new]
 exact⟨rfl,rfl⟩
theorem IQ(w:World)(a b c:Value)(t:TypeId):(w.alloc (.cells #[a,b,c] t)).cell? ⟨w.heap.size,2,none⟩=some c:=by
 unfold World.cell?
 simp only[World.alloc_heap_new]
 rfl
end PW
end Go.Proofs.YtnegbdpggideiaaGreatDoor
namespace Go.Proofs.YtnegbdpggideiaaGreatDoor
namespace PW
open Go.RowKit Go.Shelf cA Mem Net eS
attribute [local go_sem] Oper.semAt_some
def Gi(K:St→Prop):Exit→St→Prop
 | .normal,s=>K s
 |_,_=>False
theorem piece{P:Program}{N L n:Nat}{c:Code}{st:St}{K:St→Prop}{F:Nat→Prop}{base:Nat}{E₀ E:Env}{w₀ w:World}{a:Act}{Q:Exit→Act→World→Prop}(hc:nK base L E₀ w₀ E w)(hs:dy F base N st E a w)(h:W P N L c st (Gi K))(hq:∀s E' a' w',K s→dy F base N s E' a' w'→cP E₀ w₀ E' w'→Below base w₀ w'→Q .normal a' w'):c.wpIn Fence.wide n P Q a w:=
 wpIn_wide.2 (wp_mono (h F base E₀ w₀ E a w hc hs) fun e a' w' ⟨s,E',k1,k2,k3,k4⟩=>by
  cases e<;>first|exact hq s E' a' w' k1 k2 k3 k4|exact k1.elim)
def tu:Op→Bool
 | .defer _=>true
 |_=>false
theorem Cj{ops:Array Oper}(h:(ops.all fun o=> !tu o.op)=true)(i:Nat)(o:Oper)(ho:ops[i]? =some o)(c:Call):o.op≠ .defer c:=fun e=>by
 have:=Array.all_eq_true'.1 h o (Array.mem_of_getElem? ho)
 rw[e]at this
 cases this
theorem Fm{E:Env}{w w':World}{v:Value}{L:List mc}{n₁ G:Nat}(h:cz E w v (.slice L.length (gd L)))(hE:Ext w w')(hG:G=n₁∨E.M G)(hlt:∀b,E.M b→b<w.heap.size)(hn:w'.heap.size=n₁:=by rfl):Ip n₁ G w' v L:=by
 generalize hn1:L.length=m at h
 generalize hxs:gd L=xs at h
 cases h with
 |b9=>exact .inl ⟨none,0,rfl,List.eq_nil_of_length_eq_zero hn1⟩
 |empty a c _=>exact .inl ⟨some a,c,rfl,List.eq_nil_of_length_eq_zero hn1⟩
 |slice b off _ c cs _ h0 h1 h2 hb hM hc hl hr=>
  subst hn1
  subst hxs
  have hz:=hE.size
  refine .inr ⟨b,off,c,rfl,by omega,fun e=>?_,fun i hi=>?_⟩
  ·subst e
   rcases hG with h|h
   ·omega
   ·exact hM h
  ·have key:∀j v,(jn (cr L i))[j]? =some (.raw v)→j<7→w'.cell? ⟨b,off+(i*7+j),none⟩=some v:=fun j v hj h7=>by
    have e:=eH L i j hi h7
    rw[hj]at e
    have hlt:i*7+j<cs.length:=by rw[hl];exact(List.getElem?_eq_some_iff.1 e).1
    have hcs:cs[i*7+j]? =some cs[i*7+j]:=List.getElem?_eq_getElem hlt
    have:=dE (hr _ _ _ hcs e)
    rw[this]at hcs
    exact hE.cell (hc _ _ hcs)
   have k0:=key 0 _ rfl (by omega)
   have k1:=key 1 _ rfl (by omega)
   have k2:=key 2 _ rfl (by omega)
   have k3:=key 3 _ rfl (by omega)
   have k4:=key 4 _ rfl (by omega)
   have k5:=key 5 _ rfl (by omega)
   have k6:=key 6 _ rfl (by omega)
   simp only[←Nat.add_assoc,Nat.add_zero]at k0 k1 k2 k3 k4 k5 k6
   exact⟨k0,k1,k2,k3,k4,k5,k6⟩
theorem wa{P:Program}{F:Fence}{n:Nat}{c:Code}{Q:Exit→Act→World→Prop}{a:Act}{w:World}(Fin:Act→World→Prop)(h1:c.wpIn F n P (Exit.then Fin Q) a w)(h2:∀a' w',Fin a' w'→c.wpIn F n P (Exit.then (fun _ _=>False) Q) a' w'):(Code.loop c).wpIn F n P Q a w:=by
 have mono:∀ {K K':Act→World→Prop} {a:Act} {w:World},(∀a w,K a w→K' a w)→c.wpIn F n P (Exit.then K Q) a w→c.wpIn F n P (Exit.then K' Q) a w:=fun hk h b k cs hro hb hr=>by
  obtain⟨e,a',w',q,r⟩:=h b k cs hro hb hr
  exact⟨e,a',w',by cases e<;>first|exact hk _ _ q|exact q,r⟩
 classical
 by_cases hf:Fin a w
 ·exact wpIn_loop Fin (fun _ _=>0) hf (fun a w h=>mono (fun _ _ h=>h.elim) (h2 a w h))
 ·refine wpIn_loop (fun a' w'=>(a'=a∧w'=w)∨Fin a' w') (fun a' w'=>if Fin a' w' then 0 else 1) (.inl ⟨rfl,rfl⟩) ?_
  rintro a' w' (⟨rfl,rfl⟩|h)
  ·exact mono (fun a'' w'' h=>⟨.inr h,by rw[if_pos h,if_neg hf];exact Nat.one_pos⟩) h1
  ·exact mono (fun _ _ h=>h.elim) (h2 a' w' h)
theorem bR{α:Type}{l:List α}{n:Nat}(h:l.length=n+1):∃a t,l=a::t∧t.length=n:=by
 cases l with
 |nil=>simp at h
 |cons a t=>exact⟨a,t,rfl,by simpa using h⟩
set_option maxRecDepth 100000 in
set_option maxHeartbeats 4000000 in
theorem Ae(T:ai)(k x:Int)(hv:ao T=true)(hc:bV T k x=true)(w:World)(vs:Array Value)(hR:aU (EF fun _=>False) w vs.toList [aP T,.slice 1 (cj k x)])(gl:gI (fun _=>False) w):
  Calls Tryz.prog 60 vs w fun e w'=>∃v,e= .returned (.tuple #[v,.int .i64 0])∧Ext w w'∧w'.ownsRow w.heap.size 4 1 v (2*T.af.length) ((aT T k x).map Value.bool):=by
 have hll:=bN hv
 have hS:=Sat.start (fun _=>False) w (fun _ h=>h.elim) gl
 refine(callsIn_wide (n:=4)).1 ?_
 refine callsIn_of_wp_marks Tryz.func60 rfl trivial ?_ rfl
 have hs0:=iA (N:=41) hS hR (by have:=hR.1;simp at this;omega)
 have hc0:nK w.heap.size 0 (EF fun _=>False) w (EF fun _=>False) w:=⟨rfl,cP.refl _ _,Below.refl _ _⟩
 refine wpIn_seq (piece (K:=fun s=>s=⟨[(1,.slice 1 (cj k x)),(2,.aV (bx T) 0)],[]⟩) hc0 hs0 ?_ ?_)
 ·skip
  refine ay (.a 3 rfl<|.k [1,2] rfl) ?_
  exact rfl
 rintro _ E1 a1 w1 rfl hs1 g1 b1
 refine wpIn_seq (piece (K:=fun s=>s=⟨[(1,.slice 1 (cj k x)),(2,.aV (bx T) 0)],[]⟩) ⟨rfl,g1,b1⟩ hs1 ?_ ?_)
 ·skip
  refine ab (.a 1 rfl<|.c rfl (de T) rfl<|.a 1 rfl<|.k [1,2,12] rfl) ?_
  rw[hv]
  refine ah rfl (fun hc=>?_) (fun hc=>?_)
  ·cases hc
  ·refine eZ [1,2] rfl (ak ?_)
   exact rfl
 rintro _ E2 a2 w2 rfl hs2 g2 b2
 refine wpIn_seq (piece (K:=fun s=>s=⟨[(1,.slice 1 (cj k x)),(2,.aV (bx T) 0),(6,.ptr 1 0)],[some (.row 4 1 (2*T.af.length) (bP (List.replicate (2*T.af.length) false))),some (.cells 22 [.own 0])]⟩) ⟨rfl,g2,b2⟩ hs2 ?_ ?_)
 ·skip
  refine ba<|au 1 rfl<|ek rfl (gO T (by omega)) rfl<|ca (dB rfl (bE.rk.get rfl) rfl rfl (show 2*(T.af.length:Int)=((2*T.af.length:Nat):Int) by omega) (show 2*(T.af.length:Int)=((2*T.af.length:Nat):Int) by omega) ⟨by unfold maxLen;omega,by omega⟩) rfl<|au 2 rfl<|aH [1,2,6] rfl ?_
  rw[←gS]
  rfl
 rintro _ E3 a3 w3 rfl hs3 g3 b3
 obtain⟨n,hn⟩:∃n,2*T.af.length=n:=⟨_,rfl⟩
 rw[hn]at hs3
 obtain⟨B,cs1,hB,hBb,hBh,hBr⟩:=hs3.sat.blk 1 _ rfl
 obtain⟨cs0,hrow,hcs0⟩:=hs3.sat.blk 0 _ rfl
 have t1:=hs3.tmp 1 _ rfl
 have t2:=hs3.tmp 2 _ rfl
 have t6:=hs3.tmp 6 _ rfl
 have hsz:=hs3.size
 have hdf:=hs3.jQ
 obtain⟨arr,ds⟩:=a3
 simp only at hdf hsz
 subst hdf
 obtain⟨al⟩:=arr
 replace hsz:al.length=41:=by simpa using hsz
 obtain⟨x0,z0,e0,k0⟩:=bR (n:=40) hsz
 obtain⟨x1,z1,e1,k1⟩:=bR (n:=39) k0
 obtain⟨x2,z2,e2,k2⟩:=bR (n:=38) k1
 obtain⟨x3,z3,e3,k3⟩:=bR (n:=37) k2
 obtain⟨x4,z4,e4,k4⟩:=bR (n:=36) k3
 obtain⟨x5,z5,e5,k5⟩:=bR (n:=35) k4
 obtain⟨x6,z6,e6,k6⟩:=bR (n:=34) k5
 obtain⟨x7,z7,e7,k7⟩:=bR (n:=33) k6
 obtain⟨x8,z8,e8,k8⟩:=bR (n:=32) k7
 obtain⟨x9,z9,e9,k9⟩:=bR (n:=31) k8
 obtain⟨x10,z10,e10,k10⟩:=bR (n:=30) k9
 obtain⟨x11,z11,e11,k11⟩:=bR (n:=29) k10
 obtain⟨x12,z12,e12,k12⟩:=bR (n:=28) k11
 obtain⟨x13,z13,e13,k13⟩:=bR (n:=27) k12
 obtain⟨x14,z14,e14,k14⟩:=bR (n:=26) k13
 obtain⟨x15,z15,e15,k15⟩:=bR (n:=25) k14
 obtain⟨x16,z16,e16,k16⟩:=bR (n:=24) k15
 obtain⟨x17,z17,e17,k17⟩:=bR (n:=23) k16
 obtain⟨x18,z18,e18,k18⟩:=bR (n:=22) k17
 obtain⟨x19,z19,e19,k19⟩:=bR (n:=21) k18
 obtain⟨x20,z20,e20,k20⟩:=bR (n:=20) k19
 obtain⟨x21,z21,e21,k21⟩:=bR (n:=19) k20
 obtain⟨x22,z22,e22,k22⟩:=bR (n:=18) k21
 obtain⟨x23,z23,e23,k23⟩:=bR (n:=17) k22
 obtain⟨x24,z24,e24,k24⟩:=bR (n:=16) k23
 obtain⟨x25,z25,e25,k25⟩:=bR (n:=15) k24
 obtain⟨x26,z26,e26,k26⟩:=bR (n:=14) k25
 obtain⟨x27,z27,e27,k27⟩:=bR (n:=13) k26
 obtain⟨x28,z28,e28,k28⟩:=bR (n:=12) k27
 obtain⟨x29,z29,e29,k29⟩:=bR (n:=11) k28
 obtain⟨x30,z30,e30,k30⟩:=bR (n:=10) k29
 obtain⟨x31,z31,e31,k31⟩:=bR (n:=9) k30
 obtain⟨x32,z32,e32,k32⟩:=bR (n:=8) k31
 obtain⟨x33,z33,e33,k33⟩:=bR (n:=7) k32
 obtain⟨x34,z34,e34,k34⟩:=bR (n:=6) k33
 obtain⟨x35,z35,e35,k35⟩:=bR (n:=5) k34
 obtain⟨x36,z36,e36,k36⟩:=bR (n:=4) k35
 obtain⟨x37,z37,e37,k37⟩:=bR (n:=3) k36
 obtain⟨x38,z38,e38,k38⟩:=bR (n:=2) k37
 obtain⟨x39,z39,e39,k39⟩:=bR (n:=1) k38
 obtain⟨x40,z40,e40,k40⟩:=bR (n:=0) k39
 have e41:=List.eq_nil_of_length_eq_zero k40
 subst e41
 subst e40
 subst e39
 subst e38
 subst e37
 subst e36
 subst e35
 subst e34
 subst e33
 subst e32
 subst e31
 subst e30
 subst e29
 subst e28
 subst e27
 subst e26
 subst e25
 subst e24
 subst e23
 subst e22
 subst e21
 subst e20
 subst e19
 subst e18
 subst e17
 subst e16
 subst e15
 subst e14
 subst e13
 subst e12
 subst e11
 subst e10
 subst e9
 subst e8
 subst e7
 subst e6
 subst e5
 subst e4
 subst e3
 subst e2
 subst e1
 subst e0
 clear k0 k1 k2 k3 k4 k5 k6 k7 k8 k9 k10 k11 k12 k13 k14 k15 k16 k17 k18 k19 k20 k21 k22 k23 k24 k25 k26 k27 k28 k29 k30 k31 k32 k33 k34 k35 k36 k37 k38 k39 k40 hsz
 skip
 have e1:Act.eval ⟨⟨[x0,x1,x2,x3,x4,x5,x6,x7,x8,x9,x10,x11,x12,x13,x14,x15,x16,x17,x18,x19,x20,x21,x22,x23,x24,x25,x26,x27,x28,x29,x30,x31,x32,x33,x34,x35,x36,x37,x38,x39,x40]⟩,[]⟩ (.tmp 1)=x1:=rfl
 have e2:Act.eval ⟨⟨[x0,x1,x2,x3,x4,x5,x6,x7,x8,x9,x10,x11,x12,x13,x14,x15,x16,x17,x18,x19,x20,x21,x22,x23,x24,x25,x26,x27,x28,x29,x30,x31,x32,x33,x34,x35,x36,x37,x38,x39,x40]⟩,[]⟩ (.tmp 2)=x2:=rfl
 have e6:Act.eval ⟨⟨[x0,x1,x2,x3,x4,x5,x6,x7,x8,x9,x10,x11,x12,x13,x14,x15,x16,x17,x18,x19,x20,x21,x22,x23,x24,x25,x26,x27,x28,x29,x30,x31,x32,x33,x34,x35,x36,x37,x38,x39,x40]⟩,[]⟩ (.tmp 6)=x6:=rfl
 rw[e1]at t1
 rw[e2]at t2
 rw[e6]at t6
 clear e1 e2 e6
 cases t1 with
 |slice lb lo _ lcap lcs _ _ hl1 hl2 hlb hlM hlc hll' hlr=>
  match lcs,hll',hlc,hlr with
  | [u0,u1],_,hlc,hlr=>
   have hu0:=dE (hlr 0 u0 _ rfl rfl)
   have hu1:=dE (hlr 1 u1 _ rfl rfl)
   subst hu0
   subst hu1
   have l0:=hlc 0 _ rfl
   have l1:=hlc 1 _ rfl
   clear hlc hlr
   cases t2 with
   |aV bt bo off tcs _ htb htM htc htl htr=>
    match tcs,htl,htc,htr with
    | [c0,c1,c2],_,htc,htr=>
     have m0:=htc 0 _ rfl
     have m1:=htc 1 _ rfl
     have m2:=htc 2 _ rfl
     have hT3:aU E3 w3 [c0,c1,c2] (bx T):=⟨rfl,htr⟩
     cases t6 with
     |ptr _ _ B' _ h6=>
      have hBB:B'=B:=by
       rcases h6 with h6|⟨n',c',h6⟩
       ·rw[hB]at h6;cases h6;rfl
       ·rw[hB]at h6;cases h6
      subst hBB
      clear h6
      simp only[Nat.add_zero]at l0 l1 m0 m1 m2 ⊢
      have hcw:=lg T k x
      rw[hc]at hcw
      have E34:Ext w3 (w3.alloc (.cells #[.int .i64 k,.int .i64 x] 33)):=(Ext.refl w3).alloc _
      have hwi:=(callsIn_wide (n:=3)).2 (hcw (fun _=>False) (w3.alloc (.cells #[.int .i64 k,.int .i64 x] 33)) #[.agg #[c0,c1,c2],.agg #[.int .i64 k,.int .i64 x]] (fun _ h=>h.elim) ((hs3.sat.gl.sub (fun _ h=>h.elim)).goes (E:=EF fun _=>False) (E':=EF fun _=>False) (.ext E34)) (aU.cons (.agg _ _ rfl (fun j z u k1 k2=>((hT3.pure (fun _ h=>h.elim):aU (EF fun _=>False) w3 [c0,c1,c2] (bx T)).2 j z u (by simpa using k1) k2).goes (.ext E34))) (aU.cons (.agg _ _ rfl (fun j z u k1 k2=>(aU.cons (.raw _) (aU.cons (.raw _) (aU.nil _ _)):aU (EF fun _=>False) _ [.int .i64 k,.int .i64 x] (cj k x)).2 j z u (by simpa using k1) k2)) (aU.nil _ _))))
      gi_wp2
      refine wa (fun a' w'=>∃(y0 y1 y2 y3 y4 y5 y7 y8 y9 y10 y11 y12 y13 y14 y15 y16 y19 y20 y21 y22 y23 y24 y25 y26 y27 y28 y29 y30 y31 y32 y33 y34 y35 y36 y37 y38 y39 y40:Value) (D:Nat),a'=⟨#[y0,y1,y2,y3,y4,y5,Value.pointer (some ⟨B',0,none⟩),y7,y8,y9,y10,y11,y12,y13,y14,y15,y16,Value.int .i64 1,Value.int .i64 1,y19,y20,y21,y22,y23,y24,y25,y26,y27,y28,y29,y30,y31,y32,y33,y34,y35,y36,y37,y38,y39,y40],[⟨.collected D,#[]⟩]⟩∧kB w.heap.size n B' (E3.at_ 0) E3.M (aT T k x) w'∧Below w.heap.size w w'∧w.heap.size≤D∧w'.heap[D]? =some (.deferred (some []))) ?_ ?_
      ·gi_wp2
       refine⟨trivial,hwi.mono ?_⟩
       rintro e w5 ⟨v5,rfl,hE5,r,rfl,hv5⟩
       cases hv5
       have q0:w5.cell? ⟨bt,bo,none⟩=some c0:=hE5.cell (gF _ m0)
       have q1:w5.cell? ⟨bt,bo+1,none⟩=some c1:=hE5.cell (gF _ m1)
       have q2:w5.cell? ⟨bt,bo+2,none⟩=some c2:=hE5.cell (gF _ m2)
       have q3:w5.cell? ⟨w3.heap.size,0,none⟩=some (.int .i64 k):=hE5.cell (FQ w3 _ _ _).1
       have q4:w5.cell? ⟨w3.heap.size,1,none⟩=some (.int .i64 x):=hE5.cell (FQ w3 _ _ _).2
       gi_wp2
       refine⟨trivial,(CL c0 c1 c2 k x 3 w5).mono ?_⟩
       rintro e w6 ⟨rfl,rfl⟩
       gi_wp2
       have E35:Ext w3 w5:=E34.trans hE5
       have hz5:=E35.size
       have E56:Ext w5 ((w5.alloc (.cells #[c0,c1,c2] 25)).alloc (.cells #[.int .i64 k,.int .i64 x] 33)):=((Ext.refl w5).alloc _).alloc _
       have hz6:((w5.alloc (.cells #[c0,c1,c2] 25)).alloc (.cells #[.int .i64 k,.int .i64 x] 33)).heap.size=w5.heap.size+2:=by simp
       have p2:((w5.alloc (.cells #[c0,c1,c2] 25)).alloc (.cells #[.int .i64 k,.int .i64 x] 33)).cell? ⟨w5.heap.size,2,none⟩=some c2:=gF _ (IQ w5 _ _ _ _)
       have p3:((w5.alloc (.cells #[c0,c1,c2] 25)).alloc (.cells #[.int .i64 k,.int .i64 x] 33)).cell? ⟨w5.heap.size+1,0,none⟩=some (.int .i64 k):=by
        have:=(FQ (w5.alloc (.cells #[c0,c1,c2] 25)) (.int .i64 k) (.int .i64 x) 33).1
        rwa [World.size_alloc]at this
       have p4:((w5.alloc (.cells #[c0,c1,c2] 25)).alloc (.cells #[.int .i64 k,.int .i64 x] 33)).cell? ⟨w5.heap.size+1,1,none⟩=some (.int .i64 x):=by
        have:=(FQ (w5.alloc (.cells #[c0,c1,c2] 25)) (.int .i64 k) (.int .i64 x) 33).2
        rwa [World.size_alloc]at this
       generalize (w5.alloc (.cells #[c0,c1,c2] 25)).alloc (.cells #[.int .i64 k,.int .i64 x] 33)=w6 at*
       have E36:Ext w3 w6:=E35.trans E56
       obtain⟨hU3,hone⟩:=kB.of hs3.sat hB
       have hU6:kB w.heap.size n B' (E3.at_ 0) E3.M (List.replicate n false) w6:=hU3.same E36.size (fun b cs t fz hb=>E36.block b (Array.getElem?_eq_some_iff.1 hb).1)
       have hL3:E3.L=2:=hs3.sat.len
       obtain⟨G,hGv,hGM⟩:∃G,(∀b,bp (E3.at_ 0)=some b→b=G)∧(G=w6.heap.size∨E3.M G):=by
        cases hbo:bp (E3.at_ 0)with
        |none=>exact⟨_,fun b h=>(by cases h),.inl rfl⟩
        |some g=>exact⟨g,fun b h=>(by cases h;rfl),.inr ((hs3.sat.mm g).2 (.inr ⟨0,_,rfl,hbo⟩))⟩
       have hlk:=Fm (n₁:=w6.heap.size) (hT3.2 2 c2 _ rfl rfl) E36 hGM (fun b hb=>hs3.sat.lt hb)
       have hGc:w5.heap.size+1≠G:=by
        rcases hGM with h|h
        ·omega
        ·have:=hs3.sat.lt h;omega
       have hk3:k=1∨k=2∨k=3:=by
        unfold bV at hc
        split at hc
        ·exact .inl ‹_›
        ·split at hc
         ·exact .inr (.inl ‹_›)
         ·split at hc
          ·exact .inr (.inr ‹_›)
          ·cases hc
       refine wpIn_rangeFunc_ownF (α:=eS.Ix T.af.length) rfl (by omega) (gf:=160) (lb:= #[.pointer (some ⟨w5.heap.size,0,none⟩),.pointer (some ⟨w5.heap.size+1,0,none⟩)]) rfl trivial (enters_of Tryz.func160 (by kernel_rfl) rfl)
        (encs:=fun i=> #[Value.int .i64 (i.1:Int)]) (uA T k x hk3 (by omega) 3 w5.heap.size (w5.heap.size+1) G (by omega) c2 w6 (by omega) (by omega) hGc p2 p3 p4 hlk) (fun h1 h2=>h1.trans h2) (fun W l o o' hl ho _ _=>⟨(grownBy_putObj' W l o').size,fun b h1 _=>(grownBy_putObj' W l o').block b (by have:=(Array.getElem?_eq_some_iff.1 ho).1;omega) (fun e=>by cases e;omega)⟩) (Below.refl _ _) (fun _=>rfl)
        (fun l W=>kB w.heap.size n B' (E3.at_ 0) E3.M (A6 n l) W∧Kp G w6.heap.size w6 W∧Below w.heap.size w W) (fun _ _ _=>False)
        (fun s W W' row hs hg hr=>⟨hs.1.grown hg (fun r e=>(hr r e).2),⟨Nat.le_trans hs.2.1.size hg.size,fun b h1 h2=>(hg.block b (by have:=hs.2.1.size;omega) (fun e=>by have:=(hr b e.symm).1;omega)).trans (hs.2.1.block b h1 h2)⟩,hs.2.2.trans ⟨hg.os,hg.tape,hg.output,hg.size,fun b h1=>hg.block b (by have:=hs.1.bl;omega) (fun e=>by have:=(hr b e.symm).1;have:=hU6.bl;omega)⟩⟩)
        (fun _ _ _ _ _ h _ _=>h) ⟨hU6,Kp.refl _ _ _,b3.trans (Below.ij E36 hs3.sat.bl)⟩
        (fun i=>⟨#[x0,Value.slice (some ⟨lb,lo,none⟩) 1 lcap,Value.pointer (some ⟨bt,bo,none⟩),x3,x4,x5,Value.pointer (some ⟨B',0,none⟩),x7,Value.pointer (some ⟨w3.heap.size,0,none⟩),Value.int .i64 (i.1:Int),x10,x11,x12,x13,x14,x15,Value.slice (some ⟨lb,lo,none⟩) 1 lcap,Value.int .i64 1,Value.int .i64 0,Value.bool true,Value.pointer (some ⟨lb,lo,none⟩),Value.agg #[.int .i64 k,.int .i64 x],Value.agg #[c0,c1,c2],Value.agg #[.int .i64 k,.int .i64 x],Value.bool true,Value.bool false,Value.agg #[c0,c1,c2],Value.agg #[.int .i64 k,.int .i64 x],Value.func (.func 160) #[] #[.pointer (some ⟨w5.heap.size,0,none⟩),.pointer (some ⟨w5.heap.size+1,0,none⟩)],Value.int .i64 (i.1:Int),x30,x31,x32,x33,x34,x35,x36,x37,x38,x39,x40],[]⟩) ?assign ?body ?done ?stop
       case assign=>
        intro l i W K hK
        gi_wp2
        exact hK
       case body=>
        rintro l pre i W ⟨hU,hK,hb⟩ hlt
        have hMl:=sS (n:=n) pre
        have hi2:=i.2
        have hb11:=Gs (A6 n pre) i.1 (by rw[hMl];omega) (by rw[hMl];omega)
        rw[hMl,←vp]at hb11
        have hUd:kB w.heap.size n B' (E3.at_ 0) E3.M (A6 n pre) {W with drawn:=W.drawn+1}:=hU.same (Nat.le_refl _) (fun _ _ _ _ _=>rfl)
        have hsat:=hUd.sat hs3.sat rfl ⟨_,_,_,_,rfl⟩ hB hBb hone
        refine wpIn_block (wpIn_region_any mixed (jd (fun j o ho c=>?_) ?_ _ _ _ _ (hb11.any (fun _=>False) w.heap.size E3 {W with drawn:=W.drawn+1} E3 _ {W with drawn:=W.drawn+1} ⟨hL3,cP.refl _ _,Below.refl _ _⟩ ⟨hsat,?_,rfl,rfl⟩ _ ?_)))
        ·exact Cj (by kernel_rfl) j o ho c
        ·rintro⟨a',w',h⟩
         exact h
        ·intro k' p' hk'
         simp only[look,Bool.cond_eq_ite]at hk'
         split at hk'
         ·rename_i he
          have:=Nat.eq_of_beq_eq_true he
          subst this
          cases hk'
          exact .ptr 1 0 B' (by omega) (.inl hB)
         ·split at hk'
          ·rename_i he
           have:=Nat.eq_of_beq_eq_true he
           subst this
           cases hk'
           exact .raw _
          ·cases hk'
        ·rintro a' w' ⟨⟨t',σ'⟩,E',hσ,hs',hg',hb'⟩
         simp only at hσ
         subst hσ
         have hB'2:E'.at_ 1= .pointer (some ⟨B',0,none⟩):=(hg'.at_ 1 (by omega)).trans hB
         have hv':E'.at_ 0=E3.at_ 0:=hg'.at_ 0 (by omega)
         obtain⟨hU',_⟩:=kB.of hs'.sat hB'2
         rw[hv']at hU'
         have hMM:∀b,E3.M b→E'.M b:=fun b hb=>by
          rcases(hs3.sat.mm b).1 hb with h|⟨j,blk,h1,h2⟩
          ·exact h.elim
          ·match j,h1 with
           |0,_=>exact(hs'.sat.mm b).2 (.inr ⟨0,_,rfl,by rw[hv'];exact h2⟩)
           |1,_=>exact(hs'.sat.mm b).2 (.inr ⟨1,_,rfl,by rw[hg'.at_ 1 (by omega)];exact h2⟩)
           |_+2,h1=>simp at h1
         have hown:∀b,E3.M b→bp (E3.at_ 0)=some b∨b=B':=fun b hb=>by
          rcases(hs3.sat.mm b).1 hb with h|⟨j,blk,h1,h2⟩
          ·exact h.elim
          ·match j,h1 with
           |0,_=>exact .inl h2
           |1,_=>rw[hB]at h2;cases h2;exact .inr rfl
           |_+2,h1=>simp at h1
         have hfin:kB w.heap.size n B' (E3.at_ 0) E3.M (A6 n (pre++[i])) w':=⟨hU'.bl,hU'.row,hU'.box,hU'.gl.sub hMM⟩
         have hzW:w6.heap.size≤W.heap.size:=hK.size
         have hkp:Kp G w6.heap.size W w':=⟨hg'.size,fun b h1 h2=>by
          by_cases hm:E3.M b
          ·rcases hown b hm with h|h
           ·exact absurd (hGv b h) h2
           ·rw[h,hU'.box,hU.box]
          ·exact hg'.heap b (show b<W.heap.size by omega) hm⟩
         refine⟨⟨hg'.size,fun b o hb ho=>?_⟩,hkp,hfin,hK.trans hkp,hb.trans ⟨hb'.os,hb'.tape,hb'.output,hb'.size,hb'.block⟩⟩
         have hnm:¬E3.M b:=fun hm=>by
          rcases hown b hm with h|h
          ·rcases hU.row.2 with⟨h1,_⟩|⟨g,cap,cur,h1,_,h3,_⟩
           ·rw[h1]at h;cases h
           ·rw[h1]at h
            cases h
            rw[h3]at hb
            cases hb
            cases ho
          ·rw[h,hU.box]at hb
           cases hb
           cases ho
         rw[hg'.heap b (Array.getElem?_eq_some_iff.1 hb).1 hnm]
         exact hb
       case done=>
        rintro D ys W hD rfl ⟨hU,hK,hb⟩ hDh
        have hmk:A6 n (kz (cD k x T.af) T.af.length T.af.length)=aT T k x:=by rw[←hn];exact D1 T k x
        rw[hmk]at hU
        gi_wp2
        exact⟨_,_,_,_,_,_,_,_,_,_,_,_,_,_,_,_,_,_,_,_,_,_,_,_,_,_,_,_,_,_,_,_,_,_,_,_,_,_,D,rfl,hU,hb,by have:=hU6.bl;omega,hDh⟩
       case stop=>
        rintro D c pre W _ _ h _
        exact h.elim
      ·rintro a' w' ⟨y0,y1,y2,y3,y4,y5,y7,y8,y9,y10,y11,y12,y13,y14,y15,y16,y19,y20,y21,y22,y23,y24,y25,y26,y27,y28,y29,y30,y31,y32,y33,y34,y35,y36,y37,y38,y39,y40,D,rfl,hU,hb,hD,hDh⟩
       have hbx:w'.cell? ⟨B',0,none⟩=some (E3.at_ 0):=by
        unfold World.cell?
        simp only[hU.box]
        rfl
       gi_wp2
       have hput:=grownBy_putObj' w' D (.deferred none)
       have hnd:∀(g:Nat) (o:Array Value) (e:TypeId),w'.heap[g]? =some (Obj.cells o e (0,0))→(w'.putObj D (.deferred none)).heap[g]? =w'.heap[g]? :=fun g o e hg=>hput.block g (Array.getElem?_eq_some_iff.1 hg).1 (fun h=>by cases h;rw[hDh]at hg;cases hg)
       refine⟨by simp,.inl ⟨_,_,rfl,run_takeDeferred hDh,?_⟩⟩
       rw[hn]
       exact⟨_,results_tmp2 rfl _ _ _,E3.at_ 0,rfl,hb.trans ⟨hput.os,hput.tape,hput.output,hput.size,fun b h1=>hput.block b (by have:=hU.bl;omega) (fun h=>by cases h;omega)⟩,uN hU.row (fun g o hg=>hnd g o _ hg)⟩
end PW
end Go.Proofs.YtnegbdpggideiaaGreatDoor
namespace Go.Proofs.YtnegbdpggideiaaGreatDoor
namespace PW
open Go.RowKit cA Mem Net eS
theorem Can.I4{P:Program}{f:FuncId}{ps:List PV}{R:PV→cd→Prop}{S:PV→Prop}(h:bS P f ps [] R)(hR:∀r σ',R r σ'→∃q,aB σ' r q∧S q):Can P f ps S:=fun F w vs hF hG hr=>by
 refine(h F w.heap.size (EF F) w vs (Sat.start F w hF hG) hr).mono ?_
 rintro e w' ⟨v,r,σ',E',rfl,h1,h2,h3,h4,h5⟩
 obtain⟨q,k1,k2⟩:=hR r σ' h1
 exact⟨v,rfl,h4,q,k2,k1.rep h2 (fun b hb=>(h2.mm b).2 (.inl hb)) (fun b hb=>(h2.fb b hb).2) v h5⟩
theorem wV(T:ai)(k x:Int)(hv:ao T=true)(hc:bV T k x=true):bS Tryz.prog 60 [aP T,.slice 1 (cj k x)] [] (fun r σ'=>r= .tuple [.own 0,num 0]∧σ'=[some (.row 4 1 (2*T.af.length) (bP (aT T k x)))]):=fun F base E w vs hS hR=>by
 refine(Ae T k x hv hc w vs (hR.pure (fun _ h=>h.elim)) (hS.gl.sub fun _ h=>h.elim)).mono ?_
 rintro e w' ⟨v,rfl,hE,hrow⟩
 have hrow2:w'.ownsRow base 4 1 v (2*T.af.length) ((aT T k x).map Value.bool):=⟨hrow.1,hrow.2.imp id fun⟨g,cap,cur,h1,h2,h3⟩=>⟨g,cap,cur,h1,Nat.le_trans hS.bl h2,h3⟩⟩
 have hnew:∀b,bp v=some b→w.heap.size≤b∧b<w'.heap.size:=fun b hb=>by
  rcases hrow.2 with⟨h1,_⟩|⟨g,cap,cur,h1,h2,h3,_⟩
  ·rw[h1]at hb;cases hb
  ·rw[h1]at hb
   cases hb
   exact⟨h2,(Array.getElem?_eq_some_iff.1 h3).1⟩
 have hone:v.oneCell'=true:=by
  rcases hrow.2 with⟨h1,_⟩|⟨g,cap,cur,h1,h2,h3,_⟩<;>rw[h1]<;>rfl
 have hL:E.L=0:=hS.len
 have hp:=hS.push hE (v:=v) (blk:=.row 4 1 (2*T.af.length) (bP (aT T k x))) (fun b h=>(hnew b h).1) ⟨_,hrow2,oe _⟩
 refine⟨_,_,_,E.push v,rfl,⟨rfl,rfl⟩,hp.1,hp.2,Below.ij hE hS.bl,.tuple _ _ rfl (fun i c u h1 h2=>?_)⟩
 match i,h1,h2 with
 |0,h1,h2=>
  simp at h1 h2
  subst h1
  subst h2
  exact .own 0 (by show 0<E.L+1;omega) _ (by simp[Env.push,hL]) hone
 |1,h1,h2=>
  simp at h1 h2
  subst h1
  subst h2
  exact .raw _
 |_+2,h1,h2=>simp at h2
def dL(T:ai)(k x:Int):Int:=if(ao T&&bV T k x)=true then 0 else 1
def iI(e:Int)(L:List Bool):PV:=.tuple [bf (if e=0 then L else []),num e]
theorem gw(T:ai)(k x:Int):(aT T k x).length=2*T.af.length:=by simp[aT]
theorem wB(T:ai)(k x:Int)(hno:(ao T&&bV T k x)=false):Can Tryz.prog 60 [aP T,.slice 1 (cj k x)] (· =iI 1 []):=by
 refine aF Tryz.func60 rfl Tryz.ntmps60 rfl<|ab (.a 3 rfl<|.k [1,2] rfl)<|aj<|ab (.a 1 rfl<|.c rfl (de T) rfl<|.a 1 rfl<|.k [1,2,12] rfl)<|ah rfl (fun h1=>?_) (fun h1=>?_)
 ·skip
  exact ab (.a 2 rfl<|.k [4,5] rfl)<|aq<|⟨_,_,aA.of rfl,aB.bG (an.cons aB.b9 (an.cons aB.pure an.nil)),rfl⟩
 ·have hv:ao T=true:=by simpa using h1
  have hc:bV T k x=false:=by rw[hv,Bool.true_and]at hno;exact hno
  have hll:=bN hv
  have hcw:=lg T k x
  rw[hc]at hcw
  refine ak<|aQ<|au 1 rfl<|ek rfl (gO T (by omega)) rfl<|ca (dB rfl (bE.rk.get rfl) rfl rfl (show 2*(T.af.length:Int)=((2*T.af.length:Nat):Int) by omega) (show 2*(T.af.length:Int)=((2*T.af.length:Nat):Int) by omega) ⟨by unfold maxLen;omega,by omega⟩) rfl<|au 2 rfl<|aH [1,2,6] rfl ?_
  refine aj<|ab (.a 3 rfl<|.k [2,6,16,17,18] rfl)<|av<|eZ [2,6,16,17,18] rfl<|bw (fun r st=>st=⟨[(2,.aV (bx T) 0),(6,.ptr 1 0),(16,.slice 1 (cj k x)),(17,num 1),(18,num 0)],[some (.row 4 1 (2*T.af.length) (dp [.raw (.bool false)] (2*T.af.length))),some (.cells 22 [.own 0])]⟩) 0 rfl ?_
  rintro r st rfl
  refine ab (.a 1 rfl<|.k [2,6,16,17,18,19] rfl)<|aj<|ah rfl (fun h2=>?_) (fun h2=>?_)
  ·skip
   refine ak<|aj<|av<|aQ<|bz (aI (0) rfl) rfl<|bz (ed rfl ((show((cj k x).drop 0).take 2=cj k x from rfl)) rfl) rfl<|au 2 rfl<|aH [2,6,8,16,17,18] rfl ?_
   refine aj<|ab (.a 2 rfl<|.c rfl (hcw) rfl<|.a 1 rfl<|.k [2,6,8,16,17,18,25] rfl)<|ah rfl (fun h3=>?_) (fun h3=>?_)
   ·skip
    exact ab (.a 2 rfl<|.k [4,5] rfl)<|aq<|⟨_,_,aA.of rfl,aB.bG (an.cons aB.b9 (an.cons aB.pure an.nil)),rfl⟩
   ·exact absurd h3 (by decide)
  ·exact absurd h2 (by decide)
theorem rE(T:ai)(k x:Int)(hv:ao T=true)(hc:bV T k x=true):bS Tryz.prog 16 [aP T,cu k x] [] (fun r σ'=>r= .tuple [.own 0,num 0]∧σ'=[some (.row 4 1 (2*T.af.length) (bP (aT T k x)))]):=by
 refine cp Tryz.func16 rfl Tryz.ntmps16 rfl<|ab (.a 4 rfl<|.k [2,3] rfl)<|aQ<|au 3 rfl<|cM rfl rfl (bS.mono (wV T k x hv hc) (fun r σ' h=>?_))
 obtain⟨rfl,rfl⟩:=h
 refine au 4 rfl<|aH [4,5] rfl ?_
 exact aq<|⟨_,aA.of rfl,rfl,rfl⟩
theorem jA(T:ai)(k x:Int):Can Tryz.prog 16 [aP T,cu k x] (· =iI (dL T k x) (aT T k x)):=by
 cases hno:(ao T&&bV T k x)with
 |true=>
  obtain⟨hv,hc⟩:=Bool.and_eq_true_iff.1 hno
  refine Can.I4 (rE T k x hv hc) ?_
  rintro r σ' ⟨rfl,rfl⟩
  refine⟨_,aB.bG (an.cons (aB.ey rfl an.pure) (an.cons aB.pure an.nil)),?_⟩
  unfold iI dL bf
  rw[if_pos hno,if_pos rfl,gw]
 |false=>
  have he:dL T k x=1:=by unfold dL;rw[if_neg (by rw[hno];simp)]
  rw[he]
  exact aF Tryz.func16 rfl Tryz.ntmps16 rfl<|ab (.a 4 rfl<|.k [2,3] rfl)<|ab (.a 3 rfl<|.c rfl (wB T k x hno) rfl<|.a 4 rfl<|.k [4,5] rfl)<|aq<|⟨_,_,aA.of rfl,aB.pure,rfl⟩
end PW
end Go.Proofs.YtnegbdpggideiaaGreatDoor
namespace Go.Proofs.YtnegbdpggideiaaGreatDoor
namespace PW
open Go.RowKit cA Mem Net eS
theorem nu(T:ai)(k x:Int):Can Tryz.prog 80 [aP T,cu k x] (· =flag (ao T&&bV T k x)):=by
 obtain⟨q1,h1⟩:∃q,decide (0≤x)=q:=⟨_,rfl⟩
 obtain⟨q2,h2⟩:∃q,decide (x<(T.af.length:Int))=q:=⟨_,rfl⟩
 obtain⟨q5,h5⟩:∃q,decide (x<T.nodes)=q:=⟨_,rfl⟩
 obtain⟨q3,h3⟩:∃q,decide (1≤x)=q:=⟨_,rfl⟩
 obtain⟨q4,h4⟩:∃q,decide (x≤64)=q:=⟨_,rfl⟩
 have hnb:bu T x=(q1&&q5):=by rw[←h1,←h5,←Bool.decide_and];rfl
 have hB:bV T k x=if k=1 then(q1&&q2) else if k=2 then(q1&&q5) else if k=3 then(q3&&q4) else false:=by unfold bV;rw[h1,h2,h3,h4,hnb]
 rw[hB]
 refine aF Tryz.func80 rfl Tryz.ntmps80 rfl<|ab (.a 3 rfl<|.k [2,3] rfl)<|aj<|ab (.a 1 rfl<|.c rfl (fC T) rfl<|.a 1 rfl<|.k [2,3,7] rfl)<|ah rfl (fun hv1=>?_) (fun hv1=>?_)
 ·have hv:ao T=false:=by simpa using hv1
  exact ab (.a 1 rfl<|.k [4] rfl)<|aq<|⟨_,_,aA.of rfl,aB.pure,by rw[hv];rfl⟩
 ·have hv:ao T=true:=by simpa using hv1
  rw[hv,Bool.true_and]
  refine ak<|aj<|ab (.a 2 rfl<|.k [2,3,9] rfl)<|av<|ab (.a 2 rfl<|.k [2,3,9,10] rfl)<|ah rfl (fun hk1=>?_) (fun hk1=>?_)
  ·have k1:k=1:=tt hk1
   refine bC 4 (.raw (.bool (q1&&q2))) [] rfl ?_ ?_
   ·refine .a 2 rfl<|.v (cC rfl (h1)) rfl<|.a 1 rfl<|?_
    cases q1
    ·exact .a 8 rfl<|.k [4] rfl
    ·exact .a 5 rfl<|.v (cC rfl (h2)) rfl<|.a 2 rfl<|.k [4] rfl
   exact aq<|⟨_,_,aA.of rfl,aB.pure,by rw[if_pos k1];rfl⟩
  ·have k1:¬k=1:=ff hk1
   refine ab (.a 2 rfl<|.k [2,3,9,23] rfl)<|ah rfl (fun hk2=>?_) (fun hk2=>?_)
   ·have k2:k=2:=tt hk2
    refine bC 4 (.raw (.bool (q1&&q5))) [] rfl ?_ ?_
    ·refine .a 2 rfl<|.v (cC rfl (h1)) rfl<|.a 1 rfl<|?_
     cases q1
     ·exact .a 7 rfl<|.k [4] rfl
     ·exact .a 4 rfl<|.v (cC rfl (h5)) rfl<|.a 2 rfl<|.k [4] rfl
    exact aq<|⟨_,_,aA.of rfl,aB.pure,by rw[if_neg k1,if_pos k2];rfl⟩
   ·have k2:¬k=2:=ff hk2
    refine ab (.a 2 rfl<|.k [3,35] rfl)<|ah rfl (fun hk3=>?_) (fun hk3=>?_)
    ·have k3:k=3:=tt hk3
     refine bC 4 (.raw (.bool (q3&&q4))) [] rfl ?_ ?_
     ·refine .a 2 rfl<|.v (cC rfl (h3)) rfl<|.a 1 rfl<|?_
      cases q3
      ·exact .a 5 rfl<|.k [4] rfl
      ·exact .a 2 rfl<|.v (cC rfl (h4)) rfl<|.a 2 rfl<|.k [4] rfl
     exact aq<|⟨_,_,aA.of rfl,aB.pure,by rw[if_neg k1,if_neg k2,if_pos k3];rfl⟩
    ·have k3:¬k=3:=ff hk3
     exact ak<|ab (.a 1 rfl<|.k [4] rfl)<|aq<|⟨_,_,aA.of rfl,aB.pure,by rw[if_neg k1,if_neg k2,if_neg k3];rfl⟩
theorem xG(L:List mc)(i:Nat)(hi:i<L.length):((gd L).drop (i*7)).take 7=jn (cr L i):=by
 apply List.ext_getElem?
 intro j
 by_cases hj:j<7
 ·rw[List.getElem?_take,if_pos hj,List.getElem?_drop,eH L i j hi hj]
 ·rw[List.getElem?_take,if_neg hj,List.getElem?_eq_none (by simp[jn];omega)]
theorem yO(T:ai)(k x:Int)(a:Nat)(ha:a<2*T.af.length)(hl:T.af.length≤256):Can Tryz.prog 117 [aP T,cu k x,num a] (· =flag (cD k x T.af (a / 2))):=by
 have hi:a / 2<T.af.length:=by omega
 obtain⟨e,he⟩:∃e,cr T.af (a / 2)=e:=⟨_,rfl⟩
 have hdr:=xG T.af (a / 2) hi
 rw[he]at hdr
 obtain⟨q1,h1⟩:∃q,decide (((a / 2:Nat):Int)=x)=q:=⟨_,rfl⟩
 obtain⟨q2,h2⟩:∃q,decide (e.a=x)=q:=⟨_,rfl⟩
 obtain⟨q3,h3⟩:∃q,decide (e.b=x)=q:=⟨_,rfl⟩
 obtain⟨q4,h4⟩:∃q,decide (e.tX=x)=q:=⟨_,rfl⟩
 have hP:cD k x T.af (a / 2)=if k=1 then q1 else if k=2 then(q2||q3) else q4:=by unfold cD;rw[he,h1,h2,h3,h4]
 rw[hP]
 refine aF Tryz.func117 rfl Tryz.ntmps117 rfl<|ab (.a 3 rfl<|.k [2,3,4] rfl)<|aQ<|au 3 rfl<|bz (jF rfl rfl rfl (by decide) ((show(a:Int).tdiv 2=((a / 2:Nat):Int) by rw[Int.tdiv_eq_ediv_of_nonneg (by omega)];omega)) (by unfold In64;omega)) rfl<|bz (aI ((a / 2*7)) rfl) rfl<|bz (ed rfl (hdr) rfl) rfl<|au 2 rfl<|aH [2,4,7] rfl ?_
 refine eh (σ':=[some (.cells 127 (jn e))]) rfl ?_
 refine aj<|ab (.a 2 rfl<|.k [2,4,7,15] rfl)<|av<|ab (.a 2 rfl<|.k [2,4,7,15,16] rfl)<|ah rfl (fun hk1=>?_) (fun hk1=>?_)
 ·have k1:k=1:=tt hk1
  exact ab (.a 1 rfl<|.v (jF rfl rfl rfl (by decide) ((show(a:Int).tdiv 2=((a / 2:Nat):Int) by rw[Int.tdiv_eq_ediv_of_nonneg (by omega)];omega)) (by unfold In64;omega)) rfl<|.a 2 rfl<|.v (cC rfl (h1)) rfl<|.a 1 rfl<|.k [6] rfl)<|aq<|⟨_,_,aA.of rfl,aB.pure,by rw[if_pos k1];rfl⟩
 ·have k1:¬k=1:=ff hk1
  refine ab (.a 2 rfl<|.k [4,7,23] rfl)<|ah rfl (fun hk2=>?_) (fun hk2=>?_)
  ·have k2:k=2:=tt hk2
   refine bC 6 (.raw (.bool (q2||q3))) [] rfl ?_ ?_
   ·refine .a 4 rfl<|.v (cC rfl (h2)) rfl<|.a 1 rfl<|?_
    cases q2
    ·exact .a 4 rfl<|.v (cC rfl (h3)) rfl<|.a 2 rfl<|.k [6] rfl
    ·exact .a 7 rfl<|.k [6] rfl
   exact aq<|⟨_,_,aA.of rfl,aB.pure,by rw[if_neg k1,if_pos k2];rfl⟩
  ·have k2:¬k=2:=ff hk2
   exact ak<|ab (.a 4 rfl<|.v (cC rfl (h4)) rfl<|.a 1 rfl<|.k [6] rfl)<|aq<|⟨_,_,aA.of rfl,aB.pure,by rw[if_neg k1,if_neg k2];rfl⟩
def gL(T:ai)(k x:Int)(m:Nat):List Bool:=(List.range (2*T.af.length)).map fun a=>decide (a<m)&&cD k x T.af (a / 2)
theorem xJ(T:ai)(k x:Int):gL T k x 0=List.replicate (2*T.af.length) false:=by
 unfold gL
 apply List.ext_getElem (by simp)
 intro i h1 h2
 simp
theorem jH(T:ai)(k x:Int)(m:Nat):(gL T k x m).length=2*T.af.length:=by simp[gL]
theorem AM{T:ai}{k x:Int}{m:Nat}(h:cD k x T.af (m / 2)=true):(gL T k x m).set m true=gL T k x (m+1):=by
 apply List.ext_getElem (by simp[gL])
 intro i h1 h2
 rw[List.getElem_set]
 by_cases e:m=i
 ·subst e;simp[gL,h]
 ·rw[if_neg e]
  simp only[gL,List.getElem_map,List.getElem_range]
  rw[show decide (i<m+1)=decide (i<m) from decide_eq_decide.2 (by omega)]
theorem CS{T:ai}{k x:Int}{m:Nat}(h:cD k x T.af (m / 2)=false):gL T k x (m+1)=gL T k x m:=by
 unfold gL
 refine List.map_congr_left fun a _=>?_
 by_cases e:a=m
 ·subst e;rw[h];simp
 ·rw[show decide (a<m+1)=decide (a<m) from decide_eq_decide.2 (by omega)]
theorem zU(T:ai)(k x:Int):gL T k x (2*T.af.length)=aT T k x:=by
 unfold gL aT
 refine List.map_congr_left fun a ha=>?_
 rw[decide_eq_true (List.mem_range.1 ha),Bool.true_and]
def ku(L:List Bool):Option cR:=some (.row 4 1 L.length (bP L))
set_option maxHeartbeats 2000000 in
theorem uz(T:ai)(k x:Int):bS Tryz.prog 88 [aP T,.slice 1 (cj k x)] [] (fun r σ'=>((ao T&&bV T k x)=false∧r= .tuple [.raw (.slice none 0 0),num 1])∨((ao T&&bV T k x)=true∧r= .tuple [.own 0,num 0]∧σ'=[ku (aT T k x)])):=by
 refine cp Tryz.func88 rfl Tryz.ntmps88 rfl<|ab (.a 3 rfl<|.k [1,2] rfl)<|aj<|ab (.a 1 rfl<|.c rfl (fC T) rfl<|.a 1 rfl<|.k [1,2,11] rfl)<|ah rfl (fun h1=>?_) (fun h1=>?_)
 ·have hv:ao T=false:=by simpa using h1
  exact ab (.a 2 rfl<|.k [4,5] rfl)<|aq<|⟨_,aA.of rfl,.inl ⟨by rw[hv];rfl,rfl⟩⟩
 ·have hv:ao T=true:=by simpa using h1
  have hll:=bN hv
  refine ak<|aQ<|au 3 rfl<|bz (aR rfl) rfl<|ca (dB rfl (bE.rk.get rfl) rfl rfl (show 2*(T.af.length:Int)=((2*T.af.length:Nat):Int) by omega) (show 2*(T.af.length:Int)=((2*T.af.length:Nat):Int) by omega) ⟨by unfold maxLen;omega,by omega⟩) rfl<|au 1 rfl<|aH [1,2,6] rfl ?_
  refine eh (σ':=[ku (gL T k x 0)]) (by unfold ku;rw[xJ,List.length_replicate,←gS];rfl) ?_
  refine aj<|ab (.a 1 rfl<|.k [1,2,6,7] rfl)<|av<|eZ [1,2,6,7] rfl<|bw (fun r st=>∃(i:Nat) (M:List Bool),i≤1∧r=1 - i∧(i=0→M=gL T k x 0)∧(i=1→bV T k x=true∧M=aT T k x)∧st=⟨[(1,.slice 1 (cj k x)),(2,.aV (bx T) 0),(6,.own 0),(7,num i)],[ku M]⟩) 1 ⟨0,_,by omega,rfl,fun _=>rfl,fun h=>by omega,rfl⟩ ?_
  rintro r st ⟨i,M,hi,rfl,hM0,hM1,rfl⟩
  refine aj<|ab (.a 4 rfl<|.k [1,2,6,7,20] rfl)<|ah rfl (fun h2=>?_) (fun h2=>?_)
  ·have hi0:i=0:=by have:=tt h2;omega
   subst hi0
   obtain rfl:=hM0 rfl
   refine ak<|aj<|av<|aj<|fp mixed (by kernel_rfl) (.a 3 rfl<|.v [24,25] (aI (0) rfl) rfl rfl<|.v [26] (ed rfl ((show((cj k x).drop 0).take 2=cj k x from rfl)) rfl) rfl rfl<|.v [23,27] (fm rfl (nu T k x)) rfl rfl<|.a 1 rfl<|.k [1,2,6,7,29] rfl) ?_
   refine ah rfl (fun h3=>?_) (fun h3=>?_)
   ·have hc:(ao T&&bV T k x)=false:=(Bool.not_eq_true' _).mp h3
    exact ab (.a 2 rfl<|.k [4,5] rfl)<|aq<|⟨_,aA.of rfl,.inl ⟨hc,rfl⟩⟩
   ·have hvc:(ao T&&bV T k x)=true:=by simpa using h3
    have hc:bV T k x=true:=(Bool.and_eq_true_iff.1 hvc).2
    refine ak<|ab (.a 1 rfl<|.k [1,2,6,7,8] rfl)<|av<|eZ [1,2,6,7,8] rfl<|bw (fun r st=>∃m:Nat,m≤2*T.af.length∧r=2*T.af.length - m∧st=⟨[(1,.slice 1 (cj k x)),(2,.aV (bx T) 0),(6,.own 0),(7,num 0),(8,num m)],[ku (gL T k x m)]⟩) (2*T.af.length) ⟨0,by omega,by omega,rfl⟩ ?_
    rintro r st ⟨m,hm,rfl,rfl⟩
    have hml:=jH T k x m
    refine aj<|ab (.a 4 rfl<|.k [1,2,6,7,8,33] rfl)<|ah rfl (fun h4=>?_) (fun h4=>?_)
    ·have hlt:m<2*T.af.length:=by have:=tt h4;omega
     refine ak<|aj<|av<|fp mixed (by kernel_rfl) (.a 3 rfl<|.v [37,38] (aI (0) rfl) rfl rfl<|.v [39] (ed rfl ((show((cj k x).drop 0).take 2=cj k x from rfl)) rfl) rfl rfl<|.a 1 rfl<|.v [36,40,41] (fm rfl (yO T k x m hlt (by omega))) rfl rfl<|.k [1,2,6,7,8,42] rfl) ?_
     refine ah rfl (fun h5=>?_) (fun h5=>?_)
     ·have hst:=AM h5
      refine ba<|au 2 rfl<|bz (aI (m) rfl) rfl<|br ((by first|exact bQ rfl (bE.tk.get rfl) rfl rfl rfl (by first|omega|(simp;omega))|exact bb rfl (bE.tk.get rfl) rfl rfl rfl (by first|omega|(simp;omega)))) rfl rfl<|aH [1,2,6,7,8] rfl ?_
      refine ay (.a 1 rfl<|.v (aR rfl) rfl<|.a 1 rfl<|.k [1,2,6,7,8] rfl) ?_
      refine⟨2*T.af.length - (m+1),by omega,m+1,by omega,rfl,?_⟩
      first
       |(rw[hst];rfl)
       |(rw[hst];unfold ku;rw[jH,jH];rfl)
     ·have hst:=CS h5
      refine ak<|ay (.a 1 rfl<|.v (aR rfl) rfl<|.a 1 rfl<|.k [1,2,6,7,8] rfl) ?_
      refine⟨2*T.af.length - (m+1),by omega,m+1,by omega,rfl,?_⟩
      first
       |(rw[hst];rfl)
       |(rw[hst];unfold ku;rw[jH,jH];rfl)
    ·have hme:m=2*T.af.length:=by have:=ff h4;omega
     subst hme
     refine bn<|ay (.a 1 rfl<|.v (aR rfl) rfl<|.a 1 rfl<|.k [1,2,6,7] rfl) ?_
     exact⟨0,by omega,1,_,by omega,rfl,fun h=>by omega,fun _=>⟨hc,rfl⟩,by rw[zU];rfl⟩
  ·have hi1:i=1:=by have:=ff h2;omega
   subst hi1
   obtain⟨hc,rfl⟩:=hM1 rfl
   exact bn<|ab (.a 3 rfl<|.k [4,5] rfl)<|aq<|⟨_,aA.of rfl,.inr ⟨by rw[hv,hc];rfl,rfl,rfl⟩⟩
theorem xk(T:ai)(k x:Int):bS Tryz.prog 32 [aP T,cu k x] [] (fun r σ'=>((ao T&&bV T k x)=false∧r= .tuple [.raw (.slice none 0 0),num 1])∨((ao T&&bV T k x)=true∧r= .tuple [.own 0,num 0]∧σ'=[ku (aT T k x)])):=by
 refine cp Tryz.func32 rfl Tryz.ntmps32 rfl<|ab (.a 4 rfl<|.k [2,3] rfl)<|ab (.a 3 rfl<|.k [2,6] rfl)<|aQ<|au 2 rfl<|cM rfl rfl (bS.mono (bS.mono (uz T k x) (fun r σ' h=>(show ∃y z,r= .tuple [y,z]∧(((ao T&&bV T k x)=false∧y= .raw (.slice none 0 0)∧z=num 1)∨((ao T&&bV T k x)=true∧y= .own 0∧z=num 0∧σ'=[ku (aT T k x)])) from by rcases h with⟨h1,rfl⟩|⟨h1,rfl,h2⟩;exact⟨_,_,rfl,.inl ⟨h1,rfl,rfl⟩⟩;exact⟨_,_,rfl,.inr ⟨h1,rfl,rfl,h2⟩⟩))) (fun r σ' h=>?_))
 obtain⟨y,z,rfl,hyz⟩:=h
 refine au 4 rfl<|aH [4,5] rfl ?_
 refine aq<|⟨_,aA.of rfl,?_⟩
 rcases hyz with⟨h1,rfl,rfl⟩|⟨h1,rfl,rfl,rfl⟩
 ·exact .inl ⟨h1,rfl⟩
 ·exact .inr ⟨h1,rfl,rfl⟩
theorem zH(T:ai)(k x:Int):Can Tryz.prog 32 [aP T,cu k x] (· =iI (dL T k x) (aT T k x)):=by
 refine Can.I4 (xk T k x) ?_
 rintro r σ' (⟨h1,rfl⟩|⟨h1,rfl,rfl⟩)
 ·refine⟨_,aB.bG (an.cons aB.b9 (an.cons aB.pure an.nil)),?_⟩
  have he:dL T k x=1:=by unfold dL;rw[if_neg (by rw[h1];simp)]
  rw[he]
  rfl
 ·refine⟨_,aB.bG (an.cons (aB.ey rfl an.pure) (an.cons aB.pure an.nil)),?_⟩
  unfold iI dL bf
  rw[if_pos h1,if_pos rfl]
end PW
end Go.Proofs.YtnegbdpggideiaaGreatDoor
