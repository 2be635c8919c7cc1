/- MixtureTables returns true for every input: the tables of the nodes in any states, or the error, as specified. Package-level tables start as the program's text lays them. -/
import Derived.Test.YtnegbdpggideiaaGreatDoorCardMTB15
set_option linter.unusedVariables false
set_option linter.unusedSimpArgs false
set_option maxRecDepth 10000
set_option maxHeartbeats 1000000
namespace Go.Proofs.YtnegbdpggideiaaGreatDoor
namespace PW
open Go.RowKit cH Mem Net ft
theorem vq{P:Program}{N L:Nat}{id:Nat}{l:List Oper}{y:Code}{st:St}{Q Q2:Exit→St→Prop}(t':b9)(σ':cg)(hm:P.follows .mixedOrders=true)(hQ:∀s,W P N L y s Q2→Q .normal s)(h:WA P N L l.toArray l.length (Array.replicate l.length false) st (fun s=>s.σ=σ'∧Sub s.t t'))(hq:W P N L y ⟨t',σ'⟩ Q2):W P N L (.region id l.toArray true) st Q:=
 rj hm (h.mono fun s hs=>by
  obtain⟨t,σ⟩:=s
  obtain⟨h1,h2⟩:=hs
  subst h1
  exact hQ _ (jF h2 hq))
theorem Gb{T:an}{n N:Nat}(hN:T.nodes=(N:Int)):ga (.agg [num n,.slice N (dc [.raw (.slice none 0 0),.raw (.bool false),.raw (.slice none 0 0)] N),aw (bC T n)]) (dx (tq T n)):=by
 have hz:=s4 N
 have hTN:T.nodes.toNat=N:=by omega
 refine ga.ew ⟨rfl,fun j a b h1 h2=>?_⟩
 match j,h1,h2 with
 |0,h1,h2=>cases h1;cases h2;exact ga.refl _
 |1,h1,h2=>
  cases h1;cases h2
  show ga (.slice N _) (.slice (List.replicate T.nodes.toNat (⟨[],false,[]⟩:ij)).length (cV (List.replicate T.nodes.toNat ⟨[],false,[]⟩)))
  rw[List.length_replicate,hTN]
  exact ga.BK hz.1.symm hz.2
 |2,h1,h2=>cases h1;cases h2;exact ga.refl _
 |j+3,h1,h2=>exact absurd h1 (by simp)
set_option maxHeartbeats 4000000 in
theorem xT(T:an)(k x:Int)(n:Nat)(s:Int)(hvc:(av T&&cc T k x)=true)(hn:(n:Int)<T.nodes)(h12:T.nodes≤12):Can Tryz.prog 82 [aJ T,bY k x,num n,num s] (· =dx (zj T k x n s)):=by
 have hv:=(Bool.and_eq_true_iff.1 hvc).1
 have hme:cQ T k x=0:=by unfold cQ;rw[if_pos hvc]
 have hnb:aV T n=true:=by rw[aO];omega
 have htr:gA T k x n=0:=by unfold gA;rw[if_pos hme,if_pos hnb]
 have hch:ca T [] [(n:Int)]=0:=by
  unfold ca
  rw[hv]
  simp[bL,hnb]
 have h1:=A7 T n
 rw[hch,fR,Int.toNat_natCast]at h1
 have h2:=zQ T k x n h12
 rw[if_pos hme,if_pos hnb,fR,Int.toNat_natCast]at h2
 have h4:=CQ T k x n h12
 rw[if_pos hme,if_pos hnb,fR,Int.toNat_natCast]at h4
 have h5:=By T k x n
 rw[htr,fR,Int.toNat_natCast]at h5
 obtain⟨N,hN⟩:∃N:Nat,T.nodes=(N:Int):=⟨T.nodes.toNat,by omega⟩
 obtain⟨g,hg⟩:∃g,uO k x n=g:=⟨_,rfl⟩
 have hXg:zj T k x n s=if g=true then tq T n else vM T (bz T k x) s n:=by unfold zj;rw[hg]
 obtain⟨X,hX⟩:∃X,zj T k x n s=X:=⟨_,rfl⟩
 rw[hX]at hXg ⊢
 refine aF Tryz.func82 rfl Tryz.ntmps82 rfl<|aH<|aq 3 rfl<|aD [2,3,4,5,8] rfl ?_
 refine aH<|aq 1 rfl<|aD [2,3,4,5,8,9] rfl ?_
 refine aj<|au<|ab (.a 2 rfl<|.c rfl (hg▸oL k x n) rfl<|.a 1 rfl<|.k [2,3,4,5,8,9,17] rfl)<|af rfl (fun hc=>?_) (fun hc=>?_)
 ·subst hc
  rw[if_pos rfl]at hXg
  have hle:=Gb (n:=n) hN
  rw[←hXg]at hle
  refine jF (bd (ks:=[2,4,8,9]) rfl) ?_
  refine vq ([(8,.ptr 0 0),(9,.ptr 1 0)]) ([some (.cells 56 [num 0,.raw (.slice none 0 0),.raw (.slice none 0 0)]),some (.cells 56 [num n,.own 2,aw (bC T n)]),some (.row 76 3 N (dc [.raw (.slice none 0 0),.raw (.bool false),.raw (.slice none 0 0)] N))]) mixed (fun _ h=>h) ?_ ?_
  ·refine pZ [[(2,num n),(4,.aX (bn T) 0),(8,.ptr 0 0),(9,.ptr 1 0),(21,num n),(22,.aX (bn T) 0),(23,num (N:Int)),(24,.own 2),(25,aJ T),(26,num n),(27,aw (bC T n)),(28,.agg [num n,.own 2,aw (bC T n)])]] [[some (.cells 56 [num 0,.raw (.slice none 0 0),.raw (.slice none 0 0)]),some (.cells 56 [num 0,.raw (.slice none 0 0),.raw (.slice none 0 0)])],[some (.cells 56 [num 0,.raw (.slice none 0 0),.raw (.slice none 0 0)]),some (.cells 56 [num 0,.raw (.slice none 0 0),.raw (.slice none 0 0)]),some (.row 76 3 N (dc [.raw (.slice none 0 0),.raw (.bool false),.raw (.slice none 0 0)] N))],[some (.cells 56 [num 0,.raw (.slice none 0 0),.raw (.slice none 0 0)]),some (.cells 56 [num n,.own 2,aw (bC T n)]),some (.row 76 3 N (dc [.raw (.slice none 0 0),.raw (.bool false),.raw (.slice none 0 0)] N))]] [2,4,8,9] rfl (by kernel_rfl) (fun M hi ho=>?_)
   have μ0:M 0 511 0 [8,9] 2:=hi<|oP rfl (by kernel_rfl) (⟨rfl,bd (ks:=[8,9]) rfl⟩)
   have μ1:M 1 255 0 [8,9,28] 1:=hi<|aa [(8,511)] rfl (by kernel_rfl)<|od rfl rfl (dU rfl) rfl rfl (ho μ0) rfl rfl ae
   have μ2:M 2 127 0 [8,9,21,24,27] 1:=hi<|aa [(7,255)] rfl (by kernel_rfl)<|ah (ho μ1) rfl rfl ae
   have μ3:M 3 63 0 [8,9,21,24,25,26] 1:=hi<|aa [(6,127)] rfl (by kernel_rfl)<|bc rfl rfl (dw rfl (gg T hv n)) rfl (ho μ2) rfl rfl ae
   have μ4:M 4 31 0 [2,8,9,21,24,25] 1:=hi<|aa [(5,63)] rfl (by kernel_rfl)<|ah (ho μ3) rfl rfl ae
   have μ5:M 4 47 0 [4,8,9,21,24,26] 1:=hi<|aa [(4,63)] rfl (by kernel_rfl)<|ah (ho μ3) rfl rfl ae
   have μ6:M 5 15 0 [2,4,8,9,21,24] 1:=hi<|aa [(4,31),(5,47)] rfl (by kernel_rfl)<|ah (ho μ4) rfl rfl<|ah (ho μ5) rfl rfl ae
   have μ7:M 3 119 0 [8,9,21,23,27] 0:=hi<|aa [(3,127)] rfl (by kernel_rfl)<|bW rfl rfl (cF rfl (bF.rk.get rfl) rfl rfl (rfl:(N:Int)=(N:Int)) (rfl:(N:Int)=(N:Int)) ⟨by unfold maxLen;omega,by omega⟩) rfl (ho μ2) rfl rfl ae
   have μ8:M 4 55 0 [8,9,21,23,25,26] 0:=hi<|aa [(3,63),(6,119)] rfl (by kernel_rfl)<|bW rfl rfl (cF rfl (bF.rk.get rfl) rfl rfl (rfl:(N:Int)=(N:Int)) (rfl:(N:Int)=(N:Int)) ⟨by unfold maxLen;omega,by omega⟩) rfl (ho μ3) rfl rfl<|bc rfl rfl (dw rfl (gg T hv n)) rfl (ho μ7) rfl rfl ae
   have μ9:M 5 23 0 [2,8,9,21,23,25] 0:=hi<|aa [(3,31),(5,55)] rfl (by kernel_rfl)<|bW rfl rfl (cF rfl (bF.rk.get rfl) rfl rfl (rfl:(N:Int)=(N:Int)) (rfl:(N:Int)=(N:Int)) ⟨by unfold maxLen;omega,by omega⟩) rfl (ho μ4) rfl rfl<|ah (ho μ8) rfl rfl ae
   have μ10:M 5 39 0 [4,8,9,21,23,26] 0:=hi<|aa [(3,47),(4,55)] rfl (by kernel_rfl)<|bW rfl rfl (cF rfl (bF.rk.get rfl) rfl rfl (rfl:(N:Int)=(N:Int)) (rfl:(N:Int)=(N:Int)) ⟨by unfold maxLen;omega,by omega⟩) rfl (ho μ5) rfl rfl<|ah (ho μ8) rfl rfl ae
   have μ11:M 6 7 0 [2,4,8,9,21,23] 0:=hi<|aa [(3,15),(4,23),(5,39)] rfl (by kernel_rfl)<|bW rfl rfl (cF rfl (bF.rk.get rfl) rfl rfl (rfl:(N:Int)=(N:Int)) (rfl:(N:Int)=(N:Int)) ⟨by unfold maxLen;omega,by omega⟩) rfl (ho μ6) rfl rfl<|ah (ho μ9) rfl rfl<|ah (ho μ10) rfl rfl ae
   have μ12:M 4 115 0 [8,9,21,22,27] 0:=hi<|aa [(2,119)] rfl (by kernel_rfl)<|bc rfl rfl (aK rfl ((show some (num T.nodes)=some (num (N:Int)) by rw[hN]))) rfl (ho μ7) rfl rfl ae
   have μ13:M 5 51 0 [8,9,21,22,25,26] 0:=hi<|aa [(2,55),(6,115)] rfl (by kernel_rfl)<|bc rfl rfl (aK rfl ((show some (num T.nodes)=some (num (N:Int)) by rw[hN]))) rfl (ho μ8) rfl rfl<|bc rfl rfl (dw rfl (gg T hv n)) rfl (ho μ12) rfl rfl ae
   have μ14:M 6 19 0 [2,8,9,21,22,25] 0:=hi<|aa [(2,23),(5,51)] rfl (by kernel_rfl)<|bc rfl rfl (aK rfl ((show some (num T.nodes)=some (num (N:Int)) by rw[hN]))) rfl (ho μ9) rfl rfl<|ah (ho μ13) rfl rfl ae
   have μ15:M 6 35 0 [4,8,9,21,22,26] 0:=hi<|aa [(2,39),(4,51)] rfl (by kernel_rfl)<|bc rfl rfl (aK rfl ((show some (num T.nodes)=some (num (N:Int)) by rw[hN]))) rfl (ho μ10) rfl rfl<|ah (ho μ13) rfl rfl ae
   have μ16:M 7 3 0 [2,4,8,9,21,22] 0:=hi<|aa [(2,7),(4,19),(5,35)] rfl (by kernel_rfl)<|bc rfl rfl (aK rfl ((show some (num T.nodes)=some (num (N:Int)) by rw[hN]))) rfl (ho μ11) rfl rfl<|ah (ho μ14) rfl rfl<|ah (ho μ15) rfl rfl ae
   have μ17:M 5 113 0 [4,8,9,21,27] 0:=hi<|aa [(1,115)] rfl (by kernel_rfl)<|ah (ho μ12) rfl rfl ae
   have μ18:M 6 49 0 [4,8,9,21,25,26] 0:=hi<|aa [(1,51),(6,113)] rfl (by kernel_rfl)<|ah (ho μ13) rfl rfl<|bc rfl rfl (dw rfl (gg T hv n)) rfl (ho μ17) rfl rfl ae
   have μ19:M 7 17 0 [2,4,8,9,21,25] 0:=hi<|aa [(1,19),(5,49)] rfl (by kernel_rfl)<|ah (ho μ14) rfl rfl<|ah (ho μ18) rfl rfl ae
   have μ20:M 7 33 0 [4,8,9,21,26] 0:=hi<|aa [(1,35),(4,49)] rfl (by kernel_rfl)<|ah (ho μ15) rfl rfl<|ah (ho μ18) rfl rfl ae
   have μ21:M 8 1 0 [2,4,8,9,21] 0:=hi<|aa [(1,3),(4,17),(5,33)] rfl (by kernel_rfl)<|ah (ho μ16) rfl rfl<|ah (ho μ19) rfl rfl<|ah (ho μ20) rfl rfl ae
   have μ22:M 3 126 0 [2,8,9,24,27] 1:=hi<|aa [(0,127)] rfl (by kernel_rfl)<|ah (ho μ2) rfl rfl ae
   have μ23:M 4 62 0 [2,8,9,24,25,26] 1:=hi<|aa [(0,63),(6,126)] rfl (by kernel_rfl)<|ah (ho μ3) rfl rfl<|bc rfl rfl (dw rfl (gg T hv n)) rfl (ho μ22) rfl rfl ae
   have μ24:M 5 30 0 [2,8,9,24,25] 1:=hi<|aa [(0,31),(5,62)] rfl (by kernel_rfl)<|ah (ho μ4) rfl rfl<|ah (ho μ23) rfl rfl ae
   have μ25:M 5 46 0 [2,4,8,9,24,26] 1:=hi<|aa [(0,47),(4,62)] rfl (by kernel_rfl)<|ah (ho μ5) rfl rfl<|ah (ho μ23) rfl rfl ae
   have μ26:M 6 14 0 [2,4,8,9,24] 1:=hi<|aa [(0,15),(4,30),(5,46)] rfl (by kernel_rfl)<|ah (ho μ6) rfl rfl<|ah (ho μ24) rfl rfl<|ah (ho μ25) rfl rfl ae
   have μ27:M 4 118 0 [2,8,9,23,27] 0:=hi<|aa [(0,119),(3,126)] rfl (by kernel_rfl)<|ah (ho μ7) rfl rfl<|bW rfl rfl (cF rfl (bF.rk.get rfl) rfl rfl (rfl:(N:Int)=(N:Int)) (rfl:(N:Int)=(N:Int)) ⟨by unfold maxLen;omega,by omega⟩) rfl (ho μ22) rfl rfl ae
   have μ28:M 5 54 0 [2,8,9,23,25,26] 0:=hi<|aa [(0,55),(3,62),(6,118)] rfl (by kernel_rfl)<|ah (ho μ8) rfl rfl<|bW rfl rfl (cF rfl (bF.rk.get rfl) rfl rfl (rfl:(N:Int)=(N:Int)) (rfl:(N:Int)=(N:Int)) ⟨by unfold maxLen;omega,by omega⟩) rfl (ho μ23) rfl rfl<|bc rfl rfl (dw rfl (gg T hv n)) rfl (ho μ27) rfl rfl ae
   have μ29:M 6 22 0 [2,8,9,23,25] 0:=hi<|aa [(0,23),(3,30),(5,54)] rfl (by kernel_rfl)<|ah (ho μ9) rfl rfl<|bW rfl rfl (cF rfl (bF.rk.get rfl) rfl rfl (rfl:(N:Int)=(N:Int)) (rfl:(N:Int)=(N:Int)) ⟨by unfold maxLen;omega,by omega⟩) rfl (ho μ24) rfl rfl<|ah (ho μ28) rfl rfl ae
   have μ30:M 6 38 0 [2,4,8,9,23,26] 0:=hi<|aa [(0,39),(3,46),(4,54)] rfl (by kernel_rfl)<|ah (ho μ10) rfl rfl<|bW rfl rfl (cF rfl (bF.rk.get rfl) rfl rfl (rfl:(N:Int)=(N:Int)) (rfl:(N:Int)=(N:Int)) ⟨by unfold maxLen;omega,by omega⟩) rfl (ho μ25) rfl rfl<|ah (ho μ28) rfl rfl ae
   have μ31:M 7 6 0 [2,4,8,9,23] 0:=hi<|aa [(0,7),(3,14),(4,22),(5,38)] rfl (by kernel_rfl)<|ah (ho μ11) rfl rfl<|bW rfl rfl (cF rfl (bF.rk.get rfl) rfl rfl (rfl:(N:Int)=(N:Int)) (rfl:(N:Int)=(N:Int)) ⟨by unfold maxLen;omega,by omega⟩) rfl (ho μ26) rfl rfl<|ah (ho μ29) rfl rfl<|ah (ho μ30) rfl rfl ae
   have μ32:M 5 114 0 [2,8,9,22,27] 0:=hi<|aa [(0,115),(2,118)] rfl (by kernel_rfl)<|ah (ho μ12) rfl rfl<|bc rfl rfl (aK rfl ((show some (num T.nodes)=some (num (N:Int)) by rw[hN]))) rfl (ho μ27) rfl rfl ae
   have μ33:M 6 50 0 [2,8,9,22,25,26] 0:=hi<|aa [(0,51),(2,54),(6,114)] rfl (by kernel_rfl)<|ah (ho μ13) rfl rfl<|bc rfl rfl (aK rfl ((show some (num T.nodes)=some (num (N:Int)) by rw[hN]))) rfl (ho μ28) rfl rfl<|bc rfl rfl (dw rfl (gg T hv n)) rfl (ho μ32) rfl rfl ae
   have μ34:M 7 18 0 [2,8,9,22,25] 0:=hi<|aa [(0,19),(2,22),(5,50)] rfl (by kernel_rfl)<|ah (ho μ14) rfl rfl<|bc rfl rfl (aK rfl ((show some (num T.nodes)=some (num (N:Int)) by rw[hN]))) rfl (ho μ29) rfl rfl<|ah (ho μ33) rfl rfl ae
   have μ35:M 7 34 0 [2,4,8,9,22,26] 0:=hi<|aa [(0,35),(2,38),(4,50)] rfl (by kernel_rfl)<|ah (ho μ15) rfl rfl<|bc rfl rfl (aK rfl ((show some (num T.nodes)=some (num (N:Int)) by rw[hN]))) rfl (ho μ30) rfl rfl<|ah (ho μ33) rfl rfl ae
   have μ36:M 8 2 0 [2,4,8,9,22] 0:=hi<|aa [(0,3),(2,6),(4,18),(5,34)] rfl (by kernel_rfl)<|ah (ho μ16) rfl rfl<|bc rfl rfl (aK rfl ((show some (num T.nodes)=some (num (N:Int)) by rw[hN]))) rfl (ho μ31) rfl rfl<|ah (ho μ34) rfl rfl<|ah (ho μ35) rfl rfl ae
   have μ37:M 6 112 0 [2,4,8,9,27] 0:=hi<|aa [(0,113),(1,114)] rfl (by kernel_rfl)<|ah (ho μ17) rfl rfl<|ah (ho μ32) rfl rfl ae
   have μ38:M 7 48 0 [2,4,8,9,25,26] 0:=hi<|aa [(0,49),(1,50),(6,112)] rfl (by kernel_rfl)<|ah (ho μ18) rfl rfl<|ah (ho μ33) rfl rfl<|bc rfl rfl (dw rfl (gg T hv n)) rfl (ho μ37) rfl rfl ae
   have μ39:M 8 16 0 [2,4,8,9,25] 0:=hi<|aa [(0,17),(1,18),(5,48)] rfl (by kernel_rfl)<|ah (ho μ19) rfl rfl<|ah (ho μ34) rfl rfl<|ah (ho μ38) rfl rfl ae
   have μ40:M 8 32 0 [2,4,8,9,26] 0:=hi<|aa [(0,33),(1,34),(4,48)] rfl (by kernel_rfl)<|ah (ho μ20) rfl rfl<|ah (ho μ35) rfl rfl<|ah (ho μ38) rfl rfl ae
   have μ41:M 9 0 0 [2,4,8,9] 0:=hi<|aa [(0,1),(1,2),(4,16),(5,32)] rfl (by kernel_rfl)<|ah (ho μ21) rfl rfl<|ah (ho μ36) rfl rfl<|ah (ho μ39) rfl rfl<|ah (ho μ40) rfl rfl ae
   exact μ41
  refine rQ 2 (σ':=[some (.cells 56 [num 0,.raw (.slice none 0 0),.raw (.slice none 0 0)]),some (.cells 56 [num n,.slice N (dc [.raw (.slice none 0 0),.raw (.bool false),.raw (.slice none 0 0)] N),aw (bC T n)]),none]) (t':=[(8,.ptr 0 0),(9,.ptr 1 0)]) (blk:=.row 76 3 N (dc [.raw (.slice none 0 0),.raw (.bool false),.raw (.slice none 0 0)] N)) rfl ⟨rfl,rfl,fun j hj=>by
   match j,hj with
   |0,_=>exact .inl rfl
   |1,_=>exact .inr ⟨_,_,rfl,rfl,.cells (.cons (.same _)<|.cons .own<|.cons (.same _) .nil)⟩
   |2,h=>exact absurd rfl h
   |_+3,_=>exact .inl rfl⟩ (.cons 8 rfl (.same _)<|.cons 9 rfl (.same _) .nil) ?_
  refine aH<|bA (pG (dt rfl (bF.tk.get rfl) rfl rfl rfl) hle) rfl<|aq 1 rfl<|aD [8] rfl ?_
  exact ao<|⟨_,_,aA.of rfl,ax.pure (p:=dx X),rfl⟩
 ·subst hc
  rw[if_neg (by decide)]at hXg
  unfold vM at hXg
  refine ab (.a 3 rfl<|.k [2,3,4,5,8,9,29] rfl)<|af rfl (fun hc=>?_) (fun hc=>?_)
  ·rw[if_pos (tt hc)]at hXg
   rw[←hXg]at h1
   have hle:ga (dx X) (dx X):=ga.refl _
   refine bq<|aq 2 rfl<|dJ rfl (h1) rfl<|aq 4 rfl<|aD [8,9] rfl ?_
   refine aH<|bA (pG (dt rfl (bF.tk.get rfl) rfl rfl rfl) hle) rfl<|aq 1 rfl<|aD [8] rfl ?_
   exact ao<|⟨_,_,aA.of rfl,ax.pure (p:=dx X),rfl⟩
  ·rw[if_neg (ff hc)]at hXg
   refine ab (.a 3 rfl<|.k [2,3,4,5,8,9,38] rfl)<|af rfl (fun hc=>?_) (fun hc=>?_)
   ·rw[if_pos (tt hc)]at hXg
    rw[←hXg]at h2
    have hle:ga (dx X) (dx X):=ga.refl _
    refine bq<|aq 3 rfl<|dJ rfl (h2) rfl<|aq 4 rfl<|aD [8,9] rfl ?_
    refine aH<|bA (pG (dt rfl (bF.tk.get rfl) rfl rfl rfl) hle) rfl<|aq 1 rfl<|aD [8] rfl ?_
    exact ao<|⟨_,_,aA.of rfl,ax.pure (p:=dx X),rfl⟩
   ·rw[if_neg (ff hc)]at hXg
    refine ab (.a 3 rfl<|.k [2,4,5,8,9,48] rfl)<|af rfl (fun hc=>?_) (fun hc=>?_)
    ·rw[if_pos (tt hc)]at hXg
     rw[←hXg]at h4
     have hle:ga (dx X) (dx X):=ga.refl _
     refine bq<|aq 3 rfl<|dJ rfl (h4) rfl<|aq 4 rfl<|aD [8,9] rfl ?_
     refine aH<|bA (pG (dt rfl (bF.tk.get rfl) rfl rfl rfl) hle) rfl<|aq 1 rfl<|aD [8] rfl ?_
     exact ao<|⟨_,_,aA.of rfl,ax.pure (p:=dx X),rfl⟩
    ·rw[if_neg (ff hc)]at hXg
     rw[←hXg]at h5
     have hle:ga (dx X) (dx X):=ga.refl _
     refine bq<|aq 3 rfl<|dJ rfl (h5) rfl<|aq 4 rfl<|aD [8,9] rfl ?_
     refine aH<|bA (pG (dt rfl (bF.tk.get rfl) rfl rfl rfl) hle) rfl<|aq 1 rfl<|aD [8] rfl ?_
     exact ao<|⟨_,_,aA.of rfl,ax.pure (p:=dx X),rfl⟩
set_option maxHeartbeats 4000000 in
theorem AZ(T:an)(k x:Int)(l:List Int)(hl:l.length≤1000)(h12:T.nodes≤12):Can Tryz.prog 27 [aJ T,bY k x,aw l] (· =zh (xc T k x l) (mI T k x l l.length)):=by
 obtain⟨q1,hq1⟩:∃q,(av T&&cc T k x)=q:=⟨_,rfl⟩
 obtain⟨q2,hq2⟩:∃q,decide ((l.length:Int)≠T.nodes)=q:=⟨_,rfl⟩
 obtain⟨q3,hq3⟩:∃q,gF T k x l=q:=⟨_,rfl⟩
 have hE:xc T k x l=if(q1&& !q2)=true then(if q3=true then 0 else 7) else 1:=by
  unfold xc
  rw[hq1,hq3,←hq2]
  simp
 rw[hE]
 refine aF Tryz.func27 rfl Tryz.ntmps27 rfl<|ab (.a 4 rfl<|.k [2,3,4] rfl)<|aj<|bx 20 (.raw (.bool (!q1 ||q2))) [2,3,4] rfl ?_ ?_
 ·refine .a 2 rfl<|.c rfl (hq1▸gz T k x) rfl<|.a 2 rfl<|?_
  cases q1
  ·exact .a 6 rfl<|.k [20,2,3,4] rfl
  ·exact .a 3 rfl<|.v (aK rfl (rfl)) rfl<|.v (b7 rfl (hq2)) rfl<|.a 1 rfl<|.k [20,2,3,4] rfl
 refine af rfl (fun hc=>?_) (fun hc=>?_)
 ·have hno:(q1&& !q2)=false:=by cases q1<;>cases q2<;>simp_all
  exact ab (.a 2 rfl<|.k [6,7] rfl)<|ao<|⟨_,_,aA.of rfl,ax.ba (ai.cons ax.bO (ai.cons ax.pure ai.nil)),by rw[hno];rfl⟩
 ·obtain⟨h1,rfl⟩:=Bool.or_eq_false_iff.1 hc
  have h1:q1=true:=by simpa using h1
  subst h1
  have hln:(l.length:Int)=T.nodes:=by have:=ff hq2;simpa using this
  refine ak<|aj<|ab (.a 3 rfl<|.c rfl (hq3▸BC T k x l hl) rfl<|.a 1 rfl<|.k [2,3,4,25] rfl)<|af rfl (fun hc=>?_) (fun hc=>?_)
  ·have h3:q3=false:=by simpa using hc
   subst h3
   exact ab (.a 2 rfl<|.k [6,7] rfl)<|ao<|⟨_,_,aA.of rfl,ax.ba (ai.cons ax.bO (ai.cons ax.pure ai.nil)),rfl⟩
  ·have h3:q3=true:=by simpa using hc
   subst h3
   refine ak<|ab (.a 1 rfl<|.k [2,3,4,8] rfl)<|aj<|ab (.a 1 rfl<|.k [2,3,4,8,9] rfl)<|eo 8 56 3 rfl ?_
   refine au<|ee [2,3,4,8,9] rfl<|bf (fun r s=>∃i,i≤l.length∧r=l.length - i∧s=⟨[(2,aw l),(3,.aX (bn T) 0),(4,.aX (cw k x) 0),(8,.own 0),(9,num i)],[some (.row 56 3 i (kP (mI T k x l i)))]⟩) l.length ⟨0,by omega,by omega,rfl⟩ ?_
   rintro r s ⟨i,hi,rfl,rfl⟩
   refine aj<|ab (.a 2 rfl<|.v (aK rfl ((show some (num T.nodes)=some (num (l.length:Int)) by rw[hln]))) rfl<|.a 1 rfl<|.k [2,3,4,8,9,29] rfl)<|af rfl (fun hc=>?_) (fun hc=>?_)
   ·have hlt:i<l.length:=by have:=tt hc;omega
    have hil:(i:Int)<T.nodes:=by omega
    obtain⟨s,hs⟩:∃s,iz l i=s:=⟨_,rfl⟩
    have hsl:l.getD i 0=s:=hs
    have hX:mI T k x l (i+1)=mI T k x l i++[zj T k x i s]:=by rw[wv,hs]
    have hrt:=xT T k x i s hq1 hil h12
    have hmL:(mI T k x l i).length=i:=lV
    obtain⟨L,hL⟩:∃L,mI T k x l i=L:=⟨_,rfl⟩
    obtain⟨X,hXX⟩:∃X,zj T k x i s=X:=⟨_,rfl⟩
    rw[hL,hXX]at hX
    rw[hL]at hmL ⊢
    rw[hXX]at hrt
    refine ak<|aj<|au<|cS 10 20 mixed (
     .val [8] rfl (bI rfl) rfl rfl<|
     .val [3] rfl (bI rfl) rfl rfl<|
     .val [4] rfl (bI rfl) rfl rfl<|
     .val [9] rfl (bI rfl) rfl rfl<|
     .val [2] rfl (bI rfl) rfl rfl<|
     .val [9] rfl (bI rfl) rfl rfl<|
     .val [36,37] rfl (aI (i) rfl) rfl rfl<|
     .val [38] rfl (aK rfl ((ay l i hlt).trans (by rw[hsl]))) rfl rfl<|
     .val [33,34,35,39] rfl (dw rfl (hrt)) rfl rfl<|
     .val [40] rfl (bI rfl) rfl rfl<|
     .nil) (by kernel_rfl) rfl rfl (bd (ks:=[2,3,4,9,32,41]) rfl) ?_
    refine cf (bu rfl (bF.rk.get rfl) rfl rfl rfl rfl (by unfold maxLen;omega)) rfl<|aq 1 rfl<|aD [2,3,4,8,9] rfl ?_
    refine dy [1] (.c 2<|.c 3<|.c 4<|.cons 8 rfl (.own (i:=0) (j:=1) rfl)<|.c 9<|.nil) (.kept rfl (.row aC.pure) .nil) rfl rfl ?_
    refine aB (.a 1 rfl<|.v (aP rfl) rfl<|.a 1 rfl<|.k [2,3,4,8,9] rfl) ?_
    exact⟨l.length - (i+1),by omega,i+1,by omega,rfl,by rw[hX,←nc];rfl⟩
   ·have hie:i=l.length:=by have:=ff hc;omega
    subst hie
    exact aY<|ab (.a 3 rfl<|.k [6,7] rfl)<|ao<|⟨_,_,aA.of rfl,ax.ba (ai.cons (ax.dX rfl ai.pure) (ai.cons ax.pure ai.nil)),by show PV.tuple [.slice l.length (kP (mI T k x l l.length)),num 0]= .tuple [fP (mI T k x l l.length),num 0];unfold fP;rw[lV]⟩
end PW
end Go.Proofs.YtnegbdpggideiaaGreatDoor
namespace Go.Proofs.YtnegbdpggideiaaGreatDoor
namespace PW
open Go.RowKit cH Mem Net ft
theorem rD(c:Ez):Can Tryz.prog 5 [BR c] (· =flag true):=by
 obtain⟨w1,hw1⟩:∃q,q=true:=⟨_,rfl⟩
 have haw:Can Tryz.prog 23 [] (· =flag w1):=hw1▸pC
 obtain⟨w2,hw2⟩:∃q,qm c=q:=⟨_,rfl⟩
 refine aF Tryz.func5 rfl Tryz.ntmps5 rfl<|ab (.a 2 rfl<|.k [1] rfl)<|aj<|bx 13 (.raw (.bool (!w1 ||w2))) [1] rfl ?_ ?_
 ·refine .c rfl (haw) rfl<|.a 2 rfl<|?_
  cases w1
  ·exact .a 3 rfl<|.k [13,1] rfl
  ·exact .a 1 rfl<|.c rfl (hw2▸wQ c) rfl<|.a 1 rfl<|.k [13,1] rfl
 refine af rfl (fun hc=>?_) (fun hc=>?_)
 ·exact ab (.c rfl (pC) rfl<|.a 1 rfl<|.k [2] rfl)<|ao<|⟨_,_,aA.of rfl,ax.pure,rfl⟩
 ·have hy:qm c=false:=by rw[hw2];exact(Bool.or_eq_false_iff.1 hc).2
  obtain⟨s1,s2,s3⟩:=CT hy
  have hA:=rX c.T c.k c.x c.S (by omega) s1
  have hB:=AZ c.T c.k c.x c.S (by omega) s1
  unfold zh at hA hB
  have hLl:(if xc c.T c.k c.x c.S=0 then mI c.T c.k c.x c.S c.S.length else []).length≤40:=by
   split
   ·rw[lV];exact s3
   ·simp
  generalize xc c.T c.k c.x c.S=e at hA hB hLl
  obtain⟨L,hL⟩:∃L,(if e=0 then mI c.T c.k c.x c.S c.S.length else [])=L:=⟨_,rfl⟩
  rw[hL]at hA hB hLl
  clear hc
  refine ak<|ab (.a 1 rfl<|.v (ku rfl (rfl) rfl) rfl<|.a 4 rfl<|.c rfl (hA) rfl<|.a 5 rfl<|.k [1,3,4] rfl)<|ab (.a 1 rfl<|.v (ku rfl (rfl) rfl) rfl<|.a 4 rfl<|.c rfl (hB) rfl<|.a 5 rfl<|.k [3,4,5,6] rfl)<|aj<|bx 44 (.raw (.bool (false))) [3,5] rfl ?_ ?_
  ·exact .a 2 rfl<|.v (b7 rfl (show decide (e≠e)=false by simp)) rfl<|.a 5 rfl<|.v (b7 rfl (show decide (((L.length:Nat):Int)≠L.length)=false by simp)) rfl<|.a 1 rfl<|.k [44,3,5] rfl
  refine af rfl (fun hc=>?_) (fun hc=>?_)
  ·cases hc
  ·clear hc
   refine ak<|aj<|ab (.a 3 rfl<|.k [3,5,46,47] rfl)<|au<|ee [3,5,46,47] rfl<|bf (fun r s=>∃k,k≤L.length∧r=L.length - k∧s=⟨[(3,fP L),(5,fP L),(46,num L.length),(47,num k)],[]⟩) L.length ⟨0,by omega,by omega,rfl⟩ ?_
   rintro r s ⟨k,hk,rfl,rfl⟩
   refine ab (.a 1 rfl<|.k [3,5,46,47,48] rfl)<|aj<|af rfl (fun h1=>?_) (fun hc=>?_)
   ·have hlt:k<L.length:=by have:=tt h1;omega
    obtain⟨x,hx⟩:∃x,L[k]? =some x:=⟨_,List.getElem?_eq_getElem hlt⟩
    refine ak<|aj<|au<|ab (.a 2 rfl<|.k [3,5,7,46,47] rfl)<|dH mixed (by kernel_rfl) (.a 2 rfl<|.v [50,51] (aI ((k*3)) rfl) rfl rfl<|.v [52] (ku rfl (ml L k x hx) rfl) rfl rfl<|.a 2 rfl<|.v [54,55] (aI ((k*3)) rfl) rfl rfl<|.v [56] (ku rfl (ml L k x hx) rfl) rfl rfl<|.v [53,57] (dw rfl (Cl x)) rfl rfl<|.a 1 rfl<|.k [3,5,46,47,59] rfl) ?_
    refine af rfl (fun hc=>?_) (fun hc=>?_)
    ·cases hc
    ·refine ak<|aB (.v (aP rfl) rfl<|.a 1 rfl<|.k [3,5,46,47] rfl) ?_
     exact⟨L.length - (k+1),by omega,k+1,by omega,rfl,rfl⟩
   ·exact aY<|ab (.a 1 rfl<|.k [2] rfl)<|ao<|⟨_,_,aA.of rfl,ax.pure,rfl⟩
end PW
end Go.Proofs.YtnegbdpggideiaaGreatDoor
namespace Go.Proofs.YtnegbdpggideiaaGreatDoor.mixtureTables
open Go.ChangeShapes Go.WideShapes Go.ChangeAt Go.RowKit
open cH Mem PW
set_option maxRecDepth 100000 in
theorem lifted(os:Os)(started:os.Started)(H:Type)(enc:TypeId×Value→H):
  ReturnsInHanded {} Tryz.checked os 5 .any (fun w args=>(Rows.mixtureTablesSpec.pre enc Tryz.prog Tryz.f5 [] false w args∧laidMetH Tryz.prog Rows.mixtureTablesRow.laid w)∧sizedMet enc Tryz.prog Tryz.f5 (OpenSpec.ofChange Rows.mixtureTablesSpec) false w args)
   (Rows.mixtureTablesSpec.post enc Tryz.prog Tryz.f5 false true false false):=by
 refine returnsInHanded_of_change_and (C:=Tryz.checked) (X:=fun w _=>laidMetH Tryz.prog Rows.mixtureTablesRow.laid w) (fun _ _ _ hh h=>h.of_heap hh) own started (by kernel_rfl) Tryz.func5
  (ChangeSpec.witness_shaped (enc:=enc) (C:=Tryz.checked) (os:=os) (X:=fun w _=>laidMetH Tryz.prog Rows.mixtureTablesRow.laid w) false (World.doorLaid Tryz.prog 400 os) #[.agg #[.int .i64 0,.slice none 0 0,.slice none 0 0,.int .i64 0,.int .i64 0,.slice none 0 0,.int .i64 0,.int .i64 0]] 8 rfl (World.shaped_of_RefB (by kernel_rfl) (by kernel_rfl)) (by kernel_rfl) (by kernel_rfl) (by kernel_rfl) (laidMetH_of_parts3 (fuel:=8) (laidMet_of_run' 8 (by kernel_rfl) (by kernel_rfl)) (by kernel_rfl) (by kernel_rfl))) ?_
 intro W base args ds gs before hval0 hW _ _ hL _
 have hval:∀(j:Nat) t v,Tryz.f5.params[j]? =some t→args[j]? =some v→Value.okWide Tryz.prog W .any base t v:=hval0
 have hW':=hW
 obtain⟨p,q,hA0,hV,rfl,hfz,hnd⟩:=hW
 have hA:DataW.TrodAll enc Tryz.prog W 0 (fun _=>true) true Tryz.f5.params.toList args.toList ds p:=hA0
 rw[Tryz.params5]at hA hval
 obtain⟨v0,vs0,d0,ds0,p0,q0,hargs,rfl,rfl,h0,r0⟩:=trodAll_cons hA
 obtain⟨rfl,rfl,rfl⟩:=trodAll_nil r0
 obtain rfl:args= #[v0]:=by cases args;simp_all
 obtain⟨rfl,rfl⟩:=trodVars_none hV
 have lt0:=Iv h0
 obtain⟨c,R0⟩:=HA (hval 0 50 v0 rfl rfl) h0
 clear hA0 hval0
 refine((rD c) (fun _=>False) W #[v0] (fun _ h=>h.elim) (zP hL) (aZ.cons R0 (aZ.nil _ _))).mono fun e W' ⟨x,he,bel,r,hr,hx⟩=>?_
 subst hr
 cases hx
 subst he
 exact⟨_,rfl,_,_,_,[],_,[],hW',trodAll_mk1 (shut_bool Tryz.underlying4 _),(trodAll_cons_mk (Below.trod laidOut (by kernel_rfl) (of_decide_eq_true (by kernel_rfl)) h0 bel lt0) trodAll_mk0),rfl,bel.frame _,fun h=>by cases h⟩
set_option maxRecDepth 100000 in
theorem JE:(Rows.mixtureTablesRow.inPlace==Tryz.prog.inPlace 5)=true:=by kernel_rfl
set_option maxRecDepth 100000 in
theorem Jy:(Rows.mixtureTablesRow.unfollowed==Tryz.prog.unfollowed 5)=true:=by kernel_rfl
set_option maxRecDepth 100000 in
theorem JC:(Rows.mixtureTablesRow.recurses==Tryz.prog.recurses 5)=true:=by kernel_rfl
set_option maxRecDepth 100000 in
theorem Jv:(Rows.mixtureTablesRow.named==Tryz.prog.varsNamed 5)=true:=by kernel_rfl
set_option maxRecDepth 100000 in
theorem closed:joinedFacts Tryz.prog 5 Tryz.f5 Rows.mixtureTablesSpec Rows.mixtureTablesRow=true:=by
 unfold joinedFacts
 rw[JE,Jy,JC,Jv]
 kernel_rfl
theorem over:Rows.mixtureTablesRow.holds Tryz.pinned (OpenSpec.ofChange Rows.mixtureTablesSpec):=
 OpenClaim.holds_of_wide 5 Tryz.f5 rfl rfl rfl rfl rfl rfl rfl ⟨rfl,rfl,rfl,rfl,rfl⟩ rfl rfl rfl rfl rfl (by kernel_rfl) Tryz.func5 closed
  (of_decide_eq_true (by kernel_rfl)) (by unfold Func.isWrapper;first|(rw[if_pos (by decide+kernel)];kernel_rfl)|(rw[if_neg (by decide+kernel)];exact⟨rfl,rfl⟩))
  (fun os started H enc _=>lifted os started H enc)
theorem proved:Rows.MixtureTablesCardSaid:=
 Claim7.holds_tied_plain_at .later [] [.data,.data,.data] true (true,"3eedc3262a1e22f25a0699067de5cf2e4c3ca5fe316ddc4ea68067e33fe38499") false
  over (fun _ h=>by cases h) (by kernel_rfl) (fun _ h=>by cases h) mixtureTables_row_tie rfl ⟨rfl,rfl⟩ (by kernel_rfl) rfl
  (fun f fn hf hfn=>by
   obtain rfl:f=5:=Option.some.inj ((show Tryz.prog.funcNamed "waypoint/waypointlaw31.MixtureTables" =some 5 by kernel_rfl).symm.trans hf) |>.symm
   obtain rfl:fn=Tryz.f5:=(Option.some.inj (Tryz.func5.symm.trans hfn)).symm
   exact⟨by kernel_rfl,fun j t ht=>by
    rw[Tryz.params5]at ht
    have hm:t∈[50]:=by simpa using Array.mem_of_getElem? ht
    have hall:([50].all fun u=> !Tryz.prog.wantsStandIn u)=true:=by kernel_rfl
    exact(show Tryz.prog.wantsStandIn t=false by simpa using List.all_eq_true.1 hall t hm)⟩)
  (by kernel_rfl)
end Go.Proofs.YtnegbdpggideiaaGreatDoor.mixtureTables
