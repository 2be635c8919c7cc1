/- FlowhashArrives returns true for every input: if all nodes choose among the arcs of their routes by the weights, every packet arrives, over a path with the distance as its cost. Package-level tables start as the program's text lays them. -/
import Derived.Test.YtnegbdpggideiaaDoorCardFAB8
set_option linter.unusedVariables false
set_option linter.unusedSimpArgs false
set_option maxRecDepth 10000
set_option maxHeartbeats 1000000
namespace Go.Proofs.YtnegbdpggideiaaDoor
namespace PW
open Go.RowKit aN Mem Net
noncomputable def gY(T:ab)(D:List Bool)(k:Nat):List eR:=(List.range k).map fun n=>bS T D n
noncomputable def vi(T:ab)(D:List Bool):List eR:=if bX T D []=0 then gY T D T.nodes.toNat else []
theorem tg(T:ab)(D:List Bool)(k:Nat):(gY T D k).length=k:=by simp[gY]
theorem rZ(T:ab)(D:List Bool)(k:Nat):gY T D (k+1)=gY T D k++[bS T D k]:=by simp[gY,List.range_succ]
theorem vm{T:ab}{D:List Bool}(h:(aj T&&bx T D)=true):bX T D []=0:=by unfold bX;rw[if_pos h];rfl
theorem vG{T:ab}{D:List Bool}{ns:List Int}(h:(aj T&&bx T D)=false):bX T D ns=1:=by unfold bX;rw[h];rfl
theorem vo{T:ab}{D:List Bool}{n:Int}(h:(aj T&&bx T D)=true)(hn:aS T n=true):bX T D [n]=0:=by
 unfold bX;rw[if_pos h,if_pos];simp[hn]
theorem rX{T:ab}{D:List Bool}{n:Nat}(h:(aj T&&bx T D)=true)(hn:(n:Int)<T.nodes):gE T D n=bS T D n:=by
 unfold gE
 rw[vo h (aV.2 ⟨by omega,hn⟩)]
 rfl
theorem ti(T:ab)(D:List Bool):Can Tryd.prog 13 [a6 T,bB D] (· = .tuple [ib (vi T D),num (bX T D [])]):=by
 obtain⟨q1,hq1⟩:∃q,aj T=q:=⟨_,rfl⟩
 obtain⟨q2,hq2⟩:∃q,bx T D=q:=⟨_,rfl⟩
 refine aI Tryd.func13 rfl Tryd.ntmps13 rfl<|af (.a 3 rfl<|.k [1,2] rfl)<|ak<|aY 18 (.raw (.bool ((!q1)|| !q2))) [1,2] rfl ?_ ?_
 ·refine .a 1 rfl<|.c rfl (hq1▸fu T) rfl<|.a 2 rfl<|?_
  cases q1
  ·exact .a 5 rfl<|.k [18,1,2] rfl
  ·exact .a 2 rfl<|.c rfl (hq2▸kX T D (by have:=bL hq1;omega)) rfl<|.a 2 rfl<|.k [18,1,2] rfl
 refine ag rfl (fun hc=>?_) (fun hc=>?_)
 ·have hb:(aj T&&bx T D)=false:=by rw[hq1,hq2];revert hc;cases q1<;>cases q2<;>simp
  exact af (.a 2 rfl<|.k [4,5] rfl)<|an<|⟨_,_,ax.of rfl,ay.br (al.cons ay.bZ (al.cons ay.pure al.nil)),by unfold vi;rw[vG hb];rfl⟩
 ·have hok:(aj T&&bx T D)=true:=by rw[hq1,hq2];revert hc;cases q1<;>cases q2<;>simp
  have hv:=(Bool.and_eq_true_iff.1 hok).1
  have hN:=(aC hv).nodes
  obtain⟨N,hNN⟩:∃N:Nat,T.nodes=(N:Int):=⟨T.nodes.toNat,by omega⟩
  refine ai<|af (.a 1 rfl<|.k [1,2,6] rfl)<|kg 6 25 3 rfl ?_
  refine ak<|af (.a 1 rfl<|.v (aO rfl ((show some (num T.nodes)=some (num (N:Int)) by rw[hNN]))) rfl<|.a 1 rfl<|.k [1,2,6,20,21] rfl)<|aq<|iC [1,2,6,20,21] rfl<|bu (fun r s=>∃k,k≤N∧r=N - k∧s=⟨[(1,bB D),(2,.b6 (bY T) 0),(6,.own 0),(20,num N),(21,num k)],[some (.row 25 3 k (jj (gY T D k)))]⟩) N ⟨0,by omega,by omega,rfl⟩ ?_
  rintro r s ⟨k,hk,rfl,rfl⟩
  refine af (.a 1 rfl<|.k [1,2,6,20,21,22] rfl)<|ak<|ag rfl (fun hy=>?_) (fun hy=>?_)
  ·have hlt:k<N:=by have:=tt hy;omega
   have hr:=pD T D (k:Int)
   rw[rX hok (by omega)]at hr
   refine ai<|ak<|aq<|af (.a 2 rfl<|.k [1,2,6,7,20,21] rfl)<|aX<|av 3 rfl<|fq rfl (hr) rfl<|av 6 rfl<|aQ [1,2,6,8,20,21] rfl ?_
   refine bJ<|av 3 rfl<|dR (cr rfl (b9.rk.get rfl) rfl rfl rfl rfl (by unfold maxLen;omega)) rfl<|av 1 rfl ?_
   refine gr [2] (.c 1<|.c 2<|.c 6<|.c 20<|.c 21<|.nil) (.kept rfl (.eS rfl (show _=jj (gY T D (k+1)) by rw[rZ];exact pe _ _))<|.nil) rfl rfl (aH ?_)
   refine aF (.v (bf rfl) rfl<|.a 1 rfl<|.k [1,2,6,20,21] rfl) ?_
   exact⟨N - (k+1),by omega,k+1,by omega,rfl,rfl⟩
  ·have hke:k=N:=by have:=ff hy;omega
   subst hke
   refine bn<|af (.a 3 rfl<|.k [4,5] rfl)<|an<|⟨_,_,ax.of rfl,ay.br (al.cons (ay.gZ rfl al.pure) (al.cons ay.pure al.nil)),?_⟩
   unfold vi
   rw[vm hok,if_pos rfl]
   unfold ib
   rw[tg,show T.nodes.toNat=k by omega]
end PW
end Go.Proofs.YtnegbdpggideiaaDoor
namespace Go.Proofs.YtnegbdpggideiaaDoor
namespace PW
open Go.RowKit aN Mem
inductive yi (i:Nat):cB→PV→PV→Prop
 |same {blk:cB} (p:PV):yi i blk p p
 |ptr {ty:TypeId} {xs:List PV} (off:Nat):yi i (.cells ty xs) (.ptr i off) (.b6 xs off)
 |own {e s n:Nat} {xs:List PV}:yi i (.row e s n xs) (.own i) (.slice n xs)
def xM(i:Nat)(blk:cB)(xs ys:List PV):Prop:=ys.length=xs.length∧∀(j:Nat) x y,xs[j]? =some x→ys[j]? =some y→yi i blk x y
theorem xM.nil{i:Nat}{blk:cB}:xM i blk [] []:=⟨rfl,fun j x y h=>by simp at h⟩
section
variable {P:Program} {N L:Nat} {F:Nat→Prop} {base:Nat} {σ σ':bp} {E:Env} {w:World}
end
end PW
end Go.Proofs.YtnegbdpggideiaaDoor
namespace Go.Proofs.YtnegbdpggideiaaDoor
namespace PW
open Go.RowKit aN Mem Net eQ
section
variable {T:ab} {k x:Int} {d:Nat} {st:Nat→Int} {p0:fQ}
theorem py{p:fQ}{s:List bK}{e:gN}(h:e.aW.length≤1000):(eP p s e).aW.length≤1000:=by
 unfold eP
 split
 ·split
  ·exact Nat.zero_le _
  ·exact h
 ·exact h
theorem ql{x:eR}{p:fQ}{s:List bK}{v:Int}{K:Out}(hx:dc T x=true)(hK:K.aW.length≤1000):(wE T x p s v K).aW.length≤1000:=by
 unfold wE
 split
 ·rename_i h
  obtain⟨_,_,_,_,h3⟩:=jO hx (Bool.and_eq_true _ _▸h).1
  exact py h3
 ·exact hK
theorem kF{x:eR}{p:fQ}{s:List bK}{K:Out}(hx:dc T x=true)(hK:K.aW.length≤1000):(dF T x p s K).aW.length≤1000:=by
 unfold dF
 split
 ·exact Nat.zero_le _
 ·split
  ·exact Nat.zero_le _
  ·split
   ·exact ql hx (Nat.zero_le _)
   ·split
    ·exact ql hx hK
    ·split
     ·split
      ·exact Nat.zero_le _
      ·split
       ·exact hK
       ·show([_]:List Int).length≤1000;simp
     ·exact Nat.zero_le _
theorem rj(T:ab)(x:eR)(p:fQ):(eC T x p).aW.length≤1000:=by
 unfold eC
 split
 ·exact Nat.zero_le _
 ·rename_i h
  have hx:dc T x=true:=by
   cases h2:dc T x with
   |true=>rfl
   |false=>rw[h2]at h;simp at h
  split
  ·exact Nat.zero_le _
  ·exact kF hx (kF hx (Nat.zero_le _))
end
end PW
end Go.Proofs.YtnegbdpggideiaaDoor
namespace Go.Proofs.YtnegbdpggideiaaDoor
namespace PW
open Go.RowKit aN Mem Net eQ
theorem lW{α:Type}[DecidableEq α]:∀(l m:List α),l.Nodup→(∀a∈l,a∈m)→l.length≤m.length
 | [],m,_,_=>Nat.zero_le _
 |a::l,m,hn,h=>by
  have ha:=h a (by simp)
  rw[List.nodup_cons]at hn
  have h2:=lW l (m.erase a) hn.2 (fun b hb=>(List.mem_erase_of_ne (fun e=>hn.1 (by rw[←e];exact hb))).2 (h b (by simp[hb])))
  rw[List.length_erase_of_mem ha]at h2
  have:=List.length_pos_of_mem ha
  simp only[List.length_cons]
  omega
section
variable {T:ab} {k x:Int} {d:Nat} {st:Nat→Int} {p0:fQ}
end
end PW
end Go.Proofs.YtnegbdpggideiaaDoor
namespace Go.Proofs.YtnegbdpggideiaaDoor
namespace PW
open Go.RowKit aN Mem Net eQ
abbrev yw:=List (Nat×Nat×List bK)
section
variable (T:ab) (tb:Nat→eR) (p0:fQ) (Φ:Nat→Nat→List bK→Prop)
def wg(op:yw)(n:Nat)(s:List bK)(v:PV):Prop:=(∃c,Good T tb p0 Φ v n s c)∨∃i,(i,n,s)∈op∧v= .ptr (i+8) 0
structure x6 (op:yw) (kv:List (List UInt8×PV)) (L:List PV):Prop where
 y7:∀e∈kv,∃u n s,Φ u n s∧e.1=cy n s∧wg T tb p0 Φ op n s e.2
 nodup:(kv.map (·.1)).Nodup
 all:∀v∈L,∃n s,wg T tb p0 Φ op n s v
 len:L.length=kv.length
end
section
variable {T:ab} {tb:Nat→eR} {p0:fQ} {Φ:Nat→Nat→List bK→Prop}
theorem x6.zi(R:wV T tb p0 Φ)(h12:T.nodes≤12){U:List (Nat×List bK)}(hU:∀ {u n s},Φ u n s→(n,s)∈U){op:yw}{kv:List (List UInt8×PV)}{L:List PV}(h:x6 T tb p0 Φ op kv L):kv.length≤U.length:=by
 have key:∀kv:List (List UInt8×PV),(∀e∈kv,∃u n s,Φ u n s∧e.1=cy n s)→∃sts:List (Nat×List bK),sts.map (fun x=>cy x.1 x.2)=kv.map (·.1)∧∀x∈sts,x∈U:=fun kv=>by
  induction kv with
  |nil=>intro _;exact⟨[],rfl,fun x hx=>by cases hx⟩
  |cons e kv ih=>
   intro he
   obtain⟨u,n,s,h1,h2⟩:=he e (by simp)
   obtain⟨sts,h3,h4⟩:=ih (fun e h=>he e (by simp[h]))
   exact⟨(n,s)::sts,by simp[h3,h2],fun x hx=>by
    rcases List.mem_cons.1 hx with rfl|hx
    ·exact hU h1
    ·exact h4 x hx⟩
 obtain⟨sts,h1,h2⟩:=key kv (fun e he=>by
  obtain⟨u,n,s,h1,h2,_⟩:=h.y7 e he
  exact⟨u,n,s,h1,h2⟩)
 have hn:=h.nodup
 rw[←h1]at hn
 have hnd:sts.Nodup:=by
  unfold List.Nodup at hn ⊢
  rw[List.pairwise_map]at hn
  exact hn.imp fun hab e=>hab (by rw[e])
 have:=lW sts U hnd h2
 have h3:=congrArg List.length h1
 simp only[List.length_map]at h3
 omega
theorem se{κ:Type}[DecidableEq κ]{k:κ}:∀ {l:List (κ×PV)},fj k l=none→k∉l.map (·.1)
 | [],_=>by simp
 |(a,q)::l,h=>by
  simp only[fj]at h
  split at h
  ·cases h
  ·rename_i hne
   rw[List.map_cons,List.mem_cons]
   rintro(e|e)
   ·exact hne e
   ·exact se h e
theorem iV{κ:Type}[DecidableEq κ]{k:κ}{p:PV}:∀ {l:List (κ×PV)},fj k l=none→fp k p l=l++[(k,p)]
 | [],_=>rfl
 |(a,q)::l,h=>by
  simp only[fj]at h
  split at h
  ·cases h
  ·rename_i hne
   simp only[fp]
   rw[if_neg hne,iV h]
   rfl
end
end PW
end Go.Proofs.YtnegbdpggideiaaDoor
namespace Go.Proofs.YtnegbdpggideiaaDoor
namespace PW
open Go.RowKit aN Mem Net eQ
section
variable {P:Program} {σ:bp} {t:a7} {o:Oper}
def yf(P:Program)(ty:TypeId):Bool:=match P.underlying ty with|some (.func ..)=>true|_=>false
theorem r7{ty:TypeId}(h:yf P ty=true)(f:Fn)(a b:Array Value)(w:World):(Op.equal ty (.func f a b) .nilFunc).run P w= .ok false w:=by
 unfold yf at h
 split at h
 ·rename_i u1 u2 u3 hu
  have key:∀d,(Op.equalIn (d+1) ty (.func f a b) .nilFunc).run P w= .ok false w:=fun d=>by
   simp only[Op.equalIn,Sem.run_bind,run_underlying hu,Result.andThen_ok,Sem.run_pure]
  exact key 9999
 ·cases h
theorem vT{x y:Operand}{ty tz:TypeId}{f:FuncId}{cap:List PV}(ho:o.op= .binOp .eql ty x y tz)(hk:yf P ty=true)(hx:ah t x=some (.func f cap))(hy:ah t y=some (.raw .nilFunc)):aA P σ t o (.raw (.bool false)):=by
 intro F base E ρ w hρ _ hT
 have h1:=ae hρ hT hx
 have h2:=ae hρ hT hy
 generalize hz:ρ x=z at h1
 generalize hz':ρ y=z' at h2
 cases h2
 cases h1 with
 |func _ cs _ hl hr=>
  simp only[execOp,ho,hz,hz',Sem.run_bind,eqGuard,binOp,r7 hk,Result.andThen_ok,Sem.run_pure]
  exact aB (.raw _)
end
theorem xy:ir Tryd.prog 9 fy:=w6 Tryd.underlying9
theorem xS:rn Tryd.prog 79=some (9,4):=by kernel_rfl
theorem y6:xT Tryd.prog 4=some (.bool false):=by kernel_rfl
theorem jn.pure{T:ab}{d n:Nat}{kv:List (List UInt8×PV)}(h:jn T d n kv):gd (some (.mp (cG fy kv))):=fun b hb=>by
 cases hb
 refine⟨fun i u hu=>?_⟩
 have hm:=List.mem_of_getElem? hu
 simp only[cG,List.map_map,List.mem_map,Function.comp]at hm
 obtain⟨⟨k,v⟩,hkv,rfl⟩:=hm
 obtain⟨_,_,_,_,hv⟩:=h (k,v) hkv
 show IsPure v
 have hv:v=flag true:=hv
 rw[hv]
 infer_instance
set_option maxHeartbeats 4000000 in
theorem u6(T:ab)(s d:Nat)(b7:Int)(hv:aj T=true)(h12:T.nodes≤12)(hs:(s:Int)<T.nodes)(hd:(d:Int)<T.nodes)(hr:0≤dN T [] d s):
  Can Tryd.prog 14 [a6 T,ib (gY T [] T.nodes.toNat),cX ⟨0,s,d,b7,[],0⟩,num s,.func 15 []] (fun r=>∃q,vy T s d d q∧r= .tuple [.agg [num d,num (-1),aJ q],num 0]):=by
 have hNl:=(aC hv).nodes
 obtain⟨N,hNN⟩:∃N:Nat,T.nodes=(N:Int):=⟨T.nodes.toNat,by omega⟩
 have hNt:T.nodes.toNat=N:=by omega
 have hget:∀n:Nat,n<N→(gY T [] N)[n]? =some (bS T [] n):=fun n hn=>by simp[gY,hn]
 have hLl:(gY T [] N).length=N:=by simp[gY]
 have hck:=pb T (gY T [] N) s hv (by omega) (fun i x hx=>by
  have hi:i<N:=by have:=(List.getElem?_eq_some_iff.1 hx).1;omega
  rw[hget i hi]at hx
  cases hx
  exact⟨rfl,fG hv (by omega)⟩) (aV.2 ⟨by omega,hs⟩)
 rw[hNt]
 obtain⟨L,hL⟩:∃L,gY T [] N=L:=⟨_,rfl⟩
 rw[hL]at hget hLl hck ⊢
 have hI0:=vy.start hs hr
 have hrs:=iJ (D:=[]) (d:=d) hs
 refine aI Tryd.func14 rfl Tryd.ntmps14 rfl<|aX<|av 1 rfl<|dR (jb rfl rfl rfl) rfl<|av 2 rfl<|aQ [1,3,4,5,7,10] rfl ?_
 refine af (.v (fc rfl (rfl) rfl) rfl<|.a 2 rfl<|.c rfl (hck) rfl<|.a 1 rfl<|.k [1,3,4,5,7,10,12] rfl)<|ak<|aY 29 (.raw (.bool (false))) [1,3,4,5,7,10,12] rfl ?_ ?_
 ·exact .a 4 rfl<|.v (vT rfl (show yf Tryd.prog 53=true by kernel_rfl) rfl rfl) rfl<|.a 1 rfl<|.k [29,1,3,4,5,7,10,12] rfl
 refine ag rfl (fun hc=>?_) (fun hc=>?_)
 ·cases hc
 ·refine ai<|ak<|af (.a 2 rfl<|.k [1,3,4,5,7,10,12,32] rfl)<|ag rfl (fun hc=>?_) (fun hc=>?_)
  ·cases hc
  ·refine ai<|aX<|av 4 rfl<|aQ [1,4,5,7,10,13] rfl ?_
   refine bU 2 2 3 1 rfl rfl ?_
   refine aX<|dR (rF fy rfl) rfl<|av 1 rfl<|aQ [1,4,5,7,10,13,14] rfl ?_
   refine aq<|iC [1,4,5,7,10,13,14] rfl<|bu (fun r st=>∃(n:Nat) (q:List Int) (kv:List (List UInt8×PV)) (h:Int),vy T s d n q∧jn T d n kv∧r=dX T [] d n∧st=⟨[(1,ib L),(4,.func 15 []),(5,.b6 (bY T) 0),(7,.ptr 0 0),(10,.ptr 1 0),(13,.ptr 2 0),(14,.own 4)],[some (.cells 52 (cS ⟨0,s,d,b7,[],h⟩)),some (.cells 48 [num 0,num 0,.raw (.slice none 0 0)]),some (.cells 48 [num n,num 0,.own 3]),some (.row 3 1 q.length (aG q)),some (.mp (cG fy kv))]⟩) (dX T [] d s) ⟨s,[],[],0,hI0,(fun x hx=>by cases hx),rfl,rfl⟩ ?_
   rintro r st ⟨n,q,kv,h,hI,hse,rfl,rfl⟩
   have hnl:=hI.node
   have hlk:=hse.none h12 hnl
   have hnm:=tR n [] (by omega) (fun g hg=>by cases hg) (by simp)
   refine aq<|af (.a 1 rfl<|.v (aO rfl (rfl)) rfl<|.a 1 rfl<|.v (aO rfl (rfl)) rfl<|.c rfl (hnm) rfl<|.a 1 rfl<|.k [1,4,5,7,10,13,14,15] rfl)<|ak<|af (.a 2 rfl<|.v (wH xy rfl xS y6 rfl rfl rfl (s8 _) (by rw[hlk];first|done|rfl)) rfl<|.k [1,4,5,7,10,13,14,15,45] rfl)<|ag rfl (fun hc=>?_) (fun hc=>?_)
   ·cases hc
   ·refine ai<|aX<|av 2 rfl<|bF (tD xy rfl xS rfl rfl rfl (s8 _) rfl) rfl rfl<|aQ [1,4,5,7,10,13,14] rfl ?_
    rw[show fp (cy n []) (flag true) kv=kv++[(cy n [],flag true)] from iV hlk]
    obtain⟨kv2,hkv2⟩:∃k,kv++[(cy n [],flag true)]=k:=⟨_,rfl⟩
    rw[hkv2]
    have hst:=sL T (bS T [] n) ⟨0,s,d,b7,[],0⟩ (by simp)
    have hcase:(n=d∧(eC T (bS T [] n) ⟨0,s,d,b7,[],0⟩).aW=[]∧(eC T (bS T [] n) ⟨0,s,d,b7,[],0⟩).xk= -1)∨(n≠d∧bw T [] n d≠[]∧eC T (bS T [] n) ⟨0,s,d,b7,[],0⟩=dW ⟨0,s,d,b7,[],0⟩ [] (bw T [] n d)):=by
     by_cases hnd:n=d
     ·refine .inl ⟨hnd,?_⟩
      rw[qX (d:=d) (fG hv hnl) (show(n:Int)=d by omega) hd rfl rfl]
      exact⟨rfl,rfl⟩
     ·exact .inr ⟨hnd,rN hv hd hI hnd rfl rfl rfl⟩
    obtain⟨o,ho⟩:∃o,eC T (bS T [] n) ⟨0,s,d,b7,[],0⟩=o:=⟨_,rfl⟩
    rw[ho]at hst hcase
    obtain⟨aW,pk,xk⟩:=o
    have hst:Can Tryd.prog 34 [a6 T,ni (bS T [] n),cX ⟨0,s,d,b7,[],0⟩] (· = .tuple [aJ aW,cX pk,num xk]):=hst
    dsimp only at hcase
    have hgn:=hget n (by omega)
    refine aX<|av 2 rfl<|aQ [1,4,5,7,10,13,14] rfl ?_
    refine pE 20 2 ([some (.cells 52 (cS ⟨0,s,d,b7,[],0⟩)),some (.cells 48 [num 0,num 0,.raw (.slice none 0 0)]),some (.cells 48 [num n,num 0,.own 3]),some (.row 3 1 q.length (aG q)),some (.mp (cG fy kv2))]::[some (.cells 52 (cS ⟨0,s,d,b7,[],0⟩)),some (.cells 48 [num 0,num 0,.raw (.slice none 0 0)]),some (.cells 48 [num n,num 0,.own 3]),some (.row 3 1 q.length (aG q)),some (.mp (cG fy kv2)),some (.cells 52 [num 0,num 0,num 0,num 0,.raw (.slice none 0 0),num 0])]::[some (.cells 52 (cS ⟨0,s,d,b7,[],0⟩)),some (.cells 48 [num 0,num 0,.raw (.slice none 0 0)]),some (.cells 48 [num n,num 0,.own 3]),some (.row 3 1 q.length (aG q)),some (.mp (cG fy kv2)),some (.cells 52 (cS pk))]::[]) (⟨_,none,0,1⟩::⟨_,none,0,1⟩::⟨_,none,0,1⟩::⟨_,none,0,1⟩::⟨_,none,0,1⟩::⟨_,none,0,1⟩::⟨_,none,0,1⟩::⟨_,none,0,1⟩::⟨_,none,0,1⟩::⟨_,none,0,1⟩::⟨_,none,0,1⟩::⟨_,none,0,2⟩::⟨.ptr 5 0,some 0,0,0⟩::⟨_,none,1,1⟩::⟨_,some 1,0,0⟩::⟨_,none,2,2⟩::[]) _ mixed ?grd1 rfl rfl rfl rfl (.cons (.val [5] rfl rfl (yz (fh (fc rfl (rfl) rfl) (fh (fc rfl (rfl) rfl) iR))) rfl rfl)<|.cons (.val [1] rfl rfl (yz (fh (bo rfl) (fh (bo rfl) iR))) rfl rfl)<|.cons (.val [13] rfl rfl (yz (fh (bo rfl) (fh (bo rfl) iR))) rfl rfl)<|.cons (.val [53] rfl rfl (yz (fh (bo rfl) (fh (bo rfl) iR))) rfl rfl)<|.cons (.val [52,54] rfl rfl (yz (fh (aR ((n*3)) rfl (by omega) (by omega)) (fh (aR ((n*3)) rfl (by omega) (by omega)) iR))) rfl rfl)<|.cons (.val [55] rfl rfl (yz (fh (fc rfl (jC L n _ hgn) rfl) (fh (fc rfl (jC L n _ hgn) rfl) iR))) rfl rfl)<|.cons (.val [7] rfl rfl (yz (fh (bo rfl) (fh (bo rfl) iR))) rfl rfl)<|.cons (.val [51,56,57] rfl rfl (yz (fh (kb rfl (hst)) (fh (kb rfl (hst)) iR))) rfl rfl)<|.cons (.val [58] rfl rfl (yz (fh (bo rfl) (fh (bo rfl) iR))) rfl rfl)<|.cons (.val [50] rfl rfl (yz (fh (bo rfl) (fh (bo rfl) iR))) rfl rfl)<|.cons (.val [50] rfl rfl (yz (fh (bo rfl) (fh (bo rfl) iR))) rfl rfl)<|.cons (.val [50] rfl rfl (yz (fh (bo rfl) (fh (bo rfl) (fh (bo rfl) iR)))) rfl rfl)<|.cons (.sc [] rfl rfl rfl rfl (yg rfl) rfl rfl)<|.cons (.val [59] rfl rfl (yz (fh (bo rfl) iR)) rfl rfl)<|.cons (.qK [17,60] rfl rfl rfl rfl (yg rfl) rfl)<|.cons (.val [61] rfl rfl (yz (fh (bo rfl) iR)) rfl rfl) .nil) (bm (ks:=[1,4,5,7,10,13,14,16,17,18]) rfl) ?_
    case grd1=>kernel_rfl
    refine ak<|af (.a 3 rfl<|.k [1,4,5,7,10,13,14,16,17,18,64] rfl)<|ag rfl (fun h1=>?_) (fun h1=>?_)
    ·have har:aW=[]:=List.eq_nil_of_length_eq_zero (by have:=tt h1;omega)
     obtain⟨hnd,hwy⟩:n=d∧xk= -1:=by
      rcases hcase with h5|⟨_,h5,h6⟩
      ·exact⟨h5.1,h5.2.2⟩
      ·have:aW=bw T [] n d:=congrArg Out.aW h6
       exact absurd (this.symm.trans har) h5
     subst hnd
     subst hwy
     refine aX<|av 3 rfl<|aQ [10,13] rfl ?_
     refine aX<|b5 (eh (ys:=[num n,num (-1),.own 3]) rfl (b9.tk.get rfl) rfl rfl rfl rfl) rfl<|av 2 rfl<|aQ [10,11] rfl ?_
     exact an<|⟨_,_,ax.of rfl,ay.br (al.cons (ay.pW (al.cons ay.pure<|al.cons ay.pure<|al.cons (ay.gZ rfl al.pure) al.nil))<|al.cons ay.pure al.nil),q,hI,rfl⟩
    ·have har:aW≠[]:=fun h=>by have:=ff h1;rw[h]at this;exact this rfl
     obtain⟨hnd,hao,hpk⟩:n≠d∧aW=bw T [] n d∧pk=⟨0,s,d,b7,[],1⟩:=by
      rcases hcase with h5|⟨h4,_,h6⟩
      ·exact absurd h5.2.1 har
      ·exact⟨h4,congrArg Out.aW h6,congrArg Out.uL h6⟩
     subst hpk
     have hal:aW.length≤1000:=by
      have h2:=rj T (bS T [] n) ⟨0,s,d,b7,[],0⟩
      rw[ho]at h2
      exact h2
     have hask:=uT b7 n aW hal har
     refine ai<|aX<|av 6 rfl<|cF rfl rfl (bQ.mono (bQ.wi hask) (fun y σ' h=>?_))
     obtain⟨⟨i,hi,rfl⟩,rfl⟩:=h
     refine av 1 rfl<|aQ [1,4,5,7,10,13,14,16,17,19] rfl ?_
     refine ak ?_
     obtain⟨b,m,hb,hbl,hbm,hdl,hrk,hI2⟩:=hI.step hv hnd (a:=aW.getD i 0) (by rw[←hao];exact cQ (d:=0) hi)
     have hse2:=hse.push hnl hdl
     rw[hkv2]at hse2
     have hhd:=iX T b hbl (by have:=bL hv;omega)
     rw[hbm]at hhd
     have hql:=hI.len
     refine aY 82 (.raw (.bool (false))) [1,4,5,7,10,13,14,16,17,19] rfl ?_ ?_
     ·exact .a 1 rfl<|.v (bT rfl (show decide ((i:Int)<0)=false from decide_eq_false (by omega))) rfl<|.a 4 rfl<|.v (bT rfl (show decide (((aW.length:Nat):Int)≤(i:Int))=false from decide_eq_false (by omega))) rfl<|.a 1 rfl<|.k [82,1,4,5,7,10,13,14,16,17,19] rfl
     refine ag rfl (fun hc=>?_) (fun hc=>?_)
     ·cases hc
     ·clear hc
      refine ai<|pE 20 2 ([some (.cells 52 (cS ⟨0,s,d,b7,[],0⟩)),some (.cells 48 [num 0,num 0,.raw (.slice none 0 0)]),some (.cells 48 [num n,num 0,.own 3]),some (.row 3 1 q.length (aG q)),some (.mp (cG fy kv2)),some (.cells 52 (cS ⟨0,s,d,b7,[],1⟩))]::[some (.cells 52 (cS ⟨0,s,d,b7,[],0⟩)),some (.cells 48 [num 0,num 0,.raw (.slice none 0 0)]),some (.cells 48 [num n,num 0,.own 3]),none,some (.mp (cG fy kv2)),some (.cells 52 (cS ⟨0,s,d,b7,[],1⟩)),some (.row 3 1 (q.length+1) (aG q++[num (b:Int)]))]::[some (.cells 52 (cS ⟨0,s,d,b7,[],0⟩)),some (.cells 48 [num 0,num 0,.raw (.slice none 0 0)]),some (.cells 48 [num n,num 0,.own 6]),none,some (.mp (cG fy kv2)),some (.cells 52 (cS ⟨0,s,d,b7,[],1⟩)),some (.row 3 1 (q.length+1) (aG q++[num (b:Int)]))]::[]) (⟨_,none,0,0⟩::⟨_,none,0,0⟩::⟨_,none,0,0⟩::⟨_,none,0,0⟩::⟨_,none,0,0⟩::⟨_,none,0,0⟩::⟨_,none,0,0⟩::⟨.own 6,some 0,0,0⟩::⟨_,none,1,1⟩::⟨_,some 1,0,0⟩::[]) _ mixed ?grd2 rfl rfl rfl rfl (.cons (.val [13] rfl rfl (yz (fh (bo rfl) iR)) rfl rfl)<|.cons (.val [84] rfl rfl (yz (fh (bo rfl) iR)) rfl rfl)<|.cons (.val [16] rfl rfl (yz (fh (bo rfl) iR)) rfl rfl)<|.cons (.val [19] rfl rfl (yz (fh (bo rfl) iR)) rfl rfl)<|.cons (.val [86,87] rfl rfl (yz (fh (aR (i) rfl (by omega) (by omega)) iR)) rfl rfl)<|.cons (.val [88] rfl rfl (yz (fh (aO rfl ((au aW i hi).trans (by rw[hb]))) iR)) rfl rfl)<|.cons (.val [89] rfl rfl (yz (fh (bo rfl) iR)) rfl rfl)<|.cons (.sc [85,90] rfl rfl rfl rfl (cr (σ:=[some (.cells 52 (cS ⟨0,s,d,b7,[],0⟩)),some (.cells 48 [num 0,num 0,.raw (.slice none 0 0)]),some (.cells 48 [num n,num 0,.own 3]),some (.row 3 1 q.length (aG q)),some (.mp (cG fy kv2)),some (.cells 52 (cS ⟨0,s,d,b7,[],1⟩))]) (i:=3) (n:=q.length) (m:=1) (xs:=aG q) (ys:=[num (b:Int)]) rfl (b9.rk.get rfl) rfl rfl rfl rfl (show q.length+1≤maxLen∧(q.length+1)*8≤140737488355328 by unfold maxLen;omega)) rfl rfl)<|.cons (.val [13] rfl rfl (yz (fh (bo rfl) iR)) rfl rfl)<|.cons (.qK [91,92] rfl rfl rfl rfl (yg rfl) rfl) .nil) (bm (ks:=[1,4,5,7,10,13,14,16,17,19]) rfl) ?_
      case grd2=>kernel_rfl
      refine pE 20 1 ([some (.cells 52 (cS ⟨0,s,d,b7,[],0⟩)),some (.cells 48 [num 0,num 0,.raw (.slice none 0 0)]),some (.cells 48 [num n,num 0,.own 6]),none,some (.mp (cG fy kv2)),some (.cells 52 (cS ⟨0,s,d,b7,[],1⟩)),some (.row 3 1 (q.length+1) (aG q++[num (b:Int)]))]::[some (.cells 52 (cS ⟨0,s,d,b7,[],0⟩)),some (.cells 48 [num 0,num 0,.raw (.slice none 0 0)]),some (.cells 48 [num m,num 0,.own 6]),none,some (.mp (cG fy kv2)),some (.cells 52 (cS ⟨0,s,d,b7,[],1⟩)),some (.row 3 1 (q.length+1) (aG q++[num (b:Int)]))]::[]) (⟨_,none,0,0⟩::⟨_,none,0,0⟩::⟨_,none,0,0⟩::⟨_,none,0,0⟩::⟨_,none,0,0⟩::⟨_,none,0,0⟩::⟨_,none,0,0⟩::⟨_,some 0,0,0⟩::[]) _ mixed ?grd3 rfl rfl rfl rfl (.cons (.val [5] rfl rfl (yz (fh (fc rfl (rfl) rfl) iR)) rfl rfl)<|.cons (.val [16] rfl rfl (yz (fh (bo rfl) iR)) rfl rfl)<|.cons (.val [19] rfl rfl (yz (fh (bo rfl) iR)) rfl rfl)<|.cons (.val [94,95] rfl rfl (yz (fh (aR (i) rfl (by omega) (by omega)) iR)) rfl rfl)<|.cons (.val [96] rfl rfl (yz (fh (aO rfl ((au aW i hi).trans (by rw[hb]))) iR)) rfl rfl)<|.cons (.val [93,97] rfl rfl (yz (fh (kb rfl (hhd)) iR)) rfl rfl)<|.cons (.val [13] rfl rfl (yz (fh (bo rfl) iR)) rfl rfl)<|.cons (.qK [98,99] rfl rfl rfl rfl (yg rfl) rfl) .nil) (bm (ks:=[1,4,5,7,10,13,14,17]) rfl) ?_
      case grd3=>kernel_rfl
      refine lZ 17 5 0 rfl rfl ?_
      refine dQ [0,1,2,6,4] (.c 1<|.c 4<|.c 5<|.c 7<|.c 10<|.c 13<|.c 14<|.c 17<|.nil) (.kept rfl (.cells aL.pure)<|.kept rfl (.cells aL.pure)<|.kept rfl (.cells (aL.cons Ren.pure<|aL.cons Ren.pure<|aL.cons (Ren.own (i:=3) rfl) aL.nil))<|.kept rfl (.row aL.pure)<|.same hse2.pure rfl .nil) rfl rfl ?_
      refine bJ<|av 2 rfl<|aQ [1,4,5,7,10,13,14] rfl ?_
      refine⟨dX T [] d m,hrk,m,q++[(b:Int)],kv2,1,hI2,hse2,rfl,?_⟩
      first
       |rfl
       |(simp only[List.length_append,List.length_singleton,←nc];rfl)
end PW
end Go.Proofs.YtnegbdpggideiaaDoor
namespace Go.Proofs.YtnegbdpggideiaaDoor
namespace PW
open Go.RowKit aN Mem Net eQ
def qa(a b:Nat):PV:=.agg [nD a,nD b]
instance (a b:Nat):IsPure (qa a b):=by unfold qa;infer_instance
set_option maxHeartbeats 2000000 in
theorem nV(T:ab)(b7:Int)(a b:Nat)(ha:a<256)(hb:b<256):Can Tryd.prog 4 [a6 T,num b7,qa a b] (· =flag true):=by
 obtain⟨w1,hw1⟩:∃q,uf T=q:=⟨_,rfl⟩
 have hsm:=oM T
 rw[hw1]at hsm
 refine aI Tryd.func4 rfl Tryd.ntmps4 rfl<|af (.a 3 rfl<|.k [1,3,5] rfl)<|ak<|aY 24 (.raw (.bool (!w1))) [1,3,5] rfl ?_ ?_
 ·exact .c rfl (km) rfl<|.a 2 rfl<|.v (fc rfl (rfl) rfl) rfl<|.c rfl (hsm) rfl<|.a 2 rfl<|.k [24,1,3,5] rfl
 refine ag rfl (fun hc=>?_) (fun hc=>?_)
 ·skip
  exact af (.c rfl (km) rfl<|.a 1 rfl<|.k [6] rfl)<|an<|⟨_,_,ax.of rfl,ay.pure,rfl⟩
 ·have hw:w1=true:=by cases w1<;>first|rfl|cases hc
  subst hw
  have hsv:aj T=true∧T.nodes≤7∧T.aa.length≤10:=by
   unfold uf at hw1
   simp only[Bool.and_eq_true,decide_eq_true_eq]at hw1
   exact⟨hw1.1.1,hw1.1.2,by omega⟩
  obtain⟨hv,h7,h10⟩:=hsv
  have hNl:=(aC hv).nodes
  obtain⟨N,hNN⟩:∃N:Nat,T.nodes=(N:Int):=⟨T.nodes.toNat,by omega⟩
  have hNt:T.nodes.toNat=N:=by omega
  obtain⟨s,hs⟩:∃n,a % N=n:=⟨_,rfl⟩
  have hsl:s<N:=by rw[←hs];exact Nat.mod_lt _ (by omega)
  have hrs:(a:Int).tmod (N:Int)=(s:Int):=by rw[Int.tmod_eq_emod_of_nonneg (by omega),←hs];rfl
  obtain⟨d,hd⟩:∃n,b % N=n:=⟨_,rfl⟩
  have hdl:d<N:=by rw[←hd];exact Nat.mod_lt _ (by omega)
  have hrdd:(b:Int).tmod (N:Int)=(d:Int):=by rw[Int.tmod_eq_emod_of_nonneg (by omega),←hd];rfl
  have hdT:(d:Int)<T.nodes:=by omega
  have hcd:bX T [] [(d:Int)]=0:=by
   unfold bX
   rw[hv,gC]
   simp[aV.2 (show 0≤(d:Int)∧(d:Int)<T.nodes by omega)]
  have hrd:=rp T [] (d:Int)
  rw[hcd,Int.toNat_natCast]at hrd
  unfold dO at hrd
  rw[if_pos rfl]at hrd
  obtain⟨hb1,_⟩:=eV (D:=[]) hv (dir:=false) hdT
  obtain⟨v,hvd⟩:∃v,dN T [] d s=v:=⟨_,rfl⟩
  have hgd:(aG (bI T [] d false))[s]? =some (num v):=(au _ s (by omega)).trans (by rw[←hvd];rfl)
  obtain⟨w2,hw2⟩:∃q,decide (v<0)=q:=⟨_,rfl⟩
  have hta:=ti T []
  have hca:bX T [] []=0:=by
   unfold bX
   rw[hv,gC]
   simp
  rw[hca]at hta
  unfold vi at hta
  rw[if_pos hca]at hta
  have hone:=fun hr=>u6 T s d b7 hv (by omega) (by omega) hdT hr
  obtain⟨DL,hDL⟩:∃L,bI T [] d false=L:=⟨_,rfl⟩
  rw[hDL]at hrd hb1 hgd
  obtain⟨TL,hTL⟩:∃L,gY T [] T.nodes.toNat=L:=⟨_,rfl⟩
  rw[hTL]at hta
  simp only[hTL]at hone
  clear hc
  refine ai<|fY mixed (by kernel_rfl) (.v [5] (aR (0) rfl) rfl rfl<|.v [26] (aO rfl ((show some (nD a)=some (nD a) from rfl))) rfl rfl<|.v [27] (tp rfl (show Tryd.prog.underlying 5=some (.int .u8) by kernel_rfl) (show Tryd.prog.underlying 3=some (.int .i64) by kernel_rfl) rfl (wrap_small ha)) rfl rfl<|.a 1 rfl<|.v [29] (aO rfl ((show some (num T.nodes)=some (num (N:Int)) by rw[hNN]))) rfl rfl<|.v [28,30] (lA rfl rfl rfl (by omega) hrs) rfl rfl<|.v [5] (aR (1) rfl) rfl rfl<|.v [32] (aO rfl ((show some (nD b)=some (nD b) from rfl))) rfl rfl<|.v [33] (tp rfl (show Tryd.prog.underlying 5=some (.int .u8) by kernel_rfl) (show Tryd.prog.underlying 3=some (.int .i64) by kernel_rfl) rfl (wrap_small hb)) rfl rfl<|.a 1 rfl<|.v [35] (aO rfl ((show some (num T.nodes)=some (num (N:Int)) by rw[hNN]))) rfl rfl<|.v [34,36] (lA rfl rfl rfl (by omega) hrdd) rfl rfl<|.a 2 rfl<|.k [1,3,7,8] rfl) ?_
  refine af (.v (fc rfl (rfl) rfl) rfl<|.a 1 rfl<|.v (wL rfl (al.cons ay.pure<|al.cons ay.bZ<|al.cons ay.pure al.nil) (hrd)) rfl<|.a 5 rfl<|.k [1,3,7,8,9] rfl)<|ak<|af (.a 2 rfl<|.v (aR (s) rfl) rfl<|.v (aO rfl (hgd)) rfl<|.v (bT rfl (hw2)) rfl<|.k [1,3,7,8,9,48] rfl)<|ag rfl (fun h2=>?_) (fun h2=>?_)
  ·skip
   exact af (.a 1 rfl<|.k [6] rfl)<|an<|⟨_,_,ax.of rfl,ay.pure,rfl⟩
  ·have hr0:0≤dN T [] d s:=by rw[h2]at hw2;have:=ff hw2;omega
   have hon:=hone hr0
   refine ai<|af (.v (fc rfl (rfl) rfl) rfl<|.v (wL rfl (al.cons ay.pure<|al.cons ay.bZ al.nil) (hta)) rfl<|.a 5 rfl<|.k [1,3,7,8,9,11,12] rfl)<|aX<|b5 (fc rfl (rfl) rfl) rfl<|av 4 rfl<|b5 (x3 (ek (xs:=[_,_,_,_,_,_]) rfl (b9.st.get rfl) rfl rfl) (iP.pW (.cons (iP.refl _)<|.cons (iP.refl _)<|.cons (iP.refl _)<|.cons (iP.refl _)<|.cons iP.bZ<|.cons (iP.refl _) .nil))) rfl<|av 1 rfl<|cF rfl rfl (bQ.mono (bQ.wi hon) (fun y σ' h=>?_))
   obtain⟨⟨q,hI,rfl⟩,rfl⟩:=h
   refine av 6 rfl<|aQ [3,7,8,9,12,13,14] rfl ?_
   have hrk:=iJ (D:=[]) (d:=d) (show(s:Int)<T.nodes by omega)
   have hql:=hI.len
   have hpa:=r5 T (s:Int) q (by omega)
   have hpx:eD T (s:Int) q=0:=by
    unfold eD
    rw[hv,aV.2 (show 0≤(s:Int)∧(s:Int)<T.nodes by omega)]
    exact hI.walk
   have hco:cz T q=v:=by
    have h1:=hI.cost
    have h2:=hI.reach
    have h3:dN T [] d d=0:=gD hv hdT
    omega
   unfold iK at hpa
   rw[hpx,if_pos rfl,if_pos rfl,hI.at_,hco]at hpa
   refine af (.v (fc rfl (rfl) rfl) rfl<|.a 3 rfl<|.c rfl (hpa) rfl<|.a 7 rfl<|.k [7,8,9,12,13,14,15,16,17] rfl)<|aY 6 (.raw (.bool (true))) [] rfl ?_ ?_
   ·exact .a 13 rfl<|.v (bT rfl (decide_eq_true rfl)) rfl<|.a 5 rfl<|.v (bT rfl (decide_eq_true rfl)) rfl<|.a 5 rfl<|.v (aR (s) rfl) rfl<|.v (aO rfl (hgd)) rfl<|.v (bT rfl (decide_eq_true rfl)) rfl<|.a 2 rfl<|.k [6] rfl
   exact an<|⟨_,_,ax.of rfl,ay.pure,rfl⟩
end PW
end Go.Proofs.YtnegbdpggideiaaDoor
namespace Go.Proofs.YtnegbdpggideiaaDoor
namespace PW
open Go.RowKit aN Mem Net Go.WideShapes Go.ChangeShapes
structure xE where
 a:Nat
 b:Nat
 ha:a<256
 hb:b<256
theorem wB{n:Int}(hw:(Lit.int .u8 n).wf=true):0≤n∧n≤255:=by
 simp only[Lit.wf,Bool.and_eq_true,decide_eq_true_eq]at hw
 exact hw
theorem tQ{H:Type}{enc:TypeId×Value→H}{W:World}{base:Nat}{v:Value}{d:DataW H}{p:List MemPlace}(hv:Value.okWide Tryd.prog W .any base 39 v)(h:DataW.Trod enc Tryd.prog W 0 (fun _=>true) true 39 v d p):∃u:xE,bC EN W v (.agg [.raw (.int .u8 (u.a:Nat)),.raw (.int .u8 (u.b:Nat))]):=by
 have hC:Tryd.prog.cellsOf 39=2:=by kernel_rfl
 have k0:Tryd.prog.cellsOf 5=1:=by kernel_rfl
 have hv2:∃cs,v= .agg cs∧cs.size=Tryd.prog.cellsOf 39:=by
  unfold Value.okWide at hv
  simp only[Tryd.underlying39]at hv
  obtain⟨cs,h1,h2,_⟩:=hv
  exact⟨cs,h1,by simpa using h2⟩
 obtain⟨cs,rfl,hsz⟩:=hv2
 rw[hC]at hsz
 obtain⟨fuel,hf⟩:=h
 obtain⟨cl⟩:=cs
 match cl,hsz with
 | [c0,c1],_=>
  obtain⟨xs,m,_,_,_,hlen,hg⟩:=DataW.trod_array Tryd.underlying39 hf
  match xs,hlen with
  | [y0,y1],_=>
   have f0:DataW.trod enc Tryd.prog W 0 (fun _=>true) true m 5 (([c0,c1].drop (0*Tryd.prog.cellsOf 5)).take (Tryd.prog.cellsOf 5))=some y0:=hg 0 (by omega)
   have f1:DataW.trod enc Tryd.prog W 0 (fun _=>true) true m 5 (([c0,c1].drop (1*Tryd.prog.cellsOf 5)).take (Tryd.prog.cellsOf 5))=some y1:=hg 1 (by omega)
   rw[k0]at f0 f1
   obtain⟨a,ha,_,hwa⟩:=DataW.trod_int Tryd.underlying5 f0
   obtain⟨b,hb,_,hwb⟩:=DataW.trod_int Tryd.underlying5 f1
   simp at ha hb
   subst ha
   subst hb
   have ra:=wB hwa
   have rb:=wB hwb
   refine⟨⟨a.toNat,b.toNat,by omega,by omega⟩,?_⟩
   simp only
   rw[show((a.toNat:Nat):Int)=a by omega,show((b.toNat:Nat):Int)=b by omega]
   have hall:aw EN W [.int .u8 a,.int .u8 b] [.raw (.int .u8 a),.raw (.int .u8 b)]:=aw.cons (.raw _)<|aw.cons (.raw _) (aw.nil _ _)
   exact .agg _ _ hall.1 (fun i x u h1 h2=>hall.2 i x u (by simpa using h1) h2)
theorem wQ{H:Type}{enc:TypeId×Value→H}{W:World}{base:Nat}{v:Value}{d:DataW H}{p:List MemPlace}(hv:Value.okWide Tryd.prog W .any base 3 v)(h:DataW.Trod enc Tryd.prog W 0 (fun _=>true) true 3 v d p):∃n:Int,bC EN W v (num n):=by
 obtain⟨n,rfl,_,_,hw⟩:=open_int Tryd.underlying3 hv h
 exact⟨n,.raw _⟩
end PW
end Go.Proofs.YtnegbdpggideiaaDoor
namespace Go.Proofs.YtnegbdpggideiaaDoor.flowhashArrives
open Go.ChangeShapes Go.WideShapes Go.ChangeAt Go.RowKit
open aN Mem PW
set_option maxRecDepth 100000 in
theorem lifted(os:Os)(started:os.Started)(H:Type)(enc:TypeId×Value→H):
  ReturnsInHanded {} Tryd.checked os 4 .any (fun w args=>(Rows.flowhashArrivesSpec.pre enc Tryd.prog Tryd.f4 [] false w args∧laidMetH Tryd.prog Rows.flowhashArrivesRow.laid w)∧sizedMet enc Tryd.prog Tryd.f4 (OpenSpec.ofChange Rows.flowhashArrivesSpec) false w args)
   (Rows.flowhashArrivesSpec.post enc Tryd.prog Tryd.f4 false true false false):=by
 refine returnsInHanded_of_change_and (C:=Tryd.checked) (X:=fun w _=>laidMetH Tryd.prog Rows.flowhashArrivesRow.laid w) (fun _ _ _ hh h=>h.of_heap hh) own started (by kernel_rfl) Tryd.func4
  (ChangeSpec.witness_shaped (enc:=enc) (C:=Tryd.checked) (os:=os) (X:=fun w _=>laidMetH Tryd.prog Rows.flowhashArrivesRow.laid w) false (World.doorLaid Tryd.prog 400 os) #[.agg #[.int .i64 0,.slice none 0 0,.slice none 0 0],.int .i64 0,.agg #[.int .u8 0,.int .u8 0]] 8 rfl (World.shaped_of_RefB (by kernel_rfl) (by kernel_rfl)) (by kernel_rfl) (by kernel_rfl) (by kernel_rfl) (laidMetH_of_parts3 (fuel:=8) (laidMet_of_run' 8 (by kernel_rfl) (by kernel_rfl)) (by kernel_rfl) (by kernel_rfl))) ?_
 intro W base args ds gs before hval0 hW _ _ hL _
 have hval:∀(j:Nat) t v,Tryd.f4.params[j]? =some t→args[j]? =some v→Value.okWide Tryd.prog W .any base t v:=hval0
 have hW':=hW
 obtain⟨p,q,hA0,hV,rfl,hfz,hnd⟩:=hW
 have hA:DataW.TrodAll enc Tryd.prog W 0 (fun _=>true) true Tryd.f4.params.toList args.toList ds p:=hA0
 rw[Tryd.params4]at hA hval
 obtain⟨v0,vs0,d0,ds0,p0,q0,hargs,rfl,rfl,h0,r0⟩:=trodAll_cons hA
 obtain⟨v1,vs1,d1,ds1,p1,q1,rfl,rfl,rfl,h1,r1⟩:=trodAll_cons r0
 obtain⟨v2,vs2,d2,ds2,p2,q2,rfl,rfl,rfl,h2,r2⟩:=trodAll_cons r1
 obtain⟨rfl,rfl,rfl⟩:=trodAll_nil r2
 obtain rfl:args= #[v0,v1,v2]:=by cases args;simp_all
 obtain⟨rfl,rfl⟩:=trodVars_none hV
 have lt0:=tL h0
 obtain⟨T,R0⟩:=vO (hval 0 38 v0 rfl rfl) h0
 have lt1:=tL h1
 obtain⟨b7,R1⟩:=wQ (hval 1 3 v1 rfl rfl) h1
 have lt2:=tL h2
 obtain⟨ps,R2⟩:=tQ (hval 2 39 v2 rfl rfl) h2
 clear hA0 hval0
 refine((nV T b7 ps.a ps.b ps.ha ps.hb) (fun _=>False) W #[v0,v1,v2] (fun _ h=>h.elim) (rf hL) (aw.cons R0 (aw.cons R1 (aw.cons R2 (aw.nil _ _))))).mono fun e W' ⟨x,he,bel,r,hr,hx⟩=>?_
 subst hr
 cases hx
 subst he
 exact⟨_,rfl,_,_,_,[],_,[],hW',trodAll_mk1 (shut_bool Tryd.underlying4 _),(trodAll_cons_mk (Below.trod laidOut (by kernel_rfl) (of_decide_eq_true (by kernel_rfl)) h0 bel lt0) (trodAll_cons_mk (Below.trod laidOut (by kernel_rfl) (of_decide_eq_true (by kernel_rfl)) h1 bel lt1) (trodAll_cons_mk (Below.trod laidOut (by kernel_rfl) (of_decide_eq_true (by kernel_rfl)) h2 bel lt2) trodAll_mk0))),rfl,bel.frame _,fun h=>by cases h⟩
set_option maxRecDepth 100000 in
theorem y9:(Rows.flowhashArrivesRow.inPlace==Tryd.prog.inPlace 4)=true:=by kernel_rfl
set_option maxRecDepth 100000 in
theorem zg:(Rows.flowhashArrivesRow.unfollowed==Tryd.prog.unfollowed 4)=true:=by kernel_rfl
set_option maxRecDepth 100000 in
theorem yZ:(Rows.flowhashArrivesRow.recurses==Tryd.prog.recurses 4)=true:=by kernel_rfl
set_option maxRecDepth 100000 in
theorem yT:(Rows.flowhashArrivesRow.named==Tryd.prog.varsNamed 4)=true:=by kernel_rfl
set_option maxRecDepth 100000 in
theorem closed:joinedFacts Tryd.prog 4 Tryd.f4 Rows.flowhashArrivesSpec Rows.flowhashArrivesRow=true:=by
 unfold joinedFacts
 rw[y9,zg,yZ,yT]
 kernel_rfl
theorem over:Rows.flowhashArrivesRow.holds Tryd.pinned (OpenSpec.ofChange Rows.flowhashArrivesSpec):=
 OpenClaim.holds_of_wide 4 Tryd.f4 rfl rfl rfl rfl rfl rfl rfl ⟨rfl,rfl,rfl,rfl,rfl⟩ rfl rfl rfl rfl rfl (by kernel_rfl) Tryd.func4 closed
  (of_decide_eq_true (by kernel_rfl)) (by unfold Func.isWrapper;first|(rw[if_pos (by decide+kernel)];kernel_rfl)|(rw[if_neg (by decide+kernel)];exact⟨rfl,rfl⟩))
  (fun os started H enc _=>lifted os started H enc)
theorem proved:Rows.FlowhashArrivesCardSaid:=
 Claim7.holds_tied_plain_at .later [] [.data,.data,.data] true (true,"6978e9ff64b5762aac7cb673b7819b2a17a27b25c8d4e42caaa333ebf3205e5b") false
  over (fun _ h=>by cases h) (by kernel_rfl) (fun _ h=>by cases h) flowhashArrives_row_tie rfl ⟨rfl,rfl⟩ (by kernel_rfl) rfl
  (fun f fn hf hfn=>by
   obtain rfl:f=4:=Option.some.inj ((show Tryd.prog.funcNamed "waypoint/waypointlaw25.FlowhashArrives" =some 4 by kernel_rfl).symm.trans hf) |>.symm
   obtain rfl:fn=Tryd.f4:=(Option.some.inj (Tryd.func4.symm.trans hfn)).symm
   exact⟨by kernel_rfl,fun j t ht=>by
    rw[Tryd.params4]at ht
    have hm:t∈[38,3,39]:=by simpa using Array.mem_of_getElem? ht
    have hall:([38,3,39].all fun u=> !Tryd.prog.wantsStandIn u)=true:=by kernel_rfl
    exact(show Tryd.prog.wantsStandIn t=false by simpa using List.all_eq_true.1 hall t hm)⟩)
  (by kernel_rfl)
end Go.Proofs.YtnegbdpggideiaaDoor.flowhashArrives
