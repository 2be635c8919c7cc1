/- FlowhashArrives returns true for every input: if all nodes choose among the arcs of their routes by the weights, every packet arrives, over a path with the distance as its cost. Package-level tables start as the program's text lays them. -/
import Derived.Test.YtnegbdpggideiaaDoorCardFAB8
set_option linter.unusedVariables false
set_option linter.unusedSimpArgs false
set_option maxRecDepth 10000
set_option maxHeartbeats 1000000
namespace Go.Proofs.YtnegbdpggideiaaDoor
namespace PW
open Go.RowKit aN Mem Net
noncomputable def hJ(T:ab)(D:List Bool)(k:Nat):List eS:=(List.range k).map fun n=>bS T D n
noncomputable def vR(T:ab)(D:List Bool):List eS:=if bX T D []=0 then hJ T D T.nodes.toNat else []
theorem tu(T:ab)(D:List Bool)(k:Nat):(hJ T D k).length=k:=by simp[hJ]
theorem r7(T:ab)(D:List Bool)(k:Nat):hJ T D (k+1)=hJ T D k++[bS T D k]:=by simp[hJ,List.range_succ]
theorem vZ{T:ab}{D:List Bool}(h:(aj T&&bw T D)=true):bX T D []=0:=by unfold bX;rw[if_pos h];rfl
theorem vV{T:ab}{D:List Bool}{ns:List Int}(h:(aj T&&bw T D)=false):bX T D ns=1:=by unfold bX;rw[h];rfl
theorem vt{T:ab}{D:List Bool}{n:Int}(h:(aj T&&bw T D)=true)(hn:aS T n=true):bX T D [n]=0:=by
 unfold bX;rw[if_pos h,if_pos];simp[hn]
theorem rz{T:ab}{D:List Bool}{n:Nat}(h:(aj T&&bw T D)=true)(hn:(n:Int)<T.nodes):gT T D n=bS T D n:=by
 unfold gT
 rw[vt h (aV.2 ⟨by omega,hn⟩)]
 rfl
theorem tP(T:ab)(D:List Bool):Can Tryd.prog 13 [a6 T,bA D] (· = .tuple [ie (vR T D),num (bX T D [])]):=by
 obtain⟨q1,hq1⟩:∃q,aj T=q:=⟨_,rfl⟩
 obtain⟨q2,hq2⟩:∃q,bw T D=q:=⟨_,rfl⟩
 refine aI Tryd.func13 rfl Tryd.ntmps13 rfl<|af (.a 3 rfl<|.k [1,2] rfl)<|ak<|aY 18 (.raw (.bool ((!q1)|| !q2))) [1,2] rfl ?_ ?_
 ·refine .a 1 rfl<|.c rfl (hq1▸fp T) rfl<|.a 2 rfl<|?_
  cases q1
  ·exact .a 5 rfl<|.k [18,1,2] rfl
  ·exact .a 2 rfl<|.c rfl (hq2▸kV T D (by have:=bJ hq1;omega)) rfl<|.a 2 rfl<|.k [18,1,2] rfl
 refine ag rfl (fun hc=>?_) (fun hc=>?_)
 ·have hb:(aj T&&bw T D)=false:=by rw[hq1,hq2];revert hc;cases q1<;>cases q2<;>simp
  exact af (.a 2 rfl<|.k [4,5] rfl)<|an<|⟨_,_,ax.of rfl,ay.bq (al.cons ay.bY (al.cons ay.pure al.nil)),by unfold vR;rw[vV hb];rfl⟩
 ·have hok:(aj T&&bw T D)=true:=by rw[hq1,hq2];revert hc;cases q1<;>cases q2<;>simp
  have hv:=(Bool.and_eq_true_iff.1 hok).1
  have hN:=(aC hv).nodes
  obtain⟨N,hNN⟩:∃N:Nat,T.nodes=(N:Int):=⟨T.nodes.toNat,by omega⟩
  refine ai<|af (.a 1 rfl<|.k [1,2,6] rfl)<|kd 6 25 3 rfl ?_
  refine ak<|af (.a 1 rfl<|.v (aO rfl ((show some (num T.nodes)=some (num (N:Int)) by rw[hNN]))) rfl<|.a 1 rfl<|.k [1,2,6,20,21] rfl)<|aq<|iC [1,2,6,20,21] rfl<|br (fun r s=>∃k,k≤N∧r=N - k∧s=⟨[(1,bA D),(2,.b6 (b5 T) 0),(6,.own 0),(20,num N),(21,num k)],[some (.row 25 3 k (iP (hJ T D k)))]⟩) N ⟨0,by omega,by omega,rfl⟩ ?_
  rintro r s ⟨k,hk,rfl,rfl⟩
  refine af (.a 1 rfl<|.k [1,2,6,20,21,22] rfl)<|ak<|ag rfl (fun hy=>?_) (fun hy=>?_)
  ·have hlt:k<N:=by have:=tt hy;omega
   have hr:=pU T D (k:Int)
   rw[rz hok (by omega)]at hr
   refine ai<|ak<|aq<|af (.a 2 rfl<|.k [1,2,6,7,20,21] rfl)<|aX<|av 3 rfl<|fu rfl (hr) rfl<|av 6 rfl<|aQ [1,2,6,8,20,21] rfl ?_
   refine bK<|av 3 rfl<|dJ (ct rfl (cb.rk.get rfl) rfl rfl rfl rfl (by unfold maxLen;omega)) rfl<|av 1 rfl ?_
   refine gm [2] (.c 1<|.c 2<|.c 6<|.c 20<|.c 21<|.nil) (.kept rfl (.eR rfl (show _=iP (hJ T D (k+1)) by rw[r7];exact o6 _ _))<|.nil) rfl rfl (aH ?_)
   refine aF (.v (bf rfl) rfl<|.a 1 rfl<|.k [1,2,6,20,21] rfl) ?_
   exact⟨N - (k+1),by omega,k+1,by omega,rfl,rfl⟩
  ·have hke:k=N:=by have:=ff hy;omega
   subst hke
   refine bn<|af (.a 3 rfl<|.k [4,5] rfl)<|an<|⟨_,_,ax.of rfl,ay.bq (al.cons (ay.gZ rfl al.pure) (al.cons ay.pure al.nil)),?_⟩
   unfold vR
   rw[vZ hok,if_pos rfl]
   unfold ie
   rw[tu,show T.nodes.toNat=k by omega]
end PW
end Go.Proofs.YtnegbdpggideiaaDoor
namespace Go.Proofs.YtnegbdpggideiaaDoor
namespace PW
open Go.RowKit aN Mem
inductive yj (i:Nat):cB→PV→PV→Prop
 |same {blk:cB} (p:PV):yj i blk p p
 |ptr {ty:TypeId} {xs:List PV} (off:Nat):yj i (.cells ty xs) (.ptr i off) (.b6 xs off)
 |own {e s n:Nat} {xs:List PV}:yj i (.row e s n xs) (.own i) (.slice n xs)
def xW(i:Nat)(blk:cB)(xs ys:List PV):Prop:=ys.length=xs.length∧∀(j:Nat) x y,xs[j]? =some x→ys[j]? =some y→yj i blk x y
theorem xW.nil{i:Nat}{blk:cB}:xW i blk [] []:=⟨rfl,fun j x y h=>by simp at h⟩
section
variable {P:Program} {N L:Nat} {F:Nat→Prop} {base:Nat} {σ σ':bo} {E:Env} {w:World}
end
end PW
end Go.Proofs.YtnegbdpggideiaaDoor
namespace Go.Proofs.YtnegbdpggideiaaDoor
namespace PW
open Go.RowKit aN Mem Net eB
section
variable {T:ab} {k x:Int} {d:Nat} {st:Nat→Int} {p0:fQ}
theorem qa{p:fQ}{s:List bL}{e:gV}(h:e.aW.length≤1000):(eL p s e).aW.length≤1000:=by
 unfold eL
 split
 ·split
  ·exact Nat.zero_le _
  ·exact h
 ·exact h
theorem qG{x:eS}{p:fQ}{s:List bL}{v:Int}{K:Out}(hx:de T x=true)(hK:K.aW.length≤1000):(xa T x p s v K).aW.length≤1000:=by
 unfold xa
 split
 ·rename_i h
  obtain⟨_,_,_,_,h3⟩:=jA hx (Bool.and_eq_true _ _▸h).1
  exact qa h3
 ·exact hK
theorem kj{x:eS}{p:fQ}{s:List bL}{K:Out}(hx:de T x=true)(hK:K.aW.length≤1000):(dA T x p s K).aW.length≤1000:=by
 unfold dA
 split
 ·exact Nat.zero_le _
 ·split
  ·exact Nat.zero_le _
  ·split
   ·exact qG hx (Nat.zero_le _)
   ·split
    ·exact qG hx hK
    ·split
     ·split
      ·exact Nat.zero_le _
      ·split
       ·exact hK
       ·show([_]:List Int).length≤1000;simp
     ·exact Nat.zero_le _
theorem rS(T:ab)(x:eS)(p:fQ):(eQ T x p).aW.length≤1000:=by
 unfold eQ
 split
 ·exact Nat.zero_le _
 ·rename_i h
  have hx:de T x=true:=by
   cases h2:de T x with
   |true=>rfl
   |false=>rw[h2]at h;simp at h
  split
  ·exact Nat.zero_le _
  ·exact kj hx (kj hx (Nat.zero_le _))
end
end PW
end Go.Proofs.YtnegbdpggideiaaDoor
namespace Go.Proofs.YtnegbdpggideiaaDoor
namespace PW
open Go.RowKit aN Mem Net eB
theorem mx{α:Type}[DecidableEq α]:∀(l m:List α),l.Nodup→(∀a∈l,a∈m)→l.length≤m.length
 | [],m,_,_=>Nat.zero_le _
 |a::l,m,hn,h=>by
  have ha:=h a (by simp)
  rw[List.nodup_cons]at hn
  have h2:=mx l (m.erase a) hn.2 (fun b hb=>(List.mem_erase_of_ne (fun e=>hn.1 (by rw[←e];exact hb))).2 (h b (by simp[hb])))
  rw[List.length_erase_of_mem ha]at h2
  have:=List.length_pos_of_mem ha
  simp only[List.length_cons]
  omega
section
variable {T:ab} {k x:Int} {d:Nat} {st:Nat→Int} {p0:fQ}
end
end PW
end Go.Proofs.YtnegbdpggideiaaDoor
namespace Go.Proofs.YtnegbdpggideiaaDoor
namespace PW
open Go.RowKit aN Mem Net eB
abbrev yy:=List (Nat×Nat×List bL)
section
variable (T:ab) (tb:Nat→eS) (p0:fQ) (Φ:Nat→Nat→List bL→Prop)
def wB(op:yy)(n:Nat)(s:List bL)(v:PV):Prop:=(∃c,Good T tb p0 Φ v n s c)∨∃i,(i,n,s)∈op∧v= .ptr (i+8) 0
structure xC (op:yy) (kv:List (List UInt8×PV)) (L:List PV):Prop where
 yX:∀e∈kv,∃u n s,Φ u n s∧e.1=cA n s∧wB T tb p0 Φ op n s e.2
 nodup:(kv.map (·.1)).Nodup
 all:∀v∈L,∃n s,wB T tb p0 Φ op n s v
 len:L.length=kv.length
end
section
variable {T:ab} {tb:Nat→eS} {p0:fQ} {Φ:Nat→Nat→List bL→Prop}
theorem xC.zi(R:wS T tb p0 Φ)(h12:T.nodes≤12){U:List (Nat×List bL)}(hU:∀ {u n s},Φ u n s→(n,s)∈U){op:yy}{kv:List (List UInt8×PV)}{L:List PV}(h:xC T tb p0 Φ op kv L):kv.length≤U.length:=by
 have key:∀kv:List (List UInt8×PV),(∀e∈kv,∃u n s,Φ u n s∧e.1=cA n s)→∃sts:List (Nat×List bL),sts.map (fun x=>cA x.1 x.2)=kv.map (·.1)∧∀x∈sts,x∈U:=fun kv=>by
  induction kv with
  |nil=>intro _;exact⟨[],rfl,fun x hx=>by cases hx⟩
  |cons e kv ih=>
   intro he
   obtain⟨u,n,s,h1,h2⟩:=he e (by simp)
   obtain⟨sts,h3,h4⟩:=ih (fun e h=>he e (by simp[h]))
   exact⟨(n,s)::sts,by simp[h3,h2],fun x hx=>by
    rcases List.mem_cons.1 hx with rfl|hx
    ·exact hU h1
    ·exact h4 x hx⟩
 obtain⟨sts,h1,h2⟩:=key kv (fun e he=>by
  obtain⟨u,n,s,h1,h2,_⟩:=h.yX e he
  exact⟨u,n,s,h1,h2⟩)
 have hn:=h.nodup
 rw[←h1]at hn
 have hnd:sts.Nodup:=by
  unfold List.Nodup at hn ⊢
  rw[List.pairwise_map]at hn
  exact hn.imp fun hab e=>hab (by rw[e])
 have:=mx sts U hnd h2
 have h3:=congrArg List.length h1
 simp only[List.length_map]at h3
 omega
theorem r5{κ:Type}[DecidableEq κ]{k:κ}:∀ {l:List (κ×PV)},fm k l=none→k∉l.map (·.1)
 | [],_=>by simp
 |(a,q)::l,h=>by
  simp only[fm]at h
  split at h
  ·cases h
  ·rename_i hne
   rw[List.map_cons,List.mem_cons]
   rintro(e|e)
   ·exact hne e
   ·exact r5 h e
theorem iS{κ:Type}[DecidableEq κ]{k:κ}{p:PV}:∀ {l:List (κ×PV)},fm k l=none→fw k p l=l++[(k,p)]
 | [],_=>rfl
 |(a,q)::l,h=>by
  simp only[fm]at h
  split at h
  ·cases h
  ·rename_i hne
   simp only[fw]
   rw[if_neg hne,iS h]
   rfl
end
end PW
end Go.Proofs.YtnegbdpggideiaaDoor
namespace Go.Proofs.YtnegbdpggideiaaDoor
namespace PW
open Go.RowKit aN Mem Net eB
section
variable {P:Program} {σ:bo} {t:a7} {o:Oper}
def yg(P:Program)(ty:TypeId):Bool:=match P.underlying ty with|some (.func ..)=>true|_=>false
theorem rh{ty:TypeId}(h:yg P ty=true)(f:Fn)(a b:Array Value)(w:World):(Op.equal ty (.func f a b) .nilFunc).run P w= .ok false w:=by
 unfold yg at h
 split at h
 ·rename_i u1 u2 u3 hu
  have key:∀d,(Op.equalIn (d+1) ty (.func f a b) .nilFunc).run P w= .ok false w:=fun d=>by
   simp only[Op.equalIn,Sem.run_bind,run_underlying hu,Result.andThen_ok,Sem.run_pure]
  exact key 9999
 ·cases h
theorem va{x y:Operand}{ty tz:TypeId}{f:FuncId}{cap:List PV}(ho:o.op= .binOp .eql ty x y tz)(hk:yg P ty=true)(hx:ah t x=some (.func f cap))(hy:ah t y=some (.raw .nilFunc)):az P σ t o (.raw (.bool false)):=by
 intro F base E ρ w hρ _ hT
 have h1:=ae hρ hT hx
 have h2:=ae hρ hT hy
 generalize hz:ρ x=z at h1
 generalize hz':ρ y=z' at h2
 cases h2
 cases h1 with
 |func _ cs _ hl hr=>
  simp only[execOp,ho,hz,hz',Sem.run_bind,eqGuard,binOp,rh hk,Result.andThen_ok,Sem.run_pure]
  exact aA (.raw _)
end
theorem x8:iB Tryd.prog 9 fy:=xb Tryd.underlying9
theorem xw:rI Tryd.prog 79=some (9,4):=by kernel_rfl
theorem yS:xG Tryd.prog 4=some (.bool false):=by kernel_rfl
theorem iF.pure{T:ab}{d n:Nat}{kv:List (List UInt8×PV)}(h:iF T d n kv):fR (some (.mp (cF fy kv))):=fun b hb=>by
 cases hb
 refine⟨fun i u hu=>?_⟩
 have hm:=List.mem_of_getElem? hu
 simp only[cF,List.map_map,List.mem_map,Function.comp]at hm
 obtain⟨⟨k,v⟩,hkv,rfl⟩:=hm
 obtain⟨_,_,_,_,hv⟩:=h (k,v) hkv
 show IsPure v
 have hv:v=flag true:=hv
 rw[hv]
 infer_instance
set_option maxHeartbeats 4000000 in
theorem vG(T:ab)(s d:Nat)(b7:Int)(hv:aj T=true)(h12:T.nodes≤12)(hs:(s:Int)<T.nodes)(hd:(d:Int)<T.nodes)(hr:0≤dN T [] d s):
  Can Tryd.prog 14 [a6 T,ie (hJ T [] T.nodes.toNat),cV ⟨0,s,d,b7,[],0⟩,num s,.func 15 []] (fun r=>∃q,vj T s d d q∧r= .tuple [.agg [num d,num (-1),aJ q],num 0]):=by
 have hNl:=(aC hv).nodes
 obtain⟨N,hNN⟩:∃N:Nat,T.nodes=(N:Int):=⟨T.nodes.toNat,by omega⟩
 have hNt:T.nodes.toNat=N:=by omega
 have hget:∀n:Nat,n<N→(hJ T [] N)[n]? =some (bS T [] n):=fun n hn=>by simp[hJ,hn]
 have hLl:(hJ T [] N).length=N:=by simp[hJ]
 have hck:=o0 T (hJ T [] N) s hv (by omega) (fun i x hx=>by
  have hi:i<N:=by have:=(List.getElem?_eq_some_iff.1 hx).1;omega
  rw[hget i hi]at hx
  cases hx
  exact⟨rfl,fI hv (by omega)⟩) (aV.2 ⟨by omega,hs⟩)
 rw[hNt]
 obtain⟨L,hL⟩:∃L,hJ T [] N=L:=⟨_,rfl⟩
 rw[hL]at hget hLl hck ⊢
 have hI0:=vj.start hs hr
 have hrs:=iY (D:=[]) (d:=d) hs
 refine aI Tryd.func14 rfl Tryd.ntmps14 rfl<|aX<|av 1 rfl<|dJ (iG rfl rfl rfl) rfl<|av 2 rfl<|aQ [1,3,4,5,7,10] rfl ?_
 refine af (.v (eZ rfl (rfl) rfl) rfl<|.a 2 rfl<|.c rfl (hck) rfl<|.a 1 rfl<|.k [1,3,4,5,7,10,12] rfl)<|ak<|aY 29 (.raw (.bool (false))) [1,3,4,5,7,10,12] rfl ?_ ?_
 ·exact .a 4 rfl<|.v (va rfl (show yg Tryd.prog 53=true by kernel_rfl) rfl rfl) rfl<|.a 1 rfl<|.k [29,1,3,4,5,7,10,12] rfl
 refine ag rfl (fun hc=>?_) (fun hc=>?_)
 ·cases hc
 ·refine ai<|ak<|af (.a 2 rfl<|.k [1,3,4,5,7,10,12,32] rfl)<|ag rfl (fun hc=>?_) (fun hc=>?_)
  ·cases hc
  ·refine ai<|aX<|av 4 rfl<|aQ [1,4,5,7,10,13] rfl ?_
   refine bU 2 2 3 1 rfl rfl ?_
   refine aX<|dJ (r8 fy rfl) rfl<|av 1 rfl<|aQ [1,4,5,7,10,13,14] rfl ?_
   refine aq<|iC [1,4,5,7,10,13,14] rfl<|br (fun r st=>∃(n:Nat) (q:List Int) (kv:List (List UInt8×PV)) (h:Int),vj T s d n q∧iF T d n kv∧r=eb T [] d n∧st=⟨[(1,ie L),(4,.func 15 []),(5,.b6 (b5 T) 0),(7,.ptr 0 0),(10,.ptr 1 0),(13,.ptr 2 0),(14,.own 4)],[some (.cells 52 (cR ⟨0,s,d,b7,[],h⟩)),some (.cells 48 [num 0,num 0,.raw (.slice none 0 0)]),some (.cells 48 [num n,num 0,.own 3]),some (.row 3 1 q.length (aG q)),some (.mp (cF fy kv))]⟩) (eb T [] d s) ⟨s,[],[],0,hI0,(fun x hx=>by cases hx),rfl,rfl⟩ ?_
   rintro r st ⟨n,q,kv,h,hI,hse,rfl,rfl⟩
   have hnl:=hI.node
   have hlk:=hse.none h12 hnl
   have hnm:=uF n [] (by omega) (fun g hg=>by cases hg) (by simp)
   refine aq<|af (.a 1 rfl<|.v (aO rfl (rfl)) rfl<|.a 1 rfl<|.v (aO rfl (rfl)) rfl<|.c rfl (hnm) rfl<|.a 1 rfl<|.k [1,4,5,7,10,13,14,15] rfl)<|ak<|af (.a 2 rfl<|.v (wT x8 rfl xw yS rfl rfl rfl (ts _) (by rw[hlk];first|done|rfl)) rfl<|.k [1,4,5,7,10,13,14,15,45] rfl)<|ag rfl (fun hc=>?_) (fun hc=>?_)
   ·cases hc
   ·refine ai<|aX<|av 2 rfl<|bE (uJ x8 rfl xw rfl rfl rfl (ts _) rfl) rfl rfl<|aQ [1,4,5,7,10,13,14] rfl ?_
    rw[show fw (cA n []) (flag true) kv=kv++[(cA n [],flag true)] from iS hlk]
    obtain⟨kv2,hkv2⟩:∃k,kv++[(cA n [],flag true)]=k:=⟨_,rfl⟩
    rw[hkv2]
    have hst:=tn T (bS T [] n) ⟨0,s,d,b7,[],0⟩ (by simp)
    have hcase:(n=d∧(eQ T (bS T [] n) ⟨0,s,d,b7,[],0⟩).aW=[]∧(eQ T (bS T [] n) ⟨0,s,d,b7,[],0⟩).xl= -1)∨(n≠d∧bx T [] n d≠[]∧eQ T (bS T [] n) ⟨0,s,d,b7,[],0⟩=dZ ⟨0,s,d,b7,[],0⟩ [] (bx T [] n d)):=by
     by_cases hnd:n=d
     ·refine .inl ⟨hnd,?_⟩
      rw[sc (d:=d) (fI hv hnl) (show(n:Int)=d by omega) hd rfl rfl]
      exact⟨rfl,rfl⟩
     ·exact .inr ⟨hnd,sb hv hd hI hnd rfl rfl rfl⟩
    obtain⟨o,ho⟩:∃o,eQ T (bS T [] n) ⟨0,s,d,b7,[],0⟩=o:=⟨_,rfl⟩
    rw[ho]at hst hcase
    obtain⟨aW,pk,xl⟩:=o
    have hst:Can Tryd.prog 34 [a6 T,mO (bS T [] n),cV ⟨0,s,d,b7,[],0⟩] (· = .tuple [aJ aW,cV pk,num xl]):=hst
    dsimp only at hcase
    have hgn:=hget n (by omega)
    refine aX<|av 2 rfl<|aQ [1,4,5,7,10,13,14] rfl ?_
    refine po 20 2 ([some (.cells 52 (cR ⟨0,s,d,b7,[],0⟩)),some (.cells 48 [num 0,num 0,.raw (.slice none 0 0)]),some (.cells 48 [num n,num 0,.own 3]),some (.row 3 1 q.length (aG q)),some (.mp (cF fy kv2))]::[some (.cells 52 (cR ⟨0,s,d,b7,[],0⟩)),some (.cells 48 [num 0,num 0,.raw (.slice none 0 0)]),some (.cells 48 [num n,num 0,.own 3]),some (.row 3 1 q.length (aG q)),some (.mp (cF fy kv2)),some (.cells 52 [num 0,num 0,num 0,num 0,.raw (.slice none 0 0),num 0])]::[some (.cells 52 (cR ⟨0,s,d,b7,[],0⟩)),some (.cells 48 [num 0,num 0,.raw (.slice none 0 0)]),some (.cells 48 [num n,num 0,.own 3]),some (.row 3 1 q.length (aG q)),some (.mp (cF fy kv2)),some (.cells 52 (cR pk))]::[]) (⟨_,none,0,1⟩::⟨_,none,0,1⟩::⟨_,none,0,1⟩::⟨_,none,0,1⟩::⟨_,none,0,1⟩::⟨_,none,0,1⟩::⟨_,none,0,1⟩::⟨_,none,0,1⟩::⟨_,none,0,1⟩::⟨_,none,0,1⟩::⟨_,none,0,1⟩::⟨_,none,0,2⟩::⟨.ptr 5 0,some 0,0,0⟩::⟨_,none,1,1⟩::⟨_,some 1,0,0⟩::⟨_,none,2,2⟩::[]) _ mixed ?grd1 rfl rfl rfl rfl (.cons (.val [5] rfl rfl (yz (fh (eZ rfl (rfl) rfl) (fh (eZ rfl (rfl) rfl) jb))) rfl rfl)<|.cons (.val [1] rfl rfl (yz (fh (bp rfl) (fh (bp rfl) jb))) rfl rfl)<|.cons (.val [13] rfl rfl (yz (fh (bp rfl) (fh (bp rfl) jb))) rfl rfl)<|.cons (.val [53] rfl rfl (yz (fh (bp rfl) (fh (bp rfl) jb))) rfl rfl)<|.cons (.val [52,54] rfl rfl (yz (fh (aR ((n*3)) rfl (by omega) (by omega)) (fh (aR ((n*3)) rfl (by omega) (by omega)) jb))) rfl rfl)<|.cons (.val [55] rfl rfl (yz (fh (eZ rfl (jt L n _ hgn) rfl) (fh (eZ rfl (jt L n _ hgn) rfl) jb))) rfl rfl)<|.cons (.val [7] rfl rfl (yz (fh (bp rfl) (fh (bp rfl) jb))) rfl rfl)<|.cons (.val [51,56,57] rfl rfl (yz (fh (j8 rfl (hst)) (fh (j8 rfl (hst)) jb))) rfl rfl)<|.cons (.val [58] rfl rfl (yz (fh (bp rfl) (fh (bp rfl) jb))) rfl rfl)<|.cons (.val [50] rfl rfl (yz (fh (bp rfl) (fh (bp rfl) jb))) rfl rfl)<|.cons (.val [50] rfl rfl (yz (fh (bp rfl) (fh (bp rfl) jb))) rfl rfl)<|.cons (.val [50] rfl rfl (yz (fh (bp rfl) (fh (bp rfl) (fh (bp rfl) jb)))) rfl rfl)<|.cons (.rn [] rfl rfl rfl rfl (yi rfl) rfl rfl)<|.cons (.val [59] rfl rfl (yz (fh (bp rfl) jb)) rfl rfl)<|.cons (.qO [17,60] rfl rfl rfl rfl (yi rfl) rfl)<|.cons (.val [61] rfl rfl (yz (fh (bp rfl) jb)) rfl rfl) .nil) (bm (ks:=[1,4,5,7,10,13,14,16,17,18]) rfl) ?_
    case grd1=>kernel_rfl
    refine ak<|af (.a 3 rfl<|.k [1,4,5,7,10,13,14,16,17,18,64] rfl)<|ag rfl (fun h1=>?_) (fun h1=>?_)
    ·have har:aW=[]:=List.eq_nil_of_length_eq_zero (by have:=tt h1;omega)
     obtain⟨hnd,hwy⟩:n=d∧xl= -1:=by
      rcases hcase with h5|⟨_,h5,h6⟩
      ·exact⟨h5.1,h5.2.2⟩
      ·have:aW=bx T [] n d:=congrArg Out.aW h6
       exact absurd (this.symm.trans har) h5
     subst hnd
     subst hwy
     refine aX<|av 3 rfl<|aQ [10,13] rfl ?_
     refine aX<|bZ (ei (ys:=[num n,num (-1),.own 3]) rfl (cb.tk.get rfl) rfl rfl rfl rfl) rfl<|av 2 rfl<|aQ [10,11] rfl ?_
     exact an<|⟨_,_,ax.of rfl,ay.bq (al.cons (ay.pe (al.cons ay.pure<|al.cons ay.pure<|al.cons (ay.gZ rfl al.pure) al.nil))<|al.cons ay.pure al.nil),q,hI,rfl⟩
    ·have har:aW≠[]:=fun h=>by have:=ff h1;rw[h]at this;exact this rfl
     obtain⟨hnd,hao,hpk⟩:n≠d∧aW=bx T [] n d∧pk=⟨0,s,d,b7,[],1⟩:=by
      rcases hcase with h5|⟨h4,_,h6⟩
      ·exact absurd h5.2.1 har
      ·exact⟨h4,congrArg Out.aW h6,congrArg Out.uL h6⟩
     subst hpk
     have hal:aW.length≤1000:=by
      have h2:=rS T (bS T [] n) ⟨0,s,d,b7,[],0⟩
      rw[ho]at h2
      exact h2
     have hask:=uU b7 n aW hal har
     refine ai<|aX<|av 6 rfl<|cG rfl rfl (bQ.mono (bQ.wj hask) (fun y σ' h=>?_))
     obtain⟨⟨i,hi,rfl⟩,rfl⟩:=h
     refine av 1 rfl<|aQ [1,4,5,7,10,13,14,16,17,19] rfl ?_
     refine ak ?_
     obtain⟨b,m,hb,hbl,hbm,hdl,hrk,hI2⟩:=hI.step hv hnd (a:=aW.getD i 0) (by rw[←hao];exact cS (d:=0) hi)
     have hse2:=hse.push hnl hdl
     rw[hkv2]at hse2
     have hhd:=iT T b hbl (by have:=bJ hv;omega)
     rw[hbm]at hhd
     have hql:=hI.len
     refine aY 82 (.raw (.bool (false))) [1,4,5,7,10,13,14,16,17,19] rfl ?_ ?_
     ·exact .a 1 rfl<|.v (bT rfl (show decide ((i:Int)<0)=false from decide_eq_false (by omega))) rfl<|.a 4 rfl<|.v (bT rfl (show decide (((aW.length:Nat):Int)≤(i:Int))=false from decide_eq_false (by omega))) rfl<|.a 1 rfl<|.k [82,1,4,5,7,10,13,14,16,17,19] rfl
     refine ag rfl (fun hc=>?_) (fun hc=>?_)
     ·cases hc
     ·clear hc
      refine ai<|po 20 2 ([some (.cells 52 (cR ⟨0,s,d,b7,[],0⟩)),some (.cells 48 [num 0,num 0,.raw (.slice none 0 0)]),some (.cells 48 [num n,num 0,.own 3]),some (.row 3 1 q.length (aG q)),some (.mp (cF fy kv2)),some (.cells 52 (cR ⟨0,s,d,b7,[],1⟩))]::[some (.cells 52 (cR ⟨0,s,d,b7,[],0⟩)),some (.cells 48 [num 0,num 0,.raw (.slice none 0 0)]),some (.cells 48 [num n,num 0,.own 3]),none,some (.mp (cF fy kv2)),some (.cells 52 (cR ⟨0,s,d,b7,[],1⟩)),some (.row 3 1 (q.length+1) (aG q++[num (b:Int)]))]::[some (.cells 52 (cR ⟨0,s,d,b7,[],0⟩)),some (.cells 48 [num 0,num 0,.raw (.slice none 0 0)]),some (.cells 48 [num n,num 0,.own 6]),none,some (.mp (cF fy kv2)),some (.cells 52 (cR ⟨0,s,d,b7,[],1⟩)),some (.row 3 1 (q.length+1) (aG q++[num (b:Int)]))]::[]) (⟨_,none,0,0⟩::⟨_,none,0,0⟩::⟨_,none,0,0⟩::⟨_,none,0,0⟩::⟨_,none,0,0⟩::⟨_,none,0,0⟩::⟨_,none,0,0⟩::⟨.own 6,some 0,0,0⟩::⟨_,none,1,1⟩::⟨_,some 1,0,0⟩::[]) _ mixed ?grd2 rfl rfl rfl rfl (.cons (.val [13] rfl rfl (yz (fh (bp rfl) jb)) rfl rfl)<|.cons (.val [84] rfl rfl (yz (fh (bp rfl) jb)) rfl rfl)<|.cons (.val [16] rfl rfl (yz (fh (bp rfl) jb)) rfl rfl)<|.cons (.val [19] rfl rfl (yz (fh (bp rfl) jb)) rfl rfl)<|.cons (.val [86,87] rfl rfl (yz (fh (aR (i) rfl (by omega) (by omega)) jb)) rfl rfl)<|.cons (.val [88] rfl rfl (yz (fh (aO rfl ((au aW i hi).trans (by rw[hb]))) jb)) rfl rfl)<|.cons (.val [89] rfl rfl (yz (fh (bp rfl) jb)) rfl rfl)<|.cons (.rn [85,90] rfl rfl rfl rfl (ct (σ:=[some (.cells 52 (cR ⟨0,s,d,b7,[],0⟩)),some (.cells 48 [num 0,num 0,.raw (.slice none 0 0)]),some (.cells 48 [num n,num 0,.own 3]),some (.row 3 1 q.length (aG q)),some (.mp (cF fy kv2)),some (.cells 52 (cR ⟨0,s,d,b7,[],1⟩))]) (i:=3) (n:=q.length) (m:=1) (xs:=aG q) (ys:=[num (b:Int)]) rfl (cb.rk.get rfl) rfl rfl rfl rfl (show q.length+1≤maxLen∧(q.length+1)*8≤140737488355328 by unfold maxLen;omega)) rfl rfl)<|.cons (.val [13] rfl rfl (yz (fh (bp rfl) jb)) rfl rfl)<|.cons (.qO [91,92] rfl rfl rfl rfl (yi rfl) rfl) .nil) (bm (ks:=[1,4,5,7,10,13,14,16,17,19]) rfl) ?_
      case grd2=>kernel_rfl
      refine po 20 1 ([some (.cells 52 (cR ⟨0,s,d,b7,[],0⟩)),some (.cells 48 [num 0,num 0,.raw (.slice none 0 0)]),some (.cells 48 [num n,num 0,.own 6]),none,some (.mp (cF fy kv2)),some (.cells 52 (cR ⟨0,s,d,b7,[],1⟩)),some (.row 3 1 (q.length+1) (aG q++[num (b:Int)]))]::[some (.cells 52 (cR ⟨0,s,d,b7,[],0⟩)),some (.cells 48 [num 0,num 0,.raw (.slice none 0 0)]),some (.cells 48 [num m,num 0,.own 6]),none,some (.mp (cF fy kv2)),some (.cells 52 (cR ⟨0,s,d,b7,[],1⟩)),some (.row 3 1 (q.length+1) (aG q++[num (b:Int)]))]::[]) (⟨_,none,0,0⟩::⟨_,none,0,0⟩::⟨_,none,0,0⟩::⟨_,none,0,0⟩::⟨_,none,0,0⟩::⟨_,none,0,0⟩::⟨_,none,0,0⟩::⟨_,some 0,0,0⟩::[]) _ mixed ?grd3 rfl rfl rfl rfl (.cons (.val [5] rfl rfl (yz (fh (eZ rfl (rfl) rfl) jb)) rfl rfl)<|.cons (.val [16] rfl rfl (yz (fh (bp rfl) jb)) rfl rfl)<|.cons (.val [19] rfl rfl (yz (fh (bp rfl) jb)) rfl rfl)<|.cons (.val [94,95] rfl rfl (yz (fh (aR (i) rfl (by omega) (by omega)) jb)) rfl rfl)<|.cons (.val [96] rfl rfl (yz (fh (aO rfl ((au aW i hi).trans (by rw[hb]))) jb)) rfl rfl)<|.cons (.val [93,97] rfl rfl (yz (fh (j8 rfl (hhd)) jb)) rfl rfl)<|.cons (.val [13] rfl rfl (yz (fh (bp rfl) jb)) rfl rfl)<|.cons (.qO [98,99] rfl rfl rfl rfl (yi rfl) rfl) .nil) (bm (ks:=[1,4,5,7,10,13,14,17]) rfl) ?_
      case grd3=>kernel_rfl
      refine mo 17 5 0 rfl rfl ?_
      refine dO [0,1,2,6,4] (.c 1<|.c 4<|.c 5<|.c 7<|.c 10<|.c 13<|.c 14<|.c 17<|.nil) (.kept rfl (.cells aL.pure)<|.kept rfl (.cells aL.pure)<|.kept rfl (.cells (aL.cons Ren.pure<|aL.cons Ren.pure<|aL.cons (Ren.own (i:=3) rfl) aL.nil))<|.kept rfl (.row aL.pure)<|.same hse2.pure rfl .nil) rfl rfl ?_
      refine bK<|av 2 rfl<|aQ [1,4,5,7,10,13,14] rfl ?_
      refine⟨eb T [] d m,hrk,m,q++[(b:Int)],kv2,1,hI2,hse2,rfl,?_⟩
      first
       |rfl
       |(simp only[List.length_append,List.length_singleton,←np];rfl)
end PW
end Go.Proofs.YtnegbdpggideiaaDoor
namespace Go.Proofs.YtnegbdpggideiaaDoor
namespace PW
open Go.RowKit aN Mem Net eB
def oT(a b:Nat):PV:=.agg [nC a,nC b]
instance (a b:Nat):IsPure (oT a b):=by unfold oT;infer_instance
set_option maxHeartbeats 2000000 in
theorem ot(T:ab)(b7:Int)(a b:Nat)(ha:a<256)(hb:b<256):Can Tryd.prog 4 [a6 T,num b7,oT a b] (· =flag true):=by
 obtain⟨w1,hw1⟩:∃q,tY T=q:=⟨_,rfl⟩
 have hsm:=pg T
 rw[hw1]at hsm
 refine aI Tryd.func4 rfl Tryd.ntmps4 rfl<|af (.a 3 rfl<|.k [1,3,5] rfl)<|ak<|aY 24 (.raw (.bool (!w1))) [1,3,5] rfl ?_ ?_
 ·exact .c rfl (kJ) rfl<|.a 2 rfl<|.v (eZ rfl (rfl) rfl) rfl<|.c rfl (hsm) rfl<|.a 2 rfl<|.k [24,1,3,5] rfl
 refine ag rfl (fun hc=>?_) (fun hc=>?_)
 ·skip
  exact af (.c rfl (kJ) rfl<|.a 1 rfl<|.k [6] rfl)<|an<|⟨_,_,ax.of rfl,ay.pure,rfl⟩
 ·have hw:w1=true:=by cases w1<;>first|rfl|cases hc
  subst hw
  have hsv:aj T=true∧T.nodes≤7∧T.aa.length≤10:=by
   unfold tY at hw1
   simp only[Bool.and_eq_true,decide_eq_true_eq]at hw1
   exact⟨hw1.1.1,hw1.1.2,by omega⟩
  obtain⟨hv,h7,h10⟩:=hsv
  have hNl:=(aC hv).nodes
  obtain⟨N,hNN⟩:∃N:Nat,T.nodes=(N:Int):=⟨T.nodes.toNat,by omega⟩
  have hNt:T.nodes.toNat=N:=by omega
  obtain⟨s,hs⟩:∃n,a % N=n:=⟨_,rfl⟩
  have hsl:s<N:=by rw[←hs];exact Nat.mod_lt _ (by omega)
  have hrs:(a:Int).tmod (N:Int)=(s:Int):=by rw[Int.tmod_eq_emod_of_nonneg (by omega),←hs];rfl
  obtain⟨d,hd⟩:∃n,b % N=n:=⟨_,rfl⟩
  have hdl:d<N:=by rw[←hd];exact Nat.mod_lt _ (by omega)
  have hrdd:(b:Int).tmod (N:Int)=(d:Int):=by rw[Int.tmod_eq_emod_of_nonneg (by omega),←hd];rfl
  have hdT:(d:Int)<T.nodes:=by omega
  have hcd:bX T [] [(d:Int)]=0:=by
   unfold bX
   rw[hv,fU]
   simp[aV.2 (show 0≤(d:Int)∧(d:Int)<T.nodes by omega)]
  have hrd:=sq T [] (d:Int)
  rw[hcd,Int.toNat_natCast]at hrd
  unfold dL at hrd
  rw[if_pos rfl]at hrd
  obtain⟨hb1,_⟩:=eV (D:=[]) hv (dir:=false) hdT
  obtain⟨v,hvd⟩:∃v,dN T [] d s=v:=⟨_,rfl⟩
  have hgd:(aG (bH T [] d false))[s]? =some (num v):=(au _ s (by omega)).trans (by rw[←hvd];rfl)
  obtain⟨w2,hw2⟩:∃q,decide (v<0)=q:=⟨_,rfl⟩
  have hta:=tP T []
  have hca:bX T [] []=0:=by
   unfold bX
   rw[hv,fU]
   simp
  rw[hca]at hta
  unfold vR at hta
  rw[if_pos hca]at hta
  have hone:=fun hr=>vG T s d b7 hv (by omega) (by omega) hdT hr
  obtain⟨DL,hDL⟩:∃L,bH T [] d false=L:=⟨_,rfl⟩
  rw[hDL]at hrd hb1 hgd
  obtain⟨TL,hTL⟩:∃L,hJ T [] T.nodes.toNat=L:=⟨_,rfl⟩
  rw[hTL]at hta
  simp only[hTL]at hone
  clear hc
  refine ai<|gC mixed (by kernel_rfl) (.v [5] (aR (0) rfl) rfl rfl<|.v [26] (aO rfl ((show some (nC a)=some (nC a) from rfl))) rfl rfl<|.v [27] (uq rfl (show Tryd.prog.underlying 5=some (.int .u8) by kernel_rfl) (show Tryd.prog.underlying 3=some (.int .i64) by kernel_rfl) rfl (wrap_small ha)) rfl rfl<|.a 1 rfl<|.v [29] (aO rfl ((show some (num T.nodes)=some (num (N:Int)) by rw[hNN]))) rfl rfl<|.v [28,30] (kM rfl rfl rfl (by omega) hrs) rfl rfl<|.v [5] (aR (1) rfl) rfl rfl<|.v [32] (aO rfl ((show some (nC b)=some (nC b) from rfl))) rfl rfl<|.v [33] (uq rfl (show Tryd.prog.underlying 5=some (.int .u8) by kernel_rfl) (show Tryd.prog.underlying 3=some (.int .i64) by kernel_rfl) rfl (wrap_small hb)) rfl rfl<|.a 1 rfl<|.v [35] (aO rfl ((show some (num T.nodes)=some (num (N:Int)) by rw[hNN]))) rfl rfl<|.v [34,36] (kM rfl rfl rfl (by omega) hrdd) rfl rfl<|.a 2 rfl<|.k [1,3,7,8] rfl) ?_
  refine af (.v (eZ rfl (rfl) rfl) rfl<|.a 1 rfl<|.v (w5 rfl (al.cons ay.pure<|al.cons ay.bY<|al.cons ay.pure al.nil) (hrd)) rfl<|.a 5 rfl<|.k [1,3,7,8,9] rfl)<|ak<|af (.a 2 rfl<|.v (aR (s) rfl) rfl<|.v (aO rfl (hgd)) rfl<|.v (bT rfl (hw2)) rfl<|.k [1,3,7,8,9,48] rfl)<|ag rfl (fun h2=>?_) (fun h2=>?_)
  ·skip
   exact af (.a 1 rfl<|.k [6] rfl)<|an<|⟨_,_,ax.of rfl,ay.pure,rfl⟩
  ·have hr0:0≤dN T [] d s:=by rw[h2]at hw2;have:=ff hw2;omega
   have hon:=hone hr0
   refine ai<|af (.v (eZ rfl (rfl) rfl) rfl<|.v (w5 rfl (al.cons ay.pure<|al.cons ay.bY al.nil) (hta)) rfl<|.a 5 rfl<|.k [1,3,7,8,9,11,12] rfl)<|aX<|bZ (eZ rfl (rfl) rfl) rfl<|av 4 rfl<|bZ (xt (eg (xs:=[_,_,_,_,_,_]) rfl (cb.st.get rfl) rfl rfl) (je.pe (.cons (je.refl _)<|.cons (je.refl _)<|.cons (je.refl _)<|.cons (je.refl _)<|.cons je.bY<|.cons (je.refl _) .nil))) rfl<|av 1 rfl<|cG rfl rfl (bQ.mono (bQ.wj hon) (fun y σ' h=>?_))
   obtain⟨⟨q,hI,rfl⟩,rfl⟩:=h
   refine av 6 rfl<|aQ [3,7,8,9,12,13,14] rfl ?_
   have hrk:=iY (D:=[]) (d:=d) (show(s:Int)<T.nodes by omega)
   have hql:=hI.len
   have hpa:=sB T (s:Int) q (by omega)
   have hpx:eJ T (s:Int) q=0:=by
    unfold eJ
    rw[hv,aV.2 (show 0≤(s:Int)∧(s:Int)<T.nodes by omega)]
    exact hI.walk
   have hco:cw T q=v:=by
    have h1:=hI.cost
    have h2:=hI.reach
    have h3:dN T [] d d=0:=gF hv hdT
    omega
   unfold iH at hpa
   rw[hpx,if_pos rfl,if_pos rfl,hI.at_,hco]at hpa
   refine af (.v (eZ rfl (rfl) rfl) rfl<|.a 3 rfl<|.c rfl (hpa) rfl<|.a 7 rfl<|.k [7,8,9,12,13,14,15,16,17] rfl)<|aY 6 (.raw (.bool (true))) [] rfl ?_ ?_
   ·exact .a 13 rfl<|.v (bT rfl (decide_eq_true rfl)) rfl<|.a 5 rfl<|.v (bT rfl (decide_eq_true rfl)) rfl<|.a 5 rfl<|.v (aR (s) rfl) rfl<|.v (aO rfl (hgd)) rfl<|.v (bT rfl (decide_eq_true rfl)) rfl<|.a 2 rfl<|.k [6] rfl
   exact an<|⟨_,_,ax.of rfl,ay.pure,rfl⟩
end PW
end Go.Proofs.YtnegbdpggideiaaDoor
namespace Go.Proofs.YtnegbdpggideiaaDoor
namespace PW
open Go.RowKit aN Mem Net Go.WideShapes Go.ChangeShapes
structure xr where
 a:Nat
 b:Nat
 ha:a<256
 hb:b<256
theorem wg{n:Int}(hw:(Lit.int .u8 n).wf=true):0≤n∧n≤255:=by
 simp only[Lit.wf,Bool.and_eq_true,decide_eq_true_eq]at hw
 exact hw
theorem uE{H:Type}{enc:TypeId×Value→H}{W:World}{base:Nat}{v:Value}{d:DataW H}{p:List MemPlace}(hv:Value.okWide Tryd.prog W .any base 39 v)(h:DataW.Trod enc Tryd.prog W 0 (fun _=>true) true 39 v d p):∃u:xr,bC EN W v (.agg [.raw (.int .u8 (u.a:Nat)),.raw (.int .u8 (u.b:Nat))]):=by
 have hC:Tryd.prog.cellsOf 39=2:=by kernel_rfl
 have k0:Tryd.prog.cellsOf 5=1:=by kernel_rfl
 have hv2:∃cs,v= .agg cs∧cs.size=Tryd.prog.cellsOf 39:=by
  unfold Value.okWide at hv
  simp only[Tryd.underlying39]at hv
  obtain⟨cs,h1,h2,_⟩:=hv
  exact⟨cs,h1,by simpa using h2⟩
 obtain⟨cs,rfl,hsz⟩:=hv2
 rw[hC]at hsz
 obtain⟨fuel,hf⟩:=h
 obtain⟨cl⟩:=cs
 match cl,hsz with
 | [c0,c1],_=>
  obtain⟨xs,m,_,_,_,hlen,hg⟩:=DataW.trod_array Tryd.underlying39 hf
  match xs,hlen with
  | [y0,y1],_=>
   have f0:DataW.trod enc Tryd.prog W 0 (fun _=>true) true m 5 (([c0,c1].drop (0*Tryd.prog.cellsOf 5)).take (Tryd.prog.cellsOf 5))=some y0:=hg 0 (by omega)
   have f1:DataW.trod enc Tryd.prog W 0 (fun _=>true) true m 5 (([c0,c1].drop (1*Tryd.prog.cellsOf 5)).take (Tryd.prog.cellsOf 5))=some y1:=hg 1 (by omega)
   rw[k0]at f0 f1
   obtain⟨a,ha,_,hwa⟩:=DataW.trod_int Tryd.underlying5 f0
   obtain⟨b,hb,_,hwb⟩:=DataW.trod_int Tryd.underlying5 f1
   simp at ha hb
   subst ha
   subst hb
   have ra:=wg hwa
   have rb:=wg hwb
   refine⟨⟨a.toNat,b.toNat,by omega,by omega⟩,?_⟩
   simp only
   rw[show((a.toNat:Nat):Int)=a by omega,show((b.toNat:Nat):Int)=b by omega]
   have hall:aw EN W [.int .u8 a,.int .u8 b] [.raw (.int .u8 a),.raw (.int .u8 b)]:=aw.cons (.raw _)<|aw.cons (.raw _) (aw.nil _ _)
   exact .agg _ _ hall.1 (fun i x u h1 h2=>hall.2 i x u (by simpa using h1) h2)
theorem wD{H:Type}{enc:TypeId×Value→H}{W:World}{base:Nat}{v:Value}{d:DataW H}{p:List MemPlace}(hv:Value.okWide Tryd.prog W .any base 3 v)(h:DataW.Trod enc Tryd.prog W 0 (fun _=>true) true 3 v d p):∃n:Int,bC EN W v (num n):=by
 obtain⟨n,rfl,_,_,hw⟩:=open_int Tryd.underlying3 hv h
 exact⟨n,.raw _⟩
end PW
end Go.Proofs.YtnegbdpggideiaaDoor
namespace Go.Proofs.YtnegbdpggideiaaDoor.flowhashArrives
open Go.ChangeShapes Go.WideShapes Go.ChangeAt Go.RowKit
open aN Mem PW
set_option maxRecDepth 100000 in
theorem lifted(os:Os)(started:os.Started)(H:Type)(enc:TypeId×Value→H):
  ReturnsInHanded {} Tryd.checked os 4 .any (fun w args=>(Rows.flowhashArrivesSpec.pre enc Tryd.prog Tryd.f4 [] false w args∧laidMetH Tryd.prog Rows.flowhashArrivesRow.laid w)∧sizedMet enc Tryd.prog Tryd.f4 (OpenSpec.ofChange Rows.flowhashArrivesSpec) false w args)
   (Rows.flowhashArrivesSpec.post enc Tryd.prog Tryd.f4 false true false false):=by
 refine returnsInHanded_of_change_and (C:=Tryd.checked) (X:=fun w _=>laidMetH Tryd.prog Rows.flowhashArrivesRow.laid w) (fun _ _ _ hh h=>h.of_heap hh) own started (by kernel_rfl) Tryd.func4
  (ChangeSpec.witness_shaped (enc:=enc) (C:=Tryd.checked) (os:=os) (X:=fun w _=>laidMetH Tryd.prog Rows.flowhashArrivesRow.laid w) false (World.doorLaid Tryd.prog 400 os) #[.agg #[.int .i64 0,.slice none 0 0,.slice none 0 0],.int .i64 0,.agg #[.int .u8 0,.int .u8 0]] 8 rfl (World.shaped_of_RefB (by kernel_rfl) (by kernel_rfl)) (by kernel_rfl) (by kernel_rfl) (by kernel_rfl) (laidMetH_of_parts3 (fuel:=8) (laidMet_of_run' 8 (by kernel_rfl) (by kernel_rfl)) (by kernel_rfl) (by kernel_rfl))) ?_
 intro W base args ds gs before hval0 hW _ _ hL _
 have hval:∀(j:Nat) t v,Tryd.f4.params[j]? =some t→args[j]? =some v→Value.okWide Tryd.prog W .any base t v:=hval0
 have hW':=hW
 obtain⟨p,q,hA0,hV,rfl,hfz,hnd⟩:=hW
 have hA:DataW.TrodAll enc Tryd.prog W 0 (fun _=>true) true Tryd.f4.params.toList args.toList ds p:=hA0
 rw[Tryd.params4]at hA hval
 obtain⟨v0,vs0,d0,ds0,p0,q0,hargs,rfl,rfl,h0,r0⟩:=trodAll_cons hA
 obtain⟨v1,vs1,d1,ds1,p1,q1,rfl,rfl,rfl,h1,r1⟩:=trodAll_cons r0
 obtain⟨v2,vs2,d2,ds2,p2,q2,rfl,rfl,rfl,h2,r2⟩:=trodAll_cons r1
 obtain⟨rfl,rfl,rfl⟩:=trodAll_nil r2
 obtain rfl:args= #[v0,v1,v2]:=by cases args;simp_all
 obtain⟨rfl,rfl⟩:=trodVars_none hV
 have lt0:=uH h0
 obtain⟨T,R0⟩:=vE (hval 0 38 v0 rfl rfl) h0
 have lt1:=uH h1
 obtain⟨b7,R1⟩:=wD (hval 1 3 v1 rfl rfl) h1
 have lt2:=uH h2
 obtain⟨ps,R2⟩:=uE (hval 2 39 v2 rfl rfl) h2
 clear hA0 hval0
 refine((ot T b7 ps.a ps.b ps.ha ps.hb) (fun _=>False) W #[v0,v1,v2] (fun _ h=>h.elim) (rE hL) (aw.cons R0 (aw.cons R1 (aw.cons R2 (aw.nil _ _))))).mono fun e W' ⟨x,he,bel,r,hr,hx⟩=>?_
 subst hr
 cases hx
 subst he
 exact⟨_,rfl,_,_,_,[],_,[],hW',trodAll_mk1 (shut_bool Tryd.underlying4 _),(trodAll_cons_mk (Below.trod laidOut (by kernel_rfl) (of_decide_eq_true (by kernel_rfl)) h0 bel lt0) (trodAll_cons_mk (Below.trod laidOut (by kernel_rfl) (of_decide_eq_true (by kernel_rfl)) h1 bel lt1) (trodAll_cons_mk (Below.trod laidOut (by kernel_rfl) (of_decide_eq_true (by kernel_rfl)) h2 bel lt2) trodAll_mk0))),rfl,bel.frame _,fun h=>by cases h⟩
set_option maxRecDepth 100000 in
theorem zb:(Rows.flowhashArrivesRow.inPlace==Tryd.prog.inPlace 4)=true:=by kernel_rfl
set_option maxRecDepth 100000 in
theorem y6:(Rows.flowhashArrivesRow.unfollowed==Tryd.prog.unfollowed 4)=true:=by kernel_rfl
set_option maxRecDepth 100000 in
theorem zf:(Rows.flowhashArrivesRow.recurses==Tryd.prog.recurses 4)=true:=by kernel_rfl
set_option maxRecDepth 100000 in
theorem y8:(Rows.flowhashArrivesRow.named==Tryd.prog.varsNamed 4)=true:=by kernel_rfl
set_option maxRecDepth 100000 in
theorem closed:joinedFacts Tryd.prog 4 Tryd.f4 Rows.flowhashArrivesSpec Rows.flowhashArrivesRow=true:=by
 unfold joinedFacts
 rw[zb,y6,zf,y8]
 kernel_rfl
theorem over:Rows.flowhashArrivesRow.holds Tryd.pinned (OpenSpec.ofChange Rows.flowhashArrivesSpec):=
 OpenClaim.holds_of_wide 4 Tryd.f4 rfl rfl rfl rfl rfl rfl rfl ⟨rfl,rfl,rfl,rfl,rfl⟩ rfl rfl rfl rfl rfl (by kernel_rfl) Tryd.func4 closed
  (of_decide_eq_true (by kernel_rfl)) (by unfold Func.isWrapper;first|(rw[if_pos (by decide+kernel)];kernel_rfl)|(rw[if_neg (by decide+kernel)];exact⟨rfl,rfl⟩))
  (fun os started H enc _=>lifted os started H enc)
theorem proved:Rows.FlowhashArrivesCardSaid:=
 Claim7.holds_tied_plain_at .later [] [.data,.data,.data] true (true,"6978e9ff64b5762aac7cb673b7819b2a17a27b25c8d4e42caaa333ebf3205e5b") false
  over (fun _ h=>by cases h) (by kernel_rfl) (fun _ h=>by cases h) flowhashArrives_row_tie rfl ⟨rfl,rfl⟩ (by kernel_rfl) rfl
  (fun f fn hf hfn=>by
   obtain rfl:f=4:=Option.some.inj ((show Tryd.prog.funcNamed "waypoint/waypointlaw25.FlowhashArrives" =some 4 by kernel_rfl).symm.trans hf) |>.symm
   obtain rfl:fn=Tryd.f4:=(Option.some.inj (Tryd.func4.symm.trans hfn)).symm
   exact⟨by kernel_rfl,fun j t ht=>by
    rw[Tryd.params4]at ht
    have hm:t∈[38,3,39]:=by simpa using Array.mem_of_getElem? ht
    have hall:([38,3,39].all fun u=> !Tryd.prog.wantsStandIn u)=true:=by kernel_rfl
    exact(show Tryd.prog.wantsStandIn t=false by simpa using List.all_eq_true.1 hall t hm)⟩)
  (by kernel_rfl)
end Go.Proofs.YtnegbdpggideiaaDoor.flowhashArrives
