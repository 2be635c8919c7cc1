/- Texts of the proof, part 12. -/
import Derived.RangeFuncBox
import Derived.Test.YtnegbdpggideiaaGreatDoorCardMRB11
set_option linter.unusedVariables false
set_option linter.unusedSimpArgs false
set_option maxRecDepth 10000
set_option maxHeartbeats 1000000
namespace Go.Proofs.YtnegbdpggideiaaGreatDoor
namespace PW
open Go.RowKit cH Mem Net fw
theorem tc{α:Type}(f:α→List PV)(s:Nat)(hf:∀a,(f a).length=s)(z:α):∀(l:List α) (d:Nat),d<l.length→over (l.flatMap f) (d*s) (f z)=(l.set d z).flatMap f
 | [],d,h=>by simp at h
 |a::l,0,_=>by
  unfold over
  rw[List.flatMap_cons,Nat.zero_mul,List.take_zero,hf,List.set_cons_zero,List.flatMap_cons,List.nil_append,Nat.zero_add]
  congr 1
  rw[←hf a,List.drop_left]
 |a::l,d+1,h=>by
  have ih:=tc f s hf z l d (by simpa using h)
  unfold over at*
  have e:(d+1)*s=(f a).length+d*s:=by rw[hf,Nat.succ_mul];omega
  rw[List.flatMap_cons,List.set_cons_succ,List.flatMap_cons,←ih,e,List.take_length_add_append,Nat.add_assoc,List.drop_length_add_append,List.append_assoc]
theorem BW(l:List iV)(d:Nat)(z:iV)(h:d<l.length):over (di l) (d*3) (kP z)=di (l.set d z):=tc kP 3 (fun _=>rfl) z l d h
noncomputable def lx(T:an)(D:List Bool)(n N j:Nat):List iV:=(List.range N).map fun d=>if d<j then i7 T D n (d:Int) else⟨aX T D n d,false,[]⟩
theorem Fj(T:an)(D:List Bool)(n N j:Nat):(lx T D n N j).length=N:=by simp[lx]
theorem CL(T:an)(D:List Bool)(n N:Nat):lx T D n N 0=oR T D n N:=by unfold lx oR;simp
theorem DN(T:an)(D:List Bool)(n N:Nat):lx T D n N N=sH T D n N:=by
 unfold lx sH
 refine List.map_congr_left fun d hd=>?_
 rw[if_pos (List.mem_range.1 hd)]
theorem xr{T:an}{D:List Bool}{n N j i:Nat}(h:i<(lx T D n N j).length):(lx T D n N j)[i]=if i<j then i7 T D n (i:Int) else⟨aX T D n i,false,[]⟩:=by simp[lx]
theorem BY(T:an)(D:List Bool)(n N j:Nat):(lx T D n N j).set j (i7 T D n (j:Int))=lx T D n N (j+1):=by
 apply List.ext_getElem (by simp[lx])
 intro i h1 h2
 rw[List.getElem_set,xr,xr]
 by_cases e:j=i
 ·subst e;rw[if_pos rfl,if_pos (by omega)]
 ·rw[if_neg e]
  by_cases h:i<j
  ·rw[if_pos h,if_pos (by omega)]
  ·rw[if_neg h,if_neg (by omega)]
def pR(T:an)(D:List Bool)(n:Nat)(l:List iV):cm:=[some (.cells 56 [num 0,.raw (.slice none 0 0),.raw (.slice none 0 0)]),some (.row 76 3 T.nodes.toNat (di l)),some (.row 3 1 (cr D (bG T n)).length (aR (cr D (bG T n)))),some (.cells 56 [num n,.own 1,.own 2])]
theorem DY(T:an)(D:List Bool)(n:Nat)(hv:ao T=true)(hf:bN T D=true)(hn:(n:Int)<T.nodes)(h12:T.nodes≤12):bS Tryz.prog 123 ([aQ D,.agg [num n,.own 1,.own 2]]++[.aY (bq T) 0,.aY [num n] 0]) (pR T D n (oR T D n T.nodes.toNat)) (fun _ σ'=>σ'=pR T D n (sH T D n T.nodes.toNat)++[some (.cells 56 [num n,.own 1,.own 2])]):=by
 have hll:=bJ hv
 have hnb:bd T (n:Int)=true:=aT.2 ⟨by omega,hn⟩
 obtain⟨N,hN⟩:∃N:Nat,T.nodes.toNat=N:=⟨_,rfl⟩
 have hNN:T.nodes=(N:Int):=by have:=(aM hv).nodes;omega
 unfold pR
 rw[hN,←CL]
 obtain⟨dl,hdl⟩:∃dl,cr D (bG T n)=dl:=⟨_,rfl⟩
 rw[hdl]
 refine cw Tryz.func123 rfl Tryz.ntmps123 rfl<|aP<|cp (fS rfl rfl rfl) rfl<|aG [0,2,3,5] rfl ?_
 refine ab (.a 4 rfl<|.k [0,2,3,5,9,10] rfl)<|au<|eu [0,2,3,5,9,10] rfl<|bf (fun r s=>∃j,j≤N∧r=N - j∧s=⟨[(0,aQ D),(2,.aY (bq T) 0),(3,.aY [num n] 0),(5,.ptr 4 0),(9,num N),(10,num j)],[some (.cells 56 [num 0,.raw (.slice none 0 0),.raw (.slice none 0 0)]),some (.row 76 3 N (di (lx T D n N j))),some (.row 3 1 dl.length (aR dl)),some (.cells 56 [num n,.own 1,.own 2]),some (.cells 56 [num n,.own 1,.own 2])]⟩) N ⟨0,by omega,by omega,rfl⟩ ?_
 rintro r s ⟨j,hj,rfl,rfl⟩
 refine ab (.a 1 rfl<|.k [0,2,3,5,9,10,11] rfl)<|ah<|ag rfl (fun h1=>?_) (fun h1=>?_)
 ·have hlt:j<N:=by have:=tt h1;omega
  have hre:=wA T D n j hll h12
  rw[mK hv hf hnb (aT.2 ⟨by omega,by omega⟩)]at hre
  have hml:=Fj T D n N j
  have hel:(di (lx T D n N j)).length=N*3:=by have:=D0 kP 3 (fun _=>rfl) (lx T D n N j);rw[hml]at this;exact this
  refine ai<|ah<|au<|ab (.a 2 rfl<|.k [0,2,3,5,6,9,10] rfl)<|dp 12 20 mixed (
   .val [5] rfl (bH rfl) rfl rfl<|
   .val [14] rfl (bH rfl) rfl rfl<|
   .val [6] rfl (bH rfl) rfl rfl<|
   .val [2] rfl (bH rfl) rfl rfl<|
   .val [0] rfl (bH rfl) rfl rfl<|
   .val [3] rfl (bH rfl) rfl rfl<|
   .val [6] rfl (bH rfl) rfl rfl<|
   .val [17,18,19,20] rfl (dJ rfl (hre)) rfl rfl<|
   .val [21] rfl (bH rfl) rfl rfl<|
   .val [13] rfl (bH rfl) rfl rfl<|
   .late [13] rfl (tZ rfl rfl rfl) inferInstance rfl rfl<|
   .val [15,16] rfl (aJ ((j*3)) rfl) rfl rfl<|
   .nil) (by kernel_rfl) rfl rfl (bm (ks:=[0,2,3,5,9,10,22,24]) rfl) ?_
  refine bg (vE rfl (bI.tk.get rfl) rfl rfl rfl rfl rfl (show j*3+3≤(di (lx T D n N j)).length by omega)) rfl rfl<|aG [0,2,3,5,9,10] rfl ?_
  refine er (σ':=[some (.cells 56 [num 0,.raw (.slice none 0 0),.raw (.slice none 0 0)]),some (.row 76 3 N (di (lx T D n N (j+1)))),some (.row 3 1 dl.length (aR dl)),some (.cells 56 [num n,.own 1,.own 2]),some (.cells 56 [num n,.own 1,.own 2])]) (by rw[←BY,←BW _ _ _ (by omega)];rfl) ?_
  refine az (.v (aS rfl) rfl<|.a 1 rfl<|.k [0,2,3,5,9,10] rfl) ?_
  exact⟨N - (j+1),by omega,j+1,by omega,rfl,rfl⟩
 ·have hje:j=N:=by have:=ff h1;omega
  subst hje
  refine ba<|⟨_,aA.of rfl,?_⟩
  rw[DN]
  rfl
theorem wO(T:an)(D:List Bool)(n:Nat)(c:Option cZ)(hch:cf T D [(n:Int)]=0):bS Tryz.prog 53 [aN T,aQ D,num n] [c] (fun r σ'=>r= .tuple [.agg [num n,.own 3,.own 4],num 0]∧σ'=[c,some (.cells 56 [num n,.own 3,.own 4]),some (.cells 56 [num n,.own 3,.own 4]),some (.row 76 3 T.nodes.toNat (di (oR T D n T.nodes.toNat))),some (.row 3 1 (cr D (bG T n)).length (aR (cr D (bG T n))))]):=by
 refine bS.frame (bS.mono (xK T D n hch) ?_)
 rintro r σ' ⟨rfl,rfl⟩
 refine⟨[.cells 56 [num n,.own 2,.own 3],.cells 56 [num n,.own 2,.own 3],.row 76 3 T.nodes.toNat (di (oR T D n T.nodes.toNat)),.row 3 1 (cr D (bG T n)).length (aR (cr D (bG T n)))],rfl,.tuple [.agg [num n,.own 3,.own 4],num 0],[.cells 56 [num n,.own 3,.own 4],.cells 56 [num n,.own 3,.own 4],.row 76 3 T.nodes.toNat (di (oR T D n T.nodes.toNat)),.row 3 1 (cr D (bG T n)).length (aR (cr D (bG T n)))],?_,?_,rfl,rfl⟩
 ·exact Up.bx (kC.cons (Up.fR (kC.cons Up.pure<|kC.cons (Up.own rfl)<|kC.cons (Up.own rfl) kC.nil)) (kC.cons Up.pure kC.nil))
 ·exact mf.cons (.cells (kC.cons Up.pure<|kC.cons (Up.own rfl)<|kC.cons (Up.own rfl) kC.nil))<|mf.cons (.cells (kC.cons Up.pure<|kC.cons (Up.own rfl)<|kC.cons (Up.own rfl) kC.nil))<|mf.cons (.row kC.pure)<|mf.cons (.row kC.pure) mf.nil
instance (e:Int) (x:ef):IsPure (iW e x):=by unfold iW;infer_instance
def j9(T:an)(k x n:Int):Int:=if da T k x=0 then(if bd T n then 0 else 2) else 1
theorem pj{T:an}{k x:Int}(h:da T k x=0):(ao T&&bZ T k x)=true:=by
 unfold da at h
 split at h
 ·assumption
 ·omega
theorem DT(T:an)(D:List Bool)(n:Nat):bS Tryz.prog 125 ([aQ D,.agg [num n,.own 1,.own 2]]++[]) (pR T D n (oR T D n T.nodes.toNat)) (fun _ σ'=>σ'=pR T D n (oR T D n T.nodes.toNat)++[some (.cells 56 [num n,.own 1,.own 2])]):=by
 unfold pR
 refine cw Tryz.func125 rfl Tryz.ntmps125 rfl<|bF<|cp (fS rfl rfl rfl) rfl<|aG [] rfl ?_
 exact⟨_,aA.of rfl,rfl⟩
theorem xl{T:an}{k x:Int}(h:da T k x≠0):da T k x=1:=by
 unfold da at*
 split
 ·rename_i h';rw[if_pos h']at h;exact absurd rfl h
 ·rfl
theorem rr(T:an)(k x n:Int)(f:FuncId)(cap:List PV)[aO cap](he:j9 T k x n≠0):
  Can Tryz.prog 122 [aN T,bW k x,num n,.func f cap] (· =iW (j9 T k x n) ⟨0,[],[]⟩):=by
 have hmk:=mh T k x
 have hmf:=db T k x
 unfold iM at hmk
 have hrt:=qS T (aC T k x) n
 refine aE Tryz.func122 rfl Tryz.ntmps122 rfl<|aP<|av 4 rfl<|aG [2,3,4,5,8] rfl ?_
 refine ab (.a 2 rfl<|.c rfl (hmk) rfl<|.a 5 rfl<|.k [2,3,4,8,10,11] rfl)<|ah<|ab (.a 2 rfl<|.k [2,3,4,8,10,11,20] rfl)<|ag rfl (fun h1=>?_) (fun h1=>?_)
 ·have h1:=tt h1
  have he2:j9 T k x n=da T k x:=by
   unfold j9
   rw[if_neg h1,xl h1]
  rw[he2]
  refine aP<|av 4 rfl<|aG [8,9] rfl ?_
  exact aq<|⟨_,_,aA.of rfl,aB.bx (aj.cons (aB.fR (aj.cons aB.pure<|aj.cons aB.bT<|aj.cons aB.bT aj.nil)) (aj.cons aB.pure aj.nil)),by unfold iW;rw[if_neg h1];rfl⟩
 ·have h1:da T k x=0:=Classical.byContradiction (ff h1)
  obtain⟨hv,hc⟩:=Bool.and_eq_true_iff.1 (pj h1)
  rw[if_pos h1]
  have hn:bd T n=false:=by
   cases hn:bd T n with
   |false=>rfl
   |true=>exact absurd (show j9 T k x n=0 by unfold j9;rw[if_pos h1,hn];rfl) he
  have hch:cf T (aC T k x) [n]=2:=by unfold cf;rw[hv,hmf];simp[hn]
  have hr0:jS T (aC T k x) n=⟨0,[],[]⟩:=by unfold jS;rw[if_neg (by rw[hch];decide)]
  rw[hch,hr0]at hrt
  have he:j9 T k x n=2:=by unfold j9;rw[if_pos h1,hn];rfl
  rw[he]
  refine ai<|aP<|av 3 rfl<|ec rfl (hrt) rfl<|av 6 rfl<|aG [3,8,10,11,12] rfl ?_
  refine ah<|ab (.a 2 rfl<|.k [3,8,10,11,12,31] rfl)<|ag rfl (fun h2=>?_) (fun h2=>?_)
  ·skip
   refine aP<|av 4 rfl<|aG [8,9] rfl ?_
   exact aq<|⟨_,_,aA.of rfl,aB.bx (aj.cons (aB.fR (aj.cons aB.pure<|aj.cons aB.bT<|aj.cons aB.bT aj.nil)) (aj.cons aB.pure aj.nil)),rfl⟩
  ·exact absurd h2 (by decide)
theorem tr(T:an)(k x:Int)(n:Nat)(f:FuncId)(cap:List PV)[aO cap](L:List iV)(hen:enters Tryz.prog f=true)(hv:(ao T&&bZ T k x)=true)(hn:(n:Int)<T.nodes)(hl:L.length=T.nodes.toNat)
  (hf:bS Tryz.prog f ([aQ (aC T k x),.agg [num n,.own 1,.own 2]]++cap) (pR T (aC T k x) n (oR T (aC T k x) n T.nodes.toNat)) (fun _ σ'=>σ'=pR T (aC T k x) n L++[some (.cells 56 [num n,.own 1,.own 2])])):
  Can Tryz.prog 122 [aN T,bW k x,num n,.func f cap] (· =iW 0 ⟨n,L,cr (aC T k x) (bG T n)⟩):=by
 have hmk:=mh T k x
 have hmf:=db T k x
 have hm0:da T k x=0:=by unfold da;rw[if_pos hv]
 unfold iM at hmk
 rw[hm0,if_pos rfl]at hmk
 obtain⟨M,hM⟩:∃M,aC T k x=M:=⟨_,rfl⟩
 rw[hM]at hmk hmf hf ⊢
 obtain⟨hv,hc⟩:=Bool.and_eq_true_iff.1 hv
 have hch:cf T M [(n:Int)]=0:=by unfold cf;rw[hv,hmf];simp[aT.2 (show 0≤(n:Int)∧(n:Int)<T.nodes by omega)]
 have hrt:=fun c=>wO T M n c hch
 refine aE Tryz.func122 rfl Tryz.ntmps122 rfl<|aP<|av 4 rfl<|aG [2,3,4,5,8] rfl ?_
 refine ab (.a 2 rfl<|.c rfl (hmk) rfl<|.a 5 rfl<|.k [2,3,4,8,10,11] rfl)<|ah<|ab (.a 2 rfl<|.k [2,3,4,8,10,11,20] rfl)<|ag rfl (fun h1=>?_) (fun h1=>?_)
 ·exact absurd h1 (by decide)
 ·skip
  refine ai<|aP<|av 3 rfl<|cP rfl rfl (bS.mono (hrt _) (fun r σ' h=>?_))
  obtain⟨rfl,rfl⟩:=h
  refine av 6 rfl<|aG [3,8,10,11,12] rfl ?_
  refine ah<|ab (.a 2 rfl<|.k [3,8,10,11,12,31] rfl)<|ag rfl (fun h2=>?_) (fun h2=>?_)
  ·exact absurd h2 (by decide)
  ·skip
   refine ai<|dx [0,3,4,5] (.c 3<|.c 8<|.c 10<|.c 12<|.nil) (.kept rfl (.cells (aF.c<|aF.c<|aF.c<|aF.nil))<|.kept rfl (.row aF.pure)<|.kept rfl (.row aF.pure)<|.kept rfl (.cells (aF.c<|aF.c<|aF.c<|aF.nil))<|.nil) rfl rfl ?_
   refine aP<|av 3 rfl<|xE rfl hen rfl rfl rfl rfl rfl (bS.mono hf (fun r σ' h=>?_))
   obtain rfl:=h
   refine aG [8,12] rfl ?_
   refine aP<|av 3 rfl<|aG [8,9] rfl ?_
   refine aq<|⟨_,_,aA.of rfl,aB.bx (aj.cons (aB.fR (aj.cons aB.pure<|aj.cons (aB.eH rfl aj.pure)<|aj.cons (aB.eH rfl aj.pure) aj.nil)) (aj.cons aB.pure aj.nil)),?_⟩
   unfold iW fZ fN jT aw
   rw[if_pos rfl,hl]
theorem tT{T:an}{k x n:Int}(h:j9 T k x n=0):(ao T&&bZ T k x)=true∧bd T n=true:=by
 unfold j9 at h
 split at h
 ·rename_i h1
  refine⟨pj h1,?_⟩
  split at h
  ·assumption
  ·omega
 ·omega
theorem DS(T:an)(k x n:Int)(h12:T.nodes≤12):Can Tryz.prog 70 [aN T,bW k x,num n] (· =iW (j9 T k x n) (vH T (aC T k x) n.toNat)):=by
 have key:Can Tryz.prog 122 [aN T,bW k x,num n,.func 123 [.aY (bq T) 0,.aY [num n] 0]] (· =iW (j9 T k x n) (vH T (aC T k x) n.toNat)):=by
  by_cases he:j9 T k x n=0
  ·obtain⟨hm,hn⟩:=tT he
   obtain⟨hv,hc⟩:=Bool.and_eq_true_iff.1 hm
   rw[aT]at hn
   obtain⟨m,rfl⟩:=Int.eq_ofNat_of_zero_le hn.1
   rw[he]
   exact tr T k x m _ _ _ (by kernel_rfl) hm hn.2 (re _ _ _ _) (DY T (aC T k x) m hv (db T k x) hn.2 h12)
  ·have h:=rr T k x n 123 [.aY (bq T) 0,.aY [num n] 0] he
   unfold iW at h ⊢
   rw[if_neg he]at h ⊢
   exact h
 refine aE Tryz.func70 rfl Tryz.ntmps70 rfl<|aP<|av 5 rfl<|aG [3,4,5,6] rfl ?_
 refine aP<|av 4 rfl<|ec rfl (key) rfl<|av 4 rfl<|aG [6,7] rfl ?_
 exact aq<|⟨_,_,aA.of rfl,aB.pure (p:=iW (j9 T k x n) (vH T (aC T k x) n.toNat)),rfl⟩
theorem D1(T:an)(k x n:Int):Can Tryz.prog 72 [aN T,bW k x,num n] (· =iW (j9 T k x n) (dK T (aC T k x) n.toNat)):=by
 have key:Can Tryz.prog 122 [aN T,bW k x,num n,.func 125 []] (· =iW (j9 T k x n) (dK T (aC T k x) n.toNat)):=by
  by_cases he:j9 T k x n=0
  ·obtain⟨hm,hn⟩:=tT he
   obtain⟨hv,hc⟩:=Bool.and_eq_true_iff.1 hm
   rw[aT]at hn
   obtain⟨m,rfl⟩:=Int.eq_ofNat_of_zero_le hn.1
   rw[he]
   exact tr T k x m _ _ _ (by kernel_rfl) hm hn.2 (vo _ _ _ _) (DT T (aC T k x) m)
  ·have h:=rr T k x n 125 [] he
   unfold iW at h ⊢
   rw[if_neg he]at h ⊢
   exact h
 refine aE Tryz.func72 rfl Tryz.ntmps72 rfl<|aP<|av 4 rfl<|aG [2,3,4,6] rfl ?_
 refine aP<|av 3 rfl<|ec rfl (key) rfl<|av 4 rfl<|aG [6,7] rfl ?_
 exact aq<|⟨_,_,aA.of rfl,aB.pure (p:=iW (j9 T k x n) (dK T (aC T k x) n.toNat)),rfl⟩
theorem xJ(T:an)(D:List Bool)(n:Int):PV.tuple [fZ (jS T D n),num (cf T D [n])]=iW (cf T D [n]) (dK T D n.toNat):=by
 unfold iW jS;rfl
theorem D4(T:an)(n:Int):Can Tryz.prog 67 [aN T,num n] (· =iW (cf T [] [n]) (dK T [] n.toNat)):=by
 refine aE Tryz.func67 rfl Tryz.ntmps67 rfl<|aP<|av 3 rfl<|aG [1,2,4] rfl ?_
 have hr:=qS T [] n
 rw[xJ]at hr
 refine aP<|av 2 rfl<|bC (sn rfl (aj.cons aB.pure<|aj.cons aB.bT<|aj.cons aB.pure aj.nil) (hr)) rfl<|av 4 rfl<|aG [4,5] rfl ?_
 exact aq<|⟨_,_,aA.of rfl,aB.pure (p:=iW (cf T [] [n]) (dK T [] n.toNat)),rfl⟩
end PW
end Go.Proofs.YtnegbdpggideiaaGreatDoor
namespace Go.Proofs.YtnegbdpggideiaaGreatDoor
namespace PW
open Go.RowKit cH Mem Net fw
theorem wV{T:an}{a:Nat}(hv:ao T=true)(ha:a<2*T.ae.length){d:Nat}(hd:(d:Int)<T.nodes){n:Nat}(hn:aZ T a=(n:Int))(k x:Int)(hm:(ao T&&bZ T k x)=true):d<(bn T (gm T k x) n true).length∧decide (0≤(bn T (gm T k x) n true).getD d 0)=gh T (aC T k x) (aZ T a) d:=by
 have hnN:(n:Int)<T.nodes:=by rw[←hn];exact((aM hv).tail a ha).2
 have hl:=(cI (D:=gm T k x) hv (dir:=true) hnN).1
 refine⟨by omega,?_⟩
 rw[hn,se hm,Bool.eq_iff_iff,decide_eq_true_eq,mA hv (db T k x) hnN hd,Hi hv hnN hd]
theorem G6(T:an)(a d:Nat)(hv:ao T=true)(ha:a<2*T.ae.length)(hd:(d:Int)<T.nodes):Can Tryz.prog 183 ([num d]++jZ (ga T a) (aW T a) ((a / 2:Nat):Int) (HU T a) (H7 T a)) (· =bW (cA T a d).1 (cA T a d).2):=by
 obtain⟨n,hn⟩:=Int.eq_ofNat_of_zero_le ((aM hv).tail a ha).1
 have hnt:(aZ T a).toNat=n:=by omega
 have h2:=wV hv ha hd hn 2 (aW T a) (vQ hv ha)
 have hM:H7 T a=bn T (gm T 2 (aW T a)) n true:=by unfold H7;rw[hnt]
 have hL:0<ga T a→HU T a=bn T (gm T 3 (ga T a)) n true:=fun h=>by unfold HU;rw[if_pos h,hnt]
 have h:=C7 (ga T a) (aW T a) ((a / 2:Nat):Int) (HU T a) (H7 T a) d (gh T (aC T 3 (ga T a)) (aZ T a) d) (gh T (aC T 2 (aW T a)) (aZ T a) d)
  (fun hg=>by rw[hL hg];exact wV hv ha hd hn 3 (ga T a) (Aq hv ha hg)) (by rw[hM];exact h2.1) (by rw[hM];exact h2.2)
 have e:(if(decide (0<ga T a)&&gh T (aC T 3 (ga T a)) (aZ T a) d)=true then bW 3 (ga T a) else if(decide (aW T a≠(d:Int))&&gh T (aC T 2 (aW T a)) (aZ T a) d)=true then bW 2 (aW T a) else bW 1 ((a / 2:Nat):Int))=bW (cA T a d).1 (cA T a d).2:=by
  unfold cA
  split
  ·rfl
  ·split<;>rfl
 rw[e]at h
 exact h
def GS(own:List Bool):List Int→Nat→Int
 | [],_=> -1
 |a::l,i=>bif aI own a.toNat then(i:Int) else GS own l (i+1)
theorem EU(own:List Bool):∀(l:List Int) (i:Nat),(GS own l i= -1∧ev own l=none)∨∃j,j<l.length∧GS own l i=((i+j:Nat):Int)∧ev own l=some (l.getD j 0)
 | [],i=>.inl ⟨rfl,rfl⟩
 |a::l,i=>by
  simp only[GS]
  by_cases h:aI own a.toNat=true
  ·refine .inr ⟨0,by simp,by rw[h];rfl,?_⟩
   unfold ev
   rw[List.find?_cons_of_pos (by exact h)]
   rfl
  ·rw[Bool.eq_false_iff.2 h]
   simp only[cond_false]
   have e:ev own (a::l)=ev own l:=by
    unfold ev
    rw[List.find?_cons_of_neg (by exact h)]
   rw[e]
   rcases EU own l (i+1)with h'|⟨j,h1,h2,h3⟩
   ·exact .inl h'
   ·exact .inr ⟨j+1,by simpa using h1,by rw[h2];congr 1;omega,by rw[h3];rfl⟩
theorem EB(own:List Bool)(k:Nat)(hk:k<own.length):Can Tryz.prog 154 ([num k]++[.aY [aQ own] 0]) (· =flag (aI own k)):=by
 exact aE Tryz.func154 rfl Tryz.ntmps154 rfl<|ab (.a 1 rfl<|.k [0,1] rfl)<|ab (.a 2 rfl<|.v (aJ (k) rfl) rfl<|.v (aL rfl ((show(bQ own)[k]? =some (flag (aI own k)) by rw[cF _ k hk,ed]))) rfl<|.a 1 rfl<|.k [3] rfl)<|aq<|⟨_,_,aA.of rfl,aB.pure,rfl⟩
theorem C8(l:List Int)(own:List Bool)(hl:l.length≤1000)(hm:∀a∈l,∃k:Nat,a=(k:Int)∧k<own.length):Can Tryz.prog 153 [aw l,.func 154 [.aY [aQ own] 0]] (· =num (GS own l 0)):=by
 refine aE Tryz.func153 rfl Tryz.ntmps153 rfl<|ab (.a 1 rfl<|.k [0,1] rfl)<|ah<|ab (.a 3 rfl<|.k [0,1,7,8] rfl)<|au<|eu [0,1,7,8] rfl<|bf (fun r s=>∃i,i≤l.length∧r=l.length - i∧GS own l 0=GS own (l.drop i) i∧s=⟨[(0,aw l),(1,.func 154 [.aY [aQ own] 0]),(7,num l.length),(8,num i)],[]⟩) l.length ⟨0,by omega,by omega,rfl,rfl⟩ ?_
 rintro r s ⟨i,hi,rfl,hx,rfl⟩
 refine ab (.a 1 rfl<|.k [0,1,7,8,9] rfl)<|ah<|ag rfl (fun h1=>?_) (fun h1=>?_)
 ·have hlt:i<l.length:=by have:=tt h1;omega
  obtain⟨k,hk,hkl⟩:=hm _ (bO (d:=0) hlt)
  rw[drop_cons l i hlt,hk]at hx
  simp only[GS,Int.toNat_natCast]at hx
  obtain⟨q,hq⟩:∃q,aI own k=q:=⟨_,rfl⟩
  have he:=EB own k hkl
  rw[hq]at he hx
  refine ai<|ah<|au<|ab (.a 2 rfl<|.k [0,1,5,7,8] rfl)<|ab (.a 3 rfl<|.v (aJ (i) rfl) rfl<|.v (aL rfl ((ax l i hlt).trans (by rw[hk]))) rfl<|.c rfl (he) rfl<|.k [0,1,5,7,8,16] rfl)<|ag rfl (fun h2=>?_) (fun h2=>?_)
  ·subst h2
   rw[cond_true]at hx
   rw[hx]
   exact ab (.a 2 rfl<|.k [4] rfl)<|aq<|⟨_,_,aA.of rfl,aB.pure,rfl⟩
  ·subst h2
   rw[cond_false]at hx
   refine ai<|az (.v (aS rfl) rfl<|.a 1 rfl<|.k [0,1,7,8] rfl) ?_
   exact⟨l.length - (i+1),by omega,i+1,by omega,rfl,hx,rfl⟩
 ·have hie:i=l.length:=by have:=ff h1;omega
  subst hie
  rw[List.drop_length]at hx
  rw[hx]
  exact ba<|ab (.a 1 rfl<|.k [4] rfl)<|aq<|⟨_,_,aA.of rfl,aB.pure,rfl⟩
theorem Gq(p:List Int):Can Tryz.prog 185 ([aw p]++[]) (· = .tuple []):=by
 exact aE Tryz.func185 rfl Tryz.ntmps185 rfl<|ai<|⟨_,_,aA.of rfl,aB.pure,rfl⟩
theorem wb(T:an)(D:List Bool)(n d:Int):Can Tryz.prog 184 [aN T,aQ D,num n,num d,.func 185 []] (· =num (fM T D n d)):=by
 refine aE Tryz.func184 rfl Tryz.ntmps184 rfl<|ab (.a 2 rfl<|.k [1,2,3,4,5] rfl)<|ab (.a 4 rfl<|.c rfl (sQ T D n d) rfl<|.a 5 rfl<|.k [4,11,12] rfl)<|ah<|ab (.a 2 rfl<|.k [4,11,12,22] rfl)<|ag rfl (fun h1=>?_) (fun h1=>?_)
 ·skip
  refine az (.a 2 rfl<|.c rfl (Gq _) rfl<|.k [12] rfl) ?_
  exact ab (.a 2 rfl<|.k [10] rfl)<|aq<|⟨_,_,aA.of rfl,aB.pure,rfl⟩
 ·skip
  exact ai<|ab (.a 2 rfl<|.k [10] rfl)<|aq<|⟨_,_,aA.of rfl,aB.pure,rfl⟩
theorem za(T:an)(D:List Bool)(n d:Int):Can Tryz.prog 156 [aN T,aQ D,num n,num d] (· =flag (gh T D n d)):=by
 obtain⟨q,hq⟩:∃q,decide (fM T D n d=0)=q:=⟨_,rfl⟩
 unfold gh
 rw[hq]
 exact aE Tryz.func156 rfl Tryz.ntmps156 rfl<|ab (.a 2 rfl<|.k [1,2,3,4] rfl)<|ab (.a 4 rfl<|.c rfl (wb T D n d) rfl<|.v (b9 rfl (hq)) rfl<|.a 1 rfl<|.k [8] rfl)<|aq<|⟨_,_,aA.of rfl,aB.pure,rfl⟩
theorem BZ(T:an)(k x:Int)(hm:(ao T&&bZ T k x)=true)(σ:cm):bS Tryz.prog 16 [aN T,bW k x] σ (fun r σ'=>r= .tuple [.own σ.length,num 0]∧σ'=σ++[iZ (aC T k x)]):=by
 obtain⟨hv,hc⟩:=Bool.and_eq_true_iff.1 hm
 refine bS.frame (bS.mono (s9 T k x hv hc) ?_)
 rintro r σ' ⟨rfl,rfl⟩
 refine⟨[.row 4 1 (2*T.ae.length) (bQ (aC T k x))],rfl,_,_,Up.bx (kC.cons (Up.own rfl) (kC.cons Up.pure kC.nil)),mf.cons (.row kC.pure) mf.nil,by simp,?_⟩
 unfold iZ
 rw[ez]
 rfl
set_option maxHeartbeats 2000000 in
theorem DR(T:an)(own:List Bool)(n d:Nat)(hv:ao T=true)(hfo:own.length=2*T.ae.length)(hn:(n:Int)<T.nodes)(hd:(d:Int)<T.nodes)(h12:T.nodes≤12):Can Tryz.prog 114 [aN T,aQ own,num n,num d] (· =rM (gN T own n d)):=by
 have hll:=bJ hv
 have hof:bN T own=true:=by unfold bN;rw[hfo];simp
 have hnb:bd T (n:Int)=true:=aT.2 ⟨by omega,hn⟩
 have hdb:bd T (d:Int)=true:=aT.2 ⟨by omega,hd⟩
 have hnx:=sd T [] n d
 rw[mK hv (fU T) hnb hdb,Int.toNat_natCast,Int.toNat_natCast]at hnx
 unfold dh at hnx
 rw[if_pos rfl]at hnx
 have hlen:=tp hv [] n d
 have hmem:∀a∈aX T [] n d,∃k:Nat,a=(k:Int)∧k<2*T.ae.length:=fun a ha=>by
  obtain⟨k,hk,hkn⟩:=cL ha
  exact⟨k,hk,hkn.eU⟩
 unfold gN
 obtain⟨l,hl⟩:∃l,aX T [] n d=l:=⟨_,rfl⟩
 rw[hl]at hnx hlen hmem ⊢
 have hix:=C8 l own (by omega) (fun a ha=>by rw[hfo];exact hmem a ha)
 obtain⟨ix,hixe⟩:∃ix,GS own l 0=ix:=⟨_,rfl⟩
 have hih:=EU own l 0
 rw[hixe]at hix hih
 simp only[Nat.zero_add]at hih
 refine aE Tryz.func114 rfl Tryz.ntmps114 rfl<|aP<|av 3 rfl<|aG [2,3,4,5,8] rfl ?_
 refine ab (.a 3 rfl<|.v (sn rfl (aj.cons aB.pure<|aj.cons aB.bT<|aj.cons aB.pure<|aj.cons aB.pure aj.nil) (hnx)) rfl<|.a 5 rfl<|.k [2,3,4,5,8,9] rfl)<|ab (.a 1 rfl<|.v (dS rfl rfl) rfl<|.c rfl (hix) rfl<|.a 1 rfl<|.k [2,3,4,5,8,9,11] rfl)<|ah<|ab (.a 2 rfl<|.k [2,3,4,5,8,9,11,28] rfl)<|ag rfl (fun h3=>?_) (fun h3=>?_)
 ·have hno:ev own l=none:=by
   rcases hih with h|⟨j,_,h,_⟩
   ·exact h.2
   ·rw[h]at h3;have:=tt h3;omega
  rw[hno]
  refine aP<|av 3 rfl<|aG [8] rfl ?_
  exact aq<|⟨_,_,aA.of rfl,aB.fR (aj.cons (aB.pure (p:=aw l))<|aj.cons aB.pure<|aj.cons aB.bT aj.nil),rfl⟩
 ·obtain⟨j,hjl,rfl,ha⟩:∃j,j<l.length∧ix=((j:Nat):Int)∧ev own l=some (l.getD j 0):=by
   rcases hih with h|h
   ·rw[h.1]at h3;exact absurd h3 (by decide)
   ·exact h
  obtain⟨k,hkj,hk⟩:=hmem _ (bO (d:=0) hjl)
  rw[ha]
  simp only[]
  rw[hkj,Int.toNat_natCast]
  have hcm:(ao T&&bZ T (cA T k d).1 (cA T k d).2)=true:=by rw[hv,ow hv hk];rfl
  have hcl:=G6 T k d hv hk hd
  have has:=yB T k hv hk
  have hmk:=fun σ=>BZ T (cA T k d).1 (cA T k d).2 hcm σ
  have hmx:lr T own n d k=if gh T (orM T (aC T (cA T k d).1 (cA T k d).2) own) n d=true then orM T (aC T (cA T k d).1 (cA T k d).2) own else own:=rfl
  generalize cA T k (d:Int)=cx at*
  obtain⟨ck,cy⟩:=cx
  simp only at hcm hcl hmk hmx
  have hMl:=ez T ck cy
  obtain⟨M,hM⟩:∃M,aC T ck cy=M:=⟨_,rfl⟩
  rw[hM]at hmk hmx hMl
  have hre:=wA T (lr T own n d k) n d hll h12
  rw[mK hv (ke hof k) hnb hdb]at hre
  clear h3 hmem hih hix hixe
  refine ai<|lf (bm (ks:=[2,3,4,5,8,9,11]) rfl) ?_
  refine rQ ([(2,num n),(3,num d),(4,.aY (bq T) 0),(5,.aY [aQ own] 0),(8,.ptr 0 0),(12,.own 1)]) ([some (.cells 76 [.raw (.slice none 0 0),flag false,.raw (.slice none 0 0)]),iZ M]) mixed ?_ ?_
  ·refine uN [[(2,num n),(3,num d),(4,.aY (bq T) 0),(5,.aY [aQ own] 0),(8,.ptr 0 0),(9,aw l),(11,num j),(12,.own 1),(13,num 0),(31,.tuple [.own 1,num 0]),(32,aN T),(33,aN T),(34,aw l),(35,num j),(36,.aY (aR l) j),(37,num k),(38,.func 183 (jZ (ga T k) (aW T k) ((k / 2:Nat):Int) (HU T k) (H7 T k))),(39,num d),(40,bW ck cy),(41,.tuple [.own 1,num 0]),(42,.own 1),(43,num 0)]] [[some (.cells 76 [.raw (.slice none 0 0),flag false,.raw (.slice none 0 0)])],[some (.cells 76 [.raw (.slice none 0 0),flag false,.raw (.slice none 0 0)]),iZ M]] [2,3,4,5,8,9,11] rfl (by kernel_rfl) (fun M hi ho=>?_)
   have μ0:M 0 32767 0 [2,3,4,5,8,12] 1:=hi<|sj rfl (by kernel_rfl) (⟨rfl,bm (ks:=[2,3,4,5,8,12]) rfl⟩)
   have μ1:M 1 16383 0 [2,3,4,5,8,12,43] 1:=hi<|aa [(14,32767)] rfl (by kernel_rfl)<|ak (ho μ0) rfl rfl af
   have μ2:M 2 8191 0 [2,3,4,5,8,42,43] 1:=hi<|aa [(13,16383)] rfl (by kernel_rfl)<|ak (ho μ1) rfl rfl af
   have μ3:M 2 12287 0 [2,3,4,5,8,12,31] 1:=hi<|aa [(12,16383)] rfl (by kernel_rfl)<|ak (ho μ1) rfl rfl af
   have μ4:M 3 4095 0 [2,3,4,5,8,31,42] 1:=hi<|aa [(12,8191),(13,12287)] rfl (by kernel_rfl)<|ak (ho μ2) rfl rfl<|ak (ho μ3) rfl rfl af
   have μ5:M 3 6143 0 [2,3,4,5,8,31,43] 1:=hi<|aa [(11,8191)] rfl (by kernel_rfl)<|ak (ho μ2) rfl rfl af
   have μ6:M 4 2047 0 [2,3,4,5,8,31] 1:=hi<|aa [(11,4095),(12,6143)] rfl (by kernel_rfl)<|ak (ho μ4) rfl rfl<|ak (ho μ5) rfl rfl af
   have μ7:M 5 1023 0 [2,3,4,5,8,41] 1:=hi<|aa [(10,2047)] rfl (by kernel_rfl)<|ak (ho μ6) rfl rfl af
   have μ8:M 6 511 0 [2,3,4,5,8,32,40] 0:=hi<|aa [(9,1023)] rfl (by kernel_rfl)<|eV rfl rfl rfl rfl (hmk _) (ho μ7) rfl rfl af
   have μ9:M 7 255 0 [2,3,4,5,8,32,38,39] 0:=hi<|aa [(8,511)] rfl (by kernel_rfl)<|bp rfl rfl (dJ rfl (hcl)) rfl (ho μ8) rfl rfl af
   have μ10:M 8 127 0 [2,3,4,5,8,32,38] 0:=hi<|aa [(7,255)] rfl (by kernel_rfl)<|ak (ho μ9) rfl rfl af
   have μ11:M 8 191 0 [2,3,4,5,8,32,33,37,39] 0:=hi<|aa [(6,255)] rfl (by kernel_rfl)<|bp rfl rfl (dJ rfl (has)) rfl (ho μ9) rfl rfl af
   have μ12:M 9 63 0 [2,3,4,5,8,32,33,37] 0:=hi<|aa [(6,127),(7,191)] rfl (by kernel_rfl)<|bp rfl rfl (dJ rfl (has)) rfl (ho μ10) rfl rfl<|ak (ho μ11) rfl rfl af
   have μ13:M 9 159 0 [2,3,4,5,8,32,33,36,39] 0:=hi<|aa [(5,191)] rfl (by kernel_rfl)<|bp rfl rfl (aL rfl ((ax l j hjl).trans (by rw[hkj]))) rfl (ho μ11) rfl rfl af
   have μ14:M 10 31 0 [2,3,4,5,8,32,33,36] 0:=hi<|aa [(5,63),(7,159)] rfl (by kernel_rfl)<|bp rfl rfl (aL rfl ((ax l j hjl).trans (by rw[hkj]))) rfl (ho μ12) rfl rfl<|ak (ho μ13) rfl rfl af
   have μ15:M 10 143 0 [2,3,4,5,8,32,33,34,35,39] 0:=hi<|aa [(4,159)] rfl (by kernel_rfl)<|bp rfl rfl (aJ (j) rfl) rfl (ho μ13) rfl rfl af
   have μ16:M 11 15 0 [2,3,4,5,8,32,33,34,35] 0:=hi<|aa [(4,31),(7,143)] rfl (by kernel_rfl)<|bp rfl rfl (aJ (j) rfl) rfl (ho μ14) rfl rfl<|ak (ho μ15) rfl rfl af
   have μ17:M 11 135 0 [2,3,4,5,8,11,32,33,34,39] 0:=hi<|aa [(3,143)] rfl (by kernel_rfl)<|ak (ho μ15) rfl rfl af
   have μ18:M 12 7 0 [2,3,4,5,8,11,32,33,34] 0:=hi<|aa [(3,15),(7,135)] rfl (by kernel_rfl)<|ak (ho μ16) rfl rfl<|ak (ho μ17) rfl rfl af
   have μ19:M 11 139 0 [2,3,4,5,8,9,32,33,35,39] 0:=hi<|aa [(2,143)] rfl (by kernel_rfl)<|ak (ho μ15) rfl rfl af
   have μ20:M 12 11 0 [2,3,4,5,8,9,32,33,35] 0:=hi<|aa [(2,15),(7,139)] rfl (by kernel_rfl)<|ak (ho μ16) rfl rfl<|ak (ho μ19) rfl rfl af
   have μ21:M 12 131 0 [2,3,4,5,8,9,11,32,33,39] 0:=hi<|aa [(2,135),(3,139)] rfl (by kernel_rfl)<|ak (ho μ17) rfl rfl<|ak (ho μ19) rfl rfl af
   have μ22:M 13 3 0 [2,3,4,5,8,9,11,32,33] 0:=hi<|aa [(2,7),(3,11),(7,131)] rfl (by kernel_rfl)<|ak (ho μ18) rfl rfl<|ak (ho μ20) rfl rfl<|ak (ho μ21) rfl rfl af
   have μ23:M 9 189 0 [2,3,4,5,8,32,37,39] 0:=hi<|aa [(1,191)] rfl (by kernel_rfl)<|ak (ho μ11) rfl rfl af
   have μ24:M 10 61 0 [2,3,4,5,8,32,37] 0:=hi<|aa [(1,63),(7,189)] rfl (by kernel_rfl)<|ak (ho μ12) rfl rfl<|ak (ho μ23) rfl rfl af
   have μ25:M 10 157 0 [2,3,4,5,8,32,36,39] 0:=hi<|aa [(1,159),(5,189)] rfl (by kernel_rfl)<|ak (ho μ13) rfl rfl<|bp rfl rfl (aL rfl ((ax l j hjl).trans (by rw[hkj]))) rfl (ho μ23) rfl rfl af
   have μ26:M 11 29 0 [2,3,4,5,8,32,36] 0:=hi<|aa [(1,31),(5,61),(7,157)] rfl (by kernel_rfl)<|ak (ho μ14) rfl rfl<|bp rfl rfl (aL rfl ((ax l j hjl).trans (by rw[hkj]))) rfl (ho μ24) rfl rfl<|ak (ho μ25) rfl rfl af
   have μ27:M 11 141 0 [2,3,4,5,8,32,34,35,39] 0:=hi<|aa [(1,143),(4,157)] rfl (by kernel_rfl)<|ak (ho μ15) rfl rfl<|bp rfl rfl (aJ (j) rfl) rfl (ho μ25) rfl rfl af
   have μ28:M 12 13 0 [2,3,4,5,8,32,34,35] 0:=hi<|aa [(1,15),(4,29),(7,141)] rfl (by kernel_rfl)<|ak (ho μ16) rfl rfl<|bp rfl rfl (aJ (j) rfl) rfl (ho μ26) rfl rfl<|ak (ho μ27) rfl rfl af
   have μ29:M 12 133 0 [2,3,4,5,8,11,32,34,39] 0:=hi<|aa [(1,135),(3,141)] rfl (by kernel_rfl)<|ak (ho μ17) rfl rfl<|ak (ho μ27) rfl rfl af
   have μ30:M 13 5 0 [2,3,4,5,8,11,32,34] 0:=hi<|aa [(1,7),(3,13),(7,133)] rfl (by kernel_rfl)<|ak (ho μ18) rfl rfl<|ak (ho μ28) rfl rfl<|ak (ho μ29) rfl rfl af
   have μ31:M 12 137 0 [2,3,4,5,8,9,32,35,39] 0:=hi<|aa [(1,139),(2,141)] rfl (by kernel_rfl)<|ak (ho μ19) rfl rfl<|ak (ho μ27) rfl rfl af
   have μ32:M 13 9 0 [2,3,4,5,8,9,32,35] 0:=hi<|aa [(1,11),(2,13),(7,137)] rfl (by kernel_rfl)<|ak (ho μ20) rfl rfl<|ak (ho μ28) rfl rfl<|ak (ho μ31) rfl rfl af
   have μ33:M 13 129 0 [2,3,4,5,8,9,11,32,39] 0:=hi<|aa [(1,131),(2,133),(3,137)] rfl (by kernel_rfl)<|ak (ho μ21) rfl rfl<|ak (ho μ29) rfl rfl<|ak (ho μ31) rfl rfl af
   have μ34:M 14 1 0 [2,3,4,5,8,9,11,32] 0:=hi<|aa [(1,3),(2,5),(3,9),(7,129)] rfl (by kernel_rfl)<|ak (ho μ22) rfl rfl<|ak (ho μ30) rfl rfl<|ak (ho μ32) rfl rfl<|ak (ho μ33) rfl rfl af
   have μ35:M 7 510 0 [2,3,4,5,8,40] 0:=hi<|aa [(0,511)] rfl (by kernel_rfl)<|ak (ho μ8) rfl rfl af
   have μ36:M 8 254 0 [2,3,4,5,8,38,39] 0:=hi<|aa [(0,255),(8,510)] rfl (by kernel_rfl)<|ak (ho μ9) rfl rfl<|bp rfl rfl (dJ rfl (hcl)) rfl (ho μ35) rfl rfl af
   have μ37:M 9 126 0 [2,3,4,5,8,38] 0:=hi<|aa [(0,127),(7,254)] rfl (by kernel_rfl)<|ak (ho μ10) rfl rfl<|ak (ho μ36) rfl rfl af
   have μ38:M 9 190 0 [2,3,4,5,8,33,37,39] 0:=hi<|aa [(0,191),(6,254)] rfl (by kernel_rfl)<|ak (ho μ11) rfl rfl<|bp rfl rfl (dJ rfl (has)) rfl (ho μ36) rfl rfl af
   have μ39:M 10 62 0 [2,3,4,5,8,33,37] 0:=hi<|aa [(0,63),(6,126),(7,190)] rfl (by kernel_rfl)<|ak (ho μ12) rfl rfl<|bp rfl rfl (dJ rfl (has)) rfl (ho μ37) rfl rfl<|ak (ho μ38) rfl rfl af
   have μ40:M 10 158 0 [2,3,4,5,8,33,36,39] 0:=hi<|aa [(0,159),(5,190)] rfl (by kernel_rfl)<|ak (ho μ13) rfl rfl<|bp rfl rfl (aL rfl ((ax l j hjl).trans (by rw[hkj]))) rfl (ho μ38) rfl rfl af
   have μ41:M 11 30 0 [2,3,4,5,8,33,36] 0:=hi<|aa [(0,31),(5,62),(7,158)] rfl (by kernel_rfl)<|ak (ho μ14) rfl rfl<|bp rfl rfl (aL rfl ((ax l j hjl).trans (by rw[hkj]))) rfl (ho μ39) rfl rfl<|ak (ho μ40) rfl rfl af
   have μ42:M 11 142 0 [2,3,4,5,8,33,34,35,39] 0:=hi<|aa [(0,143),(4,158)] rfl (by kernel_rfl)<|ak (ho μ15) rfl rfl<|bp rfl rfl (aJ (j) rfl) rfl (ho μ40) rfl rfl af
   have μ43:M 12 14 0 [2,3,4,5,8,33,34,35] 0:=hi<|aa [(0,15),(4,30),(7,142)] rfl (by kernel_rfl)<|ak (ho μ16) rfl rfl<|bp rfl rfl (aJ (j) rfl) rfl (ho μ41) rfl rfl<|ak (ho μ42) rfl rfl af
   have μ44:M 12 134 0 [2,3,4,5,8,11,33,34,39] 0:=hi<|aa [(0,135),(3,142)] rfl (by kernel_rfl)<|ak (ho μ17) rfl rfl<|ak (ho μ42) rfl rfl af
   have μ45:M 13 6 0 [2,3,4,5,8,11,33,34] 0:=hi<|aa [(0,7),(3,14),(7,134)] rfl (by kernel_rfl)<|ak (ho μ18) rfl rfl<|ak (ho μ43) rfl rfl<|ak (ho μ44) rfl rfl af
   have μ46:M 12 138 0 [2,3,4,5,8,9,33,35,39] 0:=hi<|aa [(0,139),(2,142)] rfl (by kernel_rfl)<|ak (ho μ19) rfl rfl<|ak (ho μ42) rfl rfl af
   have μ47:M 13 10 0 [2,3,4,5,8,9,33,35] 0:=hi<|aa [(0,11),(2,14),(7,138)] rfl (by kernel_rfl)<|ak (ho μ20) rfl rfl<|ak (ho μ43) rfl rfl<|ak (ho μ46) rfl rfl af
   have μ48:M 13 130 0 [2,3,4,5,8,9,11,33,39] 0:=hi<|aa [(0,131),(2,134),(3,138)] rfl (by kernel_rfl)<|ak (ho μ21) rfl rfl<|ak (ho μ44) rfl rfl<|ak (ho μ46) rfl rfl af
   have μ49:M 14 2 0 [2,3,4,5,8,9,11,33] 0:=hi<|aa [(0,3),(2,6),(3,10),(7,130)] rfl (by kernel_rfl)<|ak (ho μ22) rfl rfl<|ak (ho μ45) rfl rfl<|ak (ho μ47) rfl rfl<|ak (ho μ48) rfl rfl af
   have μ50:M 10 188 0 [2,3,4,5,8,37,39] 0:=hi<|aa [(0,189),(1,190)] rfl (by kernel_rfl)<|ak (ho μ23) rfl rfl<|ak (ho μ38) rfl rfl af
   have μ51:M 11 60 0 [2,3,4,5,8,37] 0:=hi<|aa [(0,61),(1,62),(7,188)] rfl (by kernel_rfl)<|ak (ho μ24) rfl rfl<|ak (ho μ39) rfl rfl<|ak (ho μ50) rfl rfl af
   have μ52:M 11 156 0 [2,3,4,5,8,36,39] 0:=hi<|aa [(0,157),(1,158),(5,188)] rfl (by kernel_rfl)<|ak (ho μ25) rfl rfl<|ak (ho μ40) rfl rfl<|bp rfl rfl (aL rfl ((ax l j hjl).trans (by rw[hkj]))) rfl (ho μ50) rfl rfl af
   have μ53:M 12 28 0 [2,3,4,5,8,36] 0:=hi<|aa [(0,29),(1,30),(5,60),(7,156)] rfl (by kernel_rfl)<|ak (ho μ26) rfl rfl<|ak (ho μ41) rfl rfl<|bp rfl rfl (aL rfl ((ax l j hjl).trans (by rw[hkj]))) rfl (ho μ51) rfl rfl<|ak (ho μ52) rfl rfl af
   have μ54:M 12 140 0 [2,3,4,5,8,34,35,39] 0:=hi<|aa [(0,141),(1,142),(4,156)] rfl (by kernel_rfl)<|ak (ho μ27) rfl rfl<|ak (ho μ42) rfl rfl<|bp rfl rfl (aJ (j) rfl) rfl (ho μ52) rfl rfl af
   have μ55:M 13 12 0 [2,3,4,5,8,34,35] 0:=hi<|aa [(0,13),(1,14),(4,28),(7,140)] rfl (by kernel_rfl)<|ak (ho μ28) rfl rfl<|ak (ho μ43) rfl rfl<|bp rfl rfl (aJ (j) rfl) rfl (ho μ53) rfl rfl<|ak (ho μ54) rfl rfl af
   have μ56:M 13 132 0 [2,3,4,5,8,11,34,39] 0:=hi<|aa [(0,133),(1,134),(3,140)] rfl (by kernel_rfl)<|ak (ho μ29) rfl rfl<|ak (ho μ44) rfl rfl<|ak (ho μ54) rfl rfl af
   have μ57:M 14 4 0 [2,3,4,5,8,11,34] 0:=hi<|aa [(0,5),(1,6),(3,12),(7,132)] rfl (by kernel_rfl)<|ak (ho μ30) rfl rfl<|ak (ho μ45) rfl rfl<|ak (ho μ55) rfl rfl<|ak (ho μ56) rfl rfl af
   have μ58:M 13 136 0 [2,3,4,5,8,9,35,39] 0:=hi<|aa [(0,137),(1,138),(2,140)] rfl (by kernel_rfl)<|ak (ho μ31) rfl rfl<|ak (ho μ46) rfl rfl<|ak (ho μ54) rfl rfl af
   have μ59:M 14 8 0 [2,3,4,5,8,9,35] 0:=hi<|aa [(0,9),(1,10),(2,12),(7,136)] rfl (by kernel_rfl)<|ak (ho μ32) rfl rfl<|ak (ho μ47) rfl rfl<|ak (ho μ55) rfl rfl<|ak (ho μ58) rfl rfl af
   have μ60:M 14 128 0 [2,3,4,5,8,9,11,39] 0:=hi<|aa [(0,129),(1,130),(2,132),(3,136)] rfl (by kernel_rfl)<|ak (ho μ33) rfl rfl<|ak (ho μ48) rfl rfl<|ak (ho μ56) rfl rfl<|ak (ho μ58) rfl rfl af
   have μ61:M 15 0 0 [2,3,4,5,8,9,11] 0:=hi<|aa [(0,1),(1,2),(2,4),(3,8),(7,128)] rfl (by kernel_rfl)<|ak (ho μ34) rfl rfl<|ak (ho μ49) rfl rfl<|ak (ho μ57) rfl rfl<|ak (ho μ59) rfl rfl<|ak (ho μ60) rfl rfl af
   exact μ61
  refine ah<|ab (.a 3 rfl<|.k [2,3,4,5,8,12,45,46] rfl)<|er (σ':=[some (.cells 76 [.raw (.slice none 0 0),flag false,.raw (.slice none 0 0)]),iZ (jD T M own 0)]) (by rw[ti hMl]) ?_
  refine au<|eu [2,3,4,5,8,12,45,46] rfl<|bf (fun r s=>∃a,a≤2*T.ae.length∧r=2*T.ae.length - a∧s=⟨[(2,num n),(3,num d),(4,.aY (bq T) 0),(5,.aY [aQ own] 0),(8,.ptr 0 0),(12,.own 1),(45,num M.length),(46,num a)],[some (.cells 76 [.raw (.slice none 0 0),flag false,.raw (.slice none 0 0)]),iZ (jD T M own a)]⟩) (2*T.ae.length) ⟨0,by omega,by omega,rfl⟩ ?_
  rintro r s ⟨a,ha2,rfl,rfl⟩
  have hol:=ou T M own a
  refine ab (.a 1 rfl<|.k [2,3,4,5,8,12,45,46,47] rfl)<|ah<|ag rfl (fun h4=>?_) (fun h4=>?_)
  ·have hlt:a<2*T.ae.length:=by have:=tt h4;omega
   have hst:=tK T M own a
   have hat:=Aw (T:=T) (D:=M) (E:=own) hlt
   clear h4
   refine ai<|ah<|au<|ab (.a 2 rfl<|.k [2,3,4,5,8,12,14,45,46] rfl) ?_
   obtain⟨c1,hc1⟩:∃q,aI M a=q:=⟨_,rfl⟩
   obtain⟨c2,hc2⟩:∃q,aI own a=q:=⟨_,rfl⟩
   rw[hc1,hc2]at hst
   rw[hc1]at hat
   refine CY (Q1:=fun st=>st=⟨[(2,num n),(3,num d),(4,.aY (bq T) 0),(5,.aY [aQ own] 0),(8,.ptr 0 0),(12,.own 1),(45,num M.length),(46,num a)],[some (.cells 76 [.raw (.slice none 0 0),flag false,.raw (.slice none 0 0)]),iZ (jD T M own (a+1))]⟩) ?_ ?_
   ·cases c1
    ·refine bF<|av 4 rfl<|bC (aJ (a) rfl) rfl<|bC (aL rfl ((show(bQ (jD T M own a))[a]? =some (flag false) by rw[cF _ a (by omega),hat]))) rfl<|av 3 rfl<|bC (aJ (a) rfl) rfl<|bC (aL rfl ((show(bQ own)[a]? =some (flag c2) by rw[cF _ a (by omega),ed,hc2]))) rfl<|av 1 rfl<|bC (aJ (a) rfl) rfl<|bg ((by first|exact bE rfl (bI.tk.get rfl) rfl rfl rfl (by first|omega|(simp;omega))|exact aV rfl (bI.tk.get rfl) rfl rfl rfl (by first|omega|(simp;omega)))) rfl rfl<|aG [2,3,4,5,8,12,45,46] rfl ?_
     rw[←hst]
     unfold iZ
     rw[List.length_set]
     rfl
    ·refine bF<|av 4 rfl<|bC (aJ (a) rfl) rfl<|bC (aL rfl ((show(bQ (jD T M own a))[a]? =some (flag true) by rw[cF _ a (by omega),hat]))) rfl<|av 6 rfl<|bC (aJ (a) rfl) rfl<|bg ((by first|exact bE rfl (bI.tk.get rfl) rfl rfl rfl (by first|omega|(simp;omega))|exact aV rfl (bI.tk.get rfl) rfl rfl rfl (by first|omega|(simp;omega)))) rfl rfl<|aG [2,3,4,5,8,12,45,46] rfl ?_
     rw[←hst]
     unfold iZ
     rw[List.length_set]
     rfl
   rintro _ rfl
   refine az (.v (aS rfl) rfl<|.a 1 rfl<|.k [2,3,4,5,8,12,45,46] rfl) ?_
   exact⟨2*T.ae.length - (a+1),by omega,a+1,by omega,rfl,rfl⟩
  ·have hae:a=2*T.ae.length:=by have:=ff h4;omega
   subst hae
   rw[wF]
   clear h4
   refine ba<|ah<|zl 12 1 rfl rfl ?_
   refine dx [0] (.c 2<|.c 3<|.c 4<|.c 5<|.c 8<|.c 12<|.nil) (.kept rfl (.cells (aF.c<|aF.c<|aF.c<|aF.nil))<|.nil) rfl rfl ?_
   obtain⟨q,hq⟩:∃q,gh T (orM T M own) n d=q:=⟨_,rfl⟩
   rw[hq]at hmx
   refine ab (.a 4 rfl<|.c rfl (hq▸za T (orM T M own) n d) rfl<|.a 1 rfl<|.k [2,3,4,5,8,12,68] rfl)<|ag rfl (fun h5=>?_) (fun h5=>?_)
   ·have h5:q=false:=by simpa using h5
    rw[h5,if_neg (by simp)]at hmx
    rw[hmx]at hre ⊢
    refine az (.a 2 rfl<|.k [2,3,4,8,12] rfl) ?_
    refine aP<|av 4 rfl<|ec rfl (hre) rfl<|av 6 rfl<|aG [8,15] rfl ?_
    refine aP<|av 2 rfl<|aG [8] rfl ?_
    exact aq<|⟨_,_,aA.of rfl,aB.pure (p:=rM _),rfl⟩
   ·have h5:q=true:=by simpa using h5
    rw[h5,if_pos rfl]at hmx
    rw[hmx]at hre ⊢
    refine ai<|aP<|av 4 rfl<|ec rfl (hre) rfl<|av 6 rfl<|aG [8,15] rfl ?_
    refine aP<|av 2 rfl<|aG [8] rfl ?_
    exact aq<|⟨_,_,aA.of rfl,aB.pure (p:=rM _),rfl⟩
def nh(T:an)(M:List Bool)(o:List Int)(i:Nat):List Bool:=(List.range (2*T.ae.length)).map fun(b:Nat)=>decide ((b:Int)∈o.take i)&&aI M b
theorem EH(T:an)(M:List Bool)(o:List Int)(i:Nat):(nh T M o i).length=2*T.ae.length:=by simp[nh]
theorem qY{T:an}{M:List Bool}{o:List Int}{i b:Nat}(h:b<(nh T M o i).length):(nh T M o i)[b]=(decide ((b:Int)∈o.take i)&&aI M b):=by simp[nh]
theorem Cu(T:an)(M:List Bool)(o:List Int):nh T M o 0=List.replicate (2*T.ae.length) false:=by
 apply List.ext_getElem (by simp[nh])
 intro i h1 h2
 rw[qY]
 simp
theorem Cy{T:an}{M:List Bool}{o:List Int}{i k:Nat}(hi:i<o.length)(hk:o.getD i 0=(k:Int))(hkl:k<2*T.ae.length):nh T M o (i+1)=if aI M k then(nh T M o i).set k true else nh T M o i:=by
 have hmem:∀b:Nat,((b:Int)∈o.take (i+1))↔((b:Int)∈o.take i∨b=k):=fun b=>by
  rw[dc o i 0 hi,List.mem_append,List.mem_singleton,hk]
  exact⟨fun h=>h.imp id (fun e=>by omega),fun h=>h.imp id (fun e=>by omega)⟩
 split
 ·rename_i hd
  apply List.ext_getElem (by simp[nh])
  intro b h1 h2
  rw[qY,List.getElem_set]
  by_cases e:k=b
  ·subst e
   rw[if_pos rfl,decide_eq_true ((hmem k).2 (.inr rfl)),hd]
   rfl
  ·rw[if_neg e,qY]
   congr 1
   exact decide_eq_decide.2 ((hmem b).trans ⟨fun h=>h.resolve_right (fun e'=>e e'.symm),.inl⟩)
 ·rename_i hd
  unfold nh
  refine List.map_congr_left fun b _=>?_
  by_cases e:b=k
  ·subst e
   rw[Bool.eq_false_iff.2 hd]
   simp
  ·congr 1
   exact decide_eq_decide.2 ((hmem b).trans ⟨fun h=>h.resolve_right e,.inl⟩)
theorem Fv(T:an)(M:List Bool)(n:Int):nh T M (bG T n) (bG T n).length=dr T M n:=by
 unfold nh dr
 refine List.map_congr_left fun b hb=>?_
 have hb:=List.mem_range.1 hb
 rw[List.take_length,Bool.and_comm]
 congr 1
 refine decide_eq_decide.2 (jI.trans ⟨fun h=>by have:=h.2;rwa [Int.toNat_natCast]at this,fun h=>⟨cJ.2 (by omega),by rw[Int.toNat_natCast];exact h⟩⟩)
set_option maxHeartbeats 2000000 in
theorem Bz(T:an)(k x n:Int)(h12:T.nodes≤12):Can Tryz.prog 55 [aN T,bW k x,num n] (· =iW (if da T k x=0 then(if bd T n then 0 else 2) else 1) (kV T (aC T k x) n.toNat)):=by
 have hmk:=mh T k x
 unfold iM at hmk
 refine aE Tryz.func55 rfl Tryz.ntmps55 rfl<|aP<|av 4 rfl<|aG [2,3,4,6] rfl ?_
 refine ab (.a 2 rfl<|.c rfl (hmk) rfl<|.a 5 rfl<|.k [2,3,6,8,9] rfl)<|ah<|ab (.a 2 rfl<|.k [2,3,6,8,9,22] rfl)<|ag rfl (fun h1=>?_) (fun h1=>?_)
 ·have h1:=tt h1
  rw[if_neg h1]
  have h1':=xl h1
  rw[h1']
  refine aP<|av 4 rfl<|aG [6,7] rfl ?_
  exact aq<|⟨_,_,aA.of rfl,aB.bx (aj.cons (aB.fR (aj.cons aB.pure<|aj.cons aB.bT<|aj.cons aB.bT aj.nil)) (aj.cons aB.pure aj.nil)),rfl⟩
 ·have h1:da T k x=0:=Classical.byContradiction (ff h1)
  obtain⟨hv,hc⟩:=Bool.and_eq_true_iff.1 (pj h1)
  rw[if_pos h1,if_pos h1]
  have hll:=bJ hv
  refine ai<|ah<|ab (.a 2 rfl<|.c rfl (dv T n) rfl<|.a 1 rfl<|.k [2,3,6,8,28] rfl)<|ag rfl (fun h2=>?_) (fun h2=>?_)
  ·have hn:bd T n=false:=by simpa using h2
   rw[hn]
   refine aP<|av 3 rfl<|aG [6,7] rfl ?_
   exact aq<|⟨_,_,aA.of rfl,aB.bx (aj.cons (aB.fR (aj.cons aB.pure<|aj.cons aB.bT<|aj.cons aB.bT aj.nil)) (aj.cons aB.pure aj.nil)),rfl⟩
  ·have hn:bd T n=true:=by simpa using h2
   rw[hn,if_pos rfl]
   rw[aT]at hn
   obtain⟨m,rfl⟩:=Int.eq_ofNat_of_zero_le hn.1
   rw[Int.toNat_natCast]
   obtain⟨N,hN⟩:∃N:Nat,T.nodes=(N:Int):=⟨T.nodes.toNat,by omega⟩
   have hMl:=ez T k x
   obtain⟨M,hM⟩:∃M,aC T k x=M:=⟨_,rfl⟩
   rw[hM]at hMl ⊢
   have hol:(bG T m).length≤512:=Nat.le_trans (ee T m _) (by omega)
   clear h2 hmk
   refine ai<|aP<|av 4 rfl<|aG [2,3,6,8,10] rfl ?_
   refine cn 1 1 76 3 rfl rfl ?_
   refine cn 1 2 3 1 rfl rfl ?_
   refine aP<|av 1 rfl<|ec rfl (ik T (by omega)) rfl<|cp (dF rfl (bI.rk.get rfl) rfl rfl (show 2*(T.ae.length:Int)=((2*T.ae.length:Nat):Int) by omega) (show 2*(T.ae.length:Int)=((2*T.ae.length:Nat):Int) by omega) ⟨by unfold maxLen;omega,by omega⟩) rfl<|av 1 rfl<|aG [2,3,6,8,10,11] rfl ?_
   refine ah<|ab (.a 2 rfl<|.c rfl (oh T hll _) rfl<|.a 2 rfl<|.k [2,3,6,8,10,11,37,38,39] rfl)<|au<|eu [2,3,6,8,10,11,37,38,39] rfl<|er (σ':=[some (.cells 56 [num 0,.raw (.slice none 0 0),.raw (.slice none 0 0)]),some (.cells 56 [num m,.own 2,.own 3]),some (.row 76 3 0 []),some (.row 3 1 0 []),some (.row 4 1 (2*T.ae.length) (bQ (nh T M (bG T m) 0)))]) (by rw[Cu,←iA];rfl) ?_
   refine bf (fun r s=>∃i,i≤(bG T m).length∧r=(bG T m).length - i∧s=⟨[(2,num m),(3,.aY (bq T) 0),(6,.ptr 0 0),(8,aQ M),(10,.ptr 1 0),(11,.own 4),(37,aw (bG T m)),(38,num (bG T m).length),(39,num i)],[some (.cells 56 [num 0,.raw (.slice none 0 0),.raw (.slice none 0 0)]),some (.cells 56 [num m,.own 2,.own 3]),some (.row 76 3 0 []),some (.row 3 1 (cr M ((bG T m).take i)).length (aR (cr M ((bG T m).take i)))),some (.row 4 1 (2*T.ae.length) (bQ (nh T M (bG T m) i)))]⟩) (bG T m).length ⟨0,by omega,by omega,rfl⟩ ?_
   rintro r s ⟨i,hi,rfl,rfl⟩
   skip
   refine ab (.a 1 rfl<|.k [2,3,6,8,10,11,37,38,39,40] rfl)<|ah<|ag rfl (fun h3=>?_) (fun h3=>?_)
   ·have hlt:i<(bG T m).length:=by have:=tt h3;omega
    obtain⟨a0,a1⟩:=jz (bO (d:=0) hlt)
    obtain⟨a,ha⟩:=Int.eq_ofNat_of_zero_le a0
    have hal:a<2*T.ae.length:=by omega
    have hstep:cr M ((bG T m).take (i+1))=cr M ((bG T m).take i)++(if aI M a then [(a:Int)] else []):=by
     unfold cr
     rw[dc _ i 0 hlt,List.filter_append,ha]
     simp only[List.filter_cons,List.filter_nil,Int.toNat_natCast]
    have hdl:(cr M ((bG T m).take i)).length≤1000:=Nat.le_trans (List.length_filter_le _ _) (by rw[List.length_take];omega)
    have hds:=Cy (T:=T) (M:=M) hlt ha hal
    have hdn:=EH T M (bG T m) i
    obtain⟨q,hq⟩:∃q,aI M a=q:=⟨_,rfl⟩
    rw[hq]at hstep hds
    clear h3
    refine ai<|ah<|au<|ab (.v (aJ (i) rfl) rfl<|.v (aL rfl ((ax _ i hlt).trans (by rw[ha]))) rfl<|.a 1 rfl<|.k [2,3,6,8,10,11,13,37,38,39] rfl)<|ab (.a 2 rfl<|.v (aJ (a) rfl) rfl<|.v (aL rfl ((show(bQ M)[a]? =some (flag q) by rw[cF _ a (by omega),ed,hq]))) rfl<|.k [2,3,6,8,10,11,13,37,38,39,46] rfl)<|ag rfl (fun h4=>?_) (fun h4=>?_)
    ·subst h4
     rw[if_pos rfl]at hstep hds
     refine aP<|av 2 rfl<|bC (aJ (a) rfl) rfl<|bg ((by first|exact bE rfl (bI.tk.get rfl) rfl rfl rfl (by first|omega|(simp;omega))|exact aV rfl (bI.tk.get rfl) rfl rfl rfl (by first|omega|(simp;omega)))) rfl rfl<|aG [2,3,6,8,10,11,13,37,38,39] rfl ?_
     refine bF<|av 4 rfl<|cp (bA rfl (bI.rk.get rfl) rfl rfl rfl rfl (by unfold maxLen;omega)) rfl<|av 2 rfl ?_
     refine dD [0,1,2,5,4] (.c 2<|.c 3<|.c 6<|.c 8<|.c 10<|.c 11<|.c 37<|.c 38<|.c 39<|.nil) (.kept rfl (.cells (aF.c<|aF.c<|aF.c<|aF.nil))<|.kept rfl (.cells (aF.c<|aF.c<|aF.c<|aF.nil))<|.kept rfl (.row aF.pure)<|.kept rfl (.eJ rfl (cN _ _))<|.kept rfl (.row aF.pure)<|.nil) rfl rfl (bc ?_)
     refine az (.v (aS rfl) rfl<|.a 1 rfl<|.k [2,3,6,8,10,11,37,38,39] rfl) ?_
     refine⟨(bG T m).length - (i+1),by omega,i+1,by omega,rfl,?_⟩
     rw[hstep,hds]
     first
      |rfl
      |(simp only[List.length_append,List.length_singleton];rfl)
    ·subst h4
     rw[if_neg (by simp),List.append_nil]at hstep
     rw[if_neg (by simp)]at hds
     refine ai<|az (.v (aS rfl) rfl<|.a 1 rfl<|.k [2,3,6,8,10,11,37,38,39] rfl) ?_
     refine⟨(bG T m).length - (i+1),by omega,i+1,by omega,rfl,?_⟩
     rw[hstep,hds]
     first
      |rfl
      |(simp only[List.length_append,List.length_singleton];rfl)
   ·have hie:i=(bG T m).length:=by have:=ff h3;omega
    subst hie
    rw[Fv,List.take_length]
    clear h3
    refine ba<|ah ?_
    have hown:(dr T M m).length=2*T.ae.length:=by simp[dr]
    unfold kV
    obtain⟨own,howe⟩:∃own,dr T M m=own:=⟨_,rfl⟩
    rw[howe]at hown ⊢
    obtain⟨dl,hdl⟩:∃dl,cr M (bG T m)=dl:=⟨_,rfl⟩
    rw[hdl]
    refine dx [0,1,2,3,4] (.c 2<|.c 3<|.c 6<|.c 10<|.c 11<|.nil) (.kept rfl (.cells (aF.c<|aF.c<|aF.c<|aF.nil))<|.kept rfl (.cells (aF.c<|aF.c<|aF.c<|aF.nil))<|.kept rfl (.row aF.pure)<|.kept rfl (.row aF.pure)<|.kept rfl (.eJ (show 2*T.ae.length=own.length by omega) rfl)<|.nil) rfl rfl ?_
    refine zl 11 4 rfl rfl ?_
    refine dx [0,1,2,3] (.c 2<|.c 3<|.c 6<|.c 10<|.c 11<|.nil) (.kept rfl (.cells (aF.c<|aF.c<|aF.c<|aF.nil))<|.kept rfl (.cells (aF.c<|aF.c<|aF.c<|aF.nil))<|.kept rfl (.row aF.pure)<|.kept rfl (.row aF.pure)<|.nil) rfl rfl ?_
    refine ab (.a 1 rfl<|.v (aL rfl ((show some (num T.nodes)=some (num (N:Int)) by rw[hN]))) rfl<|.a 1 rfl<|.k [2,3,6,10,11,58,59] rfl)<|au<|eu [2,3,6,10,11,58,59] rfl<|bf (fun r s=>∃j,j≤N∧r=N - j∧s=⟨[(2,num m),(3,.aY (bq T) 0),(6,.ptr 0 0),(10,.ptr 1 0),(11,aQ own),(58,num N),(59,num j)],[some (.cells 56 [num 0,.raw (.slice none 0 0),.raw (.slice none 0 0)]),some (.cells 56 [num m,.own 2,.own 3]),some (.row 76 3 j (di (lT T own m j))),some (.row 3 1 dl.length (aR dl))]⟩) N ⟨0,by omega,by omega,rfl⟩ ?_
    rintro r s ⟨j,hj,rfl,rfl⟩
    refine ab (.a 1 rfl<|.k [2,3,6,10,11,58,59,60] rfl)<|ah<|ag rfl (fun h3=>?_) (fun h3=>?_)
    ·have hlt:j<N:=by have:=tt h3;omega
     have hre:=DR T own m j hv hown hn.2 (by omega) h12
     refine ai<|ah<|au<|ab (.a 2 rfl<|.k [2,3,6,10,11,14,58,59] rfl)<|dp 8 20 mixed (
      .val [10] rfl (bH rfl) rfl rfl<|
      .val [62] rfl (bH rfl) rfl rfl<|
      .val [3] rfl (bH rfl) rfl rfl<|
      .val [11] rfl (bH rfl) rfl rfl<|
      .val [2] rfl (bH rfl) rfl rfl<|
      .val [14] rfl (bH rfl) rfl rfl<|
      .val [64,65,66,67] rfl (dJ rfl (hre)) rfl rfl<|
      .val [68] rfl (bH rfl) rfl rfl<|
      .nil) (by kernel_rfl) rfl rfl (bm (ks:=[2,3,6,10,11,58,59,63,69]) rfl) ?_
     refine cp (bA rfl (bI.rk.get rfl) rfl rfl rfl rfl (by unfold maxLen;omega)) rfl<|av 2 rfl ?_
     refine dD [0,1,4,3] (.c 2<|.c 3<|.c 6<|.c 10<|.c 11<|.c 58<|.c 59<|.nil) (.kept rfl (.cells (aF.c<|aF.c<|aF.c<|aF.nil))<|.kept rfl (.cells (aF.c<|aF.c<|aF.c<|aF.nil))<|.kept rfl (.eJ rfl (show _=di (lT T own m (j+1)) by rw[tO];exact kM _ _))<|.kept rfl (.row aF.pure)<|.nil) rfl rfl (bc ?_)
     refine az (.v (aS rfl) rfl<|.a 1 rfl<|.k [2,3,6,10,11,58,59] rfl) ?_
     exact⟨N - (j+1),by omega,j+1,by omega,rfl,rfl⟩
    ·have hje:j=N:=by have:=ff h3;omega
     subst hje
     refine ba<|aP<|bC (eR (ys:=[num m,.own 2,.own 3]) rfl (bI.tk.get rfl) rfl rfl rfl rfl) rfl<|av 2 rfl<|aG [6,7] rfl ?_
     refine aq<|⟨_,_,aA.of rfl,aB.bx (aj.cons (aB.fR (aj.cons aB.pure<|aj.cons (aB.eH rfl aj.pure)<|aj.cons (aB.eH rfl aj.pure) aj.nil)) (aj.cons aB.pure aj.nil)),?_⟩
     unfold iW fZ fN jT aw
     rw[if_pos rfl,mb,show T.nodes.toNat=j by omega]
end PW
end Go.Proofs.YtnegbdpggideiaaGreatDoor
namespace Go.Proofs.YtnegbdpggideiaaGreatDoor
namespace PW
open Go.RowKit cH Mem Net fw
namespace Bn
def JQ(T:an)(D:List Bool)(d:Nat)(L:List Int)(a:Nat):List Int:=
 if(!aI D a)&&decide (0≤L.getD (aW T a).toNat 0)&&(decide (aW T a=(d:Int))|| !cU T (aW T a).toNat)&&(decide (L.getD (aZ T a).toNat 0<0)||decide (L.getD (aW T a).toNat 0+cb T a<L.getD (aZ T a).toNat 0))
 then L.set (aZ T a).toNat (L.getD (aW T a).toNat 0+cb T a) else L
def dC(T:an)(D:List Bool)(d:Nat):List Int:=(List.range T.nodes.toNat).foldl (fun L _=>(List.range (2*T.ae.length)).foldl (JQ T D d) L) ((List.replicate T.nodes.toNat (-1)).set d 0)
def GA(T:an)(D:List Bool)(n:Nat)(out:List Int)(a:Nat):Bool:= !aI D a&&decide (0≤at' out (cR T false a))&&(decide (cR T false a=(n:Int))|| !cU T (cR T false a).toNat)
def I0(T:an)(D:List Bool)(n:Nat)(out:List Int):Bool:=
 decide (out.length=T.nodes.toNat)&&decide (at' out (n:Int)=0)&&(List.range T.nodes.toNat).all (fun x=>decide (-1≤at' out (x:Int)))&&
 (List.range (2*T.ae.length)).all (fun a=> !GA T D n out a||(decide (0≤at' out (fv T false a))&&decide (at' out (fv T false a)≤at' out (cR T false a)+cb T a)))&&
 (List.range T.nodes.toNat).all (fun x=>decide (x=n)||decide (at' out (x:Int)<0)||(List.range (2*T.ae.length)).any fun a=>decide (fv T false a=(x:Int))&&GA T D n out a&&decide (at' out (x:Int)=at' out (cR T false a)+cb T a))
def oQ(T:an)(D:List Bool):Bool:=(List.range T.nodes.toNat).all fun d=>I0 T D d (dC T D d)
theorem ux(T:an)(D:List Bool)(n:Nat)(out:List Int)(a:Nat):Net.Way T D n false out a↔GA T D n out a=true:=by
 unfold Net.Way GA
 simp[and_assoc]
theorem Hz{T:an}{D:List Bool}(hv:ao T=true){n:Nat}{out:List Int}(h:I0 T D n out=true):iD T D n false out:=by
 have hN:=(aM hv).nodes
 simp only[I0,Bool.and_eq_true,decide_eq_true_eq,List.all_eq_true,List.mem_range,Bool.or_eq_true,Bool.not_eq_true',List.any_eq_true]at h
 obtain⟨⟨⟨⟨h1,h2⟩,h3⟩,h4⟩,h5⟩:=h
 refine⟨by rw[h1];omega,h2,fun x hx=>h3 x (by omega),fun a ha hw=>?_,fun x hx h0=>?_⟩
 ·rcases h4 a ha with h|h
  ·rw[(ux T D n out a).1 hw]at h;cases h
  ·exact h
 ·rcases h5 x (by omega)with(h|h)|⟨a,ha,⟨h6,h7⟩,h8⟩
  ·exact .inl h
  ·omega
  ·exact .inr ⟨a,ha,h6,(ux T D n out a).2 h7,h8⟩
theorem Hj{T:an}{D:List Bool}(hv:ao T=true)(h:oQ T D=true){d:Nat}(hd:(d:Int)<T.nodes):bn T D d false=dC T D d:=by
 refine kr (aM hv) (Hz hv ?_)
 simp only[oQ,List.all_eq_true,List.mem_range]at h
 exact h d (by omega)
def lg(T:an)(D:List Bool)(n d:Nat):List Int:=if n=d∨(dC T D d).getD n 0<0 then [] else jw T D (dC T D d) ((dC T D d).getD n 0) d (bG T n)
theorem next{T:an}{D:List Bool}(hv:ao T=true)(h:oQ T D=true){n d:Nat}(hd:(d:Int)<T.nodes):aX T D n d=lg T D n d:=by
 unfold aX lg;rw[Hj hv h hd]
def vl(T:an)(D:List Bool)(d:Nat):Nat→Nat→List Int
 |0,_=>[]
 |f+1,n=>match lg T D n d with
  | []=>[]
  |a::_=>a::vl T D d f (aW T a.toNat).toNat
def sk(T:an)(D:List Bool)(n d:Nat):List Int:=vl T D d ((dC T D d).getD n 0).toNat n
theorem first{T:an}{D:List Bool}(hv:ao T=true)(h:oQ T D=true){d:Nat}(hd:(d:Int)<T.nodes):∀f n,eA T D d f n=vl T D d f n
 |0,_=>rfl
 |f+1,n=>by
  simp only[eA,vl,next hv h hd]
  cases lg T D n d with
  |nil=>rfl
  |cons a l=>simp only[first hv h hd f]
theorem JC{T:an}{D:List Bool}(hv:ao T=true)(h:oQ T D=true){n d:Nat}(hd:(d:Int)<T.nodes):bY T D n d=sk T D n d:=by
 unfold bY sk dN;rw[Hj hv h hd,first hv h hd]
def G4(T:an)(D:List Bool)(s d:Int):Int:=if bV T D s d=0 then(if(dC T D d.toNat).getD s.toNat 0<0 then 11 else 0) else bV T D s d
theorem qj{T:an}{D:List Bool}{s d:Int}(h:bV T D s d=0):(d.toNat:Int)<T.nodes∧0≤d:=by
 obtain⟨_,_,_,h4⟩:=eS h
 rw[aT]at h4
 omega
theorem J0{T:an}{D:List Bool}(hv:ao T=true)(h:oQ T D=true)(s d:Int):fM T D s d=G4 T D s d:=by
 unfold fM G4 dN
 by_cases h0:bV T D s d=0
 ·rw[if_pos h0,if_pos h0,Hj hv h (qj h0).1]
 ·rw[if_neg h0,if_neg h0]
def yF(T:an)(D:List Bool)(d:Nat):Nat→Nat→Int
 |0,m=>if m=d then 1 else 0
 |f+1,m=>if m=d then 1 else(lg T D m d).foldl (fun c a=>min 2 (c+yF T D d f (aW T a.toNat).toNat)) 0
theorem nf{T:an}{D:List Bool}(hv:ao T=true)(h:oQ T D=true){d:Nat}(hd:(d:Int)<T.nodes):∀f m,ni T D d f m=yF T D d f m
 |0,_=>rfl
 |f+1,m=>by
  simp only[ni,yF,next hv h hd]
  split
  ·rfl
  ·exact foldl_congr fun c a _=>by rw[nf hv h hd f]
def BR(T:an)(D:List Bool)(n:Int)(p:List Int)(i j:Nat):Bool:=
 decide ((dC T D (cE T n (p.take j)).toNat).getD (cE T n (p.take i)).toNat 0=cW T (p.take j) - cW T (p.take i))&&(decide (bV T D (cE T n (p.take i)) (cE T n (p.take j))=0)&&decide (yF T D (cE T n (p.take j)).toNat ((dC T D (cE T n (p.take j)).toNat).getD (cE T n (p.take i)).toNat 0).toNat (cE T n (p.take i)).toNat=1))
theorem J7{T:an}{D:List Bool}(hv:ao T=true)(h:oQ T D=true)(n:Int)(p:List Int)(i j:Nat):ep T D n p i j=BR T D n p i j:=by
 unfold ep BR eW dB dN
 by_cases h0:bV T D (cE T n (p.take i)) (cE T n (p.take j))=0
 ·rw[Hj hv h (qj h0).1,nf hv h (qj h0).1]
 ·rw[decide_eq_false h0];simp
def DI(T:an)(D:List Bool)(n:Int)(p:List Int):Nat→Nat→List ca
 |0,_=>[]
 |f+1,i=>if i<p.length then(match iU (BR T D n p i) i p.length with
  |some j=>⟨1,cE T n (p.take j)⟩::DI T D n p f j
  |none=>⟨2,p.getD i 0⟩::DI T D n p f (i+1)) else []
theorem Dt{T:an}{D:List Bool}(hv:ao T=true)(h:oQ T D=true)(n:Int)(p:List Int):∀f i,gJ T D n p f i=DI T D n p f i
 |0,_=>rfl
 |f+1,i=>by
  have:ep T D n p i=BR T D n p i:=funext fun j=>J7 hv h n p i j
  simp only[gJ,DI,this]
  split
  ·cases iU (BR T D n p i) i p.length with
   |none=>simp only[Dt hv h n p f]
   |some j=>simp only[Dt hv h n p f]
  ·rfl
def Iv(T:an)(D:List Bool)(n d:Int):iV:=
 if G4 T D n d=0∧n≠d then⟨[(sk T D n.toNat d.toNat).getD 0 0],true,iY (DI T [] n (sk T D n.toNat d.toNat) (sk T D n.toNat d.toNat).length 0)⟩ else⟨[],false,[]⟩
theorem EA{T:an}{D:List Bool}(hv:ao T=true)(h0:oQ T []=true)(h:oQ T D=true)(n d:Int):i7 T D n d=Iv T D n d:=by
 unfold i7 Iv
 rw[J0 hv h]
 by_cases hd:(d.toNat:Int)<T.nodes
 ·unfold ig
  rw[JC hv h hd,Dt hv h0]
 ·have:¬G4 T D n d=0:=by
   unfold G4
   intro hh
   split at hh
   ·rename_i h1;exact hd (qj h1).1
   ·rename_i h1;exact h1 hh
  rw[if_neg (fun hh=>this hh.1),if_neg (fun hh=>this hh.1)]
def jZ(T:an)(a:Nat)(d:Int):Int×Int:=
 if(decide (0<ga T a)&&decide (G4 T (aC T 3 (ga T a)) (aZ T a) d=0))=true then(3,ga T a)
 else if(decide (aW T a≠d)&&decide (G4 T (aC T 2 (aW T a)) (aZ T a) d=0))=true then(2,aW T a)
 else(1,((a / 2:Nat):Int))
theorem KW{T:an}(hv:ao T=true){a:Nat}(h3:oQ T (aC T 3 (ga T a))=true)(h2:oQ T (aC T 2 (aW T a))=true)(d:Int):cA T a d=jZ T a d:=by
 unfold cA jZ gh
 rw[J0 hv h3,J0 hv h2]
end Bn
end PW
end Go.Proofs.YtnegbdpggideiaaGreatDoor
namespace Go.Proofs.YtnegbdpggideiaaGreatDoor
namespace PW
open Go.RowKit cH Mem Net fw
namespace Bn
def vD(T:an)(D:List Bool)(n:Nat):ef:=⟨n,(List.range T.nodes.toNat).map fun(d:Nat)=>⟨lg T D n d,false,[]⟩,cr D (bG T n)⟩
theorem C4{T:an}{D:List Bool}(hv:ao T=true)(h:oQ T D=true)(n:Nat):dK T D n=vD T D n:=by
 have hN:=(aM hv).nodes
 unfold dK vD oR
 congr 1
 refine List.map_congr_left fun d hd=>?_
 have:=List.mem_range.1 hd
 rw[next hv h (by omega)]
end Bn
def vt:List Bool:=[true,true,false,false,false,false,false,false]
theorem mC:Bn.oQ cT []=true:=by kernel_rfl
def H5:ef:=⟨3,[⟨[6],false,[]⟩,⟨[5,6],false,[]⟩,⟨[5],false,[]⟩,⟨[],false,[]⟩],[]⟩
theorem Dc:dK cT [] 3=H5:=(Bn.C4 kS mC 3).trans (by kernel_rfl)
end PW
end Go.Proofs.YtnegbdpggideiaaGreatDoor
namespace Go.Proofs.YtnegbdpggideiaaGreatDoor
namespace PW
open Go.RowKit cH Mem Net fw
namespace Bn
def G2(T:an)(own:List Bool)(n d:Int)(a:Nat):List Bool:=
 if G4 T (orM T (aC T (jZ T a d).1 (jZ T a d).2) own) n d=0 then orM T (aC T (jZ T a d).1 (jZ T a d).2) own else own
def Is(T:an)(own:List Bool)(n d:Nat):iV:=match ev own (lg T [] n d)with
 |none=>⟨lg T [] n d,false,[]⟩
 |some a=>Iv T (G2 T own n d a.toNat) n d
def Ir(T:an)(own:List Bool)(n d:Nat):Bool:=match ev own (lg T [] n d)with
 |none=>true
 |some a=>oQ T (aC T 3 (ga T a.toNat))&&oQ T (aC T 2 (aW T a.toNat))&&oQ T (orM T (aC T (jZ T a.toNat d).1 (jZ T a.toNat d).2) own)&&oQ T (G2 T own n d a.toNat)
theorem rep{T:an}{own:List Bool}{n d:Nat}(hv:ao T=true)(h0:oQ T []=true)(hd:(d:Int)<T.nodes)(h:Ir T own n d=true):gN T own n d=Is T own n d:=by
 unfold gN Is
 unfold Ir at h
 rw[next hv h0 hd]
 cases hh:ev own (lg T [] n d)with
 |none=>rfl
 |some a=>
  rw[hh]at h
  simp only[Bool.and_eq_true]at h
  obtain⟨⟨⟨h1,h2⟩,h3⟩,h4⟩:=h
  have hm:lr T own n d a.toNat=G2 T own n d a.toNat:=by
   unfold lr G2 gh
   rw[KW hv h1 h2,J0 hv h3]
   by_cases e:G4 T (orM T (aC T (jZ T a.toNat (d:Int)).1 (jZ T a.toNat (d:Int)).2) own) n d=0
   ·rw[if_pos (by simpa using e),if_pos e]
   ·rw[if_neg (by simpa using e),if_neg e]
  simp only[]
  rw[hm,EA hv h0 h4]
def Aj(T:an)(M:List Bool)(n:Nat):ef:=⟨n,(List.range T.nodes.toNat).map fun d=>Is T (dr T M n) n d,cr M (bG T n)⟩
theorem EE{T:an}{M:List Bool}{n:Nat}(hv:ao T=true)(h0:oQ T []=true)(h:((List.range T.nodes.toNat).all fun d=>Ir T (dr T M n) n d)=true):kV T M n=Aj T M n:=by
 have hN:=(aM hv).nodes
 unfold kV Aj lT
 congr 1
 refine List.map_congr_left fun d hd=>?_
 have hd':=List.mem_range.1 hd
 exact rep hv h0 (by omega) (List.all_eq_true.1 h d hd)
end Bn
def Ih:ef:=⟨0,[⟨[],false,[]⟩,⟨[7],true,[⟨1,3⟩,⟨1,2⟩,⟨1,1⟩]⟩,⟨[7],true,[⟨1,3⟩,⟨1,2⟩]⟩,⟨[7],false,[]⟩],[0]⟩
theorem Eu:kV cT vt 0=Ih:=(Bn.EE kS mC (by kernel_rfl)).trans (by kernel_rfl)
end PW
end Go.Proofs.YtnegbdpggideiaaGreatDoor
namespace Go.Proofs.YtnegbdpggideiaaGreatDoor
namespace PW
open Go.RowKit cH Mem Net Go.WideShapes
structure uQ where
 T:an
 k:Int
 x:Int
 S:List Int
 n:Int
 d:Int
def BL(c:uQ):List PV:=bq c.T++[num c.k,num c.x,aw c.S,num c.n,num c.d]
def qd(c:uQ):PV:=.agg (BL c)
instance (c:uQ):aO (BL c):=by unfold BL;unfold bq;simp only[List.cons_append,List.nil_append];infer_instance
instance (c:uQ):IsPure (qd c):=by unfold qd;infer_instance
section
variable {H:Type} {enc:TypeId×Value→H} {W:World}
theorem Hg{n:Nat}{cs:List Value}{y:DataW H×List MemPlace}(h:DataW.trod enc Tryz.prog W 0 (fun _=>true) true n 33 cs=some y)(hl:cs.length=2):∃k x:Int,cs=[.int .i64 k,.int .i64 x]:=by
 have c3:Tryz.prog.cellsOf 3=1:=by kernel_rfl
 obtain⟨xs,m,_,_,_,hlen,hf⟩:=DataW.trod_struct Tryz.underlying33 h
 match cs,hl with
 | [c0,c1],_=>
  match xs,hlen with
  | [y0,y1],_=>
   have f0:DataW.trod enc Tryz.prog W 0 (fun _=>true) true m 3 (([c0,c1].drop 0).take (Tryz.prog.cellsOf 3))=some y0:=hf 0 _ rfl
   rw[c3]at f0
   have f1:DataW.trod enc Tryz.prog W 0 (fun _=>true) true m 3 (([c0,c1].drop 1).take (Tryz.prog.cellsOf 3))=some y1:=hf 1 _ rfl
   rw[c3]at f1
   obtain⟨a0,h0⟩:=gV f0
   obtain⟨a1,h1⟩:=gV f1
   simp at h0 h1
   subst h0 h1
   exact⟨a0,a1,rfl⟩
theorem Iu{base:Nat}{v:Value}{d:DataW H}{p:List MemPlace}(hv:Value.okWide Tryz.prog W .any base 50 v)(h:DataW.Trod enc Tryz.prog W 0 (fun _=>true) true 50 v d p):∃c:uQ,cG EN W v (qd c):=by
 have hC:Tryz.prog.cellsOf 50=8:=by kernel_rfl
 have k_topo:Tryz.prog.cellsOf 25=3:=by kernel_rfl
 have k_comp:Tryz.prog.cellsOf 33=2:=by kernel_rfl
 have k_ints:Tryz.prog.cellsOf 37=1:=by kernel_rfl
 have k_int:Tryz.prog.cellsOf 3=1:=by kernel_rfl
 obtain⟨cs,rfl,hsz⟩:=okWide_struct Tryz.underlying50 hv
 rw[hC]at hsz
 obtain⟨fuel,hf⟩:=h
 obtain⟨cl⟩:=cs
 match cl,hsz with
 | [c0,c1,c2,c3,c4,c5,c6,c7],_=>
  obtain⟨xs,m,_,_,_,hlen,hg⟩:=DataW.trod_struct Tryz.underlying50 hf
  match xs,hlen with
  | [y0,y1,y2,y3,y4],_=>
   have f0:DataW.trod enc Tryz.prog W 0 (fun _=>true) true m 25 (([c0,c1,c2,c3,c4,c5,c6,c7].drop 0).take (Tryz.prog.cellsOf 25))=some y0:=hg 0 _ rfl
   rw[k_topo]at f0
   have f1:DataW.trod enc Tryz.prog W 0 (fun _=>true) true m 33 (([c0,c1,c2,c3,c4,c5,c6,c7].drop 3).take (Tryz.prog.cellsOf 33))=some y1:=hg 1 _ rfl
   rw[k_comp]at f1
   have f2:DataW.trod enc Tryz.prog W 0 (fun _=>true) true m 37 (([c0,c1,c2,c3,c4,c5,c6,c7].drop 5).take (Tryz.prog.cellsOf 37))=some y2:=hg 2 _ rfl
   rw[k_ints]at f2
   have f3:DataW.trod enc Tryz.prog W 0 (fun _=>true) true m 3 (([c0,c1,c2,c3,c4,c5,c6,c7].drop 6).take (Tryz.prog.cellsOf 3))=some y3:=hg 3 _ rfl
   rw[k_int]at f3
   have f4:DataW.trod enc Tryz.prog W 0 (fun _=>true) true m 3 (([c0,c1,c2,c3,c4,c5,c6,c7].drop 7).take (Tryz.prog.cellsOf 3))=some y4:=hg 4 _ rfl
   rw[k_int]at f4
   obtain⟨T,hT⟩:=D6 f0 rfl
   obtain⟨k,x,hkx⟩:=Hg f1 rfl
   simp only[List.drop,List.take,List.cons.injEq,and_true]at hkx
   obtain⟨rfl,rfl⟩:=hkx
   obtain⟨L2,hL2⟩:=F4 f2
   obtain⟨n3,hn3⟩:=gV f3
   simp at hn3
   subst hn3
   obtain⟨n4,hn4⟩:=gV f4
   simp at hn4
   subst hn4
   have hall:bb EN W [c0,c1,c2,.int .i64 k,.int .i64 x,c5,.int .i64 n3,.int .i64 n4] (BL ⟨T,k,x,L2,n3,n4⟩):=hT.append (bb.cons (.raw _)<|bb.cons (.raw _)<|bb.cons (hL2)<|bb.cons (.raw _)<|bb.cons (.raw _)<|(bb.nil _ _))
   exact⟨⟨T,k,x,L2,n3,n4⟩,.agg _ _ (by simpa using hall.1) (fun i x u h1 h2=>hall.2 i x u (by simpa using h1) h2)⟩
end
end PW
end Go.Proofs.YtnegbdpggideiaaGreatDoor
namespace Go.Proofs.YtnegbdpggideiaaGreatDoor
namespace PW
open Go.RowKit cH Mem Net fw
def tooBig(T:an):Bool:=decide ((10:Int)<T.nodes)||decide ((16:Int)<T.ae.length)
theorem FE{T:an}(h:tooBig T=false):T.nodes≤12∧T.ae.length≤16:=by
 unfold tooBig at h
 simp only[Bool.or_eq_false_iff,decide_eq_false_iff_not]at h
 omega
theorem sX(L:List Int):Can Tryz.prog 35 [aw L,aw L] (· =flag true):=by
 have h:=tP L L
 rw[show nt L L=true from decide_eq_true rfl]at h
 exact h
end PW
end Go.Proofs.YtnegbdpggideiaaGreatDoor
namespace Go.Proofs.YtnegbdpggideiaaGreatDoor
namespace PW
open Go.RowKit cH Mem Net fw
end PW
end Go.Proofs.YtnegbdpggideiaaGreatDoor
namespace Go.Proofs.YtnegbdpggideiaaGreatDoor
namespace PW
open Go.RowKit cH Mem Net fw
end PW
end Go.Proofs.YtnegbdpggideiaaGreatDoor
namespace Go.Proofs.YtnegbdpggideiaaGreatDoor
namespace PW
open Go.RowKit cH Mem Net fw
end PW
end Go.Proofs.YtnegbdpggideiaaGreatDoor
namespace Go.Proofs.YtnegbdpggideiaaGreatDoor
namespace PW
open Go.RowKit cH Mem Net fw
def sa(T:an)(k x k' x':Int)(m:Nat):Bool:=(List.range m).all fun a=> !cD k x T.ae (a / 2)||cD k' x' T.ae (a / 2)
def sA(T:an)(k x k' x':Int):Bool:=sa T k x k' x' (2*T.ae.length)
theorem zP(T:an)(k x k' x':Int)(m:Nat):sa T k x k' x' (m+1)=(sa T k x k' x' m&&(!cD k x T.ae (m / 2)||cD k' x' T.ae (m / 2))):=by simp[sa,List.range_succ]
theorem mX{p:Nat→Bool}{m n:Nat}(h:((List.range m).all p)=false)(hmn:m≤n):((List.range n).all p)=false:=by
 rw[Bool.eq_false_iff]at h ⊢
 intro h'
 refine h (List.all_eq_true.2 fun a ha=>List.all_eq_true.1 h' a (List.mem_range.2 ?_))
 have:=List.mem_range.1 ha
 omega
theorem EY(T:an)(k x k' x':Int)(h1:(ao T&&bZ T k x)=true)(h2:(ao T&&bZ T k' x')=true):Can Tryz.prog 133 [aN T,bW k x,bW k' x'] (· =flag (sA T k x k' x')):=by
 have hll:=bJ (Bool.and_eq_true_iff.1 h1).1
 refine aE Tryz.func133 rfl Tryz.ntmps133 rfl<|ab (.a 4 rfl<|.k [3,4,5] rfl)<|ah<|bu 17 (.raw (.bool (false))) [3,4,5] rfl ?_ ?_
 ·exact .a 2 rfl<|.c rfl (h1▸fD T k x) rfl<|.a 4 rfl<|.c rfl (h2▸fD T k' x') rfl<|.a 2 rfl<|.k [17,3,4,5] rfl
 refine ag rfl (fun h=>?_) (fun h=>?_)
 ·exact absurd h (by decide)
 ·clear h
  refine ai<|ah<|ab (.a 1 rfl<|.k [3,4,5,7] rfl)<|au<|eu [3,4,5,7] rfl<|bf (fun r st=>∃m,m≤2*T.ae.length∧r=2*T.ae.length - m∧sa T k x k' x' m=true∧st=⟨[(3,.aY (bq T) 0),(4,.aY (ct k x) 0),(5,.aY (ct k' x') 0),(7,num m)],[]⟩) (2*T.ae.length) ⟨0,by omega,by omega,rfl,rfl⟩ ?_
  rintro r st ⟨m,hm,rfl,hw,rfl⟩
  refine ah<|ab (.a 4 rfl<|.v (aS rfl (hc:=rfl)) rfl<|.a 1 rfl<|.k [3,4,5,7,23] rfl)<|ag rfl (fun h3=>?_) (fun h3=>?_)
  ·have hlt:m<2*T.ae.length:=by have:=tt h3;omega
   have hst:=zP T k x k' x' m
   obtain⟨q1,hq1⟩:∃q,cD k x T.ae (m / 2)=q:=⟨_,rfl⟩
   obtain⟨q2,hq2⟩:∃q,cD k' x' T.ae (m / 2)=q:=⟨_,rfl⟩
   rw[hw,hq1,hq2]at hst
   refine ai<|ah<|au<|bu 36 (.raw (.bool (q1&& !q2))) [3,4,5,7] rfl ?_ ?_
   ·refine .a 3 rfl<|.c rfl (hq1▸uG T k x m hlt hll) rfl<|.a 1 rfl<|?_
    cases q1
    ·exact .a 6 rfl<|.k [36,3,4,5,7] rfl
    ·exact .a 3 rfl<|.c rfl (hq2▸uG T k' x' m hlt hll) rfl<|.a 2 rfl<|.k [36,3,4,5,7] rfl
   refine ag rfl (fun h4=>?_) (fun h4=>?_)
   ·obtain⟨e1,e2⟩:=Bool.and_eq_true_iff.1 h4
    have e2:q2=false:=by simpa using e2
    rw[e1,e2]at hst
    have hf:sA T k x k' x'=false:=mX hst (by omega)
    rw[hf]
    exact ab (.a 1 rfl<|.k [6] rfl)<|aq<|⟨_,_,aA.of rfl,aB.pure,rfl⟩
   ·have hw2:sa T k x k' x' (m+1)=true:=by rw[hst];cases q1<;>cases q2<;>first|rfl|cases h4
    refine ai<|az (.a 1 rfl<|.v (aS rfl) rfl<|.a 1 rfl<|.k [3,4,5,7] rfl) ?_
    exact⟨2*T.ae.length - (m+1),by omega,m+1,by omega,rfl,hw2,rfl⟩
  ·have hme:m=2*T.ae.length:=by have:=ff h3;omega
   subst hme
   have hw:sA T k x k' x'=true:=hw
   rw[hw]
   exact ba<|ab (.a 1 rfl<|.k [6] rfl)<|aq<|⟨_,_,aA.of rfl,aB.pure,rfl⟩
noncomputable def Fz(T:an)(M:List Bool)(k x:Int)(a j:Nat):Bool:=(List.range j).all fun(d:Nat)=> !gh T M (aZ T a) d||sA T k x (cA T a d).1 (cA T a d).2
noncomputable def Jd(T:an)(M:List Bool)(k x:Int)(a:Nat):Bool:=(!aI M a||(decide (k=2)&&decide (aZ T a=x)))||Fz T M k x a T.nodes.toNat
noncomputable def vz(T:an)(k x:Int)(m:Nat):Bool:=(List.range m).all fun a=>Jd T (aC T k x) k x a
noncomputable def ts(T:an)(k x:Int):Bool:=(ao T&&bZ T k x)&&vz T k x (2*T.ae.length)
theorem Fm(T:an)(M:List Bool)(k x:Int)(a j:Nat):Fz T M k x a (j+1)=(Fz T M k x a j&&(!gh T M (aZ T a) j||sA T k x (cA T a j).1 (cA T a j).2)):=by simp[Fz,List.range_succ]
theorem th(T:an)(k x:Int)(m:Nat):vz T k x (m+1)=(vz T k x m&&Jd T (aC T k x) k x m):=by simp[vz,List.range_succ]
theorem Jl{T:an}{k x:Int}{m:Nat}(hm:(ao T&&bZ T k x)=true)(h:vz T k x m=true)(hlt:m<2*T.ae.length)(ha:Jd T (aC T k x) k x m=false):ts T k x=false:=by
 unfold ts
 rw[hm,Bool.true_and]
 refine mX (m:=m+1) ?_ (by omega)
 have:=th T k x m
 rw[h,ha]at this
 exact this
theorem DB(T:an)(k x:Int):Can Tryz.prog 85 [aN T,bW k x] (· =flag (ts T k x)):=by
 obtain⟨q0,hq0⟩:∃q,(ao T&&bZ T k x)=q:=⟨_,rfl⟩
 have hmk:=mV T k x
 unfold iM da at hmk
 refine aE Tryz.func85 rfl Tryz.ntmps85 rfl<|ab (.a 3 rfl<|.k [2,3] rfl)<|ah<|ab (.a 2 rfl<|.c rfl (hq0▸fD T k x) rfl<|.a 1 rfl<|.k [2,3,15] rfl)<|ag rfl (fun h1=>?_) (fun h1=>?_)
 ·have h1:q0=false:=by simpa using h1
  have he:ts T k x=false:=by unfold ts;rw[hq0,h1];rfl
  rw[he]
  exact ab (.a 1 rfl<|.k [4] rfl)<|aq<|⟨_,_,aA.of rfl,aB.pure,rfl⟩
 ·have h1:q0=true:=by simpa using h1
  subst h1
  obtain⟨hv,hc⟩:=Bool.and_eq_true_iff.1 hq0
  have hll:=bJ hv
  have hN:=(aM hv).nodes
  rw[if_pos hq0,if_pos rfl]at hmk
  have hMl:=ez T k x
  have hstep:=fun m=>th T k x m
  have hno:=fun m=>Jl (m:=m) hq0
  obtain⟨M,hM⟩:∃M,aC T k x=M:=⟨_,rfl⟩
  rw[hM]at hmk hMl
  simp only[hM]at hstep hno
  obtain⟨N,hNN⟩:∃N:Nat,T.nodes=(N:Int):=⟨T.nodes.toNat,by omega⟩
  have hNt:T.nodes.toNat=N:=by omega
  refine ai<|ab (.a 2 rfl<|.c rfl (hmk) rfl<|.a 5 rfl<|.k [2,3,5] rfl)<|ah<|ab (.a 1 rfl<|.k [2,3,5,7] rfl)<|au<|eu [2,3,5,7] rfl<|bf (fun r st=>∃m,m≤2*T.ae.length∧r=2*T.ae.length - m∧vz T k x m=true∧st=⟨[(2,.aY (bq T) 0),(3,.aY (ct k x) 0),(5,aQ M),(7,num m)],[]⟩) (2*T.ae.length) ⟨0,by omega,by omega,rfl,rfl⟩ ?_
  rintro r st ⟨m,hm,rfl,hw,rfl⟩
  refine ah<|ab (.a 4 rfl<|.k [2,3,5,7,25] rfl)<|ag rfl (fun h3=>?_) (fun h3=>?_)
  ·have hlt:m<2*T.ae.length:=by have:=tt h3;omega
   have hst:=hstep m
   rw[hw,Bool.true_and]at hst
   obtain⟨n,hn⟩:=Int.eq_ofNat_of_zero_le ((aM hv).tail m hlt).1
   obtain⟨q1,hq1⟩:∃q,aI M m=q:=⟨_,rfl⟩
   obtain⟨q2,hq2⟩:∃q,decide (k=2)=q:=⟨_,rfl⟩
   obtain⟨q3,hq3⟩:∃q,decide (aZ T m=x)=q:=⟨_,rfl⟩
   have hA:Jd T M k x m=((!q1 ||(q2&&q3))||Fz T M k x m N):=by unfold Jd;rw[hq1,hq2,hq3,hNt]
   clear h3
   refine ai<|ah<|au<|ab (.a 2 rfl<|.c rfl (eN T hv m hlt) rfl<|.a 1 rfl<|.k [2,3,5,7,8] rfl)<|ah<|bu 46 (.raw (.bool ((!q1)||(q2&&q3)))) [2,3,5,7,8] rfl ?_ ?_
   ·refine .a 2 rfl<|.v (aJ (m) rfl) rfl<|.v (aL rfl ((show(bQ M)[m]? =some (flag q1) by rw[cF _ m (by omega),ed,hq1]))) rfl<|.a 2 rfl<|?_
    cases q1
    ·exact .a 10 rfl<|.k [46,2,3,5,7,8] rfl
    ·refine .a 2 rfl<|.v (b9 rfl (hq2)) rfl<|.a 1 rfl<|?_
     cases q2
     ·exact .a 6 rfl<|.k [46,2,3,5,7,8] rfl
     ·exact .a 3 rfl<|.v (b9 rfl (hq3)) rfl<|.a 2 rfl<|.k [46,2,3,5,7,8] rfl
   refine ag rfl (fun h4=>?_) (fun h4=>?_)
   ·have hcv:vz T k x (m+1)=true:=by rw[hst,hA,h4];rfl
    refine ba<|az (.a 1 rfl<|.v (aS rfl) rfl<|.a 1 rfl<|.k [2,3,5,7] rfl) ?_
    exact⟨2*T.ae.length - (m+1),by omega,m+1,by omega,rfl,hcv,rfl⟩
   ·rw[h4,Bool.false_or]at hA
    refine ai<|ab (.a 1 rfl<|.k [2,3,5,7,8,9] rfl)<|au<|eu [2,3,5,7,8,9] rfl<|bf (fun r st=>∃j,j≤N∧r=N - j∧Fz T M k x m j=true∧st=⟨[(2,.aY (bq T) 0),(3,.aY (ct k x) 0),(5,aQ M),(7,num m),(8,num (aZ T m)),(9,num j)],[]⟩) N ⟨0,by omega,by omega,rfl,rfl⟩ ?_
    rintro r st ⟨j,hj,rfl,hd,rfl⟩
    refine ah<|ab (.a 2 rfl<|.v (aL rfl ((show some (num T.nodes)=some (num (N:Int)) by rw[hNN]))) rfl<|.a 1 rfl<|.k [2,3,5,7,8,9,50] rfl)<|ag rfl (fun h5=>?_) (fun h5=>?_)
    ·have hjl:j<N:=by have:=tt h5;omega
     have hds:=Fm T M k x m j
     rw[hd,Bool.true_and]at hds
     have hcm:(ao T&&bZ T (cA T m j).1 (cA T m j).2)=true:=by rw[hv,ow hv hlt];rfl
     have hcn:=oT T m j hv hlt ⟨by omega,by omega⟩
     have hwn:=EY T k x (cA T m j).1 (cA T m j).2 hq0 hcm
     generalize cA T m (j:Int)=cx at*
     obtain⟨ck,cy⟩:=cx
     simp only at hcm hcn hwn hds
     obtain⟨r1,hr1⟩:∃q,gh T M (aZ T m) j=q:=⟨_,rfl⟩
     obtain⟨r2,hr2⟩:∃q,sA T k x ck cy=q:=⟨_,rfl⟩
     have hrr:=kH T M (aZ T m) j
     rw[hr1]at hds hrr
     rw[hr2]at hds hwn
     refine ai<|ah<|au<|ah<|ab (.a 4 rfl<|.c rfl (hrr) rfl<|.a 1 rfl<|.k [2,3,5,7,8,9,58] rfl)<|ag rfl (fun h6=>?_) (fun h6=>?_)
     ·have h6:r1=false:=by simpa using h6
      have hd2:Fz T M k x m (j+1)=true:=by rw[hds,h6];rfl
      refine ba<|az (.a 1 rfl<|.v (aS rfl) rfl<|.a 1 rfl<|.k [2,3,5,7,8,9] rfl) ?_
      exact⟨N - (j+1),by omega,j+1,by omega,rfl,hd2,rfl⟩
     ·have h6:r1=true:=by simpa using h6
      rw[h6]at hds
      refine ai<|aP<|av 3 rfl<|ec rfl (hcn) rfl<|av 6 rfl<|aG [2,3,5,7,8,9,10] rfl ?_
      refine ab (.a 3 rfl<|.c rfl (hwn) rfl<|.a 1 rfl<|.k [2,3,5,7,8,9,70] rfl)<|ag rfl (fun h7=>?_) (fun h7=>?_)
      ·have h7:r2=false:=by simpa using h7
       rw[h7]at hds
       have hf:ts T k x=false:=hno m hw hlt (by rw[hA];exact mX hds (by omega))
       rw[hf]
       exact ab (.a 1 rfl<|.k [4] rfl)<|aq<|⟨_,_,aA.of rfl,aB.pure,rfl⟩
      ·have h7:r2=true:=by simpa using h7
       have hd2:Fz T M k x m (j+1)=true:=by rw[hds,h7];rfl
       refine dx [] (.c 2<|.c 3<|.c 5<|.c 7<|.c 8<|.c 9<|.nil) .nil rfl rfl ?_
       refine ai<|az (.a 1 rfl<|.v (aS rfl) rfl<|.a 1 rfl<|.k [2,3,5,7,8,9] rfl) ?_
       exact⟨N - (j+1),by omega,j+1,by omega,rfl,hd2,rfl⟩
    ·have hje:j=N:=by have:=ff h5;omega
     subst hje
     have hcv:vz T k x (m+1)=true:=by rw[hst,hA,hd]
     refine ba<|az (.a 1 rfl<|.v (aS rfl) rfl<|.a 1 rfl<|.k [2,3,5,7] rfl) ?_
     exact⟨2*T.ae.length - (m+1),by omega,m+1,by omega,rfl,hcv,rfl⟩
  ·have hme:m=2*T.ae.length:=by have:=ff h3;omega
   subst hme
   have hf:ts T k x=true:=by unfold ts;rw[hq0,hw];rfl
   rw[hf]
   exact ba<|ab (.a 1 rfl<|.k [4] rfl)<|aq<|⟨_,_,aA.of rfl,aB.pure,rfl⟩
end PW
end Go.Proofs.YtnegbdpggideiaaGreatDoor
namespace Go.Proofs.YtnegbdpggideiaaGreatDoor
namespace PW
open Go.RowKit Go.Shelf cH Mem Net fw
attribute [local go_sem] Oper.semAt_some
theorem yu(T:an)(k x:Int):Can Tryz.prog 65 [aN T,bW k x] (· =flag (ao T&&bZ T k x)):=by
 obtain⟨q1,hq1⟩:∃q,ao T=q:=⟨_,rfl⟩
 obtain⟨q2,hq2⟩:∃q,bZ T k x=q:=⟨_,rfl⟩
 rw[hq1,hq2]
 refine aE Tryz.func65 rfl Tryz.ntmps65 rfl<|ab (.a 3 rfl<|.k [2,3] rfl)<|bu 4 (.raw (.bool (q1&&q2))) [] rfl ?_ ?_
 ·refine .a 1 rfl<|.c rfl (hq1▸eC T) rfl<|.a 1 rfl<|?_
  cases q1
  ·exact .a 5 rfl<|.k [4] rfl
  ·exact .a 2 rfl<|.c rfl (hq2▸lW T k x) rfl<|.a 2 rfl<|.k [4] rfl
 exact aq<|⟨_,_,aA.of rfl,aB.pure,rfl⟩
end PW
end Go.Proofs.YtnegbdpggideiaaGreatDoor
namespace Go.Proofs.YtnegbdpggideiaaGreatDoor
namespace PW
open Go.RowKit cH Mem Net fw
abbrev Kl(p:Int×Int):Value:=.agg (pI p)
theorem oB{T:an}{k x:Int}{a:Nat}(ha:a<2*T.ae.length):aI (aC T k x) a=cD k x T.ae (a / 2):=by
 rw[←ed]
 unfold aC
 simp[ha]
def EJ(T:an)(k x:Int)(l:List ((Int×Int)×PV)):Prop:=∀c v,(c,v)∈l→v=flag (sA T k x c.1 c.2)
theorem EJ.pure{T:an}{k x:Int}{l:List ((Int×Int)×PV)}(h:EJ T k x l):aO ((gb Kl l).map (·.2)):=⟨fun i u hu=>by
 have hm:=List.mem_of_getElem? hu
 simp only[gb,List.map_map,List.mem_map]at hm
 obtain⟨a,ha,rfl⟩:=hm
 have:=h a.1 a.2 ha
 show IsPure a.2
 rw[this]
 infer_instance⟩
theorem EJ.set{T:an}{k x:Int}{l:List ((Int×Int)×PV)}(h:EJ T k x l)(c:Int×Int):EJ T k x (iF c (flag (sA T k x c.1 c.2)) l):=fun c' v hm=>by
 rcases sq hm with e|e
 ·cases e;rfl
 ·exact h c' v e
end PW
end Go.Proofs.YtnegbdpggideiaaGreatDoor
namespace Go.Proofs.YtnegbdpggideiaaGreatDoor
namespace PW
open Go.RowKit cH Mem Net fw
end PW
end Go.Proofs.YtnegbdpggideiaaGreatDoor
namespace Go.Proofs.YtnegbdpggideiaaGreatDoor
namespace PW
open Go.RowKit cH Mem Net fw
end PW
end Go.Proofs.YtnegbdpggideiaaGreatDoor
namespace Go.Proofs.YtnegbdpggideiaaGreatDoor
namespace PW
open Go.RowKit cH Mem Net fw
section
variable {T:an}
theorem Ch.last{D:List Bool}{d n:Nat}{p:List Int}(h:Ch T D d n p):n≠d→∃a,a<2*T.ae.length∧aI D a=false∧aW T a=(d:Int):=by
 induction h with
 |nil=>intro h;exact absurd rfl h
 | @cons n a m p h1 h2 h3 h4 _ _ ih=>
  intro _
  by_cases e:m=d
  ·subst e;exact⟨a,h1,h3,h4⟩
  ·exact ih e
theorem G5(a:Nat):(aZ T a=(cB T.ae (a / 2)).a∧aW T a=(cB T.ae (a / 2)).b)∨(aZ T a=(cB T.ae (a / 2)).b∧aW T a=(cB T.ae (a / 2)).a):=by
 unfold aW aZ Net.flip
 by_cases h:a % 2=0
 ·rw[if_pos h,if_pos h,if_neg (by omega),show(a+1) / 2=a / 2 by omega]
  exact .inl ⟨rfl,rfl⟩
 ·rw[if_neg h,if_neg h,if_pos (by omega),show(a - 1) / 2=a / 2 by omega]
  exact .inr ⟨rfl,rfl⟩
theorem Ku{x:Int}{i:Nat}:cD 1 x T.ae i=decide ((i:Int)=x):=by simp[cD]
theorem Ki{x:Int}{i:Nat}:cD 2 x T.ae i=(decide ((cB T.ae i).a=x)||decide ((cB T.ae i).b=x)):=by simp[cD]
end
end PW
end Go.Proofs.YtnegbdpggideiaaGreatDoor
namespace Go.Proofs.YtnegbdpggideiaaGreatDoor
namespace PW
open Go.RowKit cH Mem Net fw
section
variable {T:an} {M D:List Bool} {n d:Nat}
theorem pC{x:ef}{d:Nat}{e:iV}(h:x.eO[d]? =some e):dH x (d:Int)=e:=by
 unfold dH
 rw[Int.toNat_natCast]
 exact mQ _ _ _ h
theorem pF(hd:(d:Int)<T.nodes):dH (dK T D n) (d:Int)=⟨aX T D n d,false,[]⟩:=pC (FL (by omega))
theorem yK(hd:(d:Int)<T.nodes):dH (vH T D n) (d:Int)=i7 T D n d:=pC (vT (by omega))
theorem rD(hd:(d:Int)<T.nodes):dH (kV T M n) (d:Int)=gN T (dr T M n) n d:=pC (qN (by omega))
noncomputable def fy(T:an)(M:List Bool)(s:Int)(n:Nat):ef:=if s=0 then dK T [] n else if s=1 then kV T M n else if s=2 then vH T M n else dK T M n
theorem uZ{E:List Bool}{a:Nat}{l:List Int}(h:(a:Int)∈cr E l):aI E a=true:=by
 have:=(List.mem_filter.1 h).2
 rwa [Int.toNat_natCast]at this
theorem pQ(hv:ao T=true)(hn:(n:Int)<T.nodes){E:List Bool}(hf:bN T E=true)(hE:∀a,aI D a=false→aI E a=false):He T D n (dK T E n) where
 ok:=kE hv hn
 node:=rfl
 down:=fun a ha=>by
  have:=uZ ha
  cases h:aI D a with
  |true=>rfl
  |false=>rw[hE a h]at this;cases this
 JO:=fun y p hs=>by
  rw[pF hs.hy]
  exact⟨(hs.Ie hf hE).EA.2.1,fun h=>by cases h⟩
theorem oP(hv:ao T=true)(h12:T.nodes≤12)(hn:(n:Int)<T.nodes)(hf:bN T M=true)(hM:∀a,aI D a=false→aI M a=false)(s:Int):He T D n (fy T M s n):=by
  unfold fy
  split
  · exact pQ hv hn (fU T) (fun a _=>by simp[aI])
  · split
    · refine ⟨kl hv h12 hn, rfl, fun a ha => ?_, fun y p hs => ?_⟩
      · have:=uZ ha
        cases h:aI D a with
        |true=>rfl
        |false=>rw[hM a h]at this;cases this
      · rw[rD hs.hy]
        have h1:=hs.EA.1
        unfold gN
        have hno:ev (dr T M n) (aX T [] n y)=none:=by
          cases hh:ev (dr T M n) (aX T [] n y)with
          |none=>rfl
          |some a=>
            obtain⟨h2,h3⟩:=iw hh
            rw[h1,List.mem_singleton]at h2
            subst h2
            obtain⟨p0,pt,rfl⟩:∃p0 pt,p=p0::pt:=by
              cases p with
              |nil=>exact absurd hs.pos (by simp)
              |cons p0 pt=>exact⟨p0,pt,rfl⟩
            have h4:=hM _ (hs.up p0 (by simp))
            rw[lZ]at h3
            simp only[List.getD_cons_zero,Bool.and_eq_true]at h3
            rw[h4]at h3
            exact absurd h3.2.1 (by decide)
        rw[hno]
        exact⟨h1,fun h=>by cases h⟩
    · split
      · refine⟨pd hv h12 hn,rfl,fun a ha=>?_,fun y p hs=>?_⟩
        · have:=uZ ha
          cases h:aI D a with
          |true=>rfl
          |false=>rw[hM a h]at this;cases this
        · rw[yK hs.hy,(hs.Ie hf hM).EA.2.2]
          exact⟨rfl,fun _=>rfl⟩
      · exact pQ hv hn hf hM
theorem qi{D':List Bool}(hv:ao T=true)(hd:(d:Int)<T.nodes)(hD:∀a,aI D a=aI D' a):dN T D d n=dN T D' d n:=by
 unfold dN
 rw[tU hv hd false hD]
theorem kG{k x:Int}(hv:ao T=true)(hcv:ts T k x=true)(hn:(n:Int)<T.nodes)(hd:(d:Int)<T.nodes)(hg:¬(k=2∧x=(n:Int)))(hr:0≤dN T (aC T k x) d n){a:Nat}(xY:aI (dr T (aC T k x) n) a=true):
  (∀b,aI (lr T (dr T (aC T k x) n) n d a) b=false→aI (aC T k x) b=false)∧0≤dN T (lr T (dr T (aC T k x) n) n d a) d n∧∀b,aI (lr T (dr T (aC T k x) n) n d a) b=aI (aC T (cA T a d).1 (cA T a d).2) b:=by
 rw[lZ]at xY
 simp only[Bool.and_eq_true,decide_eq_true_eq]at xY
 obtain⟨ha,hdn,ht⟩:=xY
 have hrb:gh T (aC T k x) (n:Int) d=true:=(mA hv (db T k x) hn hd).2 hr
 have hw:sA T k x (cA T a d).1 (cA T a d).2=true:=by
  unfold ts vz at hcv
  have h1:=List.all_eq_true.1 (Bool.and_eq_true_iff.1 hcv).2 a (List.mem_range.2 ha)
  unfold Jd at h1
  rw[hdn,ht]at h1
  have h2:(decide (k=2)&&decide ((n:Int)=x))=false:=by
   rw[Bool.eq_false_iff]
   intro h
   obtain⟨h3,h4⟩:=Bool.and_eq_true_iff.1 h
   exact hg ⟨of_decide_eq_true h3,(of_decide_eq_true h4).symm⟩
  rw[h2]at h1
  have h3:Fz T (aC T k x) k x a T.nodes.toNat=true:=h1
  unfold Fz at h3
  have h4:=List.all_eq_true.1 h3 d (List.mem_range.2 (by omega))
  rw[ht,hrb]at h4
  exact h4
 have hin:∀b,aI (aC T k x) b=true→aI (aC T (cA T a d).1 (cA T a d).2) b=true:=fun b hb=>by
  have hbl:b<2*T.ae.length:=by
   rcases Nat.lt_or_ge b (2*T.ae.length)with h|h
   ·exact h
   ·rw[←ed,List.getD_eq_getElem?_getD,List.getElem?_eq_none (by rw[ez];omega)]at hb
    cases hb
  rw[oB hbl]at hb ⊢
  unfold sA sa at hw
  have:=List.all_eq_true.1 hw b (List.mem_range.2 hbl)
  rw[hb]at this
  simpa using this
 have hrm:gh T (aC T (cA T a d).1 (cA T a d).2) (n:Int) d=true:=by
  have hF:=ht
  unfold cA
  split
  ·rename_i h;rw[ht]at h;exact(Bool.and_eq_true_iff.1 h).2
  ·split
   ·rename_i h;rw[ht]at h;exact(Bool.and_eq_true_iff.1 h).2
   ·rename_i h1 h2
    have he:cA T a d=(1,((a / 2:Nat):Int)):=by unfold cA;rw[if_neg h1,if_neg h2]
    rw[he]at hin
    rw[mA hv (db T _ _) hn hd]
    rw[←qi (D:=aC T k x) hv hd (fun b=>?_)]
    ·exact hr
    ·cases hb:aI (aC T k x) b with
     |true=>exact(hin b hb).symm
     |false=>
      symm
      by_cases hbl:b<2*T.ae.length
      ·rw[oB hbl]at hb ⊢
       rw[Ku]
       refine decide_eq_false fun e=>?_
       have e:b / 2=a / 2:=by omega
       rw[oB ha,←e,hb]at hdn
       cases hdn
      ·rw[←ed,List.getD_eq_getElem?_getD,List.getElem?_eq_none (by rw[ez];omega)]
       rfl
 have heq:∀b,aI (orM T (aC T (cA T a d).1 (cA T a d).2) (dr T (aC T k x) n)) b=aI (aC T (cA T a d).1 (cA T a d).2) b:=fun b=>by
  rw[FQ]
  by_cases hbl:b<2*T.ae.length
  ·rw[decide_eq_true hbl,Bool.true_and,lZ,decide_eq_true hbl,Bool.true_and]
   cases h1:aI (aC T (cA T a d).1 (cA T a d).2) b with
   |true=>rfl
   |false=>
    cases h2:aI (aC T k x) b with
    |true=>rw[hin b h2]at h1;cases h1
    |false=>rfl
  ·rw[decide_eq_false hbl,Bool.false_and,←ed,List.getD_eq_getElem?_getD,List.getElem?_eq_none (by rw[ez];omega)]
   rfl
 have hro:gh T (orM T (aC T (cA T a d).1 (cA T a d).2) (dr T (aC T k x) n)) (n:Int) d=true:=by
  rw[mA hv (u9 T _ _) hn hd,qi hv hd heq,←mA hv (db T _ _) hn hd]
  exact hrm
 have hmix:lr T (dr T (aC T k x) n) n d a=orM T (aC T (cA T a d).1 (cA T a d).2) (dr T (aC T k x) n):=by
  unfold lr
  rw[if_pos hro]
 rw[hmix]
 refine⟨fun b hb=>?_,(mA hv (u9 T _ _) hn hd).1 hro,heq⟩
 rw[heq]at hb
 cases h:aI (aC T k x) b with
 |false=>rfl
 |true=>rw[hin b h]at hb;cases hb
end
end PW
end Go.Proofs.YtnegbdpggideiaaGreatDoor
namespace Go.Proofs.YtnegbdpggideiaaGreatDoor
namespace PW
open Go.RowKit cH Mem Net fw
section
variable {T:an} {k x:Int} {d:Nat}
def Gn(k x:Int)(n:Nat):Prop:=k=2∧x=(n:Int)
structure Open (T:an) (k x:Int) (d n:Nat) (s:List ca):Prop where
 nil:s=[]
 node:(n:Int)<T.nodes
 here:¬Gn k x n
 reach:0≤dN T (aC T k x) d n
structure fL (T:an) (k x:Int) (d n:Nat) (s:List ca) (q:List Int):Prop where
 Dt:∃D,(∀a,aI D a=false→aI (aC T k x) a=false)∧sD T D d n (fB ⟨1,(n:Int)⟩ s) q
 node:(n:Int)<T.nodes
 here:¬Gn k x n
 len:s.length≤32
theorem qm{a m:Nat}(ha:a<2*T.ae.length)(hu:aI (aC T k x) a=false)(hm:aW T a=(m:Int)):¬Gn k x m:=by
 rintro⟨rfl,rfl⟩
 rw[oB ha,Ki,Bool.or_eq_false_iff,decide_eq_false_iff_not,decide_eq_false_iff_not]at hu
 rcases G5 (T:=T) a with h|h
 ·exact hu.2 (h.2.symm.trans hm)
 ·exact hu.1 (h.2.symm.trans hm)
theorem qz(hv:ao T=true){a m:Nat}(ha:a<2*T.ae.length)(hm:aW T a=(m:Int)):(m:Int)<T.nodes:=by rw[←hm];exact((aM hv).head a ha).2
structure sK (T:an) (k x:Int) (n:Nat) (a:Int) (b m:Nat):Prop where
 eq:a=(b:Int)
 eU:b<2*T.ae.length
 tail:aZ T b=(n:Int)
 head:aW T b=(m:Int)
 up:aI (aC T k x) b=false
theorem fC(hv:ao T=true)(h12:T.nodes≤12)(hd:(d:Int)<T.nodes){n:Nat}{s:List ca}{a:Int}{q:List Int}(h:fL T k x d n s (a::q))(st:Int){p:fu}(hp:p.dst=(d:Int))(hh:p.fJ=0)(hs:p.stack=s):
  ∃(b m:Nat) (s':List ca),sK T k x n a b m∧dy T (fy T (aC T k x) st n) p=cj p s' [a]∧fL T k x d m s' q:=by
 obtain⟨D,hD,hl⟩:=h.Dt
 subst hs
 obtain⟨m,s',h1,h2,h3,h4,h5,h6,h7,h8⟩:=Bq (oP hv h12 h.node (db T k x) hD st) hd hp hh rfl hl h.len
 obtain⟨b,rfl⟩:=Int.eq_ofNat_of_zero_le h2
 rw[Int.toNat_natCast]at h1 h3 h4 h5
 have hup:=hD b h5
 exact⟨b,m,s',⟨rfl,h3,h4,h1,hup⟩,h6,⟨D,hD,h8⟩,qz hv h3 h1,qm h3 hup h1,Nat.le_trans h7 h.len⟩
theorem gd(hv:ao T=true)(h12:T.nodes≤12)(hd:(d:Int)<T.nodes){n:Nat}{s:List ca}(h:fL T k x d n s [])(st:Int){p:fu}(hp:p.dst=(d:Int))(hs:p.stack=s):
  n=d∧(dy T (fy T (aC T k x) st n) p).aK=[]∧(dy T (fy T (aC T k x) st n) p).dT= -1:=by
 obtain⟨D,hD,hl⟩:=h.Dt
 subst hs
 obtain⟨e1,e2⟩:=hl.end_
 exact⟨e2,pS (oP hv h12 h.node (db T k x) hD st) hd hp e2 e1 h.len⟩
theorem Ep(hv:ao T=true)(h12:T.nodes≤12)(hd:(d:Int)<T.nodes){s:List ca}(h:Open T k x d d s)(st:Int){p:fu}(hp:p.dst=(d:Int))(hs:p.stack=s):
  (dy T (fy T (aC T k x) st d) p).aK=[]∧(dy T (fy T (aC T k x) st d) p).dT= -1:=by
 have hn:=h.nil
 subst hs
 exact pS (oP (D:=aC T k x) hv h12 h.node (db T k x) (fun _ h=>h) st) hd hp rfl (by rw[hn];rfl) (by rw[hn];simp)
theorem jo(hv:ao T=true)(h12:T.nodes≤12)(hd:(d:Int)<T.nodes){n:Nat}(hn:(n:Int)<T.nodes)(hne:n≠d){D:List Bool}(hf:bN T D=true)(hD:∀a,aI D a=false→aI (aC T k x) a=false)(hr:0≤dN T D d n){t:ef}(hok:dM T t=true)(htn:t.node=(n:Int))(he:dH t (d:Int)=i7 T D n d){p:fu}(hp:p.dst=(d:Int))(hh:p.fJ=0)(hs:p.stack=[]):
  ∃(b m:Nat) (s':List ca) (q:List Int),bY T D n d=(b:Int)::q∧sK T k x n b b m∧dy T t p=cj p s' [(b:Int)]∧fL T k x d m s' q∧(q.length:Int)+1<T.nodes:=by
 have hsp:fM T D (n:Int) d=0:=by rw[iv hv hf hn hd,if_neg (by omega)]
 obtain⟨n',d',e1,e2,hP⟩:=o9 hsp (by omega)
 have e1:n=n':=by omega
 have e2:d=d':=by omega
 subst e1;subst e2
 have hent:=mD hP
 obtain⟨b,m,q,h1,h2,h3,h4,h5,h6⟩:=hP.enter
 have hpush:=vR T D (n:Int) d h12
 have hup:=hD b h4
 rw[h1]at hent
 rw[List.getD_cons_zero]at hent
 have hst:=td hok htn hd hne hp hh (by rw[hs];rfl) (by rw[hs];simp) (by rw[he,hent];simp) (by rw[he];exact hpush)
 rw[he,hent,if_pos rfl]at hst
 rw[hent]at hpush
 rw[h1]at h6
 have hlen:=hP.len
 rw[h1,List.length_cons]at hlen
 exact⟨b,m,_,q,h1,⟨rfl,h2,h3,h5,hup⟩,hst,⟨⟨D,hD,h6⟩,qz hv h2 h5,qm h2 hup h5,hpush⟩,by omega⟩
theorem pK(hv:ao T=true)(hd:(d:Int)<T.nodes){n:Nat}(hn:(n:Int)<T.nodes)(hne:n≠d){E:List Bool}(hr:0≤dN T E d n){t:ef}(hok:dM T t=true)(htn:t.node=(n:Int))(he:dH t (d:Int)=⟨aX T E n d,false,[]⟩){p:fu}(hp:p.dst=(d:Int))(hh:p.fJ=0)(hs:p.stack=[]):
  aX T E n d≠[]∧dy T t p=cj p [] (aX T E n d):=by
 obtain⟨j,hj⟩:=jQ (D:=E) hv hn hd hne hr
 have hm:=fk hj ((aM hv).cost j hj.eU).1
 have hpos:0<(aX T E n d).length:=List.length_pos_of_mem hm
 have hst:=td hok htn hd hne hp hh (by rw[hs];rfl) (by rw[hs];simp) (by rw[he];exact hpos) (by rw[he];simp)
 rw[he]at hst
 exact⟨fun e=>by rw[e]at hpos;exact absurd hpos (by simp),hst⟩
theorem yr(hv:ao T=true)(h12:T.nodes≤12)(hd:(d:Int)<T.nodes)(hcv:ts T k x=true)(hsafe:∀m:Nat,(m:Int)<T.nodes→¬Gn k x m→0≤dN T [] d m→0≤dN T (aC T k x) d m)
  {n:Nat} {s:List ca} (h:Open T k x d n s) (hne:n≠d) {st:Int} (hst:st=0∨st=1∨st=2) (hold:st=0→∀a,a<2*T.ae.length→aZ T a=(n:Int)→aI (aC T k x) a=false) {p:fu} (hp:p.dst=(d:Int)) (hh:p.fJ=0) (hs:p.stack=s):
  ∃aK s',dy T (fy T (aC T k x) st n) p=cj p s' aK∧aK≠[]∧∀a∈aK,∃b m:Nat,sK T k x n a b m∧((st≠2∧Open T k x d m s'∧dN T [] d n=dN T [] d m+cb T b∧0≤dN T [] d m)∨∃q,fL T k x d m s' q∧(q.length:Int)+1<T.nodes):=by
 have hnil:=h.nil
 subst hnil
 have hbare:0≤dN T [] d n:=Fi hv h.node hd (fun a ha hu=>by simp[aI]) h.reach
 have hout:∀(t:ef),dM T t=true→t.node=(n:Int)→dH t (d:Int)=⟨aX T [] n d,false,[]⟩→(∀a∈aX T [] n d,aI (aC T k x) a.toNat=false)→st≠2→
   ∃aK s',dy T t p=cj p s' aK∧aK≠[]∧∀a∈aK,∃b m:Nat,sK T k x n a b m∧((st≠2∧Open T k x d m s'∧dN T [] d n=dN T [] d m+cb T b∧0≤dN T [] d m)∨∃q,fL T k x d m s' q∧(q.length:Int)+1<T.nodes):=fun t h1 h2 h3 h4 h5=>by
  obtain⟨e1,e2⟩:=pK hv hd h.node hne hbare h1 h2 h3 hp hh hs
  refine⟨_,_,e2,e1,fun a ha=>?_⟩
  obtain⟨b,rfl,hb⟩:=cL ha
  have hup:=h4 _ ha
  rw[Int.toNat_natCast]at hup
  obtain⟨m,hm⟩:=Int.eq_ofNat_of_zero_le ((aM hv).head b hb.eU).1
  obtain⟨c1,c2⟩:=hb.dN hm
  have hml:=qz hv hb.eU hm
  have hmh:=qm hb.eU hup hm
  exact⟨b,m,⟨rfl,hb.eU,hb.tail,hm,hup⟩,.inl ⟨h5,⟨rfl,hml,hmh,hsafe m hml hmh c1⟩,c2,c1⟩⟩
 rcases hst with rfl|rfl|rfl
 ·have ht:fy T (aC T k x) 0 n=dK T [] n:=by unfold fy;rw[if_pos rfl]
  rw[ht]
  exact hout _ (kE hv h.node) rfl (pF hd) (fun a ha=>by
   obtain⟨b,rfl,hb⟩:=cL ha
   rw[Int.toNat_natCast]
   exact hold rfl b hb.eU hb.tail) (by decide)
 ·have ht:fy T (aC T k x) 1 n=kV T (aC T k x) n:=by unfold fy;rw[if_neg (by decide),if_pos rfl]
  rw[ht]
  cases hh2:ev (dr T (aC T k x) n) (aX T [] n d)with
  |none=>
   have he:gN T (dr T (aC T k x) n) n d=⟨aX T [] n d,false,[]⟩:=by unfold gN;rw[hh2]
   refine hout _ (kl hv h12 h.node) rfl (by rw[rD hd,he]) (fun a ha=>?_) (by decide)
   obtain⟨b,rfl,hb⟩:=cL ha
   have h1:=Ek hh2 _ ha
   rw[lZ,Int.toNat_natCast,decide_eq_true hb.eU,Bool.true_and,hb.tail,decide_eq_true rfl,Bool.and_true]at h1
   rw[Int.toNat_natCast]
   exact h1
  |some a=>
   obtain⟨h1,h2⟩:=iw hh2
   obtain⟨c1,c2,_⟩:=kG hv hcv h.node hd h.here h.reach h2
   have he:gN T (dr T (aC T k x) n) n d=i7 T (lr T (dr T (aC T k x) n) n d a.toNat) n d:=by unfold gN;rw[hh2]
   obtain⟨b,m,s',q,e1,e2,e3,e4⟩:=jo hv h12 hd h.node hne (ke (nZ T _ _) _) c1 c2 (kl hv h12 h.node) rfl (by rw[rD hd,he]) hp hh hs
   exact⟨_,_,e3,by simp,fun a ha=>by
    rw[List.mem_singleton]at ha
    subst ha
    exact⟨b,m,e2,.inr ⟨q,e4⟩⟩⟩
 ·have ht:fy T (aC T k x) 2 n=vH T (aC T k x) n:=by unfold fy;rw[if_neg (by decide),if_neg (by decide),if_pos rfl]
  rw[ht]
  obtain⟨b,m,s',q,e1,e2,e3,e4⟩:=jo hv h12 hd h.node hne (db T k x) (fun _ h=>h) h.reach (pd hv h12 h.node) rfl (yK hd) hp hh hs
  exact⟨_,_,e3,by simp,fun a ha=>by
   rw[List.mem_singleton]at ha
   subst ha
   exact⟨b,m,e2,.inr ⟨q,e4⟩⟩⟩
theorem BF(hv:ao T=true)(h12:T.nodes≤12)(hd:(d:Int)<T.nodes){n:Nat}{s:List ca}(h:Open T k x d n s)(hne:n≠d){st:Int}(hst:st≠0∧st≠1){p:fu}(hp:p.dst=(d:Int))(hh:p.fJ=0)(hs:p.stack=s):
  ∃aK s',dy T (fy T (aC T k x) st n) p=cj p s' aK∧aK≠[]∧∀a∈aK,∃b m:Nat,sK T k x n a b m∧((st≠2∧Open T k x d m s'∧dN T (aC T k x) d n=dN T (aC T k x) d m+cb T b)∨(st=2∧∃q,bY T (aC T k x) n d=a::q∧aK=[a]∧fL T k x d m s' q∧(q.length:Int)+1<T.nodes)):=by
 have hnil:=h.nil
 subst hnil
 by_cases h2:st=2
 ·subst h2
  have ht:fy T (aC T k x) 2 n=vH T (aC T k x) n:=by unfold fy;rw[if_neg (by decide),if_neg (by decide),if_pos rfl]
  rw[ht]
  obtain⟨b,m,s',q,e1,e2,e3,e4⟩:=jo hv h12 hd h.node hne (db T k x) (fun _ h=>h) h.reach (pd hv h12 h.node) rfl (yK hd) hp hh hs
  exact⟨_,_,e3,by simp,fun a ha=>by
   rw[List.mem_singleton]at ha
   subst ha
   exact⟨b,m,e2,.inr ⟨rfl,q,e1,rfl,e4⟩⟩⟩
 ·have ht:fy T (aC T k x) st n=dK T (aC T k x) n:=by unfold fy;rw[if_neg hst.1,if_neg hst.2,if_neg h2]
  rw[ht]
  obtain⟨e1,e2⟩:=pK hv hd h.node hne h.reach (kE hv h.node) rfl (pF hd) hp hh hs
  refine⟨_,_,e2,e1,fun a ha=>?_⟩
  obtain⟨b,rfl,hb⟩:=cL ha
  obtain⟨m,hm⟩:=Int.eq_ofNat_of_zero_le ((aM hv).head b hb.eU).1
  obtain⟨c1,c2⟩:=hb.dN hm
  exact⟨b,m,⟨rfl,hb.eU,hb.tail,hm,hb.up⟩,.inl ⟨h2,⟨rfl,qz hv hb.eU hm,qm hb.eU hb.up hm,c1⟩,c2⟩⟩
end
end PW
end Go.Proofs.YtnegbdpggideiaaGreatDoor
namespace Go.Proofs.YtnegbdpggideiaaGreatDoor
namespace PW
open Go.RowKit cH Mem Net fw
section
variable {T:an} {k x:Int} {d:Nat}
noncomputable def kb(T:an)(D:List Bool)(d n:Nat):Nat:=((List.range T.nodes.toNat).filter fun m=>decide (0≤dN T D d m)&&decide (dN T D d m<dN T D d n)).length
theorem vp{D:List Bool}{n:Nat}(hn:(n:Int)<T.nodes):kb T D d n<T.nodes.toNat:=by
 unfold kb
 have h:((List.range T.nodes.toNat).filter fun m=>decide (0≤dN T D d m)&&decide (dN T D d m<dN T D d n)).length<(List.range T.nodes.toNat).length:=by
  refine List.length_filter_lt_length_iff_exists.2 ⟨n,List.mem_range.2 (by omega),?_⟩
  simp
 simpa using h
theorem filter_lt{α:Type}{p q:α→Bool}{l:List α}{a:α}(hpq:∀b∈l,p b=true→q b=true)(ha:a∈l)(hp:p a=false)(hq:q a=true):(l.filter p).length<(l.filter q).length:=by
 have e:l.filter p=(l.filter q).filter p:=by
  rw[List.filter_filter]
  refine List.filter_congr fun b hb=>?_
  cases h:p b with
  |false=>simp
  |true=>simp[hpq b hb h]
 rw[e]
 exact List.length_filter_lt_length_iff_exists.2 ⟨a,List.mem_filter.2 ⟨ha,hq⟩,by rw[hp];simp⟩
theorem wP{D:List Bool}{n m:Nat}(hm:(m:Int)<T.nodes)(h0:0≤dN T D d m)(h:dN T D d m<dN T D d n):kb T D d m<kb T D d n:=by
 unfold kb
 refine filter_lt (a:=m) (fun b _ hb=>?_) (List.mem_range.2 (by omega)) (by simp) (by simp[h0,h])
 simp only[Bool.and_eq_true,decide_eq_true_eq]at hb ⊢
 exact⟨hb.1,by omega⟩
def Way(T:an)(k x:Int)(d:Nat)(late:Bool)(n:Nat)(s:List ca)(u:Nat):Prop:=
 (Open T k x d n s∧u=if late then T.nodes.toNat+kb T (aC T k x) d n else 2*T.nodes.toNat+kb T [] d n)∨∃q,fL T k x d n s q∧u=q.length∧q.length<T.nodes.toNat
def Perm(T:an)(k x:Int)(late:Bool)(st:Nat→Int):Prop:=
 ∀n:Nat,(n:Int)<T.nodes→¬Gn k x n→if late then st n≠0∧st n≠1 else(st n=0∨st n=1∨st n=2)∧(st n=0→∀a,a<2*T.ae.length→aZ T a=(n:Int)→aI (aC T k x) a=false)
theorem Way.on{n:Nat}{s:List ca}{u:Nat}(h:Way T k x d false n s u):∃u',u'≤u∧Way T k x d true n s u':=by
 rcases h with⟨h,rfl⟩|⟨q,h,rfl,hl⟩
 ·have h1:=vp (D:=aC T k x) (d:=d) h.node
  refine⟨T.nodes.toNat+kb T (aC T k x) d n,?_,.inl ⟨h,?_⟩⟩
  ·rw[if_neg (by simp)];omega
  ·rw[if_pos rfl]
 ·exact⟨_,Nat.le_refl _,.inr ⟨q,h,rfl,hl⟩⟩
theorem wI(hv:ao T=true)(h12:T.nodes≤12)(hd:(d:Int)<T.nodes){late:Bool}(hcv:late=false→ts T k x=true)(hsafe:late=false→∀m:Nat,(m:Int)<T.nodes→¬Gn k x m→0≤dN T [] d m→0≤dN T (aC T k x) d m)
  {st:Nat→Int} (hp:Perm T k x late st) {n:Nat} {s:List ca} {u:Nat} (h:Way T k x d late n s u) {p:fu} (hpd:p.dst=(d:Int)) (hh:p.fJ=0) (hs:p.stack=s):
  (n=d∧(dy T (fy T (aC T k x) (st n) n) p).aK=[]∧(dy T (fy T (aC T k x) (st n) n) p).dT= -1)∨
  ∃aK s',dy T (fy T (aC T k x) (st n) n) p=cj p s' aK∧aK≠[]∧∀a∈aK,∃b m:Nat,sK T k x n a b m∧∃u',u'<u∧Way T k x d late m s' u':=by
 have hS:=aM hv
 rcases h with⟨h,rfl⟩|⟨q,h,rfl,hl⟩
 ·by_cases hne:n=d
  ·subst hne
   exact .inl ⟨rfl,Ep hv h12 hd h (st n) hpd hs⟩
  ·refine .inr ?_
   have hpn:=hp n h.node h.here
   cases late with
   |true=>
    rw[if_pos rfl]at hpn
    obtain⟨aK,s',e1,e2,e3⟩:=BF hv h12 hd h hne hpn hpd hh hs
    refine⟨aK,s',e1,e2,fun a ha=>?_⟩
    obtain⟨b,m,g,hc⟩:=e3 a ha
    refine⟨b,m,g,?_⟩
    rcases hc with⟨_,ho,hdist⟩|⟨_,q,_,_,hL,hq⟩
    ·have hc1:=hS.cost b g.eU
     have:=wP (d:=d) (n:=n) ho.node ho.reach (by omega)
     exact⟨_,by rw[if_pos rfl,if_pos rfl];omega,.inl ⟨ho,rfl⟩⟩
    ·exact⟨q.length,by rw[if_pos rfl];omega,.inr ⟨q,hL,rfl,by omega⟩⟩
   |false=>
    rw[if_neg (by simp)]at hpn
    obtain⟨aK,s',e1,e2,e3⟩:=yr hv h12 hd (hcv rfl) (hsafe rfl) h hne hpn.1 hpn.2 hpd hh hs
    refine⟨aK,s',e1,e2,fun a ha=>?_⟩
    obtain⟨b,m,g,hc⟩:=e3 a ha
    refine⟨b,m,g,?_⟩
    rcases hc with⟨_,ho,hdist,h0⟩|⟨q,hL,hq⟩
    ·have hc1:=hS.cost b g.eU
     have:=wP (D:=[]) (d:=d) (n:=n) ho.node h0 (by omega)
     exact⟨_,by rw[if_neg (by simp),if_neg (by simp)];omega,.inl ⟨ho,rfl⟩⟩
    ·exact⟨q.length,by rw[if_neg (by simp)];omega,.inr ⟨q,hL,rfl,by omega⟩⟩
 ·cases q with
  |nil=>exact .inl (gd hv h12 hd h (st n) hpd hs)
  |cons a q=>
   obtain⟨b,m,s',g,e1,e2⟩:=fC hv h12 hd h (st n) hpd hh hs
   refine .inr ⟨[a],s',e1,by simp,fun c hc=>?_⟩
   rw[List.mem_singleton]at hc
   subst hc
   simp only[List.length_cons]at hl ⊢
   exact⟨b,m,g,q.length,by omega,.inr ⟨q,e2,rfl,by omega⟩⟩
end
end PW
end Go.Proofs.YtnegbdpggideiaaGreatDoor
namespace Go.Proofs.YtnegbdpggideiaaGreatDoor
namespace PW
open Go.RowKit cH Mem Net fw
def de(p:fu)(s:List ca):fu:=⟨p.id,p.src,p.dst,p.rR,s,0⟩
inductive Br (T:an) (tb:Nat→ef) (p0:fu):Nat→List ca→List Int→Nat→Int→Prop
 |stop {n:Nat} {s:List ca}:(dy T (tb n) (de p0 s)).aK=[]→Br T tb p0 n s [] n (dy T (tb n) (de p0 s)).dT
 |go {n m e:Nat} {s:List ca} {a:Int} {p:List Int} {w:Int}:a∈(dy T (tb n) (de p0 s)).aK→aW T a.toNat=(m:Int)→Br T tb p0 m (dy T (tb n) (de p0 s)).fH.stack p e w→Br T tb p0 n s (a::p) e w
section
variable {T:an} {k x:Int} {d:Nat} {st:Nat→Int} {p0:fu}
noncomputable def nm(T:an)(M:List Bool)(st:Nat→Int)(n:Nat):ef:=fy T M (st n) n
theorem Bb(hv:ao T=true)(h12:T.nodes≤12)(hd:(d:Int)<T.nodes)(hp0:p0.dst=(d:Int)){n e:Nat}{s:List ca}{p:List Int}{w:Int}(hb:Br T (nm T (aC T k x) st) p0 n s p e w):∀ {q:List Int},fL T k x d n s q→p=q∧e=d∧w= -1∧∀a∈p,aI (aC T k x) a.toNat=false:=by
 induction hb with
 | @stop n s h0=>
  intro q h
  cases q with
  |nil=>
   obtain⟨e1,e2,e3⟩:=gd hv h12 hd h (st n) (p:=de p0 s) hp0 rfl
   exact⟨rfl,e1,e3,fun a ha=>by cases ha⟩
  |cons a q=>
   obtain⟨b,m,s',g,e1,e2⟩:=fC hv h12 hd h (st n) (p:=de p0 s) hp0 rfl rfl
   rw[show nm T (aC T k x) st n=fy T (aC T k x) (st n) n from rfl,e1]at h0
   cases h0
 | @go n m e s a p w ha hm hr ih=>
  intro q h
  cases q with
  |nil=>
   obtain⟨e1,e2,e3⟩:=gd hv h12 hd h (st n) (p:=de p0 s) hp0 rfl
   rw[show nm T (aC T k x) st n=fy T (aC T k x) (st n) n from rfl,e2]at ha
   cases ha
  |cons c q=>
   obtain⟨b,m',s',g,e1,e2⟩:=fC hv h12 hd h (st n) (p:=de p0 s) hp0 rfl rfl
   rw[show nm T (aC T k x) st n=fy T (aC T k x) (st n) n from rfl,e1]at ha ih
   have ha:a∈[c]:=ha
   rw[List.mem_singleton]at ha
   subst ha
   have hmm:m=m':=by
    have h1:=g.head
    rw[g.eq,Int.toNat_natCast,h1]at hm
    omega
   subst hmm
   obtain⟨i1,i2,i3,i4⟩:=ih e2
   refine⟨by rw[i1],i2,i3,fun c hc=>?_⟩
   rcases List.mem_cons.1 hc with rfl|hc
   ·rw[g.eq,Int.toNat_natCast];exact g.up
   ·exact i4 c hc
end
end PW
end Go.Proofs.YtnegbdpggideiaaGreatDoor
