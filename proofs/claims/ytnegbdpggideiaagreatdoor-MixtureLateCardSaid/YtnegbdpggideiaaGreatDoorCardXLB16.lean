/- MixtureLate returns true for every input: once all nodes are in the states Transition and Final, every path to a destination that can be reached costs the distance after the failure. Package-level tables start as the program's text lays them. -/
import Derived.Test.YtnegbdpggideiaaGreatDoorCardXLB15
set_option linter.unusedVariables false
set_option linter.unusedSimpArgs false
set_option maxRecDepth 10000
set_option maxHeartbeats 1000000
namespace Go.Proofs.YtnegbdpggideiaaGreatDoor
namespace PW
section
open Go.RowKit cE Mem Net eY
theorem cj.Kn{P:Program}{σ σ':cc}{t:cg}{o:Oper}{k e s n:Nat}{xs:List PV}(h:cj P σ t o (.own k) σ')(hk:σ'[k]? =some (some (.row e s n xs))):cj P σ t o (.slice n xs) (σ'.set k none):=by
 intro F base E ρ w h1 h2 h3
 obtain⟨v,w',E',hr,a1,a2,a3,a4⟩:=h F base E ρ w h1 h2 h3
 obtain⟨g1,g2⟩:=a1.kill k hk
 exact⟨v,w',E'.kill k,hr,g1,a2.trans g2,a3,a1.seal hk a4⟩
theorem ze:∀(cs:List Int) (b:Int),b≤1001→(∀c∈cs,0≤c)→b≤cs.foldl (fun a c=>min (a+c) 1001) b
 | [],b,_,_=>Int.le_refl _
 |c::cs,b,h,h3=>by
  have:=h3 c (by simp)
  have h4:=ze cs (min (b+c) 1001) (show min (b+c) 1001≤1001 by omega) (fun x hx=>h3 x (by simp[hx]))
  exact Int.le_trans (show b≤min (b+c) 1001 by omega) h4
theorem D5(cs:List Int):sJ cs≤1001:=by
 unfold sJ
 suffices h:∀(cs:List Int) (b:Int),b≤1001→cs.foldl (fun a c=>min (a+c) 1001) b≤1001 from h cs 0 (by omega)
 intro cs
 induction cs with
 |nil=>intro b hb;exact hb
 |cons c cs ih=>intro b _;exact ih (min (b+c) 1001) (show min (b+c) 1001≤1001 by omega)
theorem Ac(cs ds:List Int)(h:∀c∈ds,0≤c):sJ cs≤sJ (cs++ds):=by
 have:sJ (cs++ds)=ds.foldl (fun a c=>min (a+c) 1001) (sJ cs):=by unfold sJ;rw[List.foldl_append]
 rw[this]
 exact ze ds _ (D5 cs) h
theorem FR{α:Type}{cs:List Int}(h0:∀c∈cs,0≤c)(h:sJ cs≤1000){f:Nat→List α}(hf:∀k,k<cs.length→cs.getD k 0≤1000→((f k).length:Int)=cs.getD k 0):
  ∀k,k≤cs.length→(((List.range k).flatMap f).length:Int)=sJ (cs.take k)∧(k<cs.length→cs.getD k 0≤1000):=by
 intro k
 have key:∀k,k<cs.length→sJ (cs.take (k+1))=sJ (cs.take k)+cs.getD k 0∧cs.getD k 0≤1000:=fun k hk=>by
  have h1:cs.take (k+1)=cs.take k++[cs.getD k 0]:=by
   rw[List.take_add_one,List.getD_eq_getElem?_getD,List.getElem?_eq_getElem hk];rfl
  have h2:=mc (cs.take k) (cs.getD k 0)
  have h3:sJ (cs.take (k+1))≤sJ cs:=by
   have:=Ac (cs.take (k+1)) (cs.drop (k+1)) (fun c hc=>h0 c (List.mem_of_mem_drop hc))
   rwa [List.take_append_drop]at this
  have h4:0≤sJ (cs.take k):=by
   have:=Ac [] (cs.take k) (fun c hc=>h0 c (List.mem_of_mem_take hc))
   simpa[sJ]using this
  rw[h1,h2]
  rw[h1,h2]at h3
  constructor<;>omega
 induction k with
 |zero=>intro _;exact⟨rfl,fun hk=>(key 0 hk).2⟩
 |succ k ih=>
  intro hk
  obtain⟨h1,h2⟩:=ih (by omega)
  refine⟨?_,fun hk'=>(key _ hk').2⟩
  rw[List.range_succ,List.flatMap_append,List.length_append,(key k (by omega)).1,←h1,←hf k (by omega) (h2 (by omega))]
  simp
theorem EZ{α:Type}[Inhabited α]{P:Nat→α→Prop}{n:Nat}(h:∀k,k<n→∃a,P k a):∃f:Nat→α,∀k,k<n→P k (f k):=
 ⟨fun k=>if h':k<n then Classical.choose (h k h') else default,fun k hk=>by show P k (if h':k<n then Classical.choose (h k h') else default);rw[dif_pos hk];exact Classical.choose_spec (h k hk)⟩
structure Rz where
 n:Int
 cT:Int
 path:List Int
def sE(z:Rz):List PV:=[num z.n,num z.cT,au z.path]
def mq(l:List Rz):List PV:=l.flatMap sE
def nq(l:List Rz):PV:=.slice l.length (mq l)
instance (z:Rz):aL (sE z):=by unfold sE;infer_instance
instance (z:Rz):dz (sE z):=by unfold sE;infer_instance
instance (l:List Rz):aL (mq l):=aL.flatMap _ _ fun _=>inferInstance
instance (l:List Rz):dz (mq l):=dz.flatMap _ _ fun _=>inferInstance
instance (l:List Rz):IsPure (nq l):=by unfold nq;infer_instance
theorem BO(l:List Rz):(mq l).length=l.length*3:=sj sE 3 (fun _=>rfl) l
section
variable {T:an} {tb:Nat→de} {p0:dv} {Φ:Nat→Nat→List bU→Prop}
def Jt(T:an)(tbs:List de)(p0:dv)(M:List Sq):PV:=.bc (bC T++[eG tbs,.slice M.length (gO p0 M)]) 0
def DR(T:an)(tb:Nat→de)(p0:dv)(M:List Sq):Prop:=∀(k:Nat) q,M[k]? =some q→∃js c t,q=⟨q.n,q.s,au (bK T tb p0 q.n q.s).ax,au js,(bK T tb p0 q.n q.s).cT,c,t⟩∧js.length=(bK T tb p0 q.n q.s).ax.length∧
 ∀(m:Nat) a,(bK T tb p0 q.n q.s).ax[m]? =some a→∃jm:Nat,js[m]? =some (jm:Int)∧At M jm (aS T a.toNat).toNat (bK T tb p0 q.n q.s).ev.stack
theorem sr:∀ {M:List Sq},(∀q∈M,aL (kG p0 q))→aL (gO p0 M)
 | [],_=>by unfold gO;exact⟨fun i x h=>by simp at h⟩
 |q::M,h=>by
  haveI:=h q (by simp)
  haveI:=sr (M:=M) (fun q hq=>h q (by simp[hq]))
  show aL (kG p0 q++gO p0 M)
  infer_instance
theorem DR.pure{tbs:List de}{M:List Sq}(h:DR T tb p0 M):IsPure (Jt T tbs p0 M):=by
 haveI:aL (gO p0 M):=sr fun q hq=>by
  obtain⟨k,hk⟩:=List.getElem?_of_mem hq
  obtain⟨js,c,t,h1,_⟩:=h k q hk
  rw[h1]
  unfold kG
  infer_instance
 unfold Jt
 infer_instance
set_option maxHeartbeats 4000000 in
theorem CB(R:iX T tb p0 Φ)(tbs:List de)(M:List Sq)(hM:DR T tb p0 M)(hMl:M.length≤100000){n:Nat}{s:List bU}{c:Int}(hc:Cn T tb p0 n s c):
  c≤1000→∀(u:Nat),Φ u n s→∀(i:Nat) (path:List Int),At M i n s→path.length+u≤100000→
   ∃rs:List Rz,Can Tryz.prog 93 [Jt T tbs p0 M,num i,au path] (· =nq rs)∧(rs.length:Int)=c∧∀z∈rs,∃(p:List Int) (e:Nat),z.path=path++p∧z.n=e∧Br T tb p0 n s p e z.cT:=by
 induction hc with
 | @mk n s cs hcl hch ih=>
 intro hc1 u hΦ i path hat hpl
 obtain⟨q,hq,rfl,rfl⟩:=hat
 obtain⟨js,c,t,hqe,hjl,hjs⟩:=hM i q hq
 have hbr:=R.step hΦ
 obtain⟨O,hOO⟩:∃O,bK T tb p0 q.n q.s=O:=⟨_,rfl⟩
 rw[hOO]at hqe hjl hjs hbr hcl hch ih hc1 ⊢
 have hil:=(List.getElem?_eq_some_iff.1 hq).1
 have hal:O.ax.length≤1000:=by
  rcases hbr with h|⟨h,_⟩
  ·rw[h];simp
  ·exact h
 haveI:=hM.pure (tbs:=tbs)
 obtain⟨f,hf⟩:=EZ (P:=fun k l=>cs.getD k 0≤1000→Can Tryz.prog 93 [Jt T tbs p0 M,num (js.getD k 0),au (path++[O.ax.getD k 0])] (· =nq l)∧((l.length:Int)=cs.getD k 0)∧
   ∀z∈l,∃(p:List Int) (e:Nat),z.path=(path++[O.ax.getD k 0])++p∧z.n=e∧Br T tb p0 (aS T (O.ax.getD k 0).toNat).toNat O.ev.stack p e z.cT) (n:=O.ax.length) (fun k hk=>by
  by_cases hck:cs.getD k 0≤1000
  ·obtain⟨jm,g1,g2⟩:=hjs k _ (List.getElem?_eq_getElem hk)
   have had:O.ax[k]=O.ax.getD k 0:=by rw[List.getD_eq_getElem?_getD,List.getElem?_eq_getElem hk];rfl
   rw[had]at g2
   obtain⟨b,m2,hab,hb,hm2,u',hu',hΦ'⟩:∃b m2:Nat,O.ax.getD k 0=(b:Int)∧b<2*T.ag.length∧aS T b=(m2:Int)∧∃u',u'<u∧Φ u' m2 O.ev.stack:=by
    rcases hbr with h|⟨_,_,h⟩
    ·rw[h]at hk;simp at hk
    ·exact h _ (by rw[←had];exact List.getElem_mem hk)
   have hhead:(aS T (O.ax.getD k 0).toNat).toNat=m2:=by rw[hab,Int.toNat_natCast,hm2,Int.toNat_natCast]
   rw[hhead]at g2
   have:=ih k hk hck u' (by rw[hhead];exact hΦ') jm (path++[O.ax.getD k 0]) (by rw[hhead];exact g2) (by simp;omega)
   obtain⟨rs,r1,r2,r3⟩:=this
   have hjk:js.getD k 0=(jm:Int):=by rw[List.getD_eq_getElem?_getD,g1];rfl
   refine⟨rs,fun _=>⟨by rw[hjk];exact r1,r2,r3⟩⟩
  ·exact⟨[],fun h=>absurd h hck⟩)
 have h0:∀c∈cs,0≤c:=fun c hc=>by
  obtain⟨k,hk⟩:=List.getElem?_of_mem hc
  have hlt:=(List.getElem?_eq_some_iff.1 hk).1
  have:=(hch k (by omega)).bound.1
  rwa [List.getD_eq_getElem?_getD,hk]at this
 have hsum:O.ax≠[]→∀k,k≤cs.length→(((List.range k).flatMap f).length:Int)=sJ (cs.take k)∧(k<cs.length→cs.getD k 0≤1000):=fun hne=>
  FR h0 (by unfold eQ at hc1;rw[if_neg hne]at hc1;exact hc1) (fun k hk h=>(hf k (by omega) h).2.1)
 obtain⟨rs,hrs1,hrs2⟩:∃rs:List Rz,(O.ax=[]→rs=[⟨q.n,O.cT,path⟩])∧(O.ax≠[]→rs=(List.range O.ax.length).flatMap f):=by
  by_cases harc:O.ax=[]
  ·exact⟨_,fun _=>rfl,fun h=>absurd harc h⟩
  ·exact⟨_,fun h=>absurd h harc,fun _=>rfl⟩
 refine⟨rs,?_,?_,?_⟩
 ·have hqx:(kG p0 q)[8]? =some (au js):=by rw[hqe];rfl
  have hqa:(kG p0 q)[7]? =some (au O.ax):=by rw[hqe];rfl
  have hqw:(kG p0 q)[9]? =some (num O.cT):=by rw[hqe];rfl
  haveI:aL (kG p0 q):=by rw[hqe];unfold kG;infer_instance
  haveI:dz (kG p0 q):=by rw[hqe];unfold kG;infer_instance
  refine aI Tryz.func93 I Tryz.ntmps93 I<|ab (.a 1 I<|.k [0,1,2] I)<|aP<|av 3 I ?_
  refine bw (aJ I ((rfl:(bC T++[eG tbs,.slice M.length (gO p0 M)])[4]? =some (.slice M.length (gO p0 M))))) I ?_
  refine av 1 I ?_
  refine bw (aM ((i*12)) I) I ?_
  refine bw (fG I (xa hq) I) I ?_
  refine b7 (mV I (ba.zk.get I)) I ?_
  refine bb (cj.to (mG (i:=0) (off:=0) (ys:=kG p0 q) I (ba.tk.get I) I I I I I (Nat.le_of_ble_eq_true rfl)) (σ'':=[some (.cells 119 (kG p0 q))]) I I) I I ?_
  refine aG [0,2,7] I ?_
  refine oQ 0 (σ':=[none]) I ⟨rfl,rfl,fun m hm=>?_⟩ (.cons 0 I (.same _)<|.cons 2 I (.same _)<|.cons 7 I (.ptr 0) .nil) ?_
  ·match m,hm with
   |m+1,_=>exact .inl rfl
  refine aj<|ab (.a 1 I<|.v (aJ I (hqx)) I<|.a 2 I<|.k [0,2,7,20] I)<|ah I (fun hc=>?_) (fun hc=>?_)
  ·have harc:O.ax=[]:=List.eq_nil_of_length_eq_zero (by have:=tt hc;omega)
   rw[hrs1 harc]
   refine uE 20 3 ([none]::[none,some (.row 3 1 0 [])]::[none,none,some (.row 3 1 (0+path.length) ([]++aK path))]::[none,none,some (.row 3 1 (0+path.length) ([]++aK path)),some (.row 70 3 1 [num q.n,num O.cT,.own 2])]::[]) (⟨_,none,0,2⟩::⟨num q.n,none,0,2⟩::⟨_,none,0,2⟩::⟨num O.cT,none,0,2⟩::⟨.own 1,some 0,0,0⟩::⟨_,none,0,1⟩::⟨.own 2,some 1,0,0⟩::⟨.agg [num q.n,num O.cT,.own 2],none,2,2⟩::⟨.own 3,some 2,0,0⟩::⟨_,none,3,3⟩::[]) _ mixed ?grd1 rfl rfl rfl rfl (.cons (.val [7] I I (yz (bZ (aZ I) (bZ (aZ I) (bZ (aZ I) df)))) I I)<|.cons (.val [21] I I (yz (bZ (aJ I ((rfl:(kG p0 q)[0]? =some (num q.n)))) (bZ (aJ I ((rfl:(kG p0 q)[0]? =some (num q.n)))) (bZ (aJ I ((rfl:(kG p0 q)[0]? =some (num q.n)))) df)))) I I)<|.cons (.val [7] I I (yz (bZ (aZ I) (bZ (aZ I) (bZ (aZ I) df)))) I I)<|.cons (.val [23] I I (yz (bZ (aJ I (hqw)) (bZ (aJ I (hqw)) (bZ (aJ I (hqw)) df)))) I I)<|.cons (.pE [] I I I I (cH I (ba.sl.get I)) I I)<|.cons (.val [2] I I (yz (bZ (aZ I) (bZ (aZ I) df))) I I)<|.cons (.pE [25,26] I I I I (bg (σ:=[none,some (.row 3 1 0 [])]) (i:=1) (n:=0) (xs:=[]) (m:=path.length) (ys:=aK path) I (ba.rk.get I) I I I (show(aK path).length=path.length*1 by simp[aK]) ⟨by unfold maxLen;omega,by omega⟩) I I)<|.cons (.val [22,24,27] I I (yz (bZ (aZ I) df)) I I)<|.cons (.pE [28] I I I I (gM (σ:=[none,none,some (.row 3 1 (0+path.length) ([]++aK path))]) (ps:=[(0,[num q.n,num O.cT,.own 2])]) (xs:=[num q.n,num O.cT,.own 2]) I (ba.sl.get I) ⟨Nat.le_of_ble_eq_true rfl,Nat.le_of_ble_eq_true rfl⟩ rfl rfl) I I)<|.cons (.val [29] I I (yz (bZ (aZ I) df)) I I) .nil) (aY (ks:=[6]) I) ?_
   case grd1=>kernel_rfl
   exact ao<|⟨_,_,az.of I,ay.fr rfl (af.cons ay.pure<|af.cons ay.pure<|af.cons (ay.qi (ys:=aK path) (m:=path.length) I (by simp) (by simp)) af.nil),rfl⟩
  ·have harc:O.ax≠[]:=fun h=>by have:=ff hc;rw[h]at hjl;simp at hjl;subst hjl;simp at this
   rw[hrs2 harc]
   replace hsum:=hsum harc
   refine ai<|ab (.a 1 I<|.k [0,2,7,8] I)<|gQ 8 70 3 I ?_
   refine aj<|ab (.a 1 I<|.k [0,2,7,8,9] I)<|aw<|eS [0,2,7,8,9] I<|bu (fun r st=>∃(k b:Nat) (σ:cc),k≤O.ax.length∧r=O.ax.length - k∧σ[b]? =some (some (.row 70 3 ((List.range k).flatMap f).length (mq ((List.range k).flatMap f))))∧st=⟨[(0,Jt T tbs p0 M),(2,au path),(7,.bc (kG p0 q) 0),(8,.own b),(9,num k)],σ⟩) O.ax.length ⟨0,1,_,by omega,by omega,rfl,rfl⟩ ?_
   rintro r st ⟨k,b,σ,hk,rfl,hσ,rfl⟩
   refine aj<|ab (.a 2 I<|.v (aJ I (hqx)) I<|.a 2 I<|.k [0,2,7,8,9,34] I)<|ah I (fun hc=>?_) (fun hc=>?_)
   ·have hlt:k<O.ax.length:=by have:=tt hc;omega
    obtain⟨hs1,hs2⟩:=hsum k (by omega)
    obtain⟨hf1,hf2,_⟩:=hf k hlt (hs2 (by omega))
    have hct:=hs2 (by omega)
    have hle:=D5 (cs.take k)
    obtain⟨a,ha⟩:∃a,O.ax.getD k 0=a:=⟨_,rfl⟩
    obtain⟨jv,hjv⟩:∃a,js.getD k 0=a:=⟨_,rfl⟩
    rw[ha,hjv]at hf1
    obtain⟨g,hg⟩:∃a,f k=a:=⟨_,rfl⟩
    rw[hg]at hf1 hf2
    have hrk:(List.range (k+1)).flatMap f=(List.range k).flatMap f++g:=by rw[List.range_succ,List.flatMap_append];simp[hg]
    obtain⟨G,hG⟩:∃G,(List.range k).flatMap f=G:=⟨_,rfl⟩
    rw[hG]at hs1 hσ hrk
    have hbl:=(List.getElem?_eq_some_iff.1 hσ).1
    refine ai<|aj<|aw<|E7 19 20 4 (σ::(σ++[some (.row 3 1 0 [])])::(σ++[none,some (.row 3 1 path.length (aK path))])::(σ++[none,none,none])::((σ++[none,none,none]).set b none++[some (.row 70 3 (G++g).length (mq (G++g)))])::[]) (⟨_,none,0,3⟩::⟨_,none,0,3⟩::⟨_,none,0,3⟩::⟨_,none,0,3⟩::⟨_,none,0,3⟩::⟨_,none,0,3⟩::⟨num jv,none,0,3⟩::⟨.own σ.length,some 0,0,0⟩::⟨_,none,0,1⟩::⟨.own (σ.length+1),some 1,0,0⟩::⟨_,none,0,2⟩::⟨_,none,0,2⟩::⟨_,none,0,2⟩::⟨_,none,0,2⟩::⟨num a,none,0,2⟩::⟨.slice 1 [num a],none,0,2⟩::⟨au (path++[a]),some 2,0,0⟩::⟨nq g,none,3,3⟩::⟨.own (σ.length+3),some 3,0,0⟩::[]) _ mixed ?grd2 (by kernel_rfl) I I I I I (.cons (.val [8] I I (yz (bZ (aZ I) (bZ (aZ I) (bZ (aZ I) (bZ (aZ I) df))))) I I)<|.cons (.val [0] I I (yz (bZ (aZ I) (bZ (aZ I) (bZ (aZ I) (bZ (aZ I) df))))) I I)<|.cons (.val [7] I I (yz (bZ (aZ I) (bZ (aZ I) (bZ (aZ I) (bZ (aZ I) df))))) I I)<|.cons (.val [39] I I (yz (bZ (aJ I (hqx)) (bZ (aJ I (hqx)) (bZ (aJ I (hqx)) (bZ (aJ I (hqx)) df))))) I I)<|.cons (.val [9] I I (yz (bZ (aZ I) (bZ (aZ I) (bZ (aZ I) (bZ (aZ I) df))))) I I)<|.cons (.val [40,41] I I (yz (bZ (aM (k) I) (bZ (aM (k) I) (bZ (aM (k) I) (bZ (aM (k) I) df))))) I I)<|.cons (.val [42] I I (yz (bZ (aJ I ((aB js k (by omega)).trans (by rw[hjv]))) (bZ (aJ I ((aB js k (by omega)).trans (by rw[hjv]))) (bZ (aJ I ((aB js k (by omega)).trans (by rw[hjv]))) (bZ (aJ I ((aB js k (by omega)).trans (by rw[hjv]))) df))))) I I)<|.cons (.pE [] I I I I (cj.to (cH (σ:=σ) I (ba.sl.get I)) I I) I I)<|.cons (.val [2] I I (yz (bZ (aZ I) (bZ (aZ I) df))) I I)<|.cons (.pE [44,45] I I I I (cj.to (bg (σ:=σ++[some (.row 3 1 0 [])]) (i:=σ.length) (n:=0) (xs:=[]) (m:=path.length) (ys:=aK path) I (ba.rk.get I) I (cU rfl) I (show(aK path).length=path.length*1 by simp[aK]) ⟨by unfold maxLen;omega,by omega⟩) (p':=.own (σ.length+1)) (σ'':=σ++[none,some (.row 3 1 path.length (aK path))]) (by simp) (by simp)) I I)<|.cons (.val [7] I I (yz (bZ (aZ I) (bZ (aZ I) (bZ (aZ I) df)))) I I)<|.cons (.val [47] I I (yz (bZ (aJ I (hqa)) (bZ (aJ I (hqa)) (bZ (aJ I (hqa)) df)))) I I)<|.cons (.val [9] I I (yz (bZ (aZ I) (bZ (aZ I) (bZ (aZ I) df)))) I I)<|.cons (.val [48,49] I I (yz (bZ (aM (k) I) (bZ (aM (k) I) (bZ (aM (k) I) df)))) I I)<|.cons (.val [50] I I (yz (bZ (aJ I ((aB O.ax k hlt).trans (by rw[ha]))) (bZ (aJ I ((aB O.ax k hlt).trans (by rw[ha]))) (bZ (aJ I ((aB O.ax k hlt).trans (by rw[ha]))) df)))) I I)<|.cons (.val [51] I I (yz (bZ (aZ I) (bZ (aZ I) (bZ (aZ I) df)))) I I)<|.cons (.pE [46,52] I I I I (cj.to (cj.Kn (cj.to (bg (σ:=σ++[none,some (.row 3 1 path.length (aK path))]) (i:=σ.length+1) (n:=path.length) (xs:=aK path) (m:=1) (ys:=[num a]) I (ba.rk.get I) I (by simp) I I ⟨by unfold maxLen;omega,by omega⟩) (p':=.own (σ.length+2)) (σ'':=σ++[none,none,some (.row 3 1 (path++[a]).length (aK (path++[a])))]) (by simp) (by simp[aK])) (show(σ++[none,none,some (cJ.row 3 1 (path++[a]).length (aK (path++[a])))])[σ.length+2]? =some (some (cJ.row 3 1 (path++[a]).length (aK (path++[a])))) by simp)) (p':=au (path++[a])) (σ'':=σ++[none,none,none]) I (by simp)) I I)<|.cons (.val [38,43,53] I I (yz (bZ (dX I (hf1)) df)) I I)<|.cons (.pE [37,54] I I I I (cj.to (bg (σ:=σ++[none,none,none]) (i:=b) (n:=G.length) (xs:=mq G) (m:=g.length) (ys:=mq g) I (ba.rk.get I) I ((List.getElem?_append_left hbl).trans hσ) I (BO g) ⟨by unfold maxLen;omega,by omega⟩) (p':=.own (σ.length+3)) (σ'':=(σ++[none,none,none]).set b none++[some (.row 70 3 (G++g).length (mq (G++g)))]) (by simp) (by simp[mq])) I I) .nil) (aY (ks:=[0,2,7,9,55]) I) ?_
    case grd2=>kernel_rfl
    refine av 1 I<|aG [0,2,7,8,9] I ?_
    refine aC (.a 1 I<|.v (aV I) I<|.a 1 I<|.k [0,2,7,8,9] I) ?_
    exact⟨O.ax.length - (k+1),by omega,k+1,σ.length+3,_,by omega,rfl,by rw[hrk];exact cU (by simp),rfl⟩
   ·have hke:k=O.ax.length:=by have:=ff hc;omega
    subst hke
    exact bh<|ab (.a 2 I<|.k [6] I)<|ao<|⟨_,_,az.of I,ay.qi hσ rfl rfl,rfl⟩
 ·by_cases harc:O.ax=[]
  ·rw[hrs1 harc];unfold eQ;rw[if_pos harc];rfl
  ·rw[hrs2 harc,←hcl,(hsum harc cs.length (Nat.le_refl _)).1,List.take_length];unfold eQ;rw[if_neg harc]
 ·intro z hz
  by_cases harc:O.ax=[]
  ·rw[hrs1 harc,List.mem_singleton]at hz
   subst hz
   refine⟨[],q.n,by simp,rfl,?_⟩
   have:=Br.stop (T:=T) (tb:=tb) (p0:=p0) (n:=q.n) (s:=q.s) (by show(bK T tb p0 q.n q.s).ax=[];rw[hOO];exact harc)
   rw[show(dq T (tb q.n) (cP p0 q.s))=O from hOO]at this
   exact this
  ·rw[hrs2 harc,List.mem_flatMap]at hz
   obtain⟨k,hk,hz⟩:=hz
   have hk:=List.mem_range.1 hk
   obtain⟨p,e,e1,e2,e3⟩:=(hf k hk ((hsum harc k (by omega)).2 (by omega))).2.2 z hz
   have hmem:O.ax.getD k 0∈O.ax:=by rw[List.getD_eq_getElem?_getD,List.getElem?_eq_getElem hk];exact List.getElem_mem hk
   have hh:aS T (O.ax.getD k 0).toNat=((aS T (O.ax.getD k 0).toNat).toNat:Int):=by
    rcases hbr with h|⟨_,_,h⟩
    ·exact absurd h harc
    ·obtain⟨b,m,h1,_,h2,_⟩:=h _ hmem
     rw[h1,Int.toNat_natCast,h2,Int.toNat_natCast]
   refine⟨O.ax.getD k 0::p,e,by rw[e1];simp,e2,?_⟩
   exact .go (T:=T) (tb:=tb) (p0:=p0) (by rw[show(dq T (tb q.n) (cP p0 q.s))=O from hOO];exact hmem) hh (by rw[show(dq T (tb q.n) (cP p0 q.s))=O from hOO];exact e3)
end
theorem sH(T:an)(L:List de)(hv:aq T=true)(hL:(L.length:Int)=T.nodes)(hok:∀(i:Nat) x,L[i]? =some x→x.node=(i:Int)∧cV T x=true):Can Tryz.prog 135 [aN T,eG L] (· =flag true):=by
 have hN:=fW hv
 obtain⟨q1,hq1⟩:∃q,aq T=q:=⟨_,rfl⟩
 obtain⟨q2,hq2⟩:∃q,decide ((L.length:Int)≠T.nodes)=q:=⟨_,rfl⟩
 refine aI Tryz.func135 I Tryz.ntmps135 I<|ab (.a 2 I<|.k [1,2] I)<|aj<|bE 15 (.raw (.bool (!q1 ||q2))) [1,2] I ?_ ?_
 ·refine .a 1 I<|.c rfl (hq1▸eZ T) I<|.a 2 I<|?_
  cases q1
  ·exact .a 6 I<|.k [15,1,2] I
  ·exact .a 3 I<|.v (aJ I (rfl)) I<|.v (cd I (hq2)) I<|.a 1 I<|.k [15,1,2] I
 refine ah I (fun hc=>?_) (fun hc=>?_)
 ·rw[←hq1,hv,←hq2,decide_eq_false (by rw[hL];simp)]at hc
  cases hc
 ·refine ai<|aj<|ab (.a 1 I<|.k [1,2,5] I)<|aw<|eS [1,2,5] I<|bu (fun r st=>∃i:Nat,i≤L.length∧r=L.length - i∧st=⟨[(1,eG L),(2,.bc (bC T) 0),(5,num i)],[]⟩) L.length ⟨0,by omega,by omega,rfl⟩ ?_
  rintro r st ⟨i,hi,rfl,rfl⟩
  refine aj<|ab (.a 4 I<|.k [1,2,5,19] I)<|ah I (fun hc=>?_) (fun hc=>?_)
  ·have hlt:i<L.length:=by have:=tt hc;omega
   obtain⟨x,hx⟩:∃x,L[i]? =some x:=⟨_,List.getElem?_eq_getElem hlt⟩
   obtain⟨h1,h2⟩:=hok i x hx
   obtain⟨q3,hq3⟩:∃q,decide (x.node≠(i:Int))=q:=⟨_,rfl⟩
   obtain⟨q4,hq4⟩:∃q,cV T x=q:=⟨_,rfl⟩
   refine ai<|aj<|aw<|iM mixed (by kernel_rfl) 37 (.raw (.bool (q3|| !q4))) [1,2,5] I ?_ ?_
   ·refine .a 2 I<|.v [22,23] (aM ((i*3)) I) I I<|.a 1 I<|.v [25] (aJ I ((flat_get eR 3 (fun _=>rfl) L i 0 x hx (by omega)).trans (rfl:(eR x)[0]? =some (num x.node)))) I I<|.a 1 I<|.v [26,27] (cd I (hq3)) I I<|.a 1 I<|?_
    cases q3
    ·exact .a 3 I<|.v [31,32] (aM ((i*3)) I) I I<|.v [33] (fG I (kI L i x hx) I) I I<|.v [30,34] (dX I (hq4▸qe T x)) I I<|.a 2 I<|.k [37,1,2,5] I
    ·exact .a 8 I<|.k [37,1,2,5] I
   refine ah I (fun hc=>?_) (fun hc=>?_)
   ·rw[←hq3,←hq4,h2,decide_eq_false (by rw[h1];simp)]at hc
    cases hc
   ·refine ai<|aC (.a 1 I<|.v (aV I) I<|.a 1 I<|.k [1,2,5] I) ?_
    exact⟨L.length - (i+1),by omega,i+1,by omega,rfl,rfl⟩
  ·have hie:i=L.length:=by have:=ff hc;omega
   exact bh<|ab (.a 1 I<|.k [4] I)<|ao<|⟨_,_,az.of I,ay.pure,rfl⟩
section
variable {T:an} {tb:Nat→de} {p0:dv} {Φ:Nat→Nat→List bU→Prop}
theorem Cn.pos{n:Nat}{s:List bU}{c:Int}(h:Cn T tb p0 n s c):0<c:=by
 induction h with
 | @mk n s cs h2 _ ih=>
  unfold eQ
  split
  ·omega
  ·rename_i hne
   cases cs with
   |nil=>exact absurd (List.eq_nil_of_length_eq_zero h2.symm) hne
   |cons c cs=>
    have h0:=ih 0 (by rw[←h2];simp)
    rw[List.getD_cons_zero]at h0
    have hcs:∀x∈cs,0≤x:=fun x hx=>by
     obtain⟨i,hi⟩:=List.getElem?_of_mem hx
     have hlt:=(List.getElem?_eq_some_iff.1 hi).1
     have:=ih (i+1) (by rw[←h2];simp;exact hlt)
     rw[List.getD_cons_succ,List.getD_eq_getElem?_getD,hi]at this
     have this:0<x:=this
     omega
    have:=ze cs (min (0+c) 1001) (show min (0+c) 1001≤1001 by omega) hcs
    have h3:sJ (c::cs)=cs.foldl (fun a c=>min (a+c) 1001) (min (0+c) 1001):=rfl
    rw[h3]
    have:(0:Int)<min (0+c) 1001:=by omega
    omega
theorem iv.at_{L M:List Sq}{op:List Nat}(h:iv T tb p0 L M op){k n:Nat}{s:List bU}(ha:At L k n s):At M k n s:=by
 obtain⟨q,h1,h2,h3⟩:=ha
 obtain⟨c,t,h4,_⟩:=h.2 k q h1
 exact⟨_,h4,h2,h3⟩
theorem iv.from_{L M:List Sq}{op:List Nat}(h:iv T tb p0 L M op){k:Nat}{q':Sq}(hk:M[k]? =some q'):∃q c t,L[k]? =some q∧q'=q.mark c t:=by
 have hlt:=(List.getElem?_eq_some_iff.1 hk).1
 have e1:L[k]? =some (L[k]'(by rw[←h.1];exact hlt)):=List.getElem?_eq_getElem _
 obtain⟨c,t,h4,_⟩:=h.2 k _ e1
 rw[hk]at h4
 cases h4
 exact⟨_,c,t,e1,rfl⟩
theorem EL{α:Type}{l:List α}{i:Nat}{a:α}(h:l[i]? =some a):l.set i a=l:=by
 apply List.ext_getElem?
 intro k
 rw[List.getElem?_set]
 split
 ·rename_i e
  subst e
  rw[if_pos (List.getElem?_eq_some_iff.1 h).1,h]
 ·rfl
structure KN (T:an) (tb:Nat→de) (p0:dv) (Φ:Nat→Nat→List bU→Prop) (n:Nat) (s:List bU) (M:List Sq):Prop where
 gr:DR T tb p0 M
 len:M.length≤20000
 st:∀(k:Nat) (q:Sq),M[k]? =some q→∃u,Φ u q.n q.s
 first:∃q,M[0]? =some q∧q.n=n∧q.s=s∧Cn T tb p0 n s q.lr
set_option maxHeartbeats 4000000 in
theorem zK(R:iX T tb p0 Φ)(hv:aq T=true)(h12:T.nodes≤12){U:List (Nat×List bU)}(hU:∀ {u n s},Φ u n s→(n,s)∈U)(hUl:U.length≤20000)(tbs:List de)(htl:(tbs.length:Int)=T.nodes)(htb:∀n:Nat,(n:Int)<T.nodes→tbs[n]? =some (tb n))
  (hok:∀n:Nat,(n:Int)<T.nodes→(tb n).node=(n:Int)∧cV T (tb n)=true) {u n:Nat} {p:dv} (hΦ:Φ u n p.stack) (hp:cP p p.stack=cP p0 p.stack):
  Can Tryz.prog 92 [aN T,eG tbs,dx p,num n] (fun r=>∃M,r= .tuple [Jt T tbs p0 M,num 0]∧KN T tb p0 Φ n p.stack M):=by
 have hn:=R.node hΦ
 have hck:=sH T tbs hv htl (fun i x hx=>by
  have hil:=(List.getElem?_eq_some_iff.1 hx).1
  have:=htb i (by omega)
  rw[this]at hx
  cases hx
  exact hok i (by omega))
 refine aI Tryz.func92 I Tryz.ntmps92 I<|ab (.a 4 I<|.k [1,3,4,6] I)<|aj<|ab (.a 2 I<|.c rfl (hck) I<|.a 1 I<|.k [1,3,4,6,15] I)<|ah I (fun hc=>?_) (fun hc=>?_)
 ·cases hc
 ·refine ai<|aj<|ab (.a 1 I<|.v (cd I ((decide_eq_false (by omega)))) I<|.a 4 I<|.v (cd I ((decide_eq_false (by omega)))) I<|.a 1 I<|.k [1,3,4,6,23] I)<|ah I (fun hc=>?_) (fun hc=>?_)
  ·cases hc
  ·refine ai<|aP<|av 4 I<|cM I I (bT.mono (vK R hv h12 hU hUl tbs htb hΦ hp) (fun y σ' h=>?_))
   obtain⟨L,j,rest,rfl,rfl,hj,hE,hat⟩:=h
   refine av 5 I<|aG [10] I ?_
   obtain⟨q,hq,hqn,hqs⟩:=hat
   have hfew:=hE.Jv hU
   have hjl:=(List.getElem?_eq_some_iff.1 hj).1
   have hok0:iv T tb p0 L L []:=⟨rfl,fun k x hx=>by
    obtain⟨js,e,_⟩:=hE.dn k x (List.getElem?_eq_some_iff.1 hx).1 hx
    refine⟨0,0,?_,.inl ⟨rfl,rfl⟩⟩
    rw[hx,e]
    rfl⟩
   refine eI (σ':=GV T p0 tbs j rest L) (by unfold GV;rw[EL hj]) ?_
   refine aj<|aP<|av 1 I<|cM I I (bT.mono (zO R L hE (by omega) tbs j rest hjl u 0 q hq (by rw[hqn,hqs];exact hΦ) [] L hok0 (fun k hk=>by cases hk)) (fun y σ' h=>?_))
   obtain⟨M,t,rfl,rfl,hokM,_,hM0,hcn⟩:=h
   refine av 1 I<|aG [10,34] I ?_
   refine ah I (fun hc=>?_) (fun hc=>?_)
   ·cases hc
   ·refine ai<|ab (.a 3 I<|.k [8,9] I)<|ao ?_
    have hgr:DR T tb p0 M:=fun k q' hk=>by
     obtain⟨q1,c1,t1,e1,rfl⟩:=hokM.from_ hk
     obtain⟨js,e2,e3,e4⟩:=hE.dn k q1 (List.getElem?_eq_some_iff.1 e1).1 e1
     refine⟨js,c1,t1,?_,e3,fun m a ha=>?_⟩
     ·show(⟨q1.n,q1.s,q1.a,q1.x,q1.cT,c1,t1⟩:Sq)=_
      rw[congrArg Sq.a e2,congrArg Sq.x e2,congrArg Sq.cT e2]
      rfl
     ·obtain⟨jm,g1,g2⟩:=e4 m a ha
      exact⟨jm,g1,hokM.at_ g2⟩
    haveI:aL (gO p0 M):=sr fun q hq=>by
     obtain⟨k,hk⟩:=List.getElem?_of_mem hq
     obtain⟨js,c,t,h1,_⟩:=hgr k q hk
     rw[h1]
     unfold kG
     infer_instance
    refine⟨_,_,az.of I,ay.aX (af.cons (ay.ju (rfl:(GV T p0 tbs j rest M)[0]? =some (some (.cells 122 (bC T++[eG tbs,.own (j+1)])))) (af.append af.pure (af.cons ay.pure (af.cons (ay.fr (cO hjl) af.pure) af.nil))))<|af.cons ay.pure af.nil),M,rfl,hgr,by rw[hokM.1];omega,fun k q' hk=>?_,⟨_,hM0,hqn,hqs,by rw[←hqn,←hqs];exact hcn⟩⟩
    obtain⟨q1,c1,t1,e1,rfl⟩:=hokM.from_ hk
    exact hE.st k q1 e1
set_option maxHeartbeats 4000000 in
theorem Fh(R:iX T tb p0 Φ)(hv:aq T=true)(h12:T.nodes≤12){U:List (Nat×List bU)}(hU:∀ {u n s},Φ u n s→(n,s)∈U)(hUl:U.length≤20000)(tbs:List de)(htl:(tbs.length:Int)=T.nodes)(htb:∀n:Nat,(n:Int)<T.nodes→tbs[n]? =some (tb n))
  (hok:∀n:Nat,(n:Int)<T.nodes→(tb n).node=(n:Int)∧cV T (tb n)=true) {u n:Nat} {p:dv} (hΦ:Φ u n p.stack) (hu:∀ {u n s},Φ u n s→u≤100000) (hp:cP p p.stack=cP p0 p.stack):
  Can Tryz.prog 37 [aN T,eG tbs,dx p,num n] (fun r=>r= .tuple [nq [],num 6]∨∃rs:List Rz,r= .tuple [nq rs,num 0]∧0<rs.length∧rs.length≤1000∧∀z∈rs,∃(q:List Int) (e:Nat),z.path=q∧z.n=e∧Br T tb p0 n p.stack q e z.cT):=by
 refine aI Tryz.func37 I Tryz.ntmps37 I<|ab (.a 4 I<|.k [1,3,4,6] I)<|aP<|av 4 I<|cM I I (bT.mono (bT.wS (zK R hv h12 hU hUl tbs htl htb hok hΦ hp)) (fun y σ' h=>?_))
 obtain⟨⟨M,rfl,C⟩,rfl⟩:=h
 refine av 5 I<|aG [10,11] I ?_
 refine aj<|ab (.a 2 I<|.k [10,11,21] I)<|ah I (fun hc=>?_) (fun hc=>?_)
 ·cases hc
 ·obtain⟨q,hq,hqn,hqs,hcn⟩:=C.first
  haveI:=C.gr.pure (tbs:=tbs)
  have hM0:=(List.getElem?_eq_some_iff.1 hq).1
  refine ai<|aj<|ab (.a 3 I<|.v (aJ I ((rfl:(bC T++[eG tbs,.slice M.length (gO p0 M)])[4]? =some (.slice M.length (gO p0 M))))) I<|.v (aM (0) I (by omega) (by omega)) I<|.a 1 I<|.v (aJ I ((eD (v:=num q.lr) 11 hq (by omega) I))) I<|.a 1 I<|.k [10,30] I)<|ah I (fun hc=>?_) (fun hc=>?_)
  ·skip
   exact ab (.a 2 I<|.k [8,9] I)<|ao<|⟨_,_,az.of I,ay.aX (af.cons ay.bQ<|af.cons ay.pure af.nil),.inl rfl⟩
  ·have hc:=ff hc
   obtain⟨rs,h1,h2,h3⟩:=CB R tbs M C.gr (by have:=C.len;omega) hcn (by omega) u hΦ 0 [] ⟨q,hq,hqn,hqs⟩ (by have:=hu hΦ;simp;omega)
   have hpos:=hcn.pos
   exact ai<|ab (.a 1 I<|.v (xe I (af.cons ay.pure<|af.cons ay.pure<|af.cons ay.bQ af.nil) (h1)) I<|.a 2 I<|.k [8,9] I)<|ao<|⟨_,_,az.of I,ay.aX (af.cons (ay.pure (p:=nq rs))<|af.cons ay.pure af.nil),.inr ⟨rs,rfl,by omega,by omega,fun z hz=>by
    obtain⟨q,e,e1,e2,e3⟩:=h3 z hz
    exact⟨q,e,by rw[e1];rfl,e2,e3⟩⟩⟩
end
theorem Can.Lq{P:Program}{f:FuncId}{ps qs:List PV}{R:PV→Prop}(h:af [] ps qs)(hc:Can P f qs R):Can P f ps R:=fun F w vs hF hG hr=>hc F w vs hF hG ⟨hr.1.trans h.1,fun j c u k1 k2=>by
 have hj:j<ps.length:=by rw[h.1];exact(List.getElem?_eq_some_iff.1 k2).1
 exact(h.2 j ps[j] u (by simp[hj]) k2).plain c (hr.2 j c _ k1 (by simp[hj]))⟩
section
variable {T:an} {k x:Int} {S:List Int} {s d:Nat} {late:Bool}
def Kk(s d:Int):PV:=.agg [num 0,num s,num d,num 0,.raw (.slice none 0 0),num 0]
instance (s d:Int):IsPure (Kk s d):=by unfold Kk;infer_instance
theorem HW(s d:Int):ay [] (Kk s d) (dx ⟨0,s,d,0,[],0⟩):=ay.hZ (af.cons ay.pure<|af.cons ay.pure<|af.cons ay.pure<|af.cons ay.pure<|af.cons ay.bQ<|af.cons ay.pure af.nil)
theorem wo{st:Nat→Int}(hst:st=fB S){p0:dv}:∀u n s',uN T k x d st p0 late u n s'→sB T k x S n=nF T (aE T k x) st n:=fun u n s' g=>by subst hst;exact ED g.here
theorem AS(hP:Kr T k x S s d late):∃u,uN T k x d (fB S) ⟨0,s,d,0,[],0⟩ late u s []:=⟨_,.inl ⟨hP.KJ,rfl⟩⟩
theorem E9(hP:Kr T k x S s d late):Can Tryz.prog 20 [aN T,cq k x,au S] (· = .tuple [eG (oT T k x S S.length),num 0]):=by
 have h:=tn T k x S (by have:=hP.len;have:=hP.Ij;omega) hP.Ij
 unfold Ee at h
 rw[hP.ok,if_pos rfl]at h
 exact h
end
section
variable {T:an} {k x:Int} {S:List Int} {s d:Nat} {late:Bool}
theorem GW(hP:Kr T k x S s d late)(hcv:late=false→Im T k x=true)(hsafe:late=false→∀m:Nat,(m:Int)<T.nodes→¬Gn k x m→0≤dN T [] d m→0≤dN T (aE T k x) d m):
  Can Tryz.prog 37 [aN T,eG (oT T k x S S.length),Kk s d,num s] (fun r=>∃(rs:List Rz) (f:Int),r= .tuple [nq rs,num f]∧(f=6∨(f=0∧0<rs.length∧rs.length≤1000∧∀z∈rs,∃e:Nat,z.n=e∧Br T (nF T (aE T k x) (fB S)) ⟨0,s,d,0,[],0⟩ s [] z.path e z.cT))):=by
 obtain⟨u,hu⟩:=AS hP
 have hv:=hP.valid
 have hl:=hP.len
 have R:=BB (st:=fB S) (p0:=⟨0,s,d,0,[],0⟩) hv hP.Ij hP.Lc hP.dst hcv hsafe hP.perm rfl
 have htl:((oT T k x S S.length).length:Int)=T.nodes:=by rw[qo];exact hl
 have hN:=(aO hv).nodes
 have hn12:=hP.Ij
 refine Can.Lq (af.cons ay.pure<|af.cons ay.pure<|af.cons (HW _ _)<|af.cons ay.pure af.nil) (Can.mono (Fh (R.congr (wo rfl)) hv hP.Ij (U:=DI T (nF T (aE T k x) (fB S)) ⟨0,s,d,0,[],0⟩) (fun g=>g.mem) ?_ (oT T k x S S.length) htl (fun n hn=>Af (by omega)) (yY hv hP.Ij) (p:=⟨0,s,d,0,[],0⟩) hu (fun g=>?_) I) ?_)
 ·have:=Es (T:=T) (p0:=⟨0,s,d,0,[],0⟩) (nF T (aE T k x) (fB S)) hP.Ij hP.Lc
  omega
 ·have:=g.Jr.bound (by omega)
  omega
 ·rintro r (rfl|⟨rs,rfl,h1,h2,h3⟩)
  ·exact⟨[],6,rfl,.inl rfl⟩
  ·refine⟨rs,0,rfl,.inr ⟨rfl,h1,h2,fun z hz=>?_⟩⟩
   obtain⟨q,e,rfl,e2,e3⟩:=h3 z hz
   exact⟨e,e2,Br.congr (wo rfl) R e3 hu⟩
end
section
variable {T:an} {k x:Int} {d:Nat} {st:Nat→Int} {p0:dv}
theorem Hv(hv:aq T=true)(h12:T.nodes≤12)(hd:(d:Int)<T.nodes)(hpm:Perm T k x true st)(hp0:p0.dst=(d:Int)){n e:Nat}{s:List bU}{p:List Int}{w:Int}(hb:Br T (nF T (aE T k x) st) p0 n s p e w):Open T k x d n s→SP T (aE T k x) d n p:=by
 induction hb with
 | @stop n s h0=>
  intro h
  by_cases hne:n=d
  ·subst hne;exact .nil
  ·obtain⟨ax,s',e1,e2,_⟩:=pF hv h12 hd h hne (by have:=hpm n h.node h.here;rwa [if_pos rfl]at this) (p:=cP p0 s) hp0 rfl rfl
   rw[show nF T (aE T k x) st n=eW T (aE T k x) (st n) n from rfl,e1]at h0
   exact absurd h0 e2
 | @go n m e s a p w ha hm hr ih=>
  intro h
  by_cases hne:n=d
  ·subst hne
   have e2:=(sw hv h12 hd h (st n) (p:=cP p0 s) hp0 rfl).1
   rw[show nF T (aE T k x) st n=eW T (aE T k x) (st n) n from rfl,e2]at ha
   cases ha
  ·have hst:=hpm n h.node h.here
   rw[if_pos rfl]at hst
   by_cases h2:st n=2
   ·have hb:Br T (nF T (aE T k x) st) p0 n s (a::p) e w:=.go ha hm hr
    have h':=h
    have hs:=h'.nil
    subst hs
    rw[(D6 hv h12 hd hp0 hb h h2).1]
    exact ej hv hd h.node h.reach
   ·have hs:=h.nil
    subst hs
    have ht:eW T (aE T k x) (st n) n=dJ T (aE T k x) n:=by unfold eW;rw[if_neg hst.1,if_neg hst.2,if_neg h2]
    obtain⟨_,e2⟩:=lS hv hd h.node hne h.reach (iZ hv h.node) I (mZ hd) (p:=cP p0 []) hp0 rfl rfl
    rw[show nF T (aE T k x) st n=eW T (aE T k x) (st n) n from rfl,ht,e2]at ha hr ih
    obtain⟨b,rfl,hb⟩:=cW ha
    rw[Int.toNat_natCast]at hm
    obtain⟨c1,_⟩:=hb.dN hm
    exact .cons hb hm (ih ⟨rfl,oy hv hb.fy hm,oR hb.fy hb.up hm,c1⟩)
theorem GC{D:List Bool}{n:Nat}{p:List Int}(hv:aq T=true)(hd:(d:Int)<T.nodes)(h:SP T D d n p):dY T n p=0:=by
 unfold dY
 rw[if_pos hv,if_pos (aT.2 ⟨by omega,h.node hv hd⟩)]
 exact uJ h.ch
end
theorem AM{l:List Rz}{i:Nat}{z:Rz}(j:Nat)(h:l[i]? =some z)(hj:j<3){v:PV}(hv:(sE z)[j]? =some v):(mq l)[i*3+j]? =some v:=(flat_get sE 3 (fun _=>rfl) l i j z h hj).trans hv
theorem BZ(c:ya)(h:yc c=false):Can Tryz.prog 7 [rq c] (· =flag true):=by
 have hpr:=pV c
 rw[h]at hpr
 refine aI Tryz.func7 I Tryz.ntmps7 I<|ab (.a 2 I<|.k [1] I)<|aj<|bE 26 (.raw (.bool (true))) [1] I ?_ ?_
 ·exact .c rfl (jK) I<|.a 3 I<|.c rfl (hpr) I<|.a 7 I<|.k [26,1] I
 refine ah I (fun hc=>?_) (fun hc=>?_)
 ·exact ab (.c rfl (jK) I<|.a 1 I<|.k [2] I)<|ao<|⟨_,_,az.of I,ay.pure,rfl⟩
 ·cases hc
set_option maxHeartbeats 2000000 in
theorem Bm(T:an)(k x:Int)(S:List Int)(n d:Int)(h:yc ⟨T,k,x,S,n,d⟩=true):Can Tryz.prog 7 [rq ⟨T,k,x,S,n,d⟩] (· =flag true):=by
 have hpr:=pV ⟨T,k,x,S,n,d⟩
 obtain⟨s,e,rfl,rfl,hP⟩:=DF h
 have hSl:=hP.len
 have h12:=hP.Ij
 have hsl:=hP.src
 have hv:=hP.valid
 have hla:=BE ⟨T,k,x,S,(s:Int),(e:Int)⟩ (show S.length≤1000 by omega)
 rw[h]at hpr
 obtain⟨w1,hw1⟩:∃q,AJ ⟨T,k,x,S,(s:Int),(e:Int)⟩=q:=⟨_,rfl⟩
 rw[hw1]at hla hP
 have hmk:=ry T k x
 rw[hP.Lv]at hmk
 refine aI Tryz.func7 I Tryz.ntmps7 I<|ab (.a 2 I<|.k [1] I)<|aj<|bE 26 (.raw (.bool (!w1))) [1] I ?_ ?_
 ·exact .c rfl (jK) I<|.a 3 I<|.c rfl (hpr) I<|.a 4 I<|.c rfl (hla) I<|.a 2 I<|.k [26,1] I
 refine ah I (fun hc=>?_) (fun hc=>?_)
 ·exact ab (.c rfl (jK) I<|.a 1 I<|.k [2] I)<|ao<|⟨_,_,az.of I,ay.pure,rfl⟩
 ·obtain rfl:w1=true:=by simpa using hc
  have htab:=E9 hP
  have hall:=GW hP (fun h=>by cases h) (fun h=>by cases h)
  obtain⟨L,hL⟩:∃L,oT T k x S S.length=L:=⟨_,rfl⟩
  rw[hL]at htab hall
  obtain⟨M,hM⟩:∃M,aE T k x=M:=⟨_,rfl⟩
  have hfit:bW T M=true:=hM▸dt T k x
  have hec:cN T M [(e:Int)]=0:=by
   unfold cN
   rw[hv,hfit]
   simp[aT.2 (show 0≤(e:Int)∧(e:Int)<T.nodes by have:=hP.dst;omega)]
  have hrd:=tv T M (e:Int)
  rw[hec,Int.toNat_natCast]at hrd
  unfold ei at hrd
  rw[if_pos rfl]at hrd
  obtain⟨hb1,hb2⟩:=dW (D:=M) hv (dir:=false) hP.dst
  have hDs:(bH T M e false).getD s 0=dN T M e s:=rfl
  obtain⟨Ds,hDL⟩:∃L,bH T M e false=L:=⟨_,rfl⟩
  rw[hDL]at hrd hb1 hb2 hDs
  have hfin:∀(z:Rz) (e':Nat),Br T (nF T (aE T k x) (fB S)) ⟨0,s,e,0,[],0⟩ s [] z.path e' z.cT→dY T (s:Int) z.path=0∧da T z.path=Ds.getD s 0∧z.cT= -1∧z.path.length≤100:=fun z e' hb=>by
   have hsp:=Hv hv h12 hP.dst hP.perm rfl hb hP.KJ
   obtain⟨_,h2,_⟩:=IA hv h12 hP.dst (late:=true) (fun h=>by cases h) (fun h=>by cases h) hP.perm rfl hb (.inl ⟨hP.KJ,rfl⟩)
   have hlt:=hsp.zq hv hP.dst
   refine⟨GC hv hP.dst hsp,?_,h2,by omega⟩
   rw[hDs,←hM,(hsp.cost hv hP.dst).1]
  rw[hM]at hmk
  clear hc
  refine ai<|ab (.a 1 I<|.v (fG I (rfl) I) I<|.a 4 I<|.c rfl (htab) I<|.a 5 I<|.k [1,3,4] I)<|aj<|ab (.a 2 I<|.k [1,3,39] I)<|ah I (fun hc=>?_) (fun hc=>?_)
  ·cases hc
  ·refine ai<|ab (.a 1 I<|.v (fG I (rfl) I) I<|.a 2 I<|.c rfl (hmk) I<|.a 5 I<|.k [1,3,5] I)<|ab (.a 1 I<|.v (fG I (rfl) I) I<|.a 3 I<|.c rfl (hrd) I<|.a 5 I<|.k [1,3,7] I)<|aP<|av 1 I<|bw (fG I (rfl) I) I<|av 8 I<|cM I I (bT.mono (bT.wS hall) (fun y σ' h=>?_))
   obtain⟨⟨rs,f,rfl,hrs⟩,rfl⟩:=h
   refine av 5 I<|aG [1,7,9,10] I ?_
   refine aj<|ab (.a 1 I<|.v (cd I (rfl:decide (f=6)=decide (f=6))) I<|.k [1,7,9,10,72] I)<|ah I (fun hc=>?_) (fun hc=>?_)
   ·skip
    exact ab (.a 1 I<|.k [2] I)<|ao<|⟨_,_,az.of I,ay.pure,rfl⟩
   ·obtain⟨rfl,hpos,hmax,hbr⟩:=hrs.resolve_left (ff hc)
    refine ai<|aj<|ab (.a 3 I<|.k [1,7,9,10,74,75] I)<|aw<|eS [1,7,9,10,74,75] I<|bu (fun r st=>∃i:Nat,i≤rs.length∧r=rs.length - i∧st=⟨[(1,.bc (Bz ⟨T,k,x,S,(s:Int),(e:Int)⟩) 0),(7,au Ds),(9,nq rs),(10,num 0),(74,num rs.length),(75,num i)],[]⟩) rs.length ⟨0,by omega,by omega,rfl⟩ ?_
    rintro r st ⟨i,hi,rfl,rfl⟩
    refine ab (.a 1 I<|.k [1,7,9,10,74,75,76] I)<|aj<|ah I (fun hc=>?_) (fun hc=>?_)
    ·have hlt:i<rs.length:=by have:=tt hc;omega
     obtain⟨z,hz⟩:∃z,rs[i]? =some z:=⟨_,List.getElem?_eq_getElem hlt⟩
     obtain⟨e',_,hb⟩:=hbr z (List.mem_of_getElem? hz)
     obtain⟨f1,f2,f3,f4⟩:=hfin z e' hb
     have hpc:=Bw T (s:Int) z.path (by omega)
     unfold kL at hpc
     rw[f1,if_pos rfl,if_pos rfl,f2]at hpc
     obtain⟨c0,hc0⟩:∃c,Ds.getD s 0=c:=⟨_,rfl⟩
     obtain⟨c1,hc1⟩:∃c,cI T (s:Int) z.path=c:=⟨_,rfl⟩
     rw[hc0,hc1]at hpc
     refine ai<|aj<|aw<|ab (.a 2 I<|.k [1,7,9,10,11,74,75] I)<|ef mixed (by kernel_rfl) (.a 1 I<|.v [79] (fG I (rfl) I) I I<|.a 1 I<|.v [81] (aJ I ((show some (num (s:Int))=some (num (s:Int)) from rfl))) I I<|.a 2 I<|.v [83,84] (aM ((i*3)) I) I I<|.a 1 I<|.v [86] (aJ I (AM 2 hz (by omega) (rfl:(sE z)[2]? =some (au z.path)))) I I<|.v [80,82,87] (dX I (hpc)) I I<|.a 7 I<|.k [1,7,9,10,11,13,14,74,75] I) ?_
     refine bE 110 (.raw (.bool (false))) [1,7,9,10,74,75] I ?_ ?_
     ·exact .a 6 I<|.v (aJ I ((show some (num (s:Int))=some (num (s:Int)) from rfl))) I<|.v (aM (s) I) I<|.v (aJ I ((aB Ds s (by omega)).trans (by rw[hc0]))) I<|.v (cd I (show decide (c0≠c0)=false by simp)) I<|.a 4 I<|.v (aM ((i*3)) I) I<|.a 1 I<|.v (aJ I ((AM 1 hz (by omega) (show(sE z)[1]? =some (num (-1)) by rw[←f3];rfl)))) I<|.a 2 I<|.k [110,1,7,9,10,74,75] I
     refine ah I (fun hc=>?_) (fun hc=>?_)
     ·cases hc
     ·refine ai<|aC (.v (aV I) I<|.a 1 I<|.k [1,7,9,10,74,75] I) ?_
      exact⟨rs.length - (i+1),by omega,i+1,by omega,rfl,rfl⟩
    ·have hie:i=rs.length:=by have:=ff hc;omega
     exact bh<|ab (.a 5 I<|.v (cd I (show decide (0<(rs.length:Int))=true from decide_eq_true (by omega))) I<|.a 2 I<|.k [2] I)<|ao<|⟨_,_,az.of I,ay.pure,rfl⟩
theorem uY(c:ya):Can Tryz.prog 7 [rq c] (· =flag true):=by
 obtain⟨T,k,x,S,n,d⟩:=c
 cases h:yc ⟨T,k,x,S,n,d⟩with
 |false=>exact BZ _ h
 |true=>exact Bm T k x S n d h
end
end PW
end Go.Proofs.YtnegbdpggideiaaGreatDoor
namespace Go.Proofs.YtnegbdpggideiaaGreatDoor.mixtureLate
open Go.ChangeShapes Go.WideShapes Go.ChangeAt Go.RowKit
open cE Mem PW
set_option maxRecDepth 100000 in
theorem lifted(os:Os)(started:os.Started)(H:Type)(enc:TypeId×Value→H):
  ReturnsInHanded {} Tryz.checked os 7 .any (fun w args=>(Rows.mixtureLateSpec.pre enc Tryz.prog Tryz.f7 [] false w args∧laidMetH Tryz.prog Rows.mixtureLateRow.laid w)∧sizedMet enc Tryz.prog Tryz.f7 (OpenSpec.ofChange Rows.mixtureLateSpec) false w args)
   (Rows.mixtureLateSpec.post enc Tryz.prog Tryz.f7 false true false false):=by
 refine returnsInHanded_of_change_and (C:=Tryz.checked) (X:=fun w _=>laidMetH Tryz.prog Rows.mixtureLateRow.laid w) (fun _ _ _ hh h=>h.of_heap hh) own started (by kernel_rfl) Tryz.func7
  (ChangeSpec.witness_shaped (enc:=enc) (C:=Tryz.checked) (os:=os) (X:=fun w _=>laidMetH Tryz.prog Rows.mixtureLateRow.laid w) false (World.doorLaid Tryz.prog 400 os) #[.agg #[.int .i64 0,.slice none 0 0,.slice none 0 0,.int .i64 0,.int .i64 0,.slice none 0 0,.int .i64 0,.int .i64 0]] 8 rfl (World.shaped_of_RefB (by kernel_rfl) (by kernel_rfl)) (by kernel_rfl) (by kernel_rfl) (by kernel_rfl) (laidMetH_of_parts3 (fuel:=8) (laidMet_of_run' 8 (by kernel_rfl) (by kernel_rfl)) (by kernel_rfl) (by kernel_rfl))) ?_
 intro W base args ds gs before hval0 hW _ _ hL _
 have hval:∀(j:Nat) t v,Tryz.f7.params[j]? =some t→args[j]? =some v→Value.okWide Tryz.prog W .any base t v:=hval0
 have hW':=hW
 obtain⟨p,q,hA0,hV,rfl,hfz,hnd⟩:=hW
 have hA:DataW.TrodAll enc Tryz.prog W 0 (fun _=>true) true Tryz.f7.params.toList args.toList ds p:=hA0
 rw[Tryz.params7]at hA hval
 obtain⟨v0,vs0,d0,ds0,p0,q0,hargs,rfl,rfl,h0,r0⟩:=trodAll_cons hA
 obtain⟨rfl,rfl,rfl⟩:=trodAll_nil r0
 obtain rfl:args= #[v0]:=by cases args;simp_all
 obtain⟨rfl,rfl⟩:=trodVars_none hV
 have lt0:=J0 h0
 obtain⟨c,R0⟩:=Jj (hval 0 50 v0 rfl rfl) h0
 clear hA0 hval0
 refine((uY c) (fun _=>False) W #[v0] (fun _ h=>h.elim) (BC hL) (bd.cons R0 (bd.nil _ _))).mono fun e W' ⟨x,he,bel,r,hr,hx⟩=>?_
 subst hr
 cases hx
 subst he
 exact⟨_,rfl,_,_,_,[],_,[],hW',trodAll_mk1 (shut_bool Tryz.underlying4 _),(trodAll_cons_mk (Below.trod laidOut (by kernel_rfl) (of_decide_eq_true (by kernel_rfl)) h0 bel lt0) trodAll_mk0),rfl,bel.frame _,fun h=>by cases h⟩
set_option maxRecDepth 100000 in
theorem LC:(Rows.mixtureLateRow.inPlace==Tryz.prog.inPlace 7)=true:=by kernel_rfl
set_option maxRecDepth 100000 in
theorem Ll:(Rows.mixtureLateRow.unfollowed==Tryz.prog.unfollowed 7)=true:=by kernel_rfl
set_option maxRecDepth 100000 in
theorem Lz:(Rows.mixtureLateRow.recurses==Tryz.prog.recurses 7)=true:=by kernel_rfl
set_option maxRecDepth 100000 in
theorem Lf:(Rows.mixtureLateRow.named==Tryz.prog.varsNamed 7)=true:=by kernel_rfl
set_option maxRecDepth 100000 in
theorem closed:joinedFacts Tryz.prog 7 Tryz.f7 Rows.mixtureLateSpec Rows.mixtureLateRow=true:=by
 unfold joinedFacts
 rw[LC,Ll,Lz,Lf]
 kernel_rfl
theorem over:Rows.mixtureLateRow.holds Tryz.pinned (OpenSpec.ofChange Rows.mixtureLateSpec):=
 OpenClaim.holds_of_wide 7 Tryz.f7 rfl rfl rfl rfl rfl rfl rfl ⟨rfl,rfl,rfl,rfl,rfl⟩ rfl rfl rfl rfl rfl (by kernel_rfl) Tryz.func7 closed
  (of_decide_eq_true (by kernel_rfl)) (by unfold Func.isWrapper;first|(rw[if_pos (by decide+kernel)];kernel_rfl)|(rw[if_neg (by decide+kernel)];exact⟨rfl,rfl⟩))
  (fun os started H enc _=>lifted os started H enc)
theorem proved:Rows.MixtureLateCardSaid:=
 Claim7.holds_tied_plain_at .later [] [.data,.data,.data] true (true,"3eedc3262a1e22f25a0699067de5cf2e4c3ca5fe316ddc4ea68067e33fe38499") false
  over (fun _ h=>by cases h) (by kernel_rfl) (fun _ h=>by cases h) mixtureLate_row_tie rfl ⟨rfl,rfl⟩ (by kernel_rfl) rfl
  (fun f fn hf hfn=>by
   obtain rfl:f=7:=Option.some.inj ((show Tryz.prog.funcNamed "waypoint/waypointlaw31.MixtureLate" =some 7 by kernel_rfl).symm.trans hf) |>.symm
   obtain rfl:fn=Tryz.f7:=(Option.some.inj (Tryz.func7.symm.trans hfn)).symm
   exact⟨by kernel_rfl,fun j t ht=>by
    rw[Tryz.params7]at ht
    have hm:t∈[50]:=by simpa using Array.mem_of_getElem? ht
    have hall:([50].all fun u=> !Tryz.prog.wantsStandIn u)=true:=by kernel_rfl
    exact(show Tryz.prog.wantsStandIn t=false by simpa using List.all_eq_true.1 hall t hm)⟩)
  (by kernel_rfl)
end Go.Proofs.YtnegbdpggideiaaGreatDoor.mixtureLate
