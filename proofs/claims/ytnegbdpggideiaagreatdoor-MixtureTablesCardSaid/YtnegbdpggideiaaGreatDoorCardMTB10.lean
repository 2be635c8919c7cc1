/- Texts of the proof, part 10. -/
import Derived.WideShapes
import Derived.Deep.AppendSrc
import Derived.Test.YtnegbdpggideiaaGreatDoorCardMTB9
set_option linter.unusedVariables false
set_option linter.unusedSimpArgs false
set_option maxRecDepth 10000
set_option maxHeartbeats 1000000
namespace Go.Proofs.YtnegbdpggideiaaGreatDoor
namespace PW
open Go.RowKit cH Mem Net Go.WideShapes
section
variable {H:Type} {enc:TypeId×Value→H} {W:World}
theorem C6{n:Nat}{cs:List Value}{y:DataW H×List MemPlace}(h:DataW.trod enc Tryz.prog W 0 (fun _=>true) true n 25 cs=some y)(hl:cs.length=3):∃T:an,aZ EN W cs (bn T):=by
 have c0':Tryz.prog.cellsOf 3=1:=by kernel_rfl
 have c1':Tryz.prog.cellsOf 22=1:=by kernel_rfl
 have c2':Tryz.prog.cellsOf 23=1:=by kernel_rfl
 obtain⟨xs,m,_,_,_,hlen,hf⟩:=DataW.trod_struct Tryz.underlying25 h
 match cs,hl with
 | [c0,c1,c2],_=>
  match xs,hlen with
  | [y0,y1,y2],_=>
   have f0:DataW.trod enc Tryz.prog W 0 (fun _=>true) true m 3 (([c0,c1,c2].drop 0).take (Tryz.prog.cellsOf 3))=some y0:=hf 0 _ rfl
   rw[c0']at f0
   have f1:DataW.trod enc Tryz.prog W 0 (fun _=>true) true m 22 (([c0,c1,c2].drop 1).take (Tryz.prog.cellsOf 22))=some y1:=hf 1 _ rfl
   rw[c1']at f1
   have f2:DataW.trod enc Tryz.prog W 0 (fun _=>true) true m 23 (([c0,c1,c2].drop 2).take (Tryz.prog.cellsOf 23))=some y2:=hf 2 _ rfl
   rw[c2']at f2
   obtain⟨a,ha⟩:=gO f0
   obtain⟨B,hB⟩:=Cb f1
   obtain⟨L,hL⟩:=rp (f:=jz) (s:=7) Tryz.underlying23 (by kernel_rfl) (by omega) (fun n cs y hy hl=>F5 hy hl) f2
   simp at ha
   subst ha
   exact⟨⟨a,B,L⟩,aZ.cons (.raw _)<|aZ.cons hB<|aZ.cons hL (aZ.nil _ _)⟩
end
end PW
end Go.Proofs.YtnegbdpggideiaaGreatDoor
namespace Go.Proofs.YtnegbdpggideiaaGreatDoor
namespace PW
open Go.RowKit cH Mem Net Go.WideShapes
section
variable {H:Type} {enc:TypeId×Value→H} {W:World}
end
end PW
end Go.Proofs.YtnegbdpggideiaaGreatDoor
namespace Go.Proofs.YtnegbdpggideiaaGreatDoor
namespace PW
open Go.RowKit cH Mem Net
end PW
end Go.Proofs.YtnegbdpggideiaaGreatDoor
namespace Go.Proofs.YtnegbdpggideiaaGreatDoor
namespace PW
open Go.RowKit cH Mem Net
theorem Ch.Ju{T:an}{D:List Bool}{d m:Nat}{q:List Int}(h:Ch T D d m q):∀a∈q,aW D a.toNat=false:=by
 induction h with
 |nil=>intro z hz;cases hz
 | @cons n a m p ha ht hu hm ho hp ih=>
  intro z hz
  rcases List.mem_cons.1 hz with rfl|hz
  ·rw[Int.toNat_natCast];exact hu
  ·exact ih z hz
theorem o8(T:an)(D:List Bool)(x y:Int):Can Tryz.prog 34 [aJ T,aM D,num x,num y] (· =df (fH T D x y) (cm T D x.toNat y.toNat)):=by
 exact aF Tryz.func34 rfl Tryz.ntmps34 rfl<|ab (.a 3 rfl<|.k [1,2,3,4] rfl)<|ab (.a 4 rfl<|.c rfl (nq T D x y) rfl<|.a 4 rfl<|.k [8,9] rfl)<|ao<|⟨_,_,aA.of rfl,ax.pure,rfl⟩
theorem FB{T:an}{D:List Bool}{n:Int}{p:List Int}(hp:0<p.length):0<(iZ T D n p).length:=by
 unfold iZ
 obtain⟨f,hf⟩:∃f,p.length=f+1:=⟨p.length - 1,by omega⟩
 rw[hf]
 simp only[gC]
 rw[if_pos (by omega)]
 cases jm (ej T D n p 0) 0 p.length<;>simp
end PW
end Go.Proofs.YtnegbdpggideiaaGreatDoor
namespace Go.Proofs.YtnegbdpggideiaaGreatDoor
namespace PW
open Go.RowKit cH Mem Net
def kz:List cq→List cq
 | []=>[]
 |s::l=>if s.kind=2 then l else s::l
noncomputable def jK(T:an)(D:List Bool)(n d:Int):ij:=
 if fH T D n d=0∧n≠d then⟨[(cm T D n.toNat d.toNat).getD 0 0],true,kz (iZ T [] n (cm T D n.toNat d.toNat))⟩ else⟨[],false,[]⟩
structure qy (T:an) (D:List Bool) (x y:Nat) (p:List Int):Prop where
 valid:av T=true
 fits:bL T D=true
 ne:x≠y
 hx:(x:Int)<T.nodes
 hy:(y:Int)<T.nodes
 sp:SP T D y x p
theorem tO{T:an}{D:List Bool}{n d:Int}(h:fH T D n d=0)(hne:n≠d):∃a b:Nat,n=(a:Int)∧d=(b:Int)∧qy T D a b (cm T D a b):=by
 have hf:bL T D=true:=by
  have h':=h
  unfold fH at h'
  split at h'
  ·rename_i h1;exact(eH h1).2.1
  ·rename_i h1;exact absurd h' h1
 obtain⟨a,b,rfl,rfl,ha,hb,hv,hsp⟩:=mD h
 simp only[Int.toNat_natCast]at hsp
 exact⟨a,b,rfl,rfl,hv,hf,fun e=>hne (by rw[e]),ha,hb,hsp⟩
section
variable {T:an} {D:List Bool} {x y:Nat} {p:List Int}
theorem qy.pos(h:qy T D x y p):0<p.length:=by
 have hsp:=h.sp
 cases hsp with
 |nil=>exact absurd rfl h.ne
 |cons _ _ _=>simp
theorem qy.G9(h:qy T D x y p):pE T D x p:=⟨h.valid,h.fits,aO.2 ⟨by omega,h.hx⟩,yW h.sp.ch,h.sp.ch.Ju⟩
theorem qy.zero(h:qy T D x y p):eI T D x p=0:=wq h.G9
theorem qy.len(h:qy T D x y p):(p.length:Int)<T.nodes:=h.sp.xt h.valid h.hy
theorem qy.head(h:qy T D x y p):p.getD 0 0∈bm T D x y:=by
 have hsp:=h.sp
 cases hsp with
 |nil=>exact absurd rfl h.ne
 | @cons n a m q h1 hm hq=>exact fq h1 ((aQ h.valid).cost a h1.iM).1
theorem qy.I2(h:qy T D x y p):∃a:Nat,p.getD 0 0=(a:Int)∧jq T D x y a:=dj h.head
theorem qy.GU(h:qy T D x y p):0<(iZ T [] x p).length∧(iZ T [] x p).length≤p.length:=⟨FB h.pos,Fy _ _⟩
theorem qy.ck(h:qy T D x y p):IM T D (iZ T [] x p) x p=true:=by
 have hF:=h.G9
 unfold IM
 rw[if_pos h.zero,Cn hF.bare _ 0 (Nat.zero_le _),Bool.and_eq_true]
 exact⟨xS hF.bare _ 0 (Nat.zero_le _) (by omega),tG hF.bare _ 0 (Nat.zero_le _)⟩
theorem qV{n:Int}(hp:0<p.length):∃s l,iZ T [] n p=s::l∧(s.kind=1∨s=⟨2,p.getD 0 0⟩):=by
 unfold iZ
 obtain⟨f,hf⟩:∃f,p.length=f+1:=⟨p.length - 1,by omega⟩
 rw[hf]
 simp only[gC]
 rw[if_pos (by omega)]
 cases jm (ej T [] n p 0) 0 p.length with
 |none=>exact⟨_,_,rfl,.inr rfl⟩
 |some j=>exact⟨_,_,rfl,.inl rfl⟩
theorem EX(l:List cq):(kz l).length≤l.length:=by
 cases l with
 |nil=>simp[kz]
 |cons s l=>simp only[kz];split<;>simp
theorem EP{l:List cq}{s:cq}(h:s∈kz l):s∈l:=by
 cases l with
 |nil=>cases h
 |cons a l=>simp only[kz]at h;split at h<;>simp_all
theorem yP(hF:pE T D x p):∀(f i:Nat),∀s∈gC T [] x p f i,nV T s=true
 |0,i,s,hs=>by simp[gC]at hs
 |f+1,i,s,hs=>by
  simp only[gC]at hs
  split at hs
  ·rename_i hi
   cases ht:jm (ej T [] x p i) i p.length with
   |none=>
    rw[ht]at hs
    simp only[List.mem_cons]at hs
    rcases hs with rfl|hs
    ·unfold nV;simp only[if_neg (show ¬(2:Int)=1 by decide),if_pos rfl];exact hF.aR _ (bR hi)
    ·exact yP hF f (i+1) s hs
   |some j=>
    rw[ht]at hs
    simp only[List.mem_cons]at hs
    obtain⟨h1,h2,h3,h4⟩:=ou _ _ ht
    rcases hs with rfl|hs
    ·obtain⟨u,hu,huN⟩:=cr hF.valid hF.node hF.aR j h2
     unfold nV;simp only[if_pos rfl];rw[hu];exact aO.2 ⟨by omega,huN⟩
    ·exact yP hF f j s hs
  ·cases hs
theorem qy.whole(h:qy T D x y p):IM T D (kz (iZ T [] x p)) x p=true∨IM T D (⟨2,p.getD 0 0⟩::kz (iZ T [] x p)) x p=true:=by
 obtain⟨s,l,hl,hs⟩:=qV (T:=T) (n:=(x:Int)) h.pos
 have hc:=h.ck
 rw[hl]at hc ⊢
 rcases hs with hs|rfl
 ·left
  simp only[kz]
  rw[if_neg (by omega)]
  exact hc
 ·right
  exact hc
end
theorem pQ{T:an}{D:List Bool}{x y:Nat}(h:qy T D x y (cm T D x y)):jK T D x y=⟨[(cm T D x y).getD 0 0],true,kz (iZ T [] x (cm T D x y))⟩:=by
 unfold jK
 rw[if_pos]
 ·simp only[Int.toNat_natCast]
 ·refine⟨?_,fun e=>h.ne (by omega)⟩
  rw[nS h.valid h.fits h.hx h.hy,if_neg]
  have:=(h.sp.cost h.valid h.hy).2
  omega
theorem tR{T:an}{D:List Bool}{n d:Int}(h:¬(fH T D n d=0∧n≠d)):jK T D n d=⟨[],false,[]⟩:=if_neg h
theorem sB(T:an)(D:List Bool)(n d:Int):(jK T D n d=⟨[],false,[]⟩∧¬(fH T D n d=0∧n≠d))∨∃a b:Nat,n=(a:Int)∧d=(b:Int)∧qy T D a b (cm T D a b)∧jK T D n d=⟨[(cm T D a b).getD 0 0],true,kz (iZ T [] a (cm T D a b))⟩:=by
 by_cases h:fH T D n d=0∧n≠d
 ·obtain⟨a,b,rfl,rfl,hp⟩:=tO h.1 h.2
  exact .inr ⟨a,b,rfl,rfl,hp,pQ hp⟩
 ·exact .inl ⟨tR h,h⟩
theorem D2(T:an)(D:List Bool)(n d:Int)(h12:T.nodes≤12):(jK T D n d).push.length≤32:=by
 rcases sB T D n d with⟨h,_⟩|⟨a,b,rfl,rfl,hp,h⟩
 ·rw[h];simp
 ·rw[h]
  have:=EX (iZ T [] a (cm T D a b))
  have:=hp.GU.2
  have:=hp.len
  show(kz _).length≤32
  omega
theorem Du(T:an)(D:List Bool)(n d:Int)(h12:T.nodes≤12):jh T n d (jK T D n d)=true:=by
 have hpl:=D2 T D n d h12
 rcases sB T D n d with⟨h,_⟩|⟨a,b,rfl,rfl,hp,h⟩
 ·rw[h]
  unfold jh
  have:eS T n []=true:=decide_eq_true fun i hi=>by simp at hi
  simp only[this]
  simp
 ·rw[h]at hpl ⊢
  obtain⟨k,hk,hn⟩:=hp.I2
  have h1:eS T (a:Int) [(cm T D a b).getD 0 0]=true:=qk (by simp) fun c hc=>by
   simp only[List.mem_singleton]at hc
   subst hc
   rw[hk]
   exact⟨cT.2 ⟨by omega,by have:=hn.iM;omega⟩,by rw[Int.toNat_natCast];exact hn.tail⟩
  have h2:decide (((b:Nat):Int)=(a:Int))=false:=decide_eq_false (by have:=hp.ne;omega)
  have h3:(kz (iZ T [] a (cm T D a b))).all (nV T)=true:=List.all_eq_true.2 fun s hs=>yP hp.G9 _ 0 s (EP hs)
  unfold jh
  simp only[h1,h2,h3,if_true]
  simp only[Bool.true_and,Bool.false_and,Bool.not_false,Bool.and_true,Bool.and_eq_true,decide_eq_true_eq]
  exact⟨rfl,by have:(kz (iZ T [] a (cm T D a b))).length≤32:=hpl;omega⟩
noncomputable def np(T:an)(D:List Bool)(n:Int)(k:Nat):List ij:=(List.range k).map fun(d:Nat)=>jK T D n (d:Int)
theorem AO(T:an)(D:List Bool)(n:Int)(k:Nat):np T D n (k+1)=np T D n k++[jK T D n (k:Int)]:=by simp[np,List.range_succ]
theorem nB(T:an)(D:List Bool)(n:Int)(k:Nat):(np T D n k).length=k:=by simp[np]
theorem vg{T:an}{D:List Bool}{n:Int}{k d:Nat}(h:d<k):(np T D n k)[d]? =some (jK T D n (d:Int)):=by simp[np,h]
theorem Gj{T:an}{D:List Bool}{n k d:Nat}(h:d<k):(mU T D n k)[d]? =some ⟨bm T D n d,false,[]⟩:=by simp[mU,h]
noncomputable def tK(T:an)(D:List Bool)(n:Nat):eD:=⟨n,np T D n T.nodes.toNat,cj D (bC T n)⟩
theorem Bd{T:an}{D:List Bool}(hv:av T=true)(h12:T.nodes≤12){n:Nat}(hn:(n:Int)<T.nodes):eV T (tK T D n)=true:=by
 unfold eV tK
 have h1:aV T (n:Int)=true:=aO.2 ⟨by omega,hn⟩
 have hN:=(aQ hv).nodes
 have h2:decide (((np T D n T.nodes.toNat).length:Int)=T.nodes)=true:=decide_eq_true (by rw[nB];omega)
 have h3:eS T n (cj D (bC T n))=true:=mE T n _
 have h4:mR T n (np T D n T.nodes.toNat)=true:=jw fun d e he=>by
  have hd:d<T.nodes.toNat:=by
   have:=(List.getElem?_eq_some_iff.1 he).1
   rwa [nB]at this
  rw[vg hd]at he
  cases he
  exact Du T D n d h12
 rw[hv,h1,h2,h3,h4]
 rfl
theorem iy.same{T:an}{D:List Bool}{x y:Nat}{p:List Int}(h:iy T D x y p):cm T D x y=p∧qy T D x y p∧iZ T [] x p=[⟨1,(y:Int)⟩]:=by
 have hv:=h.valid
 have hch:=h.sp.ch.mask h.up
 have h1:=hch.le hv h.hy
 have h0:=h.sp.cost hv h.hy
 have hq:=eP (D:=D) hv h.hy h.hx h1.1
 have hqc:=hq.cost hv h.hy
 have hqb:=hq.ch.bare
 have h2:=hqb.le hv h.hy
 have hq':=hqb.sp hv h.hy (by omega)
 have he:cm T D x y=p:=hq'.unique hv h.hy h.sp h.lX
 have hP:qy T D x y p:=⟨hv,h.fits,h.ne,h.hx,h.hy,by rw[←he];exact hq⟩
 refine⟨he,hP,?_⟩
 unfold iZ
 obtain⟨f,hf⟩:∃f,p.length=f+1:=⟨p.length - 1,by have:=h.pos;omega⟩
 rw[hf,kZ (j:=p.length) h.pos h.pos (Nat.le_refl _) h.IP (fun k h3 h4=>by omega),oc _ _ (Nat.le_refl _),List.take_length,h.sp.ch.fin]
theorem iy.B3{T:an}{D:List Bool}{x y:Nat}{p:List Int}(h:iy T D x y p):bm T [] x y=[p.getD 0 0]∧bm T D x y=[p.getD 0 0]∧jK T D x y=⟨[p.getD 0 0],true,[⟨1,(y:Int)⟩]⟩:=by
 obtain⟨h1,h2,h3⟩:=h.same
 obtain⟨h4,h5,_⟩:=h.next (i:=0) h.pos (u:=x) rfl
 refine⟨h4,h5,?_⟩
 rw[←h1]at h2
 rw[pQ h2,h1,h3]
 rfl
end PW
end Go.Proofs.YtnegbdpggideiaaGreatDoor
namespace Go.Proofs.YtnegbdpggideiaaGreatDoor
namespace PW
open Go.RowKit cH Mem Net ft
section
variable {P:Program} {σ:cg} {t:b9} {o:Oper} {N L:Nat} {ops:Array Oper}
theorem ui{rest:List Oper}{K:St→Prop}{d:Nat}{x y:Operand}{ty tz:TypeId}{xs:List PV}(ho:o.op= .binOp .eql ty x y tz)(hk:vZ P ty=true)(hx:aE t x=some (.slice 0 xs))(hy:aE t y=some (.raw (.slice none 0 0)))(hd:o.dst=some d)(hw:eN ops t o=some true)(hN:Nat.blt d N=true)
  (h:∀b,WR P N L ops rest ⟨(d,.raw (.bool b))::t,σ⟩ K):WR P N L ops (o::rest) ⟨t,σ⟩ K:=by
 refine nZ hw fun F base E a w hs next Q hn=>?_
 obtain⟨e,hu⟩:=o4 hk
 have h1:=az (gh a) hs.tmp hx
 have h2:=az (gh a) hs.tmp hy
 generalize hz:a.eval x=z at h1
 generalize hz':a.eval y=z' at h2
 cases h2
 obtain⟨p,c,rfl,_,_⟩:=ot h1
 have hrun:=Lib.run_eql_slice_nil w ty e p 0 c 0 0 hu
 have hg:∀a n c b m d,(eqGuard .eql ty x y (.slice a n c) (.slice b m d)).run P w= .ok () w:=fun _ _ _ _ _ _=>rfl
 have hU:gb P w (fun v w'=>cD E w' v (.raw (.bool p.isNone))) ((execOp a.eval o).run P w):=by
  simp only[execOp,ho,hz,hz',Sem.run_bind,Sem.run_pure,Result.andThen_ok,hg,hrun]
  exact br (.raw _)
 refine pN hU fun v w' hE hv=>hn _ _ _ E (h p.isNone) ?_ (.ext hE) (Below.iC hE hs.sat.bl)
 rw[hd]
 exact hs.put (hs.sat.ext hE) (.ext hE) hN hv
theorem rE{ty e s n h:Nat}{x hi' mx:Operand}{xs:List PV}{k k':IntKind}{hii mi:Int}(ho:o.op= .slice ty x none (some hi') (some mx))(he:sw P ty=some (e,s))(hx:aE t x=some (.slice n xs))(hhi:aE t hi'=some (.raw (.int k hii)))(hmx:aE t mx=some (.raw (.int k' mi)))(hxl:xs.length=n*s)(hli:hii=(h:Int))(hmi:mi=(h:Int))(hl:h≤n):
  bp P σ t o (.slice h (xs.take (h*s))):=by
 intro F base E ρ w hρ hS hT
 have h1:=az hρ hT hx
 have h2:=az hρ hT hhi
 have h3:=az hρ hT hmx
 obtain⟨hu,i,hi,hs⟩:=fx he
 generalize hz:ρ x=v at h1
 generalize hz':ρ hi'=u at h2
 generalize hz2:ρ mx=u2 at h3
 cases h2
 cases h3
 subst hli
 subst hmi
 obtain⟨a,c,rfl,hc1,hc2⟩:=ot h1
 have hR:=nf (s:=s) (l:=0) h1 hxl (Nat.zero_le _) hl (Nat.le_refl h) (Nat.le_trans hl hc1)
 have hrun:(Instr.sliceAt ty (.slice a n c) none (some (.int k (h:Int))) (some (.int k' (h:Int)))).run P w= .ok (.slice (if h=0 then a else a.map (·.add (0*s))) (h - 0) (h - 0)) w:=by
  have:h≤c:=Nat.le_trans hl hc1
  simp[Instr.sliceAt,run_underlying hu,Instr.slice,Instr.sliceBounds,Instr.sliceBound,asIntOf,this,sizeOf,typeInfo,hi]
 simp only[execOp,ho,hz,hz',hz2,Option.map_some,Option.map_none,Sem.run_bind,hrun,Result.andThen_ok,Sem.run_pure]
 refine br ?_
 simpa using hR
end
theorem Jh:vZ Tryz.prog 39=true:=by kernel_rfl
theorem nk(l:List cq)(hl:l.length≤1000):Can Tryz.prog 142 [cC l] (· =cC l):=by
 refine aF Tryz.func142 rfl Tryz.ntmps142 rfl<|ab (.a 1 rfl<|.k [0] rfl)<|aj<|aH (WR.mono (K:=fun s=>∃b:Bool,s=⟨[(0,cC l),(4,.raw (.bool b))],[]⟩∧(b=true→l=[])) ?_ ?_)
 ·cases l with
  |nil=>exact aq 1 rfl<|ui rfl Jh rfl rfl rfl rfl rfl fun b=>aD [0,4] rfl ⟨b,rfl,fun _=>rfl⟩
  |cons a l=>exact aq 1 rfl<|bK (oq rfl Jh rfl rfl (Nat.succ_pos _)) rfl rfl rfl<|aD [0,4] rfl ⟨_,rfl,fun h=>by cases h⟩
 rintro _ ⟨b,rfl,hb⟩
 refine af rfl (fun hc=>?_) (fun hc=>?_)
 ·have:l=[]:=hb hc
  subst this
  exact ab (.a 1 rfl<|.k [2] rfl)<|ao<|⟨_,_,aA.of rfl,ax.bO,rfl⟩
 ·refine ak<|aH<|cf (kr rfl (bF.sl.get rfl)) rfl<|aq 1 rfl<|cf (bu rfl (bF.rk.get rfl) rfl rfl rfl (mA l) (by unfold maxLen;omega)) rfl<|aq 1 rfl<|aD [2] rfl ?_
  refine ao<|⟨_,_,aA.of rfl,ax.dX (xs:=eF l) (ys:=eF l) rfl ai.pure,?_⟩
  rw[Nat.zero_add];rfl
theorem kb{P:Program}{σ:cg}{t:b9}{o:Oper}{ty:TypeId}{x lo:Operand}{s:cq}{l:List cq}{k:IntKind}(ho:o.op= .slice ty x (some lo) none none)(he:sw P ty=some (103,2))(hx:aE t x=some (.slice (s::l).length (eF (s::l))))(hlo:aE t lo=some (.raw (.int k 1))):bp P σ t o (.slice l.length (eF l)):=by
 have h:=sa (l:=1) (σ:=σ) ho he hx hlo (mA _) rfl (by simp)
 have e:((eF (s::l)).drop (1*2)).take (((s::l).length - 1)*2)=eF l:=by
  show(eF l).take _=_
  refine List.take_of_length_le ?_
  rw[mA];simp
 rw[e]at h
 exact h
theorem uG{T:an}{D:List Bool}{n d:Int}(h:fH T D n d≠0):jK T D n d=⟨[],false,[]⟩:=tR fun hh=>h hh.1
theorem Gd{T:an}{D:List Bool}{n d:Int}(h:fH T D n d≠0)(h':fH T D n d≠11):bQ T D n d=fH T D n d:=by
 unfold fH at*
 split at h<;>simp_all
theorem G8{T:an}{D:List Bool}{n d:Int}(h:fH T D n d=0∨fH T D n d=11):bQ T D n d=0:=by
 unfold fH at h
 split at h
 ·assumption
 ·rename_i hh
  rcases h with h|h
  ·exact h
  ·exfalso
   unfold bQ ca at h
   split at h<;>(try split at h)<;>(try split at h)<;>omega
def Ie(e:Int)(x:ij):PV:=.tuple [oK x,num e]
theorem vH(T:an)(D:List Bool)(n d:Int)(hlk:T.ag.length≤256)(h12:T.nodes≤12):Can Tryz.prog 124 [aJ T,aM D,num n,num d] (· =Ie (bQ T D n d) (jK T D n d)):=by
 obtain⟨c1,hc1⟩:∃q,decide (fH T D n d≠0)=q:=⟨_,rfl⟩
 obtain⟨c2,hc2⟩:∃q,decide (fH T D n d≠11)=q:=⟨_,rfl⟩
 refine aF Tryz.func124 rfl Tryz.ntmps124 rfl<|aH<|aq 3 rfl<|aD [1,2,3,4,8] rfl ?_
 refine ab (.a 4 rfl<|.c rfl (xj T D n d) rfl<|.a 5 rfl<|.k [1,2,4,8,10,11] rfl)<|aj<|bx 27 (.raw (.bool (c1&&c2))) [1,2,4,8,10,11] rfl ?_ ?_
 ·refine .a 1 rfl<|.v (b7 rfl (hc1)) rfl<|.a 1 rfl<|?_
  cases c1
  ·exact .a 3 rfl<|.k [27,1,2,4,8,10,11] rfl
  ·exact .a 1 rfl<|.v (b7 rfl (hc2)) rfl<|.a 1 rfl<|.k [27,1,2,4,8,10,11] rfl
 refine af rfl (fun h1=>?_) (fun h1=>?_)
 ·obtain⟨rfl,rfl⟩:=Bool.and_eq_true_iff.1 h1
  have e1:=tt hc1
  rw[uG e1,Gd e1 (tt hc2)]
  refine aH<|aq 4 rfl<|aD [8,9] rfl ?_
  exact ao<|⟨_,_,aA.of rfl,ax.ba (ai.cons (ax.ew (ai.cons ax.bO<|ai.cons ax.pure<|ai.cons ax.bO ai.nil)) (ai.cons ax.pure ai.nil)),rfl⟩
 ·have e2:fH T D n d=0∨fH T D n d=11:=by
   rcases Bool.and_eq_false_iff.1 h1 with h|h
   ·subst h;exact .inl (Classical.byContradiction (ff hc1))
   ·subst h;exact .inr (Classical.byContradiction (ff hc2))
  rw[G8 e2]
  clear h1 hc1 hc2
  obtain⟨P,hP⟩:∃P,(if fH T D n d=0 then cm T D n.toNat d.toNat else [])=P:=⟨_,rfl⟩
  rw[hP]
  refine ak<|aj<|ab (.a 3 rfl<|.k [1,2,4,8,10,32] rfl)<|af rfl (fun h2=>?_) (fun h2=>?_)
  ·have hno:¬(fH T D n d=0∧n≠d):=by
    rintro⟨h3,h4⟩
    rw[if_pos h3]at hP
    obtain⟨a,b,rfl,rfl,hp⟩:=tO h3 h4
    have:=tt h2
    have:=hp.pos
    rw[←hP]at*
    simp only[Int.toNat_natCast]at*
    omega
   rw[tR hno]
   refine aH<|aq 3 rfl<|aD [8,9] rfl ?_
   exact ao<|⟨_,_,aA.of rfl,ax.ba (ai.cons (ax.ew (ai.cons ax.bO<|ai.cons ax.pure<|ai.cons ax.bO ai.nil)) (ai.cons ax.pure ai.nil)),rfl⟩
  ·obtain⟨p0,q,rfl⟩:∃p0 q,P=p0::q:=by
    cases P with
    |nil=>exact absurd rfl (ff h2)
    |cons p0 q=>exact⟨_,_,rfl⟩
   have h3:fH T D n d=0:=by
    rcases e2 with h|h
    ·exact h
    ·rw[h]at hP;simp at hP
   rw[if_pos h3]at hP
   have h4:n≠d:=by
    rintro rfl
    obtain⟨a,b,ha,hb,_,_,hv',hsp⟩:=mD h3
    have:a=b:=by omega
    subst this
    have:=hsp.self
    rw[this]at hP
    cases hP
   obtain⟨a,b,rfl,rfl,hp⟩:=tO h3 h4
   simp only[Int.toNat_natCast]at hP
   have hent:=pQ hp
   rw[hP]at hp hent
   have hpl:=hp.len
   obtain⟨s,l,hl,hs⟩:=qV (T:=T) (n:=(a:Int)) hp.pos
   have hll:=hp.GU.2
   rw[hl]at hent hll
   have hsl:=AD T D (p0::q) a (by simp only[List.length_cons]at hpl ⊢;omega) hlk h12
   rw[hl]at hsl
   unfold mQ at hsl
   rw[hp.zero,if_pos rfl]at hsl
   clear h2 e2 hl hs hp hP h3 h4
   simp only[List.length_cons]at hll hpl
   rw[show(p0::q).getD 0 0=p0 from rfl]at hent
   refine ak<|ab (.a 4 rfl<|.c rfl (hsl) rfl<|.a 5 rfl<|.k [8,10,12] rfl)<|aj<|ab (.a 1 rfl<|.v (aI (0) rfl (by omega) (by simp only[List.length_cons];omega)) rfl<|.a 1 rfl<|.v (aK rfl ((show(eF (s::l))[0]? =some (num s.kind) from rfl))) rfl<|.a 1 rfl<|.k [8,10,12,46] rfl)<|af rfl (fun h5=>?_) (fun h5=>?_)
   ·have hc:kz (s::l)=l:=if_pos (tt h5)
    rw[hc]at hent
    have hlm:l.length≤32:=by omega
    refine aB (.a 1 rfl<|.v (kb rfl (bF.el.get rfl) rfl rfl) rfl<|.a 1 rfl<|.k [8,10,12] rfl) ?_
    refine aj<|ab (.a 3 rfl<|.k [8,10,12,51] rfl)<|af rfl (fun h6=>?_) (fun h6=>?_)
    ·exact absurd (tt h6) (by omega)
    ·clear h6
     refine ak<|lD 5 20 mixed (
      .val [10] rfl (bI rfl) rfl rfl<|
      .val [53] rfl (rE (h:=1) rfl (bF.el.get rfl) rfl rfl rfl (show(aN (p0::q)).length=_ by simp[aN]) rfl rfl (by simp)) rfl rfl<|
      .val [12] rfl (bI rfl) rfl rfl<|
      .val [55] rfl (dw rfl (nk _ (by omega))) rfl rfl<|
      .val [54,56] rfl (bI rfl) rfl rfl<|
      .nil) (by kernel_rfl) rfl rfl (bd (ks:=[8,57]) rfl) ?_
     refine aq 2 rfl<|aD [8,9] rfl ?_
     exact ao<|⟨_,_,aA.of rfl,ax.ba (ai.cons (ax.ew (ai.cons (ax.pure (p:=aw [p0]))<|ai.cons ax.pure<|ai.cons (ax.pure (p:=cC _)) ai.nil)) (ai.cons ax.pure ai.nil)),by rw[hent];rfl⟩
   ·have hc:kz (s::l)=s::l:=if_neg (ff h5)
    rw[hc]at hent
    have hlm:(s::l).length≤32:=by simp only[List.length_cons];omega
    refine ak<|aj<|ab (.a 3 rfl<|.k [8,10,12,51] rfl)<|af rfl (fun h6=>?_) (fun h6=>?_)
    ·exact absurd (tt h6) (by omega)
    ·clear h6
     refine ak<|lD 5 20 mixed (
      .val [10] rfl (bI rfl) rfl rfl<|
      .val [53] rfl (rE (h:=1) rfl (bF.el.get rfl) rfl rfl rfl (show(aN (p0::q)).length=_ by simp[aN]) rfl rfl (by simp)) rfl rfl<|
      .val [12] rfl (bI rfl) rfl rfl<|
      .val [55] rfl (dw rfl (nk _ (by omega))) rfl rfl<|
      .val [54,56] rfl (bI rfl) rfl rfl<|
      .nil) (by kernel_rfl) rfl rfl (bd (ks:=[8,57]) rfl) ?_
     refine aq 2 rfl<|aD [8,9] rfl ?_
     exact ao<|⟨_,_,aA.of rfl,ax.ba (ai.cons (ax.ew (ai.cons (ax.pure (p:=aw [p0]))<|ai.cons ax.pure<|ai.cons (ax.pure (p:=cC _)) ai.nil)) (ai.cons ax.pure ai.nil)),by rw[hent];rfl⟩
theorem qp{P:Program}{σ:cg}{t:b9}{o:Oper}{ty:TypeId}{x hi:Operand}{a:Int}{q:List Int}{k:IntKind}(ho:o.op= .slice ty x none (some hi) none)(he:sw P ty=some (3,1))(hx:aE t x=some (.slice (a::q).length (aN (a::q))))(hhi:aE t hi=some (.raw (.int k 1))):bp P σ t o (.slice 1 (aN [a])):=by
 have h:=so (h:=1) (σ:=σ) ho he hx hhi (by simp[aN]) rfl (by simp)
 exact h
theorem qt(T:an)(D:List Bool)(n d:Int)(h12:T.nodes≤12):Can Tryz.prog 139 [aJ T,aM D,num n,num d] (· =Ie (bQ T D n d) (jK T D n d)):=by
 obtain⟨q0,hq0⟩:∃q,(av T&&bL T D)=q:=⟨_,rfl⟩
 obtain⟨c1,hc1⟩:∃q,decide (n<0)=q:=⟨_,rfl⟩
 obtain⟨c2,hc2⟩:∃q,decide (T.nodes≤n)=q:=⟨_,rfl⟩
 obtain⟨c3,hc3⟩:∃q,decide (d<0)=q:=⟨_,rfl⟩
 obtain⟨c4,hc4⟩:∃q,decide (T.nodes≤d)=q:=⟨_,rfl⟩
 have hnode:∀x:Int,aV T x= !(decide (x<0)||decide (T.nodes≤x)):=fun x=>by rw[←Bool.decide_or,←decide_not];unfold aV;exact decide_eq_decide.2 (by omega)
 have hn0:=hnode n
 have hd0:=hnode d
 rw[hc1,hc2]at hn0
 rw[hc3,hc4]at hd0
 have hE:bQ T D n d=if q0=true then(if(((c1||c2)||c3)||c4)=true then 2 else 0) else 1:=by
  unfold bQ ca
  simp only[List.all_cons,List.all_nil,Bool.and_true,hn0,hd0,hq0]
  cases q0<;>cases c1<;>cases c2<;>cases c3<;>cases c4<;>rfl
 obtain⟨k1,hk1⟩:∃q,decide (fH T D n d≠0)=q:=⟨_,rfl⟩
 obtain⟨k2,hk2⟩:∃q,decide (n=d)=q:=⟨_,rfl⟩
 refine aF Tryz.func139 rfl Tryz.ntmps139 rfl<|aH<|aq 3 rfl<|aD [1,2,3,4,8] rfl ?_
 refine aj<|ab (.a 2 rfl<|.c rfl (hq0▸jM T D) rfl<|.a 1 rfl<|.k [1,2,3,4,8,17] rfl)<|af rfl (fun h1=>?_) (fun h1=>?_)
 ·have h1:q0=false:=by simpa using h1
  have he:bQ T D n d=1:=by rw[hE,h1];rfl
  have hs:fH T D n d≠0:=by unfold fH;rw[he];simp
  rw[uG hs,he]
  refine aH<|aq 3 rfl<|aD [8,9] rfl ?_
  exact ao<|⟨_,_,aA.of rfl,ax.ba (ai.cons (ax.ew (ai.cons ax.bO<|ai.cons ax.pure<|ai.cons ax.bO ai.nil)) (ai.cons ax.pure ai.nil)),rfl⟩
 ·have h1:q0=true:=by simpa using h1
  refine ak<|aj<|bx 36 (.raw (.bool (((c1||c2)||c3)||c4))) [1,2,3,4,8] rfl ?_ ?_
  ·refine .a 1 rfl<|.v (b7 rfl (hc1)) rfl<|.a 1 rfl<|?_
   cases c1
   ·refine .a 3 rfl<|.v (b7 rfl (hc2)) rfl<|.a 2 rfl<|?_
    cases c2
    ·refine .a 1 rfl<|.v (b7 rfl (hc3)) rfl<|.a 2 rfl<|?_
     cases c3
     ·exact .a 3 rfl<|.v (b7 rfl (hc4)) rfl<|.a 1 rfl<|.k [36,1,2,3,4,8] rfl
     ·exact .a 5 rfl<|.k [36,1,2,3,4,8] rfl
    ·exact .a 9 rfl<|.k [36,1,2,3,4,8] rfl
   ·exact .a 15 rfl<|.k [36,1,2,3,4,8] rfl
  refine af rfl (fun h2=>?_) (fun h2=>?_)
  ·have he:bQ T D n d=2:=by rw[hE,h1,h2];rfl
   have hs:fH T D n d≠0:=by unfold fH;rw[he];simp
   rw[uG hs,he]
   refine aH<|aq 3 rfl<|aD [8,9] rfl ?_
   exact ao<|⟨_,_,aA.of rfl,ax.ba (ai.cons (ax.ew (ai.cons ax.bO<|ai.cons ax.pure<|ai.cons ax.bO ai.nil)) (ai.cons ax.pure ai.nil)),rfl⟩
  ·have he:bQ T D n d=0:=by rw[hE,h1,h2];rfl
   rw[he]
   clear hE hn0 hd0 hnode h2 h1
   refine ak ?_
   have hrp:=o8 T D n d
   unfold df at hrp
   obtain⟨P,hP⟩:∃P,(if fH T D n d=0 then cm T D n.toNat d.toNat else [])=P:=⟨_,rfl⟩
   rw[hP]at hrp
   refine ab (.a 4 rfl<|.c rfl (hrp) rfl<|.a 5 rfl<|.k [1,2,3,4,8,10,11] rfl)<|aj<|bx 52 (.raw (.bool (k1||k2))) [1,2,4,8,10] rfl ?_ ?_
   ·refine .a 1 rfl<|.v (b7 rfl (hk1)) rfl<|.a 1 rfl<|?_
    cases k1
    ·exact .a 2 rfl<|.v (b7 rfl (hk2)) rfl<|.a 1 rfl<|.k [52,1,2,4,8,10] rfl
    ·exact .a 4 rfl<|.k [52,1,2,4,8,10] rfl
   refine af rfl (fun h3=>?_) (fun h3=>?_)
   ·have hno:¬(fH T D n d=0∧n≠d):=by
     rintro⟨h4,h5⟩
     rcases Bool.or_eq_true_iff.1 h3 with h|h
     ·rw[h]at hk1;exact tt hk1 h4
     ·rw[h]at hk2;exact h5 (tt hk2)
    rw[tR hno]
    refine aH<|aq 3 rfl<|aD [8,9] rfl ?_
    exact ao<|⟨_,_,aA.of rfl,ax.ba (ai.cons (ax.ew (ai.cons ax.bO<|ai.cons ax.pure<|ai.cons ax.bO ai.nil)) (ai.cons ax.pure ai.nil)),rfl⟩
   ·obtain⟨rfl,rfl⟩:=Bool.or_eq_false_iff.1 h3
    have h3:fH T D n d=0:=Classical.byContradiction (ff hk1)
    have h4:n≠d:=ff hk2
    obtain⟨a,b,rfl,rfl,hp⟩:=tO h3 h4
    simp only[Int.toNat_natCast]at hP
    rw[if_pos h3]at hP
    have hent:=pQ hp
    rw[hP]at hp hent
    have hpl:=hp.len
    obtain⟨s,l,hl,hs⟩:=qV (T:=T) (n:=(a:Int)) hp.pos
    have hll:=hp.GU.2
    rw[hl]at hent hll
    have hpos:=hp.pos
    obtain⟨p0,q,rfl⟩:∃p0 q,P=p0::q:=by
     cases P with
     |nil=>simp at hpos
     |cons p0 q=>exact⟨_,_,rfl⟩
    have hsl:=yE T D (p0::q) a (by simp only[List.length_cons]at hpl ⊢;omega) h12
    rw[hl]at hsl
    unfold mQ at hsl
    rw[hp.zero,if_pos rfl]at hsl
    clear hl hs hp hpos hP h3 h4 hk1 hk2
    simp only[List.length_cons]at hll hpl
    rw[show(p0::q).getD 0 0=p0 from rfl]at hent
    refine ak<|ab (.a 4 rfl<|.c rfl (hsl) rfl<|.a 5 rfl<|.k [8,10,12] rfl)<|aj<|ab (.a 1 rfl<|.v (aI (0) rfl (by omega) (by simp only[List.length_cons];omega)) rfl<|.a 1 rfl<|.v (aK rfl ((show(eF (s::l))[0]? =some (num s.kind) from rfl))) rfl<|.a 1 rfl<|.k [8,10,12,66] rfl)<|af rfl (fun h5=>?_) (fun h5=>?_)
    ·have hc:kz (s::l)=l:=if_pos (tt h5)
     rw[hc]at hent
     have hlm:l.length≤32:=by omega
     refine aB (.a 1 rfl<|.v (kb rfl (bF.el.get rfl) rfl rfl) rfl<|.a 1 rfl<|.k [8,10,12] rfl) ?_
     refine aj<|ab (.a 3 rfl<|.k [8,10,12,71] rfl)<|af rfl (fun h6=>?_) (fun h6=>?_)
     ·exact absurd (tt h6) (by omega)
     ·clear h6
      refine ak<|aH<|aq 1 rfl<|bA (qp rfl (bF.el.get rfl) rfl rfl) rfl<|aq 4 rfl<|aD [8,9] rfl ?_
      exact ao<|⟨_,_,aA.of rfl,ax.ba (ai.cons (ax.ew (ai.cons (ax.pure (p:=aw [p0]))<|ai.cons ax.pure<|ai.cons (ax.pure (p:=cC _)) ai.nil)) (ai.cons ax.pure ai.nil)),by rw[hent];rfl⟩
    ·have hc:kz (s::l)=s::l:=if_neg (ff h5)
     rw[hc]at hent
     have hlm:(s::l).length≤32:=by simp only[List.length_cons];omega
     refine ak<|aj<|ab (.a 3 rfl<|.k [8,10,12,71] rfl)<|af rfl (fun h6=>?_) (fun h6=>?_)
     ·exact absurd (tt h6) (by omega)
     ·clear h6
      refine ak<|aH<|aq 1 rfl<|bA (qp rfl (bF.el.get rfl) rfl rfl) rfl<|aq 4 rfl<|aD [8,9] rfl ?_
      exact ao<|⟨_,_,aA.of rfl,ax.ba (ai.cons (ax.ew (ai.cons (ax.pure (p:=aw [p0]))<|ai.cons ax.pure<|ai.cons (ax.pure (p:=cC _)) ai.nil)) (ai.cons ax.pure ai.nil)),by rw[hent];rfl⟩
end PW
end Go.Proofs.YtnegbdpggideiaaGreatDoor
namespace Go.Proofs.YtnegbdpggideiaaGreatDoor
namespace PW
open Go.RowKit cH Mem
section
variable {P:Program} {σ:cg} {t:b9} {o:Oper}
theorem vG{ty e s:Nat}{x:Operand}(ho:o.op= .call {callee:=.builtin .cap,args:= #[x],argTypes:= #[ty]})(he:sw P ty=some (e,s))(hx:aE t x=some (.raw (.slice none 0 0))):bp P σ t o (.raw (.int .i64 0)):=by
 intro F base E ρ w hρ _ hT
 have h1:=az hρ hT hx
 obtain⟨hu,_⟩:=fx he
 generalize hz:ρ x=z at h1
 cases h1
 simp[execOp,ho,resolve,invoke,builtin,Builtin.cap_,hz,run_underlying hu,goInt]
 exact br (.raw _)
theorem xn{ty e s:Nat}{x hi':Operand}{k:IntKind}(ho:o.op= .slice ty x none (some hi') none)(he:sw P ty=some (e,s))(hx:aE t x=some (.raw (.slice none 0 0)))(hhi:aE t hi'=some (.raw (.int k 0))):bp P σ t o (.raw (.slice none 0 0)):=by
 intro F base E ρ w hρ _ hT
 have h1:=az hρ hT hx
 have h2:=az hρ hT hhi
 obtain⟨hu,inf,hinf,hs⟩:=fx he
 generalize hz:ρ x=z at h1
 generalize hz':ρ hi'=z' at h2
 cases h1
 cases h2
 have hr:(execOp ρ o).run P w= .ok (.value (.slice none 0 0)) w:=by
  simp[execOp,ho,hz,hz',Instr.sliceAt,run_underlying hu,Instr.slice,Instr.sliceBounds,Instr.sliceBound,asIntOf,sizeOf,typeInfo,hinf]
 rw[hr]
 exact br (.raw _)
theorem v7{P:Program}(w:World)(t tx ty e:TypeId)(i:TypeInfo)(z:Value)(ht:P.underlying t=some (.slice e))(hx:P.underlying tx=some (.int .i64))(hi:P.info? e=some i)(hz:i.zero=some z)(hp:0<i.size)(n:Nat)
  (h0:0<n) (h63:(n:Int)≤9223372036854775807) (h48:n*i.bytes≤281474976710656):
  (Builtin.append_ #[t,tx] ty #[.slice none 0 0,.int .i64 (n:Int)]).run P w=
   .ok (.slice (some ⟨w.heap.size,0,none⟩) n (grownCap w n 0 e)) (w.drew.alloc (.cells (Builtin.zeroCells z.cells n++Builtin.zeroCells z.cells (grownCap w n 0 e - n)) e)):=by
 have hn:n≠0:=by omega
 have hp':i.size≠0:=by omega
 have h63':¬(9223372036854775807<(n:Int)):=by omega
 have h48':¬(281474976710656<Builtin.nextslicecap n 0*i.bytes):=by rw[nextslicecap_zero h0];omega
 have hw:IntKind.i64.wrap (n:Int)=n:=jE (by unfold In64;omega)
 have hb:¬(281474976710656<(n:Int)*(i.bytes:Int)):=by
  have:((n*i.bytes:Nat):Int)≤281474976710656:=by omega
  rw[Int.natCast_mul]at this
  omega
 have rH:¬((n:Int)<0):=by omega
 simp[Builtin.append_,run_underlying ht,run_underlying hx,sizeOf,typeInfo,zeroValue,hi,hz,asInt,asIntOf,hw,hb,rH,hn,hp',h63',h48',Question.forced,run_firstCells_none,newRow,grownCap]
 exact fun h=>absurd h (Nat.mul_ne_zero hn hp')
theorem zN{ty tx e s by':Nat}{z:List Value}{x y:Operand}{n:Nat}{m:Int}(ho:o.op= .call {callee:=.builtin .append,args:= #[x,y],argTypes:= #[ty,tx]})(hk:wB P ty=some (e,s,by',z))(htx:P.underlying tx=some (.int .i64))(hx:aE t x=some (.raw (.slice none 0 0)))(hy:aE t y=some (.raw (.int .i64 m)))(hm:m=(n:Int))(h0:0<n)(hn:n≤maxLen∧n*by'≤281474976710656):
  cM P σ t o (.own σ.length) (σ++[some (.row e s n (dc (z.map .raw) n))]):=by
 intro F base E ρ w hρ hS hT
 have h1:=az hρ hT hx
 have h2:=az hρ hT hy
 generalize hz1:ρ x=v1 at h1
 generalize hz2:ρ y=v2 at h2
 cases h1;cases h2
 subst hm
 obtain⟨hu,i,z',hi,hs,hby,hz,hzz,hzs,hpos⟩:=ow hk
 have hsm:n≤9223372036854775807:=by have:=hn.1;simp only[maxLen]at this;omega
 have hrun:=v7 (P:=P) w ty tx o.type e i z' hu htx hi hz (by omega) n h0 (by omega) (by rw[hby];exact hn.2)
 have hr:(execOp ρ o).run P w= .ok (.value (.slice (some ⟨w.heap.size,0,none⟩) n (grownCap w n 0 e))) (w.drew.alloc (.cells (Builtin.zeroCells z'.cells n++Builtin.zeroCells z'.cells (grownCap w n 0 e - n)) e)):=by
  simp only[execOp,ho,resolve,invoke,builtin,Sem.run_bind,Sem.run_pure,Result.andThen_ok,List.map_toArray,List.map_cons,List.map_nil,hz1,hz2,hrun]
 have hge:=grownCap_ge w n 0 e
 have hcm:grownCap w n 0 e≤maxLen:=grownCap_le_maxLen w n 0 e hn.1
 have hzc:(Builtin.zeroCells z'.cells n).size=n*s:=by rw[size_zeroCells,hzs]
 have hown:(w.drew.alloc (.cells (Builtin.zeroCells z'.cells n++Builtin.zeroCells z'.cells (grownCap w n 0 e - n)) e)).ownsRow base e s (.slice (some ⟨w.heap.size,0,none⟩) n (grownCap w n 0 e)) n (Builtin.zeroCells z'.cells n).toList:=by
  refine⟨by rw[Array.length_toList,hzc],.inr ⟨w.heap.size,_,_,rfl,hS.bl,heap_alloc_new w.drew _,hge,hcm,?_,?_⟩⟩
  ·simp only[Array.size_append,size_zeroCells,hzs,←Nat.add_mul]
   congr 1
   omega
  ·simp only[Array.toList_append]
   rw[←hzc,←Array.length_toList]
   exact List.take_left
 have hg:w.grownBy (w.drew.alloc (.cells (Builtin.zeroCells z'.cells n++Builtin.zeroCells z'.cells (grownCap w n 0 e - n)) e)) none:=⟨rfl,rfl,rfl,by simp,fun k hk _=>heap_alloc_old w.drew _ hk⟩
 have hR:aZ E w (Builtin.zeroCells z'.cells n).toList (dc (z.map .raw) n):=by
  rw[←hzz];exact mo z'.cells n (n*z'.cells.size) rfl
 obtain⟨a1,a2,a3,a4⟩:=nF hS (oo hg) (fun b h=>by simp[bG]at h;omega) hown hR
 exact⟨_,_,_,.inl hr,a1,a2,a3,a4⟩
end
end PW
end Go.Proofs.YtnegbdpggideiaaGreatDoor
namespace Go.Proofs.YtnegbdpggideiaaGreatDoor
namespace PW
open Go.RowKit cH Mem Net ft
theorem qR(l:List Int)(hl:l.length≤1000):Can Tryz.prog 144 [aw l] (· =aw l):=by
 refine aF Tryz.func144 rfl Tryz.ntmps144 rfl<|ab (.a 1 rfl<|.k [0] rfl)<|aj<|aH (WR.mono (K:=fun s=>∃b:Bool,s=⟨[(0,aw l),(4,.raw (.bool b))],[]⟩∧(b=true→l=[])) ?_ ?_)
 ·cases l with
  |nil=>exact aq 1 rfl<|ui rfl Iy rfl rfl rfl rfl rfl fun b=>aD [0,4] rfl ⟨b,rfl,fun _=>rfl⟩
  |cons a l=>exact aq 1 rfl<|bK (oq rfl Iy rfl rfl (Nat.succ_pos _)) rfl rfl rfl<|aD [0,4] rfl ⟨_,rfl,fun h=>by cases h⟩
 rintro _ ⟨b,rfl,hb⟩
 refine af rfl (fun hc=>?_) (fun hc=>?_)
 ·have:l=[]:=hb hc
  subst this
  exact ab (.a 1 rfl<|.k [2] rfl)<|ao<|⟨_,_,aA.of rfl,ax.bO,rfl⟩
 ·refine ak<|aH<|cf (kr rfl (bF.sl.get rfl)) rfl<|aq 1 rfl<|cf (bu rfl (bF.rk.get rfl) rfl rfl rfl (show(aN l).length=l.length*1 by simp[aN]) (by unfold maxLen;omega)) rfl<|aq 1 rfl<|aD [2] rfl ?_
  refine ao<|⟨_,_,aA.of rfl,ax.dX (xs:=aN l) (ys:=aN l) rfl ai.pure,?_⟩
  rw[Nat.zero_add];rfl
theorem Ap(n:Nat)(hn:n≤1000):bV Tryz.prog 172 [.raw (.slice none 0 0),num n] [] (fun r σ'=>r= .own 0∧σ'=[some (.row 103 2 0 [])]):=by
 refine ct Tryz.func172 rfl Tryz.ntmps172 rfl<|ab (.a 1 rfl<|.k [0,1] rfl)<|aj<|ab (.a 2 rfl<|.k [0,1,6] rfl)<|af rfl (fun h1=>?_) (fun h1=>?_)
 ·exact absurd (tt h1) (by omega)
 ·clear h1
  refine ak<|aj<|ab (.a 2 rfl<|.v (vG rfl (bF.el.get rfl) rfl) rfl<|.a 1 rfl<|.v (rB rfl (bF.el.get rfl) rfl) rfl<|.v (aP rfl) rfl<|.v (aP rfl) rfl<|.a 1 rfl<|.k [0,1] rfl)<|ab (.a 2 rfl<|.k [0,1,16] rfl)<|af rfl (fun h2=>?_) (fun h2=>?_)
  ·have hpos:0<n:=by have:=tt h2;omega
   refine bq<|aq 2 rfl<|bA (vG rfl (bF.el.get rfl) rfl) rfl<|bA (xn rfl (bF.el.get rfl) rfl rfl) rfl<|aq 1 rfl<|cf (zN (n:=n) rfl (bF.rk.get rfl) Tryz.underlying3 rfl rfl (by omega) hpos (by unfold maxLen;omega)) rfl<|aq 1 rfl<|bA (rB rfl (bF.el.get rfl) rfl) rfl<|cf (og (h:=0) rfl (bF.el.get rfl) rfl rfl rfl rfl (by omega)) rfl<|aq 1 rfl<|aD [0] rfl ?_
   refine dy [1] (.c 0<|.nil) (.kept rfl (.row aC.nil)<|.nil) rfl rfl ?_
   exact ab (.a 2 rfl<|.k [4] rfl)<|ao<|⟨_,aA.of rfl,rfl,rfl⟩
  ·refine eo 0 103 2 rfl ?_
   exact ak<|ab (.a 2 rfl<|.k [4] rfl)<|ao<|⟨_,aA.of rfl,rfl,rfl⟩
def qq(A B:List cq)(i:Nat):List cq:=if i=0 then [] else if i=1 then A else A++B
def EZ(A B:List cq)(i:Nat):List cq:=if i=0 then A else B
theorem u6(A B:List cq){i:Nat}(h:i<2):qq A B (i+1)=qq A B i++EZ A B i:=by
 rcases(show i=0∨i=1 by omega)with rfl|rfl<;>rfl
theorem pI(A B:List cq)(i:Nat):(qq A B i).length≤A.length+B.length:=by
 unfold qq
 split
 ·simp
 ·split<;>simp
theorem pB(A B:List cq)(hl:A.length+B.length≤1000):Can Tryz.prog 145 [.slice 2 [cC A,cC B]] (· =cC (A++B)):=by
 refine aF Tryz.func145 rfl Tryz.ntmps145 rfl ?_
 have hg:=Ap (A++B).length (by simpa using hl)
 refine ab (.a 1 rfl<|.k [0] rfl)<|ab (.a 1 rfl<|.k [0,3] rfl)<|aj<|ab (.a 3 rfl<|.k [0,3,9,10,11] rfl)<|au<|ee [0,3,9,10,11] rfl<|bf (fun r s=>∃i,i≤2∧r=2 - i∧s=⟨[(0,.slice 2 [cC A,cC B]),(3,num (qq A B i).length),(9,.slice 2 [cC A,cC B]),(10,num 2),(11,num i)],[]⟩) 2 ⟨0,by omega,by omega,rfl⟩ ?_
 rintro r s ⟨i,hi,rfl,rfl⟩
 refine ab (.a 1 rfl<|.k [0,3,9,10,11,12] rfl)<|aj<|af rfl (fun h1=>?_) (fun h1=>?_)
 ·have hlt:i<2:=by have:=tt h1;omega
  have hc1:=pI A B i
  have hc2:=pI A B (i+1)
  have hst:=congrArg List.length (u6 A B hlt)
  rw[List.length_append]at hst
  have hget:[cC A,cC B][i]? =some (cC (EZ A B i)):=by
   rcases(show i=0∨i=1 by omega)with rfl|rfl<;>rfl
  clear h1
  refine ak<|aj<|au<|ab (.v (aI (i) rfl) rfl<|.v (aK rfl (hget)) rfl<|.a 1 rfl<|.k [0,3,5,9,10,11] rfl)<|ab (.a 3 rfl<|.v (aP rfl (hc:=(show((qq A B i).length:Int)+((EZ A B i).length:Int)=((qq A B (i+1)).length:Int) by omega)) (hn:=(by unfold In64;omega))) rfl<|.a 1 rfl<|.k [0,3,9,10,11] rfl)<|ab (.a 2 rfl<|.k [0,3,9,10,11,20] rfl)<|af rfl (fun h2=>?_) (fun h2=>?_)
  ·exact absurd (tt h2) (by omega)
  ·clear h2
   refine ak<|aB (.v (aP rfl) rfl<|.a 1 rfl<|.k [0,3,9,10,11] rfl) ?_
   exact⟨2 - (i+1),by omega,i+1,by omega,rfl,rfl⟩
 ·have hie:i=2:=by have:=ff h1;omega
  subst hie
  have hcat:qq A B 2=A++B:=rfl
  rw[hcat]
  clear h1
  refine aY<|aH<|aq 1 rfl<|cP rfl rfl (bV.mono hg (fun r σ' h=>?_))
  obtain⟨rfl,rfl⟩:=h
  refine aq 1 rfl<|aD [0,6] rfl ?_
  refine aj<|ab (.a 3 rfl<|.k [6,25,26,27] rfl)<|au<|ee [6,25,26,27] rfl<|bf (fun r s=>∃i,i≤2∧r=2 - i∧s=⟨[(6,.own 0),(25,.slice 2 [cC A,cC B]),(26,num 2),(27,num i)],[some (.row 103 2 (qq A B i).length (eF (qq A B i)))]⟩) 2 ⟨0,by omega,by omega,rfl⟩ ?_
  rintro r s ⟨i,hi,rfl,rfl⟩
  refine ab (.a 1 rfl<|.k [6,25,26,27,28] rfl)<|aj<|af rfl (fun h1=>?_) (fun h1=>?_)
  ·have hlt:i<2:=by have:=tt h1;omega
   have hc1:=pI A B i
   have hc2:=pI A B (i+1)
   have hst:=u6 A B hlt
   have hsl:=congrArg List.length hst
   rw[List.length_append]at hsl
   have hget:[cC A,cC B][i]? =some (cC (EZ A B i)):=by
    rcases(show i=0∨i=1 by omega)with rfl|rfl<;>rfl
   clear h1
   refine ak<|aj<|au<|ab (.v (aI (i) rfl) rfl<|.v (aK rfl (hget)) rfl<|.a 1 rfl<|.k [6,8,25,26,27] rfl)<|bq<|aq 2 rfl<|cf (bu rfl (bF.rk.get rfl) rfl rfl rfl (mA _) (show _≤maxLen∧_*16≤140737488355328 by unfold maxLen;omega)) rfl<|aq 1 rfl ?_
   refine de [1] (.c 6<|.c 25<|.c 26<|.c 27<|.nil) (.kept rfl (.ec rfl (rfl))<|.nil) rfl rfl (aU ?_)
   refine aB (.v (aP rfl) rfl<|.a 1 rfl<|.k [6,25,26,27] rfl) ?_
   refine⟨2 - (i+1),by omega,i+1,by omega,rfl,?_⟩
   rw[hst,List.length_append]
   unfold eF
   rw[List.flatMap_append]
   rfl
  ·have hie:i=2:=by have:=ff h1;omega
   subst hie
   have hcat:qq A B 2=A++B:=rfl
   rw[hcat]
   clear h1
   exact aY<|ab (.a 2 rfl<|.k [2] rfl)<|ao<|⟨_,_,aA.of rfl,ax.dX rfl ai.pure,rfl⟩
end PW
end Go.Proofs.YtnegbdpggideiaaGreatDoor
namespace Go.Proofs.YtnegbdpggideiaaGreatDoor
namespace PW
open Go.RowKit cH Mem Net ft
def FI(v:Int):List Int→Nat→Int
 | [],_=> -1
 |a::l,i=>bif decide (v=a) then(i:Int) else FI v l (i+1)
theorem zH(v:Int):∀(l:List Int) (i:Nat),0≤FI v l i↔v∈l
 | [],i=>by simp[FI]
 |a::l,i=>by
  simp only[FI]
  by_cases h:v=a
  ·rw[decide_eq_true h,cond_true]
   exact⟨fun _=>by rw[h];exact List.mem_cons_self,fun _=>by omega⟩
  ·rw[decide_eq_false h,cond_false,zH v l (i+1),List.mem_cons]
   exact⟨.inr,fun h'=>h'.resolve_left h⟩
theorem Eb(v:Int)(l:List Int)(i:Nat):decide (0≤FI v l i)=decide (v∈l):=decide_eq_decide.2 (zH v l i)
theorem ya(l:List Int)(v:Int)(hl:l.length≤1000):Can Tryz.prog 143 [aw l,num v] (· =num (FI v l 0)):=by
 refine aF Tryz.func143 rfl Tryz.ntmps143 rfl<|ab (.a 1 rfl<|.k [0,1] rfl)<|aj<|ab (.a 3 rfl<|.k [0,1,7,8] rfl)<|au<|ee [0,1,7,8] rfl<|bf (fun r s=>∃i,i≤l.length∧r=l.length - i∧FI v l 0=FI v (l.drop i) i∧s=⟨[(0,aw l),(1,num v),(7,num l.length),(8,num i)],[]⟩) l.length ⟨0,by omega,by omega,rfl,rfl⟩ ?_
 rintro r s ⟨i,hi,rfl,hx,rfl⟩
 refine ab (.a 1 rfl<|.k [0,1,7,8,9] rfl)<|aj<|af rfl (fun h1=>?_) (fun h1=>?_)
 ·have hlt:i<l.length:=by have:=tt h1;omega
  rw[drop_cons l i hlt]at hx
  simp only[FI]at hx
  obtain⟨q,hq⟩:∃q,decide (v=l.getD i 0)=q:=⟨_,rfl⟩
  rw[hq]at hx
  refine ak<|aj<|au<|ab (.a 2 rfl<|.k [0,1,5,7,8] rfl)<|ab (.a 3 rfl<|.v (aI (i) rfl) rfl<|.v (aK rfl (ay l i hlt)) rfl<|.v (b7 rfl (hq)) rfl<|.k [0,1,5,7,8,16] rfl)<|af rfl (fun h2=>?_) (fun h2=>?_)
  ·subst h2
   rw[cond_true]at hx
   rw[hx]
   exact ab (.a 2 rfl<|.k [4] rfl)<|ao<|⟨_,_,aA.of rfl,ax.pure,rfl⟩
  ·subst h2
   rw[cond_false]at hx
   refine ak<|aB (.v (aP rfl) rfl<|.a 1 rfl<|.k [0,1,7,8] rfl) ?_
   exact⟨l.length - (i+1),by omega,i+1,by omega,rfl,hx,rfl⟩
 ·have hie:i=l.length:=by have:=ff h1;omega
  subst hie
  rw[List.drop_length]at hx
  rw[hx]
  exact aY<|ab (.a 1 rfl<|.k [4] rfl)<|ao<|⟨_,_,aA.of rfl,ax.pure,rfl⟩
theorem rO(l:List Int)(v:Int)(hl:l.length≤1000):Can Tryz.prog 104 [aw l,num v] (· =flag (decide (v∈l))):=by
 obtain⟨q,hq⟩:∃q,decide (v∈l)=q:=⟨_,rfl⟩
 have hm:=(Eb v l 0).trans hq
 rw[hq]
 exact aF Tryz.func104 rfl Tryz.ntmps104 rfl<|ab (.a 1 rfl<|.k [0,1] rfl)<|ab (.a 2 rfl<|.c rfl (ya l v hl) rfl<|.v (b7 rfl (hm)) rfl<|.a 1 rfl<|.k [4] rfl)<|ao<|⟨_,_,aA.of rfl,ax.pure,rfl⟩
structure ia where
 id:Int
 src:Int
 dst:Int
 qL:Int
 stack:List cq
 iv:Int
def dZ(p:ia):List PV:=[num p.id,num p.src,num p.dst,num p.qL,cC p.stack,num p.iv]
def eY(p:ia):PV:=.agg (dZ p)
instance (p:ia):aL (dZ p):=by unfold dZ;infer_instance
instance (p:ia):IsPure (eY p):=by unfold eY;infer_instance
structure Out where
 aR:List Int
 fu:ia
 dW:Int
def Ax(r:Out):PV:=.tuple [aw r.aR,eY r.fu,num r.dW]
def iH(p:ia)(r:Int):Out:=⟨[],p,r⟩
def eG(p:ia)(s:List cq)(aR:List Int):Out:=⟨aR,⟨p.id,p.src,p.dst,p.qL,s,p.iv+1⟩,0⟩
def kW(p:ia)(s:List cq)(e:ij):Out:=
 if e.rep then(if 32<(e.push++s.drop 1).length then iH p 5 else eG p (e.push++s.drop 1) e.aR) else eG p s e.aR
theorem qx(p:ia)(s:List cq)(hl:s.length≤1000):Can Tryz.prog 102 [eY p,cC s] (· =eY ⟨p.id,p.src,p.dst,p.qL,s,p.iv⟩):=by
 refine aF Tryz.func102 rfl Tryz.ntmps102 rfl<|aH<|cf (fB rfl rfl rfl) rfl<|aq 1 rfl<|aD [1,2,4] rfl ?_
 refine aH<|aq 1 rfl<|dJ rfl (nk s hl) rfl<|aq 2 rfl<|aD [2,4] rfl ?_
 refine aH<|aq 2 rfl<|aD [4] rfl ?_
 exact ao<|⟨_,_,aA.of rfl,ax.pure (p:=eY ⟨p.id,p.src,p.dst,p.qL,s,p.iv⟩),rfl⟩
theorem gm(p:ia)(r:Int)(hl:p.stack.length≤1000):Can Tryz.prog 101 [eY p,num r] (· =Ax (iH p r)):=by
 refine aF Tryz.func101 rfl Tryz.ntmps101 rfl<|aH<|aq 4 rfl<|aD [1,2,5] rfl ?_
 refine aH<|aq 2 rfl<|bA (aK rfl ((rfl:(dZ p)[4]? =some (cC p.stack)))) rfl<|dJ rfl (qx p p.stack hl) rfl<|aq 4 rfl<|aD [4,5,6] rfl ?_
 exact ao<|⟨_,_,aA.of rfl,ax.ba (ai.cons ax.bO<|ai.cons (ax.pure (p:=eY p))<|ai.cons ax.pure ai.nil),rfl⟩
theorem lZ(p:ia)(s:List cq)(aR:List Int)(hl:s.length≤1000)(ha:aR.length≤1000)(hh:0≤p.iv∧p.iv≤1000):Can Tryz.prog 105 [eY p,cC s,aw aR] (· =Ax (eG p s aR)):=by
 refine aF Tryz.func105 rfl Tryz.ntmps105 rfl<|aH<|cf (fB rfl rfl rfl) rfl<|aq 3 rfl<|aD [1,2,3,7] rfl ?_
 refine aH<|aq 2 rfl<|dJ rfl (qx p s hl) rfl<|aq 1 rfl<|aD [2,3,7] rfl ?_
 refine aH<|aq 2 rfl<|bA (aP rfl (hn:=(show In64 (p.iv+1) by unfold In64;omega))) rfl<|aq 2 rfl<|aD [2,3,7] rfl ?_
 refine lD 4 20 mixed (
  .val [2] rfl (bI rfl) rfl rfl<|
  .val [16] rfl (dw rfl (qR aR ha)) rfl rfl<|
  .val [3] rfl (bI rfl) rfl rfl<|
  .val [17] rfl (bI rfl) rfl rfl<|
  .nil) (by kernel_rfl) rfl rfl (bd (ks:=[6,7,18]) rfl) ?_
 refine aq 2 rfl<|aD [6,7,8] rfl ?_
 exact ao<|⟨_,_,aA.of rfl,ax.ba (ai.cons (ax.pure (p:=aw aR))<|ai.cons (ax.pure (p:=eY ⟨p.id,p.src,p.dst,p.qL,s,p.iv+1⟩))<|ai.cons ax.pure ai.nil),rfl⟩
end PW
end Go.Proofs.YtnegbdpggideiaaGreatDoor
namespace Go.Proofs.YtnegbdpggideiaaGreatDoor
namespace PW
open Go.RowKit cH Mem Net ft
theorem ta{T:an}{n:Int}{L:List Int}(hl:T.ag.length≤256)(h:eS T n L=true):L.length≤512:=by
 have h:=of_decide_eq_true h
 have key:∀i:Nat,i<L.length→(i:Int)≤L.getD i 0:=by
  intro i
  induction i with
  |zero=>intro hi;have:=(cT.1 (h 0 hi).1).1;omega
  |succ i ih=>
   intro hi
   have h1:=ih (by omega)
   have h2:=(h (i+1) hi).2.2 (by omega)
   rw[Nat.add_sub_cancel]at h2
   omega
 rcases Nat.eq_zero_or_pos L.length with h0|h0
 ·omega
 ·have h1:=key (L.length - 1) (by omega)
  have h2:=cT.1 (h (L.length - 1) (by omega)).1
  omega
theorem s8(p:ia)(s:List cq)(e:ij)(hs:s.length≤40)(hp:e.push.length≤40)(ha:e.aR.length≤1000)(hps:p.stack.length≤1000)(hh:0≤p.iv∧p.iv≤1000):Can Tryz.prog 106 [eY p,cC s,oK e] (· =Ax (kW p s e)):=by
 obtain⟨c,hc⟩:∃q,e.rep=q:=⟨_,rfl⟩
 have hE:kW p s e=if c then(if 32<(e.push++s.drop 1).length then iH p 5 else eG p (e.push++s.drop 1) e.aR) else eG p s e.aR:=by unfold kW;rw[hc]
 rw[hE]
 refine aF Tryz.func106 rfl Tryz.ntmps106 rfl<|aH<|aq 5 rfl<|aD [1,3,5,7] rfl ?_
 refine aj<|ab (.a 1 rfl<|.v (aK rfl ((show(ki e)[1]? =some (flag c) by rw[←hc];rfl))) rfl<|.k [1,3,5,7,11] rfl)<|af rfl (fun h1=>?_) (fun h1=>?_)
 ·subst h1
  simp only[if_true]
  refine ab (.a 2 rfl<|.k [3,5,7,9] rfl)<|aj<|ab (.a 3 rfl<|.k [3,5,7,9,15] rfl)<|af rfl (fun h2=>?_) (fun h2=>?_)
  ·obtain⟨a,l,rfl⟩:∃a l,s=a::l:=by
    cases s with
    |nil=>exact absurd (tt h2) (by simp)
    |cons a l=>exact⟨a,l,rfl⟩
   simp only[List.drop_succ_cons,List.drop_zero]
   obtain⟨s',hs',hsl⟩:∃s',l=s'∧s'.length≤40:=⟨l,rfl,by simp at hs;omega⟩
   refine aB (.a 1 rfl<|.v (kb rfl (bF.el.get rfl) rfl rfl) rfl<|.a 1 rfl<|.k [3,5,7,9] rfl) ?_
   rw[hs']
   refine ab (.a 4 rfl<|.c rfl (pB e.push s' (by omega)) rfl<|.a 1 rfl<|.k [1,3,5,7] rfl)<|ab (.a 3 rfl<|.k [1,3,5,7,25] rfl)<|af rfl (fun h3=>?_) (fun h3=>?_)
   ·have h3:=tt h3
    rw[if_pos (by omega)]
    refine aH<|aq 1 rfl<|dJ rfl (gm p 5 hps) rfl<|aq 6 rfl<|aD [6,7,8] rfl ?_
    exact ao<|⟨_,_,aA.of rfl,ax.ba (ai.cons (ax.pure (p:=aw []))<|ai.cons (ax.pure (p:=eY p))<|ai.cons ax.pure ai.nil),rfl⟩
   ·have h3:=ff h3
    rw[if_neg (by omega)]
    refine ak<|aH<|aq 4 rfl<|dJ rfl (lZ p _ e.aR (by first|(simp only[List.length_append];omega)|omega) ha hh) rfl<|aq 6 rfl<|aD [6,7,8] rfl ?_
    exact ao<|⟨_,_,aA.of rfl,ax.ba (ai.cons (ax.pure (p:=aw e.aR))<|ai.cons (ax.pure (p:=eY ⟨p.id,p.src,p.dst,p.qL,_,p.iv+1⟩))<|ai.cons ax.pure ai.nil),rfl⟩
  ·obtain rfl:s=[]:=by
    cases s with
    |nil=>rfl
    |cons a l=>exact absurd (ff h2) (by simp)
   simp only[List.drop_nil]
   obtain⟨s',hs',hsl⟩:∃s',([]:List cq)=s'∧s'.length≤40:=⟨[],rfl,by simp⟩
   refine ak ?_
   rw[hs']
   refine ab (.a 4 rfl<|.c rfl (pB e.push s' (by omega)) rfl<|.a 1 rfl<|.k [1,3,5,7] rfl)<|ab (.a 3 rfl<|.k [1,3,5,7,25] rfl)<|af rfl (fun h3=>?_) (fun h3=>?_)
   ·have h3:=tt h3
    rw[if_pos (by omega)]
    refine aH<|aq 1 rfl<|dJ rfl (gm p 5 hps) rfl<|aq 6 rfl<|aD [6,7,8] rfl ?_
    exact ao<|⟨_,_,aA.of rfl,ax.ba (ai.cons (ax.pure (p:=aw []))<|ai.cons (ax.pure (p:=eY p))<|ai.cons ax.pure ai.nil),rfl⟩
   ·have h3:=ff h3
    rw[if_neg (by omega)]
    refine ak<|aH<|aq 4 rfl<|dJ rfl (lZ p _ e.aR (by first|(simp only[List.length_append];omega)|omega) ha hh) rfl<|aq 6 rfl<|aD [6,7,8] rfl ?_
    exact ao<|⟨_,_,aA.of rfl,ax.ba (ai.cons (ax.pure (p:=aw e.aR))<|ai.cons (ax.pure (p:=eY ⟨p.id,p.src,p.dst,p.qL,_,p.iv+1⟩))<|ai.cons ax.pure ai.nil),rfl⟩
 ·subst h1
  simp only[Bool.false_eq_true,if_false]
  refine ak<|aH<|aq 4 rfl<|dJ rfl (lZ p _ e.aR (by first|(simp only[List.length_append];omega)|omega) ha hh) rfl<|aq 6 rfl<|aD [6,7,8] rfl ?_
  exact ao<|⟨_,_,aA.of rfl,ax.ba (ai.cons (ax.pure (p:=aw e.aR))<|ai.cons (ax.pure (p:=eY ⟨p.id,p.src,p.dst,p.qL,_,p.iv+1⟩))<|ai.cons ax.pure ai.nil),rfl⟩
def fi(x:eD)(v:Int):ij:=x.dh.getD v.toNat G5
def o7(h:cq):List cq→List cq
 | []=>[]
 |a::l=>if a=h then o7 h l else a::l
def IG(T:an)(x:eD)(p:ia)(s:List cq)(v:Int)(K:Out):Out:=if(aV T v&&decide (0<((fi x v).aR.length:Int)))=true then kW p s (fi x v) else K
def kD(T:an)(x:eD)(p:ia)(s:List cq)(K:Out):Out:=
 if(decide ((s.length:Int)=0)&&decide (p.dst=x.node))=true then⟨[],⟨p.id,p.src,p.dst,p.qL,[],p.iv⟩, -1⟩
 else if(decide (255≤p.iv)||decide (p.iv<0))=true then iH p 4
 else match s with
  | []=>IG T x p [] p.dst (iH p 1)
  |a::l=>if a.kind=1 then IG T x p (a::l) a.num K
   else if a.kind=2 then(if(!(eA T a.num)||decide (bw T a.num.toNat≠x.node))=true then iH p 2 else if a.num∈x.down then K else eG p l [a.num])
   else iH p 1
def mO(T:an)(x:eD)(p:ia):Out:=
 if((!eV T x)|| !(aV T p.dst))=true then iH p 1
 else if 32<(p.stack.length:Int) then iH p 5
 else kD T x p (o7 ⟨1,x.node⟩ p.stack) (kD T x p [] (iH p 1))
theorem tm{T:an}{x:eD}(h:eV T x=true){v:Int}(hv:aV T v=true):∃k:Nat,v=(k:Int)∧x.dh[k]? =some (fi x v)∧(fi x v).push.length≤40∧(fi x v).aR.length≤1000:=by
 unfold eV at h
 simp only[Bool.and_eq_true,decide_eq_true_eq]at h
 obtain⟨⟨⟨⟨h1,h2⟩,h3⟩,h4⟩,h5⟩:=h
 have hll:=bJ h1
 obtain⟨v0,v1⟩:=aO.1 hv
 obtain⟨k,rfl⟩:=Int.eq_ofNat_of_zero_le v0
 have hk:k<x.dh.length:=by omega
 have hg:x.dh[k]? =some (fi x (k:Int)):=by
  unfold fi
  rw[Int.toNat_natCast,List.getD_eq_getElem?_getD,List.getElem?_eq_getElem hk]
  rfl
 have ho:=(of_decide_eq_true h5) k hk
 rw[mc _ _ _ hg]at ho
 unfold jh at ho
 simp only[Bool.and_eq_true]at ho
 refine⟨k,rfl,hg,?_,?_⟩
 ·have:=ho.2
  split at this
  ·simp only[Bool.and_eq_true,decide_eq_true_eq]at this;omega
  ·simp only[decide_eq_true_eq]at this;omega
 ·have:=ta hll ho.1.1;omega
theorem xY{T:an}{x:eD}(h:eV T x=true):x.down.length≤1000:=by
 unfold eV at h
 simp only[Bool.and_eq_true]at h
 have:=ta (bJ h.1.1.1.1) h.1.2
 omega
set_option maxHeartbeats 2000000 in
theorem CF(T : an)(x : eD)(p : ia)(hps : p.stack.length ≤ 1000) : Can Tryz.prog 47 [aJ T, dx x, eY p] (· = Ax (mO T x p)) := by
  obtain⟨c1,hc1⟩:∃q,eV T x=q:=⟨_,rfl⟩
  obtain⟨c2,hc2⟩:∃q,aV T p.dst=q:=⟨_,rfl⟩
  obtain⟨n,hn⟩:∃n,x.node=n:=⟨_,rfl⟩
  unfold mO
  rw[hc1,hc2]
  refine aF Tryz.func47 rfl Tryz.ntmps47 rfl<|aH<|aq 6 rfl<|aD [3,4,5,7] rfl ?_
  refine zo ?_
  refine aj<|bx 22 (.raw (.bool ((!c1)|| !c2))) [3,4,5,7] rfl ?_ ?_
  · refine .a 2 rfl<|.c rfl (hc1▸p8 T x) rfl<|.a 2 rfl<|?_
    cases c1
    · exact .a 6 rfl<|.k [22,3,4,5,7] rfl
    · exact .a 3 rfl<|.c rfl (hc2▸dv T p.dst) rfl<|.a 2 rfl<|.k [22,3,4,5,7] rfl
  refine af rfl (fun h1=>?_) (fun h1=>?_)
  · rw[if_pos h1]
    refine aH<|aq 1 rfl<|dJ rfl (gm p 1 hps) rfl<|aq 6 rfl<|aD [6,7,8] rfl ?_
    exact ao<|⟨_,_,aA.of rfl,ax.ba (ai.cons (ax.pure (p:=aw []))<|ai.cons (ax.pure (p:=eY p))<|ai.cons ax.pure ai.nil),rfl⟩
  · rw [if_neg (by rw [h1]; simp)]
    obtain⟨rfl,rfl⟩:c1=true∧c2=true:=by revert h1;cases c1<;>cases c2<;>simp
    refine ak<|aj<|ab (.a 1 rfl<|.v (aK rfl ((rfl:(dZ p)[4]? =some (cC p.stack)))) rfl<|.a 2 rfl<|.k [3,4,5,7,31] rfl)<|af rfl (fun h2=>?_) (fun h2=>?_)
    · rw[if_pos (tt h2)]
      refine aH<|aq 1 rfl<|dJ rfl (gm p 5 hps) rfl<|aq 6 rfl<|aD [6,7,8] rfl ?_
      exact ao<|⟨_,_,aA.of rfl,ax.ba (ai.cons (ax.pure (p:=aw []))<|ai.cons (ax.pure (p:=eY p))<|ai.cons ax.pure ai.nil),rfl⟩
    · rw [if_neg (ff h2)]
      have h32:p.stack.length≤32:=by have:=ff h2;omega
      refine ak<|ab (.a 1 rfl<|.v (aK rfl ((rfl:(dZ p)[4]? =some (cC p.stack)))) rfl<|.a 1 rfl<|.k [3,4,5,7,9] rfl)<|aH<|aq 1 rfl<|bA (aK rfl ((show(fe x)[0]? =some (num n) by rw[←hn];rfl))) rfl<|aq 3 rfl<|aD [3,4,5,7,9,10] rfl ?_
      refine aj<|au<|ee [3,4,5,7,9,10] rfl<|bf (fun r st=>∃s:List cq,s.length≤32∧r=s.length∧o7 ⟨1,n⟩ p.stack=o7 ⟨1,n⟩ s∧st=⟨[(3,.aX (bn T) 0),(4,.aX (fe x) 0),(5,.aX (dZ p) 0),(7,.ptr 0 0),(9,cC s),(10,.ptr 1 0)],[some (.cells 66 [num 0,num 0,num 0,num 0,.raw (.slice none 0 0),num 0]),some (.cells 103 [num 1,num n])]⟩) p.stack.length ⟨p.stack,h32,rfl,rfl,rfl⟩ ?_
      rintro r st ⟨s,hs,rfl,hsk,rfl⟩
      obtain⟨e1,he1⟩:∃q,decide (0<(s.length:Int))=q:=⟨_,rfl⟩
      obtain⟨a,ha⟩:∃a,s.getD 0 ⟨0,0⟩=a:=⟨_,rfl⟩
      obtain⟨e2,he2⟩:∃q,decide (a=(⟨1,n⟩:cq))=q:=⟨_,rfl⟩
      refine aj<|kC mixed (by kernel_rfl) 51 (.raw (.bool (e1&&e2))) [3,4,5,7,9,10] rfl ?_ ?_
      · refine .a 2 rfl<|.v [43] (b7 rfl (he1)) rfl rfl<|.a 1 rfl<|?_
        cases e1
        · exact .a 6 rfl<|.k [51,3,4,5,7,9,10] rfl
        · exact .a 1 rfl<|.v [46] (aI (0) rfl (by omega) (by have:=tt he1;omega)) rfl rfl<|.v [47] (ku rfl (jN s 0 a (by rw[←ha];have:=tt he1;rw[List.getD_eq_getElem?_getD,List.getElem?_eq_getElem (by omega)];rfl)) rfl) rfl rfl<|.a 1 rfl<|.v [48,49] (Cr rfl rfl (b:=⟨1,n⟩) rfl he2) rfl rfl<|.a 1 rfl<|.k [51,3,4,5,7,9,10] rfl
      refine af rfl (fun h3=>?_) (fun h3=>?_)
      · obtain⟨rfl,rfl⟩:=Bool.and_eq_true_iff.1 h3
        obtain⟨l,rfl⟩:∃l,s=(⟨1,n⟩:cq)::l:=by
          have h4:=tt he2
          cases s with
          |nil=>exact absurd (tt he1) (by simp)
          |cons b l=>exact⟨l,by rw[←h4,←ha];rfl⟩
        simp only[o7,if_true]at hsk
        refine ak<|au<|aB (.a 1 rfl<|.v (kb rfl (bF.el.get rfl) rfl rfl) rfl<|.a 1 rfl<|.k [3,4,5,7,9,10] rfl) ?_
        exact⟨l.length,by simp,l,by simp at hs;omega,rfl,hsk,rfl⟩
      · have hsk:o7 ⟨1,n⟩ p.stack=s:=by
          rw[hsk]
          cases s with
          |nil=>rfl
          |cons b l=>
            have e1t:e1=true:=by rw[←he1];simp
            rw[e1t,Bool.true_and]at h3
            rw[h3]at he2
            have h5:=ff he2
            simp only[o7]
            rw[if_neg (by rw[←ha]at h5;exact h5)]
        rw[hn,hsk]
        clear he1 ha he2 h3
        refine aY<|aj<|yZ ?_
        refine au<|ee [3,4,5,7,9] rfl<|bf (fun r st=>∃(s':List cq) (z:PV),ga z (cC s')∧s'.length≤32∧r=s'.length∧kD T x p s (kD T x p [] (iH p 1))=kD T x p s' (kD T x p [] (iH p 1))∧st=⟨[(3,.aX (bn T) 0),(4,.aX (fe x) 0),(5,.aX (dZ p) 0),(7,.ptr 0 0),(9,z)],[some (.cells 66 [num 0,num 0,num 0,num 0,.raw (.slice none 0 0),num 0]),some (.cells 103 [num 1,num n])]⟩) s.length ⟨s,_,ga.refl _,hs,rfl,rfl,rfl⟩ ?_
        clear hsk hs
        rintro r st ⟨s',z,hz,hs,rfl,hR,rfl⟩
        refine jF (t':=[(3,.aX (bn T) 0),(4,.aX (fe x) 0),(5,.aX (dZ p) 0),(7,.ptr 0 0),(9,cC s')]) ?_ ?_
        · exact Sub.cons rfl<|Sub.cons rfl<|Sub.cons rfl<|Sub.cons rfl<|Sub.HM rfl hz<|Sub.nil _
        clear hz
        rw[hR]
        clear hR
        obtain⟨K0,hK0⟩:∃K,kD T x p [] (iH p 1)=K:=⟨_,rfl⟩
        rw[hK0]
        obtain⟨R,hS⟩:∃R,kD T x p s' K0=R:=⟨_,rfl⟩
        rw[hS]
        have hRR:=hS
        unfold kD at hRR
        obtain⟨c5,hc5⟩:∃q,decide ((s'.length:Int)=0)=q:=⟨_,rfl⟩
        obtain⟨c6,hc6⟩:∃q,decide (p.dst=n)=q:=⟨_,rfl⟩
        obtain⟨c7,hc7⟩:∃q,decide (255≤p.iv)=q:=⟨_,rfl⟩
        obtain⟨c8,hc8⟩:∃q,decide (p.iv<0)=q:=⟨_,rfl⟩
        rw[hc5,hn,hc6,hc7,hc8]at hRR
        refine au<|aj<|bx 63 (.raw (.bool (c5&&c6))) [3,4,5,7,9] rfl ?_ ?_
        · refine .a 2 rfl<|.v (b7 rfl (hc5)) rfl<|.a 1 rfl<|?_
          cases c5
          · exact .a 6 rfl<|.k [63,3,4,5,7,9] rfl
          · exact .a 1 rfl<|.v (aK rfl ((rfl:(dZ p)[2]? =some (num p.dst)))) rfl<|.a 1 rfl<|.v (aK rfl ((show(fe x)[0]? =some (num n) by rw[←hn];rfl))) rfl<|.v (b7 rfl (hc6)) rfl<|.a 1 rfl<|.k [63,3,4,5,7,9] rfl
        refine af rfl (fun h1=>?_) (fun h1=>?_)
        · rw[if_pos h1]at hRR
          subst hRR
          refine aH<|aq 1 rfl<|bA (tI rfl (ai.cons ax.pure<|ai.cons ax.bO ai.nil) (qx p [] (by simp))) rfl<|aq 3 rfl<|aD [6,7,8] rfl ?_
          exact ao<|⟨_,_,aA.of rfl,ax.ba (ai.cons ax.bO<|ai.cons (ax.pure (p:=eY ⟨p.id,p.src,p.dst,p.qL,[],p.iv⟩))<|ai.cons ax.pure ai.nil),rfl⟩
        · rw [if_neg (by rw [h1]; simp)] at hRR
          refine ak<|aj<|bx 73 (.raw (.bool (c7||c8))) [3,4,5,7,9] rfl ?_ ?_
          · refine .a 1 rfl<|.v (aK rfl ((rfl:(dZ p)[5]? =some (num p.iv)))) rfl<|.v (b7 rfl (hc7)) rfl<|.a 1 rfl<|?_
            cases c7
            · exact .a 1 rfl<|.v (aK rfl ((rfl:(dZ p)[5]? =some (num p.iv)))) rfl<|.v (b7 rfl (hc8)) rfl<|.a 1 rfl<|.k [73,3,4,5,7,9] rfl
            · exact .a 4 rfl<|.k [73,3,4,5,7,9] rfl
          refine af rfl (fun h2=>?_) (fun h2=>?_)
          · rw[if_pos h2]at hRR
            subst hRR
            refine aH<|aq 1 rfl<|dJ rfl (gm p 4 hps) rfl<|aq 6 rfl<|aD [6,7,8] rfl ?_
            exact ao<|⟨_,_,aA.of rfl,ax.ba (ai.cons (ax.pure (p:=aw []))<|ai.cons (ax.pure (p:=eY p))<|ai.cons ax.pure ai.nil),rfl⟩
          · rw [if_neg (by rw [h2]; simp)] at hRR
            have hh:0≤p.iv∧p.iv≤1000:=by
              obtain⟨h3,h4⟩:=Bool.or_eq_false_iff.1 h2
              rw[←hc7]at h3
              rw[←hc8]at h4
              have:=ff h3
              have:=ff h4
              omega
            clear hc5 hc6 hc7 hc8 h1 h2
            refine ak ?_
            obtain⟨v,hv⟩:∃v,p.dst=v:=⟨_,rfl⟩
            refine ab (.a 1 rfl<|.v (aK rfl ((show(dZ p)[2]? =some (num v) by rw[←hv];rfl))) rfl<|.a 1 rfl<|.k [3,4,5,7,9,11] rfl)<|aj<|ab (.a 3 rfl<|.k [3,4,5,7,9,11,83] rfl)<|af rfl (fun h3=>?_) (fun h3=>?_)
            · have hne:0<s'.length:=by have:=tt h3;omega
              obtain⟨a,l,hs'⟩:∃a l,s'=a::l:=by
                cases s' with
                |nil=>exact absurd hne (by simp)
                |cons a l=>exact⟨a,l,rfl⟩
              have h0:s'[0]? =some a:=by rw[hs'];rfl
              rw[hs']at hRR
              dsimp only at hRR
              rw[←hs']at hRR
              clear hv
              obtain⟨v,hv⟩:∃v,a.num=v:=⟨_,rfl⟩
              rw[hv]at hRR
              refine ab (.a 1 rfl<|.v (aI (0) rfl (by omega) (by omega)) rfl<|.a 1 rfl<|.v (aK rfl (((Ho s' 0 a h0).trans (by rw[hv])))) rfl<|.a 1 rfl<|.k [3,4,5,7,9,11] rfl)<|ab (.a 1 rfl<|.v (aI (0) rfl (by omega) (by omega)) rfl<|.a 1 rfl<|.v (aK rfl ((Hs s' 0 a h0))) rfl<|.k [3,4,5,7,9,11,91] rfl)<|au<|ab (.a 2 rfl<|.k [3,4,5,7,9,11,91,97] rfl)<|af rfl (fun h4=>?_) (fun h4=>?_)
              · rw[if_pos (tt h4)]at hRR
                obtain⟨K1,hK1,hK1n,hK1p⟩:∃K1,K1=K0∧(s'.length=0→K1=iH p 1)∧(0<s'.length→K1=K0):=⟨_,rfl,fun h=>absurd h (by omega),fun h=>rfl⟩
                rw[←hK1]at hRR
                clear hK1 h3 h4 hs' hv h0
                refine ak<|aj ?_
                obtain⟨c11,hc11⟩:∃q,aV T v=q:=⟨_,rfl⟩
                have hnc:=dv T v
                rw[hc11]at hnc
                unfold IG at hRR
                have hes:c11=true→x.dh[v.toNat]? =some (fi x v)∧(fi x v).push.length≤40∧(fi x v).aR.length≤1000∧v<(x.dh.length:Int)∧0≤v:=fun h=>by
                  obtain⟨k,rfl,g1,g2,g3⟩:=tm hc1 (hc11.trans h)
                  have:=(List.getElem?_eq_some_iff.1 g1).1
                  exact⟨g1,g2,g3,by omega,by omega⟩
                obtain⟨e,he⟩:∃e,fi x v=e:=⟨_,rfl⟩
                obtain⟨I8,hc12⟩:∃q,decide (0<(e.aR.length:Int))=q:=⟨_,rfl⟩
                rw[he]at hes hRR
                rw[hc11,hc12]at hRR
                refine ue (Q1:=fun st=>st=⟨[(143,flag (c11&&I8)),(3,.aX (bn T) 0),(4,.aX (fe x) 0),(5,.aX (dZ p) 0),(7,.ptr 0 0),(9,cC s'),(11,num v)],[some (.cells 66 [num 0,num 0,num 0,num 0,.raw (.slice none 0 0),num 0]),some (.cells 103 [num 1,num n])]⟩) ?_ ?_
                · cases c11
                  · refine aB (.a 2 rfl<|.c rfl (hnc) rfl<|.a 10 rfl<|.k [143,3,4,5,7,9,11] rfl) ?_
                    rfl
                  · refine aB (.a 2 rfl<|.c rfl (hnc) rfl<|.a 2 rfl<|.v (aK rfl ((rfl:(fe x)[1]? =some (iE x.dh)))) rfl<|.a 1 rfl<|.v (aI ((v.toNat*3)) rfl (hes rfl).2.2.2.2 (hes rfl).2.2.2.1) rfl<|.a 1 rfl<|.v (aK rfl ((uY x.dh v.toNat 0 e (hes rfl).1 (by omega)))) rfl<|.a 1 rfl<|.v (b7 rfl (hc12)) rfl<|.a 1 rfl<|.k [143,3,4,5,7,9,11] rfl) ?_
                    rfl
                rintro _ rfl
                refine af rfl (fun h8=>?_) (fun h8=>?_)
                · rw[if_pos h8]at hRR
                  obtain⟨g1,g2,g3,g4,g5⟩:=hes (Bool.and_eq_true_iff.1 h8).1
                  subst hRR
                  refine lD 12 20 mixed (
                    .val [5] rfl (bI rfl) rfl rfl<|
                    .val [9] rfl (bI rfl) rfl rfl<|
                    .val [4] rfl (bI rfl) rfl rfl<|
                    .val [146] rfl (aK rfl ((rfl:(fe x)[1]? =some (iE x.dh)))) rfl rfl<|
                    .val [11] rfl (bI rfl) rfl rfl<|
                    .val [147,148] rfl (aI ((v.toNat*3)) rfl g5 g4) rfl rfl<|
                    .val [149] rfl (ku rfl ((jX x.dh v.toNat e g1)) rfl) rfl rfl<|
                    .val [144,145,150] rfl (dw rfl (s8 p s' e (by omega) g2 g3 hps hh)) rfl rfl<|
                    .val [151] rfl (bI rfl) rfl rfl<|
                    .val [151] rfl (bI rfl) rfl rfl<|
                    .val [151] rfl (bI rfl) rfl rfl<|
                    .val [152] rfl (bI rfl) rfl rfl<|
                    .nil) (by kernel_rfl) rfl rfl (bd (ks:=[6,7,153,154]) rfl) ?_
                  refine aq 2 rfl<|aD [6,7,8] rfl ?_
                  exact ao<|⟨_,_,aA.of rfl,ax.ba (ai.cons (ax.pure (p:=aw (kW p s' e).aR))<|ai.cons (ax.pure (p:=eY (kW p s' e).fu))<|ai.cons ax.pure ai.nil),rfl⟩
                · rw[if_neg (by rw[h8];simp)]at hRR
                  refine ak<|aj<|ab (.a 3 rfl<|.k [3,4,5,7,157] rfl)<|af rfl (fun h9=>?_) (fun h9=>?_)
                  · rw[hK1n (by have:=tt h9;omega)]at hRR
                    subst hRR
                    refine aH<|aq 1 rfl<|dJ rfl (gm p 1 hps) rfl<|aq 6 rfl<|aD [6,7,8] rfl ?_
                    exact ao<|⟨_,_,aA.of rfl,ax.ba (ai.cons (ax.pure (p:=aw []))<|ai.cons (ax.pure (p:=eY p))<|ai.cons ax.pure ai.nil),rfl⟩
                  · have hne:0<s'.length:=by have:=ff h9;omega
                    rw[hK1p hne]at hRR
                    refine ak<|aB (.a 1 rfl<|.k [3,4,5,7,9] rfl) ?_
                    exact⟨0,hne,[],_,ga.bO,by simp,rfl,hRR.symm.trans (hK0.symm.trans rfl),rfl⟩
              · rw[if_neg (ff h4)]at hRR
                refine ab (.a 2 rfl<|.k [3,4,5,7,9,11,99] rfl)<|af rfl (fun h5=>?_) (fun h5=>?_)
                · rw[if_pos (tt h5)]at hRR
                  obtain⟨c9,hc9⟩:∃q,eA T v=q:=⟨_,rfl⟩
                  obtain⟨c10,hc10⟩:∃q,decide (bw T v.toNat≠n)=q:=⟨_,rfl⟩
                  have hac:=pR T (by have h:=hc1;unfold eV at h;simp only[Bool.and_eq_true]at h;have:=bJ h.1.1.1.1;omega) v
                  rw[hc9]at hac
                  rw[hc9,hc10]at hRR
                  refine aj<|kC mixed (by kernel_rfl) 112 (.raw (.bool ((!c9)||c10))) [3,4,5,7,9,11] rfl ?_ ?_
                  · refine .a 2 rfl<|.v [101,102] (dw rfl (hac)) rfl rfl<|.a 2 rfl<|?_
                    cases c9
                    · exact .a 7 rfl<|.k [112,3,4,5,7,9,11] rfl
                    · exact .a 2 rfl<|.v [106,107] (dw rfl (oZ T v hc9)) rfl rfl<|.a 1 rfl<|.v [109] (aK rfl ((show(fe x)[0]? =some (num n) by rw[←hn];rfl))) rfl rfl<|.v [108,110] (b7 rfl (hc10)) rfl rfl<|.a 1 rfl<|.k [112,3,4,5,7,9,11] rfl
                  refine af rfl (fun h6=>?_) (fun h6=>?_)
                  · rw[if_pos h6]at hRR
                    subst hRR
                    refine aH<|aq 1 rfl<|dJ rfl (gm p 2 hps) rfl<|aq 6 rfl<|aD [6,7,8] rfl ?_
                    exact ao<|⟨_,_,aA.of rfl,ax.ba (ai.cons (ax.pure (p:=aw []))<|ai.cons (ax.pure (p:=eY p))<|ai.cons ax.pure ai.nil),rfl⟩
                  · rw[if_neg (by rw[h6];simp)]at hRR
                    refine ak<|aj<|ab (.a 1 rfl<|.v (aK rfl ((rfl:(fe x)[2]? =some (aw x.down)))) rfl<|.a 1 rfl<|.c rfl (rO x.down v (xY hc1)) rfl<|.k [3,4,5,7,9,11,121] rfl)<|af rfl (fun h7=>?_) (fun h7=>?_)
                    · rw[if_pos (tt h7)]at hRR
                      exact ab (.a 1 rfl<|.k [3,4,5,7,9] rfl)<|aY<|⟨0,hne,[],_,ga.bO,by simp,rfl,hRR.symm.trans (hK0.symm.trans rfl),rfl⟩
                    · rw[if_neg (ff h7)]at hRR
                      subst hRR
                      subst hs'
                      refine ak<|lD 10 20 mixed (
                        .val [5] rfl (bI rfl) rfl rfl<|
                        .val [9] rfl (bI rfl) rfl rfl<|
                        .val [123] rfl (kb rfl (bF.el.get rfl) rfl rfl) rfl rfl<|
                        .val [11] rfl (bI rfl) rfl rfl<|
                        .val [125] rfl (bI rfl) rfl rfl<|
                        .val [122,124,126] rfl (dw rfl (lZ p l [v] (by simp at hs;omega) (by simp) hh)) rfl rfl<|
                        .val [127] rfl (bI rfl) rfl rfl<|
                        .val [127] rfl (bI rfl) rfl rfl<|
                        .val [127] rfl (bI rfl) rfl rfl<|
                        .val [128] rfl (bI rfl) rfl rfl<|
                        .nil) (by kernel_rfl) rfl rfl (bd (ks:=[6,7,129,130]) rfl) ?_
                      refine aq 2 rfl<|aD [6,7,8] rfl ?_
                      exact ao<|⟨_,_,aA.of rfl,ax.ba (ai.cons (ax.pure (p:=aw [v]))<|ai.cons (ax.pure (p:=eY (eG p l [v]).fu))<|ai.cons ax.pure ai.nil),rfl⟩
                · rw[if_neg (ff h5)]at hRR
                  subst hRR
                  refine aH<|aq 1 rfl<|dJ rfl (gm p 1 hps) rfl<|aq 6 rfl<|aD [6,7,8] rfl ?_
                  exact ao<|⟨_,_,aA.of rfl,ax.ba (ai.cons (ax.pure (p:=aw []))<|ai.cons (ax.pure (p:=eY p))<|ai.cons ax.pure ai.nil),rfl⟩
            · have hs':s'=[]:=by
                cases s' with
                |nil=>rfl
                |cons a l=>exact absurd (ff h3) (by simp)
              rw[hs']at hRR
              dsimp only at hRR
              rw[←hs',hv]at hRR
              obtain⟨K1,hK1,hK1n,hK1p⟩:∃K1,K1=iH p 1∧(s'.length=0→K1=iH p 1)∧(0<s'.length→K1=K0):=⟨_,rfl,fun _=>rfl,fun h=>absurd h (by rw[hs'];simp)⟩
              rw[←hK1]at hRR
              clear hK1 h3 hs' hv
              refine ak<|aj ?_
              obtain⟨c11,hc11⟩:∃q,aV T v=q:=⟨_,rfl⟩
              have hnc:=dv T v
              rw[hc11]at hnc
              unfold IG at hRR
              have hes:c11=true→x.dh[v.toNat]? =some (fi x v)∧(fi x v).push.length≤40∧(fi x v).aR.length≤1000∧v<(x.dh.length:Int)∧0≤v:=fun h=>by
                obtain⟨k,rfl,g1,g2,g3⟩:=tm hc1 (hc11.trans h)
                have:=(List.getElem?_eq_some_iff.1 g1).1
                exact⟨g1,g2,g3,by omega,by omega⟩
              obtain⟨e,he⟩:∃e,fi x v=e:=⟨_,rfl⟩
              obtain⟨I8,hc12⟩:∃q,decide (0<(e.aR.length:Int))=q:=⟨_,rfl⟩
              rw[he]at hes hRR
              rw[hc11,hc12]at hRR
              refine ue (Q1:=fun st=>st=⟨[(143,flag (c11&&I8)),(3,.aX (bn T) 0),(4,.aX (fe x) 0),(5,.aX (dZ p) 0),(7,.ptr 0 0),(9,cC s'),(11,num v)],[some (.cells 66 [num 0,num 0,num 0,num 0,.raw (.slice none 0 0),num 0]),some (.cells 103 [num 1,num n])]⟩) ?_ ?_
              · cases c11
                · refine aB (.a 2 rfl<|.c rfl (hnc) rfl<|.a 10 rfl<|.k [143,3,4,5,7,9,11] rfl) ?_
                  rfl
                · refine aB (.a 2 rfl<|.c rfl (hnc) rfl<|.a 2 rfl<|.v (aK rfl ((rfl:(fe x)[1]? =some (iE x.dh)))) rfl<|.a 1 rfl<|.v (aI ((v.toNat*3)) rfl (hes rfl).2.2.2.2 (hes rfl).2.2.2.1) rfl<|.a 1 rfl<|.v (aK rfl ((uY x.dh v.toNat 0 e (hes rfl).1 (by omega)))) rfl<|.a 1 rfl<|.v (b7 rfl (hc12)) rfl<|.a 1 rfl<|.k [143,3,4,5,7,9,11] rfl) ?_
                  rfl
              rintro _ rfl
              refine af rfl (fun h8=>?_) (fun h8=>?_)
              · rw[if_pos h8]at hRR
                obtain⟨g1,g2,g3,g4,g5⟩:=hes (Bool.and_eq_true_iff.1 h8).1
                subst hRR
                refine lD 12 20 mixed (
                  .val [5] rfl (bI rfl) rfl rfl<|
                  .val [9] rfl (bI rfl) rfl rfl<|
                  .val [4] rfl (bI rfl) rfl rfl<|
                  .val [146] rfl (aK rfl ((rfl:(fe x)[1]? =some (iE x.dh)))) rfl rfl<|
                  .val [11] rfl (bI rfl) rfl rfl<|
                  .val [147,148] rfl (aI ((v.toNat*3)) rfl g5 g4) rfl rfl<|
                  .val [149] rfl (ku rfl ((jX x.dh v.toNat e g1)) rfl) rfl rfl<|
                  .val [144,145,150] rfl (dw rfl (s8 p s' e (by omega) g2 g3 hps hh)) rfl rfl<|
                  .val [151] rfl (bI rfl) rfl rfl<|
                  .val [151] rfl (bI rfl) rfl rfl<|
                  .val [151] rfl (bI rfl) rfl rfl<|
                  .val [152] rfl (bI rfl) rfl rfl<|
                  .nil) (by kernel_rfl) rfl rfl (bd (ks:=[6,7,153,154]) rfl) ?_
                refine aq 2 rfl<|aD [6,7,8] rfl ?_
                exact ao<|⟨_,_,aA.of rfl,ax.ba (ai.cons (ax.pure (p:=aw (kW p s' e).aR))<|ai.cons (ax.pure (p:=eY (kW p s' e).fu))<|ai.cons ax.pure ai.nil),rfl⟩
              · rw[if_neg (by rw[h8];simp)]at hRR
                refine ak<|aj<|ab (.a 3 rfl<|.k [3,4,5,7,157] rfl)<|af rfl (fun h9=>?_) (fun h9=>?_)
                · rw[hK1n (by have:=tt h9;omega)]at hRR
                  subst hRR
                  refine aH<|aq 1 rfl<|dJ rfl (gm p 1 hps) rfl<|aq 6 rfl<|aD [6,7,8] rfl ?_
                  exact ao<|⟨_,_,aA.of rfl,ax.ba (ai.cons (ax.pure (p:=aw []))<|ai.cons (ax.pure (p:=eY p))<|ai.cons ax.pure ai.nil),rfl⟩
                · have hne:0<s'.length:=by have:=ff h9;omega
                  rw[hK1p hne]at hRR
                  refine ak<|aB (.a 1 rfl<|.k [3,4,5,7,9] rfl) ?_
                  exact⟨0,hne,[],_,ga.bO,by simp,rfl,hRR.symm.trans (hK0.symm.trans rfl),rfl⟩
end PW
end Go.Proofs.YtnegbdpggideiaaGreatDoor
namespace Go.Proofs.YtnegbdpggideiaaGreatDoor
namespace PW
open Go.RowKit cH Mem Net
section
variable {T:an} {D:List Bool}
theorem Ch.snoc{d n:Nat}{q:List Int}(h:Ch T D d n q):∀ {a x:Nat},(q=[]∨cN T d=false)→a<2*T.ag.length→bw T a=(d:Int)→aW D a=false→bb T a=(x:Int)→Ch T D x n (q++[(a:Int)]):=by
 induction h with
 |nil=>intro a x _ h1 h2 h3 h4;exact .cons h1 h2 h3 h4 (.inl rfl) .nil
 | @cons n b m p hb ht hu hm ho hp ih=>
  intro a x hov h1 h2 h3 h4
  have hov':cN T d=false:=by rcases hov with h|h;cases h;exact h
  refine .cons hb ht hu hm ?_ (ih (.inr hov') h1 h2 h3 h4)
  rcases ho with h|h
  ·have:=hp.to h
   subst this
   exact .inr hov'
  ·exact .inr h
theorem Hy(hv:av T=true){n:Nat}(hn:(n:Int)<T.nodes){d m:Nat}{p:List Int}(h:Ch T D d m p)(h0:0≤at' (bE T D n true) (m:Int))(ho:p=[]∨m=n∨cN T m=false):0≤at' (bE T D n true) (d:Int):=by
 have hI:=jT (aQ hv) D true hn
 induction h with
 |nil=>exact h0
 | @cons m a m' p ha ht hu hm hov hp ih=>
  have hw:=hI.closed a ha ⟨hu,by simp only[cL,if_true];rw[ht];exact h0,by
   simp only[cL,if_true];rw[ht]
   rcases ho with h|h|h
   ·cases h
   ·exact .inl (by rw[h])
   ·exact .inr (by simpa using h)⟩
  simp only[fk,if_true]at hw
  rw[hm]at hw
  refine ih hw.1 ?_
  rcases hov with h|h
  ·exact .inl h
  ·exact .inr (.inr h)
theorem Hq(hv:av T=true){n:Nat}(hn:(n:Int)<T.nodes):∀(k x:Nat),(x:Int)<T.nodes→0≤at' (bE T D n true) (x:Int)→at' (bE T D n true) (x:Int)≤k→0≤dN T D x n:=by
 have hS:=aQ hv
 have hI:=jT hS D true hn
 intro k
 induction k with
 |zero=>
  intro x hx h0 hk
  rcases hI.mY x hx h0 with h|⟨a,ha,hX,hW,hs⟩
  ·subst h;rw[kh hv hn];exact Int.le_refl _
  ·have:=(hS.cost a ha).1
   have:=hW.2.1
   omega
 |succ k ih=>
  intro x hx h0 hk
  rcases hI.mY x hx h0 with h|⟨a,ha,hX,hW,hs⟩
  ·subst h;rw[kh hv hn];exact Int.le_refl _
  ·simp only[fk,cL,if_true]at hX hs
   obtain⟨hu,hy0,hyo⟩:=hW
   simp only[cL,if_true]at hy0 hyo
   have hc:=(hS.cost a ha).1
   have ht:=hS.tail a ha
   obtain⟨y,hy⟩:=Int.eq_ofNat_of_zero_le ht.1
   rw[hy]at hy0 hyo hs ht
   have hyN:(y:Int)<T.nodes:=ht.2
   have h1:=ih y hyN hy0 (by omega)
   have hsp:=eP (D:=D) hv hyN hn h1
   have hc2:=hsp.ch.snoc (a:=a) (x:=x) (by
    rcases hyo with h|h
    ·have:y=n:=by omega
     subst this
     exact .inl hsp.self
    ·exact .inr (by simpa using h)) ha hy hu hX
   exact(hc2.le hv hx).1
theorem Fg(hv:av T=true){n d:Nat}(hn:(n:Int)<T.nodes)(hd:(d:Int)<T.nodes):0≤(bE T D n true).getD d 0↔0≤dN T D d n:=by
 have hS:=aQ hv
 have hI:=jT hS D true hn
 have hl:=hI.len
 have e:(bE T D n true).getD d 0=at' (bE T D n true) (d:Int):=by
  unfold at'
  rw[Int.toNat_natCast,List.getD_eq_getElem?_getD,List.getD_eq_getElem?_getD,List.getElem?_eq_getElem (by omega)]
  rfl
 rw[e]
 constructor
 ·intro h0
  exact Hq hv hn (at' (bE T D n true) (d:Int)).toNat d hd h0 (by have:=Int.toNat_of_nonneg h0;omega)
 ·intro h0
  have hsp:=eP (D:=D) hv hd hn h0
  refine Hy hv hn hsp.ch ?_ (.inr (.inl rfl))
  rw[hI.root]
  exact Int.le_refl _
end
end PW
end Go.Proofs.YtnegbdpggideiaaGreatDoor
namespace Go.Proofs.YtnegbdpggideiaaGreatDoor
namespace PW
open Go.RowKit cH Mem Net ft
def fN(T:an)(a:Nat):Int:=(cA T.ag (a / 2)).tD
noncomputable def jj(T:an)(D:List Bool)(n d:Int):Bool:=decide (fH T D n d=0)
noncomputable def eZ(T:an)(a:Nat)(d:Int):Int×Int:=
 if(decide (0<fN T a)&&jj T (bz T 3 (fN T a)) (bw T a) d)=true then(3,fN T a)
 else if(decide (bb T a≠d)&&jj T (bz T 2 (bb T a)) (bw T a) d)=true then(2,bb T a)
 else(1,((a / 2:Nat):Int))
def jx(T:an)(M:List Bool)(n:Int):List Bool:=(List.range (2*T.ag.length)).map fun a=>aW M a&&decide (bw T a=n)
def orM(T:an)(D E:List Bool):List Bool:=(List.range (2*T.ag.length)).map fun a=>aW D a||aW E a
theorem DJ{f:Nat→Bool}{n a:Nat}:aW ((List.range n).map f) a=(decide (a<n)&&f a):=by
 unfold aW
 rw[List.getD_eq_getElem?_getD,List.getElem?_map]
 by_cases h:a<n
 ·rw[List.getElem?_range h];simp[h]
 ·rw[List.getElem?_eq_none (by simp;omega)];simp[h]
theorem wh{T:an}{f:Nat→Bool}:bL T ((List.range (2*T.ag.length)).map f)=true:=by simp[bL]
theorem CX{T:an}{M:List Bool}{n:Int}{a:Nat}:aW (jx T M n) a=(decide (a<2*T.ag.length)&&(aW M a&&decide (bw T a=n))):=DJ
theorem fX(T:an)(k x:Int):bL T (bz T k x)=true:=wh
theorem Gg(T:an)(D E:List Bool):bL T (orM T D E)=true:=wh
theorem E9{T:an}{D:List Bool}{x y:Nat}(hv:av T=true)(hf:bL T D=true)(hx:(x:Int)<T.nodes)(hy:(y:Int)<T.nodes):jj T D x y=true↔0≤dN T D y x:=by
 unfold jj
 rw[decide_eq_true_eq,nS hv hf hx hy]
 split<;>omega
theorem sj{T:an}(hv:av T=true){a:Nat}(ha:a<2*T.ag.length):0≤fN T a∧fN T a≤64:=by
 have h:=qY hv (a / 2) (by omega)
 unfold fN
 unfold ik at h
 rw[Bool.and_eq_true]at h
 unfold bU at h
 exact of_decide_eq_true h.2
theorem uU{T:an}(hv:av T=true){a:Nat}(ha:a<2*T.ag.length)(d:Int):cc T (eZ T a d).1 (eZ T a d).2=true:=by
 have hg:=sj hv ha
 unfold eZ
 split
 ·rename_i h
  rw[Bool.and_eq_true,decide_eq_true_eq]at h
  show cc T 3 (fN T a)=true
  unfold cc
  simp only[if_neg (show ¬(3:Int)=1 by decide),if_neg (show ¬(3:Int)=2 by decide),if_true,Bool.and_eq_true,decide_eq_true_eq]
  exact⟨by omega,by omega⟩
 ·split
  ·obtain⟨h0,h1⟩:=(aQ hv).head a ha
   show cc T 2 (bb T a)=true
   unfold cc
   simp only[if_neg (show ¬(2:Int)=1 by decide),if_true]
   exact aO.2 ⟨h0,h1⟩
  ·show cc T 1 ((a / 2:Nat):Int)=true
   unfold cc
   simp only[if_true,Bool.and_eq_true,decide_eq_true_eq]
   exact⟨by omega,by omega⟩
def fL(own:List Bool)(l:List Int):Option Int:=l.find? fun a=>aW own a.toNat
noncomputable def uB(T:an)(own:List Bool)(n d:Int)(a:Nat):List Bool:=
 if jj T (orM T (bz T (eZ T a d).1 (eZ T a d).2) own) n d=true then orM T (bz T (eZ T a d).1 (eZ T a d).2) own else own
noncomputable def ox(T:an)(own:List Bool)(n d:Nat):ij:=match fL own (bm T [] n d)with
 |none=>⟨bm T [] n d,false,[]⟩
 |some a=>jK T (uB T own n d a.toNat) n d
noncomputable def mT(T:an)(own:List Bool)(n k:Nat):List ij:=(List.range k).map fun d=>ox T own n d
theorem si(T:an)(own:List Bool)(n k:Nat):mT T own n (k+1)=mT T own n k++[ox T own n k]:=by simp[mT,List.range_succ]
theorem nD(T:an)(own:List Bool)(n k:Nat):(mT T own n k).length=k:=by simp[mT]
theorem vD{T:an}{own:List Bool}{n k d:Nat}(h:d<k):(mT T own n k)[d]? =some (ox T own n d):=by simp[mT,h]
noncomputable def pF(T:an)(M:List Bool)(n:Nat):eD:=⟨n,mT T (jx T M n) n T.nodes.toNat,cj M (bC T n)⟩
section
variable {T:an} {M own:List Bool} {n d:Nat}
theorem vd(hf:bL T own=true)(a:Nat):bL T (uB T own n d a)=true:=by
 unfold uB;split
 ·exact Gg _ _ _
 ·exact hf
theorem nG{l:List Int}{a:Int}(h:fL own l=some a):a∈l∧aW own a.toNat=true:=⟨List.mem_of_find?_eq_some h,by have:=List.find?_some (p:=fun a:Int=>aW own a.toNat) h;exact this⟩
theorem HH(hv:av T=true)(h12:T.nodes≤12):jh T n d (ox T own n d)=true:=by
 unfold ox
 cases fL own (bm T [] n d)with
 |some b=>exact Du _ _ _ _ h12
 |none=>
  unfold jh
  simp only[ql,Bool.true_and]
  by_cases hdn:d=n
  ·subst hdn;rw[iV];simp
  ·rw[decide_eq_false (by omega)];simp
theorem Bp(hv:av T=true)(h12:T.nodes≤12)(hn:(n:Int)<T.nodes):eV T (pF T M n)=true:=by
 unfold eV pF
 have h1:aV T (n:Int)=true:=aO.2 ⟨by omega,hn⟩
 have hN:=(aQ hv).nodes
 have h2:decide (((mT T (jx T M n) n T.nodes.toNat).length:Int)=T.nodes)=true:=decide_eq_true (by rw[nD];omega)
 have h3:eS T n (cj M (bC T n))=true:=mE T n _
 have h4:mR T n (mT T (jx T M n) n T.nodes.toNat)=true:=jw fun d e he=>by
  have hd:d<T.nodes.toNat:=by
   have:=(List.getElem?_eq_some_iff.1 he).1
   rwa [nD]at this
  rw[vD hd]at he
  cases he
  exact HH hv h12
 rw[hv,h1,h2,h3,h4]
 rfl
end
end PW
end Go.Proofs.YtnegbdpggideiaaGreatDoor
namespace Go.Proofs.YtnegbdpggideiaaGreatDoor
namespace PW
open Go.RowKit cH Mem Net
section
variable {T:an} {D:List Bool}
theorem iy.tail{n y m:Nat}{a:Int}{p:List Int}(h:iy T D n y (a::p))(hm:bb T a.toNat=(m:Int)):(p=[]∧m=y)∨iy T D m y p:=by
 have hsp:=h.sp
 cases hsp with
 | @cons n a m' p hnr hh hp=>
  rw[Int.toNat_natCast,hh]at hm
  have e:m'=m:=by omega
  subst e
  cases p with
  |nil=>cases hp;exact .inl ⟨rfl,rfl⟩
  |cons b p=>
   refine .inr ?_
   have hpt:=h.part (i:=1) (k:=p.length+1) (by omega) (by simp)
   have hb:∃b':Nat,b=(b':Int)∧bw T b'=(m':Int):=by
    cases hp with
    |cons hn2 _ _=>exact⟨_,rfl,hn2.tail⟩
   obtain⟨b',rfl,hbt⟩:=hb
   have hfin:=h.sp.ch.fin
   have hlast:bb T (((a:Int)::(b':Int)::p).getD (p.length+1) 0).toNat=(y:Int):=by
    rw[←hfin]
    have:=fv T (n:Int) ((a:Int)::(b':Int)::p) (p.length+1) (by simp)
    rw[←this,List.take_of_length_le (by simp)]
   rw[hlast]at hpt
   have e1:bw T (((a:Int)::(b':Int)::p).getD 1 0).toNat=(m':Int):=hbt
   rw[e1]at hpt
   obtain⟨u,v,e3,e4,hs,_⟩:=Ga hpt
   have e5:m'=u:=by omega
   have e6:y=v:=by omega
   subst e5;subst e6
   have:=hs.sp.unique hs.valid hs.hy hp hs.lX
   rw[this]at hs
   exact hs
theorem iy.Gw{E:List Bool}{n y:Nat}{p:List Int}(h:iy T D n y p)(hf:bL T E=true)(hE:∀a,aW D a=false→aW E a=false):iy T E n y p:=
 ⟨h.valid,hf,h.ne,h.hx,h.hy,h.uniq,h.sp,fun a ha=>hE _ (h.up a ha)⟩
inductive GQ (T:an) (D:List Bool) (d:Nat):Nat→List cq→List Int→Prop
 |nil:GQ T D d d [] []
 |node {n y:Nat} {p q:List Int} {l:List cq}:iy T D n y p→GQ T D d y l q→GQ T D d n (⟨1,(y:Int)⟩::l) (p++q)
 |iM {n a m:Nat} {q:List Int} {l:List cq}:a<2*T.ag.length→bw T a=(n:Int)→aW D a=false→bb T a=(m:Int)→GQ T D d m l q→GQ T D d n (⟨2,(a:Int)⟩::l) ((a:Int)::q)
theorem GQ.len{d n:Nat}{l:List cq}{q:List Int}(h:GQ T D d n l q):l.length≤q.length:=by
 induction h with
 |nil=>exact Nat.le_refl _
 |node hs _ ih=>have:=hs.pos;simp only[List.length_cons,List.length_append];omega
 |iM _ _ _ _ _ ih=>simp only[List.length_cons];omega
structure H8 (T:an) (D:List Bool) (n:Nat) (x:eD):Prop where
 ok:eV T x=true
 node:x.node=(n:Int)
 down:∀a:Nat,(a:Int)∈x.down→aW D a=true
 IW:∀(y:Nat) p,iy T D n y p→(fi x (y:Int)).aR=[p.getD 0 0]∧((fi x (y:Int)).rep=true→(fi x (y:Int)).push=[⟨1,(y:Int)⟩])
end
end PW
end Go.Proofs.YtnegbdpggideiaaGreatDoor
namespace Go.Proofs.YtnegbdpggideiaaGreatDoor
namespace ft
open Go.RowKit Go.Shelf Net
attribute [local go_sem] Oper.semAt_some
end ft
end Go.Proofs.YtnegbdpggideiaaGreatDoor
namespace Go.Proofs.YtnegbdpggideiaaGreatDoor
namespace PW
open Go.RowKit cH Mem
inductive Up (k:Nat):PV→PV→Prop
 |pure {p:PV} [IsPure p]:Up k p p
 |own {i j:Nat}:j=k+i→Up k (.own i) (.own j)
 |ptr {i j o:Nat}:j=k+i→Up k (.ptr i o) (.ptr j o)
 |agg {xs ys:List PV} (hl:ys.length=xs.length) (hs:∀(j:Nat) x y,xs[j]? =some x→ys[j]? =some y→Up k x y):Up k (.agg xs) (.agg ys)
 |tuple {xs ys:List PV} (hl:ys.length=xs.length) (hs:∀(j:Nat) x y,xs[j]? =some x→ys[j]? =some y→Up k x y):Up k (.tuple xs) (.tuple ys)
 |func {f:FuncId} {xs ys:List PV} (hl:ys.length=xs.length) (hs:∀(j:Nat) x y,xs[j]? =some x→ys[j]? =some y→Up k x y):Up k (.func f xs) (.func f ys)
def ke(k:Nat)(xs ys:List PV):Prop:=ys.length=xs.length∧∀(j:Nat) x y,xs[j]? =some x→ys[j]? =some y→Up k x y
theorem ke.nil{k:Nat}:ke k [] []:=⟨rfl,fun j x y h=>by simp at h⟩
theorem ke.cons{k:Nat}{x y:PV}{xs ys:List PV}(h:Up k x y)(hs:ke k xs ys):ke k (x::xs) (y::ys):=⟨by simp[hs.1],fun j a b h1 h2=>by
 cases j with
 |zero=>simp at h1 h2;subst h1;subst h2;exact h
 |succ j=>exact hs.2 j a b (by simpa using h1) (by simpa using h2)⟩
theorem ke.pure{k:Nat}{xs:List PV}[h:aL xs]:ke k xs xs:=⟨rfl,fun j x y h1 h2=>by
 rw[h1]at h2;cases h2
 haveI:=h.out j x h1
 exact Up.pure⟩
theorem Up.ew{k:Nat}{xs ys:List PV}(h:ke k xs ys):Up k (.agg xs) (.agg ys):=.agg h.1 h.2
theorem Up.ba{k:Nat}{xs ys:List PV}(h:ke k xs ys):Up k (.tuple xs) (.tuple ys):=.tuple h.1 h.2
inductive Hj (k:Nat):db→db→Prop
 |cells {ty:TypeId} {xs ys:List PV}:ke k xs ys→Hj k (.cells ty xs) (.cells ty ys)
 |row {e s n:Nat} {xs ys:List PV}:ke k xs ys→Hj k (.row e s n xs) (.row e s n ys)
 |mp {kv:List (Value×PV)} [aL (kv.map (·.2))]:Hj k (.mp kv) (.mp kv)
def lx(k:Nat)(xs ys:List db):Prop:=ys.length=xs.length∧∀(j:Nat) x y,xs[j]? =some x→ys[j]? =some y→Hj k x y
theorem lx.nil{k:Nat}:lx k [] []:=⟨rfl,fun j x y h=>by simp at h⟩
theorem lx.cons{k:Nat}{x y:db}{xs ys:List db}(h:Hj k x y)(hs:lx k xs ys):lx k (x::xs) (y::ys):=⟨by simp[hs.1],fun j a b h1 h2=>by
 cases j with
 |zero=>simp at h1 h2;subst h1;subst h2;exact h
 |succ j=>exact hs.2 j a b (by simpa using h1) (by simpa using h2)⟩
section
variable {E E1 E2:Env} {w:World} {k:Nat}
theorem Up.rep(hat:∀i,i<E1.L→E2.at_ (k+i)=E1.at_ i∧k+i<E2.L)(hM:∀b,E2.M b→E1.M b){p q:PV}(h:Up k p q):∀v,cD E1 w v p→cD E2 w v q:=by
 induction h with
 | @pure p hp=>
  intro v h
  have:=hp.out E1 E2.M w v hM h
  exact this.goes (E:=EF E2.M) (E':=E2) (w:=w) (w':=w) ⟨Nat.zero_le _,fun i hi=>absurd hi (Nat.not_lt_zero i),fun _ _ h=>h,Nat.le_refl _,fun _ _ _=>rfl⟩
 | @own i j hij=>
  intro v h
  subst hij
  cases h with
  |own _ hi _ h hs=>exact .own _ (hat i hi).2 v ((hat i hi).1.trans h) hs
 | @ptr i j o hij=>
  intro v h
  subst hij
  cases h with
  |ptr _ _ b hi h=>exact .ptr _ o b (hat i hi).2 (by rw[(hat i hi).1];exact h)
 | @agg xs ys hl _ ih=>
  intro v h
  cases h with
  |agg cs _ hl' hr=>exact .agg cs ys (hl'.trans hl.symm) (fun j c u h1 h2=>by
    have hj:j<xs.length:=by rw[←hl];exact(List.getElem?_eq_some_iff.1 h2).1
    exact ih j xs[j] u (by simp[hj]) h2 c (hr j c _ h1 (by simp[hj])))
 | @tuple xs ys hl _ ih=>
  intro v h
  cases h with
  |tuple cs _ hl' hr=>exact .tuple cs ys (hl'.trans hl.symm) (fun j c u h1 h2=>by
    have hj:j<xs.length:=by rw[←hl];exact(List.getElem?_eq_some_iff.1 h2).1
    exact ih j xs[j] u (by simp[hj]) h2 c (hr j c _ h1 (by simp[hj])))
 | @func f xs ys hl _ ih=>
  intro v h
  cases h with
  |func _ cs _ hl' hr=>exact .func f cs ys (hl'.trans hl.symm) (fun j c u h1 h2=>by
    have hj:j<xs.length:=by rw[←hl];exact(List.getElem?_eq_some_iff.1 h2).1
    exact ih j xs[j] u (by simp[hj]) h2 c (hr j c _ h1 (by simp[hj])))
theorem ke.rep(hat:∀i,i<E1.L→E2.at_ (k+i)=E1.at_ i∧k+i<E2.L)(hM:∀b,E2.M b→E1.M b){xs ys:List PV}(h:ke k xs ys){cs:List Value}(hs:aZ E1 w cs xs):aZ E2 w cs ys:=⟨hs.1.trans h.1.symm,fun j c u h1 h2=>by
 have hj:j<xs.length:=by rw[←h.1];exact(List.getElem?_eq_some_iff.1 h2).1
 exact(h.2 j xs[j] u (by simp[hj]) h2).rep hat hM c (hs.2 j c _ h1 (by simp[hj]))⟩
theorem Hj.sat{base base':Nat}(hb:base'≤base)(hat:∀i,i<E1.L→E2.at_ (k+i)=E1.at_ i∧k+i<E2.L)(hM:∀b,E2.M b→E1.M b){v:Value}{x y:db}(h:Hj k x y)(hs:gd base E1 w v x):gd base' E2 w v y:=by
 cases h with
 |cells h1=>
  obtain⟨b,cs,h2,h3,h4,h5⟩:=hs
  exact⟨b,cs,h2,by omega,h4,h1.rep hat hM h5⟩
 |row h1=>
  obtain⟨cs,h2,h3⟩:=hs
  refine⟨cs,⟨h2.1,?_⟩,h1.rep hat hM h3⟩
  rcases h2.2 with h|⟨g,cap,cur,a1,a2,a3⟩
  ·exact .inl h
  ·exact .inr ⟨g,cap,cur,a1,by omega,a3⟩
 | @mp kv hp=>
  obtain⟨r,es,ck,h2,h3,h4,h5,h6⟩:=hs
  exact⟨r,es,ck,h2,by omega,h4,h5,ke.pure (k:=k).rep hat hM h6⟩
end
theorem bV.frame{P:Program}{f:FuncId}{ps:List PV}{σ:cg}{R:PV→cg→Prop}[aL ps]
  (h:bV P f ps [] (fun r σ1=>∃bs,σ1=bs.map some∧∃r' bs',Up σ.length r r'∧lx σ.length bs bs'∧R r' (σ++bs'.map some))):bV P f ps σ R:=fun F base E w vs hS hR=>by
 refine(h E.M w.heap.size (EF E.M) w vs (Sat.start E.M w (fun b hb=>hS.lt hb) hS.gl) (hR.pure (fun _ h=>h))).mono ?_
 rintro e w' ⟨v,r,σ1,E1,rfl,⟨bs,rfl,r',bs',hu,hbu,hRr⟩,hS1,hg1,hB1,hv⟩
 have hE:Ext w w':=hB1
 have hL1:E1.L=bs.length:=by rw[hS1.len];simp
 have hlen:((List.range bs.length).map E1.at_).length=bs'.length:=by rw[List.length_map,List.length_range,hbu.1]
 have hget:∀(i:Nat) v,((List.range bs.length).map E1.at_)[i]? =some v→i<bs.length∧v=E1.at_ i:=fun i v hi=>by
  have hi':i<bs.length:=by have:=(List.getElem?_eq_some_iff.1 hi).1;simpa using this
  rw[List.getElem?_map,List.getElem?_range hi']at hi
  cases hi
  exact⟨hi',rfl⟩
 have hbk:∀i,i<bs.length→∃x,bs[i]? =some x∧(bs.map some)[i]? =some (some x):=fun i hi=>⟨bs[i],by simp[hi],by simp[hi]⟩
 have hat:∀i,i<E1.L→(E.ep ((List.range bs.length).map E1.at_)).at_ (σ.length+i)=E1.at_ i∧σ.length+i<(E.ep ((List.range bs.length).map E1.at_)).L:=fun i hi=>by
  rw[hL1]at hi
  refine⟨?_,?_⟩
  ·simp only[Env.ep,hS.len]
   rw[if_neg (by omega),Nat.add_sub_cancel_left,List.getD_eq_getElem?_getD,List.getElem?_map,List.getElem?_range hi]
   rfl
  ·simp only[Env.ep,hS.len,List.length_map,List.length_range];omega
 have hM:∀b,(E.ep ((List.range bs.length).map E1.at_)).M b→E1.M b:=fun b hb=>by
  rcases hb with hb|⟨v,hv1,hv2⟩
  ·exact(hS1.mm b).2 (.inl hb)
  ·obtain⟨i,hi⟩:=List.getElem?_of_mem hv1
   obtain⟨hi1,rfl⟩:=hget i v hi
   obtain⟨x,_,hx⟩:=hbk i hi1
   exact(hS1.mm b).2 (.inr ⟨i,x,hx,hv2⟩)
 have hp:=hS.ep hE ((List.range bs.length).map E1.at_) bs' hlen
  (fun v hv1 b hb=>by
   obtain⟨i,hi⟩:=List.getElem?_of_mem hv1
   obtain⟨hi1,rfl⟩:=hget i v hi
   obtain⟨x,_,hx⟩:=hbk i hi1
   exact((hS1.blk i x hx).lt hb).1)
  (fun i j u v b hi hj hu hv=>by
   obtain⟨hi1,rfl⟩:=hget i u hi
   obtain⟨hj1,rfl⟩:=hget j v hj
   obtain⟨x,_,hx⟩:=hbk i hi1
   obtain⟨y,_,hy⟩:=hbk j hj1
   exact hS1.inj i j x y b hx hy hu hv)
  (fun i v blk hi hb=>by
   obtain⟨hi1,rfl⟩:=hget i v hi
   obtain⟨x,hx0,hx⟩:=hbk i hi1
   exact(hbu.2 i x blk hx0 hb).sat hS.bl hat hM (hS1.blk i x hx))
 exact⟨v,r',_,_,rfl,hRr,hp.1,hp.2,Below.iC hE hS.bl,hu.rep hat hM v hv⟩
end PW
end Go.Proofs.YtnegbdpggideiaaGreatDoor
namespace Go.Proofs.YtnegbdpggideiaaGreatDoor
namespace PW
open Go.RowKit cH Mem Net
theorem qJ(T:an)(D:List Bool)(n:Int):Can Tryz.prog 53 [aJ T,aM D,num n] (· = .tuple [dx (fE T D n),num (ca T D [n])]):=by
 refine aF Tryz.func53 rfl Tryz.ntmps53 rfl<|aH<|aq 3 rfl<|aD [1,2,3,6] rfl ?_
 refine aj ?_
 obtain⟨q1,hq1⟩:∃q,av T=q:=⟨_,rfl⟩
 obtain⟨q2,hq2⟩:∃q,bL T D=q:=⟨_,rfl⟩
 refine bx 22 (.raw (.bool ((!q1)||(!q2)))) [1,2,3,6] rfl ?_ ?_
 ·refine .a 1 rfl<|.c rfl (hq1▸er T) rfl<|.a 2 rfl<|?_
  cases q1
  ·exact .a 5 rfl<|.k [22,1,2,3,6] rfl
  ·exact .a 2 rfl<|.c rfl (hq2▸lJ T D (by have:=bJ hq1;omega)) rfl<|.a 2 rfl<|.k [22,1,2,3,6] rfl
 refine af rfl (fun hc=>?_) (fun hc=>?_)
 ·have hch:ca T D [n]=1:=by
   unfold ca
   rw[hq1,hq2,if_neg]
   revert hc
   cases q1<;>cases q2<;>simp
  refine aH<|aq 3 rfl<|aD [6,7] rfl ?_
  exact ao<|⟨_,_,aA.of rfl,ax.ba (ai.cons (ax.ew (ai.cons ax.pure<|ai.cons ax.bO<|ai.cons ax.bO ai.nil)) (ai.cons ax.pure ai.nil)),by unfold fE;rw[hch];rfl⟩
 ·have hok:(av T&&bL T D)=true:=by
   rw[hq1,hq2]
   revert hc
   cases q1<;>cases q2<;>simp
  clear hc hq1 hq2
  refine ak<|aj<|ab (.a 2 rfl<|.c rfl (dv T n) rfl<|.a 1 rfl<|.k [1,2,3,6,27] rfl)<|af rfl (fun hc=>?_) (fun hc=>?_)
  ·have hn:aV T n=false:=by revert hc;cases aV T n<;>simp
   have hch:ca T D [n]=2:=by
    unfold ca
    rw[if_pos hok,if_neg]
    simp[hn]
   refine aH<|aq 3 rfl<|aD [6,7] rfl ?_
   exact ao<|⟨_,_,aA.of rfl,ax.ba (ai.cons (ax.ew (ai.cons ax.pure<|ai.cons ax.bO<|ai.cons ax.bO ai.nil)) (ai.cons ax.pure ai.nil)),by unfold fE;rw[hch];rfl⟩
  ·have hn:aV T n=true:=by revert hc;cases aV T n<;>simp
   have hch:ca T D [n]=0:=by
    unfold ca
    rw[if_pos hok,if_pos]
    simp[hn]
   obtain⟨hv,hf⟩:=Bool.and_eq_true_iff.1 hok
   rw[aO]at hn
   obtain⟨m,rfl⟩:=Int.eq_ofNat_of_zero_le hn.1
   obtain⟨N,hN⟩:∃N:Nat,T.nodes=(N:Int):=⟨T.nodes.toNat,by omega⟩
   have hN64:N≤64:=by have:=(aQ hv).nodes;omega
   have hll:=bJ hv
   refine ak<|aH<|aq 4 rfl<|aD [1,2,3,6,8] rfl ?_
   refine bZ 1 1 76 3 rfl rfl ?_
   refine bZ 1 2 3 1 rfl rfl ?_
   refine aj<|ab (.a 1 rfl<|.v (aK rfl ((show some (num T.nodes)=some (num (N:Int)) by rw[hN]))) rfl<|.a 1 rfl<|.k [1,2,3,6,8,32,33] rfl)<|au<|ee [1,2,3,6,8,32,33] rfl<|bf (fun r s=>∃j,j≤N∧r=N - j∧s=⟨[(1,aM D),(2,num m),(3,.aX (bn T) 0),(6,.ptr 0 0),(8,.ptr 1 0),(32,num N),(33,num j)],[some (.cells 56 [num 0,.raw (.slice none 0 0),.raw (.slice none 0 0)]),some (.cells 56 [num m,.own 2,.own 3]),some (.row 76 3 j (cV (mU T D m j))),some (.row 3 1 0 [])]⟩) N ⟨0,by omega,by omega,rfl⟩ ?_
   rintro r s ⟨j,hj,rfl,rfl⟩
   refine ab (.a 1 rfl<|.k [1,2,3,6,8,32,33,34] rfl)<|aj<|af rfl (fun hc=>?_) (fun hc=>?_)
   ·have hlt:j<N:=by have:=of_decide_eq_true hc;omega
    have hne:bQ T D (m:Int) (j:Int)=0:=by
     have hnb:aV T (j:Int)=true:=aO.2 ⟨by omega,by omega⟩
     have hch':ca T D [(j:Int)]=0:=by
      unfold ca
      rw[if_pos hok,if_pos]
      simp[hnb]
     unfold bQ
     rw[if_pos hch',if_pos (aO.2 hn)]
    have hnx:Can Tryz.prog 109 [aJ T,aM D,num m,num j] (· = .tuple [aw (bm T D m j),num 0]):=by
     have h:=p6 T D (m:Int) (j:Int)
     rw[hne]at h
     exact h
    refine ak<|aj<|au<|ab (.a 2 rfl<|.k [1,2,3,6,8,9,32,33] rfl)<|ab (.a 4 rfl<|.c rfl (hnx) rfl<|.a 5 rfl<|.k [1,2,3,6,8,10,32,33] rfl)<|bq<|aq 3 rfl<|bA (pG (fG (xs:=[_,_,_]) rfl (bF.st.get rfl) rfl rfl) (ga.ew (.cons (ga.refl _)<|.cons (ga.refl _)<|.cons ga.bO .nil))) rfl<|aq 1 rfl<|cf (bu rfl (bF.rk.get rfl) rfl rfl rfl rfl (by unfold maxLen;omega)) rfl<|aq 2 rfl ?_
    refine de [0,1,4,3] (.c 1<|.c 2<|.c 3<|.c 6<|.c 8<|.c 32<|.c 33<|.nil) (.kept rfl (.cells (aC.c<|aC.c<|aC.c<|aC.nil))<|.kept rfl (.cells (aC.c<|aC.c<|aC.c<|aC.nil))<|.kept rfl (.ec rfl (show _=cV (mU T D m (j+1)) by rw[qv];exact gL _ ⟨bm T D m j,false,[]⟩))<|.kept rfl (.row aC.pure)<|.nil) rfl rfl (aU ?_)
    refine aB (.v (aP rfl) rfl<|.a 1 rfl<|.k [1,2,3,6,8,32,33] rfl) ?_
    exact⟨N - (j+1),by omega,j+1,by omega,rfl,rfl⟩
   ·have hje:j=N:=by have:=of_decide_eq_false hc;omega
    subst hje
    refine aY<|aj ?_
    have hol:(bC T m).length≤512:=Nat.le_trans (dB T m _) (by omega)
    refine ab (.a 2 rfl<|.c rfl (om T hll _) rfl<|.a 2 rfl<|.k [1,6,8,54,55,56] rfl)<|au<|ee [1,6,8,54,55,56] rfl<|bf (fun r s=>∃i,i≤(bC T m).length∧r=(bC T m).length - i∧s=⟨[(1,aM D),(6,.ptr 0 0),(8,.ptr 1 0),(54,aw (bC T m)),(55,num (bC T m).length),(56,num i)],[some (.cells 56 [num 0,.raw (.slice none 0 0),.raw (.slice none 0 0)]),some (.cells 56 [num m,.own 2,.own 3]),some (.row 76 3 j (cV (mU T D m j))),some (.row 3 1 (cj D ((bC T m).take i)).length (aN (cj D ((bC T m).take i))))]⟩) (bC T m).length ⟨0,by omega,by omega,rfl⟩ ?_
    rintro r s ⟨i,hi,rfl,rfl⟩
    refine ab (.a 1 rfl<|.k [1,6,8,54,55,56,57] rfl)<|aj<|af rfl (fun hc=>?_) (fun hc=>?_)
    ·have hlt:i<(bC T m).length:=by have:=of_decide_eq_true hc;omega
     obtain⟨h0,h1⟩:=jl (bR (d:=0) hlt)
     obtain⟨a,ha⟩:=Int.eq_ofNat_of_zero_le h0
     have hDl:D.length=0∨a<D.length:=by simp only[bL,decide_eq_true_eq]at hf;omega
     have hstep:cj D ((bC T m).take (i+1))=cj D ((bC T m).take i)++(if aW D a then [(a:Int)] else []):=by
      unfold cj
      rw[cX _ i 0 hlt,List.filter_append,ha]
      simp only[List.filter_cons,List.filter_nil,Int.toNat_natCast]
     have hdl:(cj D ((bC T m).take i)).length≤1000:=Nat.le_trans (List.length_filter_le _ _) (by rw[List.length_take];have:=dB T m (2*T.ag.length);unfold bC at*;omega)
     refine ak<|aj<|au<|ab (.v (aI (i) rfl) rfl<|.v (aK rfl ((ay _ i hlt).trans (by rw[ha]))) rfl<|.a 1 rfl<|.k [1,6,8,13,54,55,56] rfl)<|ab (.a 2 rfl<|.c rfl (iY D a hDl) rfl<|.k [1,6,8,13,54,55,56,62] rfl)<|af rfl (fun hcd=>?_) (fun hcd=>?_)
     ·rw[hcd,if_pos rfl]at hstep
      refine bq<|aq 4 rfl<|cf (bu rfl (bF.rk.get rfl) rfl rfl rfl rfl (by unfold maxLen;omega)) rfl<|aq 2 rfl ?_
      refine de [0,1,2,4] (.c 1<|.c 6<|.c 8<|.c 54<|.c 55<|.c 56<|.nil) (.kept rfl (.cells (aC.c<|aC.c<|aC.c<|aC.nil))<|.kept rfl (.cells (aC.c<|aC.c<|aC.c<|aC.nil))<|.kept rfl (.row aC.pure)<|.kept rfl (.ec rfl (cB _ _))<|.nil) rfl rfl (aU ?_)
      refine aB (.v (aP rfl) rfl<|.a 1 rfl<|.k [1,6,8,54,55,56] rfl) ?_
      refine⟨(bC T m).length - (i+1),by omega,i+1,by omega,rfl,?_⟩
      rw[hstep]
      first
       |rfl
       |(simp only[List.length_append,List.length_singleton];rfl)
     ·rw[hcd,if_neg (by simp),List.append_nil]at hstep
      refine ak<|aB (.v (aP rfl) rfl<|.a 1 rfl<|.k [1,6,8,54,55,56] rfl) ?_
      refine⟨(bC T m).length - (i+1),by omega,i+1,by omega,rfl,?_⟩
      rw[hstep]
      first
       |rfl
       |(simp only[List.length_append,List.length_singleton];rfl)
    ·have hie:i=(bC T m).length:=by have:=of_decide_eq_false hc;omega
     subst hie
     refine aY<|aH<|bA (dI (ys:=[num m,.own 2,.own 3]) rfl (bF.tk.get rfl) rfl rfl rfl rfl) rfl<|aq 2 rfl<|aD [6,7] rfl ?_
     refine ao<|⟨_,_,aA.of rfl,ax.ba (ai.cons (ax.ew (ai.cons ax.pure<|ai.cons (ax.dX rfl ai.pure)<|ai.cons (ax.dX rfl ai.pure) ai.nil)) (ai.cons ax.pure ai.nil)),?_⟩
     unfold fE
     rw[hch,if_pos rfl,List.take_length]
     unfold di dx fe iE aw
     rw[pU,show T.nodes.toNat=j by omega]
     rfl
end PW
end Go.Proofs.YtnegbdpggideiaaGreatDoor
