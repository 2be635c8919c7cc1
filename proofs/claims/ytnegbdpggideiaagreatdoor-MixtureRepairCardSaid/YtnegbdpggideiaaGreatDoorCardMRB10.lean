/- Texts of the proof, part 10. -/
import Derived.Deep.AppendSrc
import Derived.Test.YtnegbdpggideiaaGreatDoorCardMRB9
set_option linter.unusedVariables false
set_option linter.unusedSimpArgs false
set_option maxRecDepth 10000
set_option maxHeartbeats 1000000
namespace Go.Proofs.YtnegbdpggideiaaGreatDoor
namespace PW
open Go.RowKit cH Mem Net
def iY:List ca→List ca
 | []=>[]
 |s::l=>if s.kind=2 then l else s::l
noncomputable def i7(T:an)(D:List Bool)(n d:Int):iV:=
 if fM T D n d=0∧n≠d then⟨[(bY T D n.toNat d.toNat).getD 0 0],true,iY (ig T [] n (bY T D n.toNat d.toNat))⟩ else⟨[],false,[]⟩
structure oX (T:an) (D:List Bool) (x y:Nat) (p:List Int):Prop where
 valid:ao T=true
 fits:bN T D=true
 ne:x≠y
 hx:(x:Int)<T.nodes
 hy:(y:Int)<T.nodes
 sp:SP T D y x p
theorem o9{T:an}{D:List Bool}{n d:Int}(h:fM T D n d=0)(hne:n≠d):∃a b:Nat,n=(a:Int)∧d=(b:Int)∧oX T D a b (bY T D a b):=by
 have hf:bN T D=true:=by
  have h':=h
  unfold fM at h'
  split at h'
  ·rename_i h1;exact(eS h1).2.1
  ·rename_i h1;exact absurd h' h1
 obtain⟨a,b,rfl,rfl,ha,hb,hv,hsp⟩:=ku h
 simp only[Int.toNat_natCast]at hsp
 exact⟨a,b,rfl,rfl,hv,hf,fun e=>hne (by rw[e]),ha,hb,hsp⟩
section
variable {T:an} {D:List Bool} {x y:Nat} {p:List Int}
theorem oX.pos(h:oX T D x y p):0<p.length:=by
 have hsp:=h.sp
 cases hsp with
 |nil=>exact absurd rfl h.ne
 |cons _ _ _=>simp
theorem oX.Ij(h:oX T D x y p):pL T D x p:=⟨h.valid,h.fits,aT.2 ⟨by omega,h.hx⟩,Ao h.sp.ch,h.sp.ch.K6⟩
theorem oX.zero(h:oX T D x y p):eQ T D x p=0:=xm h.Ij
theorem oX.len(h:oX T D x y p):(p.length:Int)<T.nodes:=h.sp.ze h.valid h.hy
theorem oX.head(h:oX T D x y p):p.getD 0 0∈aX T D x y:=by
 have hsp:=h.sp
 cases hsp with
 |nil=>exact absurd rfl h.ne
 | @cons n a m q h1 hm hq=>exact fk h1 ((aM h.valid).cost a h1.eU).1
theorem oX.Kw(h:oX T D x y p):∃a:Nat,p.getD 0 0=(a:Int)∧jx T D x y a:=cL h.head
theorem oX.Dt(h:oX T D x y p):0<(ig T [] x p).length∧(ig T [] x p).length≤p.length:=⟨G9 h.pos,GI _ _⟩
theorem oX.ck(h:oX T D x y p):J1 T D (ig T [] x p) x p=true:=by
 have hF:=h.Ij
 unfold J1
 rw[if_pos h.zero,Fw hF.bare _ 0 (Nat.zero_le _),Bool.and_eq_true]
 exact⟨zH hF.bare _ 0 (Nat.zero_le _) (by omega),uR hF.bare _ 0 (Nat.zero_le _)⟩
theorem rL{n:Int}(hp:0<p.length):∃s l,ig T [] n p=s::l∧(s.kind=1∨s=⟨2,p.getD 0 0⟩):=by
 unfold ig
 obtain⟨f,hf⟩:∃f,p.length=f+1:=⟨p.length - 1,by omega⟩
 rw[hf]
 simp only[gJ]
 rw[if_pos (by omega)]
 cases iU (ep T [] n p 0) 0 p.length with
 |none=>exact⟨_,_,rfl,.inr rfl⟩
 |some j=>exact⟨_,_,rfl,.inl rfl⟩
theorem Hx(l:List ca):(iY l).length≤l.length:=by
 cases l with
 |nil=>simp[iY]
 |cons s l=>simp only[iY];split<;>simp
theorem Hp{l:List ca}{s:ca}(h:s∈iY l):s∈l:=by
 cases l with
 |nil=>cases h
 |cons a l=>simp only[iY]at h;split at h<;>simp_all
theorem zd(hF:pL T D x p):∀(f i:Nat),∀s∈gJ T [] x p f i,oH T s=true
 |0,i,s,hs=>by simp[gJ]at hs
 |f+1,i,s,hs=>by
  simp only[gJ]at hs
  split at hs
  ·rename_i hi
   cases ht:iU (ep T [] x p i) i p.length with
   |none=>
    rw[ht]at hs
    simp only[List.mem_cons]at hs
    rcases hs with rfl|hs
    ·unfold oH;simp only[if_neg (show ¬(2:Int)=1 by decide),if_pos rfl];exact hF.aK _ (bO hi)
    ·exact zd hF f (i+1) s hs
   |some j=>
    rw[ht]at hs
    simp only[List.mem_cons]at hs
    obtain⟨h1,h2,h3,h4⟩:=my _ _ ht
    rcases hs with rfl|hs
    ·obtain⟨u,hu,huN⟩:=cg hF.valid hF.node hF.aK j h2
     unfold oH;simp only[if_pos rfl];rw[hu];exact aT.2 ⟨by omega,huN⟩
    ·exact zd hF f j s hs
  ·cases hs
theorem oX.whole(h:oX T D x y p):J1 T D (iY (ig T [] x p)) x p=true∨J1 T D (⟨2,p.getD 0 0⟩::iY (ig T [] x p)) x p=true:=by
 obtain⟨s,l,hl,hs⟩:=rL (T:=T) (n:=(x:Int)) h.pos
 have hc:=h.ck
 rw[hl]at hc ⊢
 rcases hs with hs|rfl
 ·left
  simp only[iY]
  rw[if_neg (by omega)]
  exact hc
 ·right
  exact hc
end
theorem mD{T:an}{D:List Bool}{x y:Nat}(h:oX T D x y (bY T D x y)):i7 T D x y=⟨[(bY T D x y).getD 0 0],true,iY (ig T [] x (bY T D x y))⟩:=by
 unfold i7
 rw[if_pos]
 ·simp only[Int.toNat_natCast]
 ·refine⟨?_,fun e=>h.ne (by omega)⟩
  rw[iv h.valid h.fits h.hx h.hy,if_neg]
  have:=(h.sp.cost h.valid h.hy).2
  omega
theorem uV{T:an}{D:List Bool}{n d:Int}(h:¬(fM T D n d=0∧n≠d)):i7 T D n d=⟨[],false,[]⟩:=if_neg h
theorem uc(T:an)(D:List Bool)(n d:Int):(i7 T D n d=⟨[],false,[]⟩∧¬(fM T D n d=0∧n≠d))∨∃a b:Nat,n=(a:Int)∧d=(b:Int)∧oX T D a b (bY T D a b)∧i7 T D n d=⟨[(bY T D a b).getD 0 0],true,iY (ig T [] a (bY T D a b))⟩:=by
 by_cases h:fM T D n d=0∧n≠d
 ·obtain⟨a,b,rfl,rfl,hp⟩:=o9 h.1 h.2
  exact .inr ⟨a,b,rfl,rfl,hp,mD hp⟩
 ·exact .inl ⟨uV h,h⟩
theorem vR(T:an)(D:List Bool)(n d:Int)(h12:T.nodes≤12):(i7 T D n d).push.length≤32:=by
 rcases uc T D n d with⟨h,_⟩|⟨a,b,rfl,rfl,hp,h⟩
 ·rw[h];simp
 ·rw[h]
  have:=Hx (ig T [] a (bY T D a b))
  have:=hp.Dt.2
  have:=hp.len
  show(iY _).length≤32
  omega
theorem EW(T:an)(D:List Bool)(n d:Int)(h12:T.nodes≤12):jl T n d (i7 T D n d)=true:=by
 have hpl:=vR T D n d h12
 rcases uc T D n d with⟨h,_⟩|⟨a,b,rfl,rfl,hp,h⟩
 ·rw[h]
  unfold jl
  have:fh T n []=true:=decide_eq_true fun i hi=>by simp at hi
  simp only[this]
  simp
 ·rw[h]at hpl ⊢
  obtain⟨k,hk,hn⟩:=hp.Kw
  have h1:fh T (a:Int) [(bY T D a b).getD 0 0]=true:=rB (by simp) fun c hc=>by
   simp only[List.mem_singleton]at hc
   subst hc
   rw[hk]
   exact⟨cJ.2 ⟨by omega,by have:=hn.eU;omega⟩,by rw[Int.toNat_natCast];exact hn.tail⟩
  have h2:decide (((b:Nat):Int)=(a:Int))=false:=decide_eq_false (by have:=hp.ne;omega)
  have h3:(iY (ig T [] a (bY T D a b))).all (oH T)=true:=List.all_eq_true.2 fun s hs=>zd hp.Ij _ 0 s (Hp hs)
  unfold jl
  simp only[h1,h2,h3,if_true]
  simp only[Bool.true_and,Bool.false_and,Bool.not_false,Bool.and_true,Bool.and_eq_true,decide_eq_true_eq]
  exact⟨rfl,by have:(iY (ig T [] a (bY T D a b))).length≤32:=hpl;omega⟩
noncomputable def sH(T:an)(D:List Bool)(n:Int)(k:Nat):List iV:=(List.range k).map fun(d:Nat)=>i7 T D n (d:Int)
theorem re(T:an)(D:List Bool)(n:Int)(k:Nat):(sH T D n k).length=k:=by simp[sH]
theorem vT{T:an}{D:List Bool}{n:Int}{k d:Nat}(h:d<k):(sH T D n k)[d]? =some (i7 T D n (d:Int)):=by simp[sH,h]
theorem FL{T:an}{D:List Bool}{n k d:Nat}(h:d<k):(oR T D n k)[d]? =some ⟨aX T D n d,false,[]⟩:=by simp[oR,h]
noncomputable def vH(T:an)(D:List Bool)(n:Nat):ef:=⟨n,sH T D n T.nodes.toNat,cr D (bG T n)⟩
theorem pd{T:an}{D:List Bool}(hv:ao T=true)(h12:T.nodes≤12){n:Nat}(hn:(n:Int)<T.nodes):dM T (vH T D n)=true:=by
 unfold dM vH
 have h1:bd T (n:Int)=true:=aT.2 ⟨by omega,hn⟩
 have hN:=(aM hv).nodes
 have h2:decide (((sH T D n T.nodes.toNat).length:Int)=T.nodes)=true:=decide_eq_true (by rw[re];omega)
 have h3:fh T n (cr D (bG T n))=true:=mP T n _
 have h4:nG T n (sH T D n T.nodes.toNat)=true:=jk fun d e he=>by
  have hd:d<T.nodes.toNat:=by
   have:=(List.getElem?_eq_some_iff.1 he).1
   rwa [re]at this
  rw[vT hd]at he
  cases he
  exact EW T D n d h12
 rw[hv,h1,h2,h3,h4]
 rfl
theorem iE.same{T:an}{D:List Bool}{x y:Nat}{p:List Int}(h:iE T D x y p):bY T D x y=p∧oX T D x y p∧ig T [] x p=[⟨1,(y:Int)⟩]:=by
 have hv:=h.valid
 have hch:=h.sp.ch.mask h.up
 have h1:=hch.le hv h.hy
 have h0:=h.sp.cost hv h.hy
 have hq:=eB (D:=D) hv h.hy h.hx h1.1
 have hqc:=hq.cost hv h.hy
 have hqb:=hq.ch.bare
 have h2:=hqb.le hv h.hy
 have hq':=hqb.sp hv h.hy (by omega)
 have he:bY T D x y=p:=hq'.unique hv h.hy h.sp h.nf
 have hP:oX T D x y p:=⟨hv,h.fits,h.ne,h.hx,h.hy,by rw[←he];exact hq⟩
 refine⟨he,hP,?_⟩
 unfold ig
 obtain⟨f,hf⟩:∃f,p.length=f+1:=⟨p.length - 1,by have:=h.pos;omega⟩
 rw[hf,ko (j:=p.length) h.pos h.pos (Nat.le_refl _) h.J7 (fun k h3 h4=>by omega),mo _ _ (Nat.le_refl _),List.take_length,h.sp.ch.fin]
theorem iE.EA{T:an}{D:List Bool}{x y:Nat}{p:List Int}(h:iE T D x y p):aX T [] x y=[p.getD 0 0]∧aX T D x y=[p.getD 0 0]∧i7 T D x y=⟨[p.getD 0 0],true,[⟨1,(y:Int)⟩]⟩:=by
 obtain⟨h1,h2,h3⟩:=h.same
 obtain⟨h4,h5,_⟩:=h.next (i:=0) h.pos (u:=x) rfl
 refine⟨h4,h5,?_⟩
 rw[←h1]at h2
 rw[mD h2,h1,h3]
 rfl
theorem tU{T:an}{D D':List Bool}(hv:ao T=true){d:Nat}(hd:(d:Int)<T.nodes)(dir:Bool)(hD:∀a,aI D a=aI D' a):bn T D d dir=bn T D' d dir:=by
 have hI:=jj (aM hv) D' dir hd
 refine kr (aM hv) ⟨hI.len,hI.root,hI.ge,fun a ha hw=>hI.closed a ha ?_,fun x hx h0=>?_⟩
 ·exact⟨(hD a).symm.trans hw.1,hw.2⟩
 ·rcases hI.nj x hx h0 with h|⟨a,h1,h2,h3,h4⟩
  ·exact .inl h
  ·exact .inr ⟨a,h1,h2,⟨(hD a).trans h3.1,h3.2⟩,h4⟩
theorem Cz{T:an}{D D':List Bool}(hv:ao T=true){n d:Nat}(hd:(d:Int)<T.nodes)(hD:∀a,aI D a=aI D' a):aX T D n d=aX T D' n d:=by
 unfold aX
 rw[tU hv hd false hD]
 congr 1
 unfold jw
 refine List.filter_congr fun a _=>?_
 unfold fV
 rw[hD]
end PW
end Go.Proofs.YtnegbdpggideiaaGreatDoor
namespace Go.Proofs.YtnegbdpggideiaaGreatDoor
namespace PW
open Go.RowKit cH Mem Net fw
section
variable {P:Program} {σ:cm} {t:cd} {o:Oper} {N L:Nat} {ops:Array Oper}
theorem uM{rest:List Oper}{K:St→Prop}{d:Nat}{x y:Operand}{ty tz:TypeId}{xs:List PV}(ho:o.op= .binOp .eql ty x y tz)(hk:xC P ty=true)(hx:aD t x=some (.slice 0 xs))(hy:aD t y=some (.raw (.slice none 0 0)))(hd:o.dst=some d)(hw:eX ops t o=some true)(hN:Nat.blt d N=true)
  (h:∀b,WR P N L ops rest ⟨(d,.raw (.bool b))::t,σ⟩ K):WR P N L ops (o::rest) ⟨t,σ⟩ K:=by
 refine oA hw fun F base E a w hs next Q hn=>?_
 obtain⟨e,hu⟩:=oV hk
 have h1:=ay (gz a) hs.tmp hx
 have h2:=ay (gz a) hs.tmp hy
 generalize hz:a.eval x=z at h1
 generalize hz':a.eval y=z' at h2
 cases h2
 obtain⟨p,c,rfl,_,_⟩:=oK h1
 have hrun:=Lib.run_eql_slice_nil w ty e p 0 c 0 0 hu
 have hg:∀a n c b m d,(eqGuard .eql ty x y (.slice a n c) (.slice b m d)).run P w= .ok () w:=fun _ _ _ _ _ _=>rfl
 have hU:gC P w (fun v w'=>cG E w' v (.raw (.bool p.isNone))) ((execOp a.eval o).run P w):=by
  simp only[execOp,ho,hz,hz',Sem.run_bind,Sem.run_pure,Result.andThen_ok,hg,hrun]
  exact bw (.raw _)
 refine qo hU fun v w' hE hv=>hn _ _ _ E (h p.isNone) ?_ (.ext hE) (Below.iP hE hs.sat.bl)
 rw[hd]
 exact hs.put (hs.sat.ext hE) (.ext hE) hN hv
theorem qA{ty e s n h:Nat}{x hi' mx:Operand}{xs:List PV}{k k':IntKind}{hii mi:Int}(ho:o.op= .slice ty x none (some hi') (some mx))(he:tR P ty=some (e,s))(hx:aD t x=some (.slice n xs))(hhi:aD t hi'=some (.raw (.int k hii)))(hmx:aD t mx=some (.raw (.int k' mi)))(hxl:xs.length=n*s)(hli:hii=(h:Int))(hmi:mi=(h:Int))(hl:h≤n):
  br P σ t o (.slice h (xs.take (h*s))):=by
 intro F base E ρ w hρ hS hT
 have h1:=ay hρ hT hx
 have h2:=ay hρ hT hhi
 have h3:=ay hρ hT hmx
 obtain⟨hu,i,hi,hs⟩:=fO he
 generalize hz:ρ x=v at h1
 generalize hz':ρ hi'=u at h2
 generalize hz2:ρ mx=u2 at h3
 cases h2
 cases h3
 subst hli
 subst hmi
 obtain⟨a,c,rfl,hc1,hc2⟩:=oK h1
 have hR:=nC (s:=s) (l:=0) h1 hxl (Nat.zero_le _) hl (Nat.le_refl h) (Nat.le_trans hl hc1)
 have hrun:(Instr.sliceAt ty (.slice a n c) none (some (.int k (h:Int))) (some (.int k' (h:Int)))).run P w= .ok (.slice (if h=0 then a else a.map (·.add (0*s))) (h - 0) (h - 0)) w:=by
  have:h≤c:=Nat.le_trans hl hc1
  simp[Instr.sliceAt,run_underlying hu,Instr.slice,Instr.sliceBounds,Instr.sliceBound,asIntOf,this,sizeOf,typeInfo,hi]
 simp only[execOp,ho,hz,hz',hz2,Option.map_some,Option.map_none,Sem.run_bind,hrun,Result.andThen_ok,Sem.run_pure]
 refine bw ?_
 simpa using hR
end
theorem KM:xC Tryz.prog 39=true:=by kernel_rfl
theorem nA(l:List ca)(hl:l.length≤1000):Can Tryz.prog 142 [cM l] (· =cM l):=by
 refine aE Tryz.func142 rfl Tryz.ntmps142 rfl<|ab (.a 1 rfl<|.k [0] rfl)<|ah<|aP (WR.mono (K:=fun s=>∃b:Bool,s=⟨[(0,cM l),(4,.raw (.bool b))],[]⟩∧(b=true→l=[])) ?_ ?_)
 ·cases l with
  |nil=>exact av 1 rfl<|uM rfl KM rfl rfl rfl rfl rfl fun b=>aG [0,4] rfl ⟨b,rfl,fun _=>rfl⟩
  |cons a l=>exact av 1 rfl<|bK (oE rfl KM rfl rfl (Nat.succ_pos _)) rfl rfl rfl<|aG [0,4] rfl ⟨_,rfl,fun h=>by cases h⟩
 rintro _ ⟨b,rfl,hb⟩
 refine ag rfl (fun hc=>?_) (fun hc=>?_)
 ·have:l=[]:=hb hc
  subst this
  exact ab (.a 1 rfl<|.k [2] rfl)<|aq<|⟨_,_,aA.of rfl,aB.bT,rfl⟩
 ·refine ai<|aP<|cp (kR rfl (bI.sl.get rfl)) rfl<|av 1 rfl<|cp (bA rfl (bI.rk.get rfl) rfl rfl rfl (mj l) (by unfold maxLen;omega)) rfl<|av 1 rfl<|aG [2] rfl ?_
  refine aq<|⟨_,_,aA.of rfl,aB.eH (xs:=eM l) (ys:=eM l) rfl aj.pure,?_⟩
  rw[Nat.zero_add];rfl
theorem j8{P:Program}{σ:cm}{t:cd}{o:Oper}{ty:TypeId}{x lo:Operand}{s:ca}{l:List ca}{k:IntKind}(ho:o.op= .slice ty x (some lo) none none)(he:tR P ty=some (103,2))(hx:aD t x=some (.slice (s::l).length (eM (s::l))))(hlo:aD t lo=some (.raw (.int k 1))):br P σ t o (.slice l.length (eM l)):=by
 have h:=sT (l:=1) (σ:=σ) ho he hx hlo (mj _) rfl (by simp)
 have e:((eM (s::l)).drop (1*2)).take (((s::l).length - 1)*2)=eM l:=by
  show(eM l).take _=_
  refine List.take_of_length_le ?_
  rw[mj];simp
 rw[e]at h
 exact h
theorem uJ{T:an}{D:List Bool}{n d:Int}(h:fM T D n d≠0):i7 T D n d=⟨[],false,[]⟩:=uV fun hh=>h hh.1
theorem Gb{T:an}{D:List Bool}{n d:Int}(h:fM T D n d≠0)(h':fM T D n d≠11):bV T D n d=fM T D n d:=by
 unfold fM at*
 split at h<;>simp_all
theorem IU{T:an}{D:List Bool}{n d:Int}(h:fM T D n d=0∨fM T D n d=11):bV T D n d=0:=by
 unfold fM at h
 split at h
 ·assumption
 ·rename_i hh
  rcases h with h|h
  ·exact h
  ·exfalso
   unfold bV cf at h
   split at h<;>(try split at h)<;>(try split at h)<;>omega
def JT(e:Int)(x:iV):PV:=.tuple [rM x,num e]
theorem wA(T:an)(D:List Bool)(n d:Int)(hlk:T.ae.length≤256)(h12:T.nodes≤12):Can Tryz.prog 124 [aN T,aQ D,num n,num d] (· =JT (bV T D n d) (i7 T D n d)):=by
 obtain⟨c1,hc1⟩:∃q,decide (fM T D n d≠0)=q:=⟨_,rfl⟩
 obtain⟨c2,hc2⟩:∃q,decide (fM T D n d≠11)=q:=⟨_,rfl⟩
 refine aE Tryz.func124 rfl Tryz.ntmps124 rfl<|aP<|av 3 rfl<|aG [1,2,3,4,8] rfl ?_
 refine ab (.a 4 rfl<|.c rfl (zq T D n d) rfl<|.a 5 rfl<|.k [1,2,4,8,10,11] rfl)<|ah<|bu 27 (.raw (.bool (c1&&c2))) [1,2,4,8,10,11] rfl ?_ ?_
 ·refine .a 1 rfl<|.v (b9 rfl (hc1)) rfl<|.a 1 rfl<|?_
  cases c1
  ·exact .a 3 rfl<|.k [27,1,2,4,8,10,11] rfl
  ·exact .a 1 rfl<|.v (b9 rfl (hc2)) rfl<|.a 1 rfl<|.k [27,1,2,4,8,10,11] rfl
 refine ag rfl (fun h1=>?_) (fun h1=>?_)
 ·obtain⟨rfl,rfl⟩:=Bool.and_eq_true_iff.1 h1
  have e1:=tt hc1
  rw[uJ e1,Gb e1 (tt hc2)]
  refine aP<|av 4 rfl<|aG [8,9] rfl ?_
  exact aq<|⟨_,_,aA.of rfl,aB.bx (aj.cons (aB.fR (aj.cons aB.bT<|aj.cons aB.pure<|aj.cons aB.bT aj.nil)) (aj.cons aB.pure aj.nil)),rfl⟩
 ·have e2:fM T D n d=0∨fM T D n d=11:=by
   rcases Bool.and_eq_false_iff.1 h1 with h|h
   ·subst h;exact .inl (Classical.byContradiction (ff hc1))
   ·subst h;exact .inr (Classical.byContradiction (ff hc2))
  rw[IU e2]
  clear h1 hc1 hc2
  obtain⟨P,hP⟩:∃P,(if fM T D n d=0 then bY T D n.toNat d.toNat else [])=P:=⟨_,rfl⟩
  rw[hP]
  refine ai<|ah<|ab (.a 3 rfl<|.k [1,2,4,8,10,32] rfl)<|ag rfl (fun h2=>?_) (fun h2=>?_)
  ·have hno:¬(fM T D n d=0∧n≠d):=by
    rintro⟨h3,h4⟩
    rw[if_pos h3]at hP
    obtain⟨a,b,rfl,rfl,hp⟩:=o9 h3 h4
    have:=tt h2
    have:=hp.pos
    rw[←hP]at*
    simp only[Int.toNat_natCast]at*
    omega
   rw[uV hno]
   refine aP<|av 3 rfl<|aG [8,9] rfl ?_
   exact aq<|⟨_,_,aA.of rfl,aB.bx (aj.cons (aB.fR (aj.cons aB.bT<|aj.cons aB.pure<|aj.cons aB.bT aj.nil)) (aj.cons aB.pure aj.nil)),rfl⟩
  ·obtain⟨p0,q,rfl⟩:∃p0 q,P=p0::q:=by
    cases P with
    |nil=>exact absurd rfl (ff h2)
    |cons p0 q=>exact⟨_,_,rfl⟩
   have h3:fM T D n d=0:=by
    rcases e2 with h|h
    ·exact h
    ·rw[h]at hP;simp at hP
   rw[if_pos h3]at hP
   have h4:n≠d:=by
    rintro rfl
    obtain⟨a,b,ha,hb,_,_,hv',hsp⟩:=ku h3
    have:a=b:=by omega
    subst this
    have:=hsp.self
    rw[this]at hP
    cases hP
   obtain⟨a,b,rfl,rfl,hp⟩:=o9 h3 h4
   simp only[Int.toNat_natCast]at hP
   have hent:=mD hp
   rw[hP]at hp hent
   have hpl:=hp.len
   obtain⟨s,l,hl,hs⟩:=rL (T:=T) (n:=(a:Int)) hp.pos
   have hll:=hp.Dt.2
   rw[hl]at hent hll
   have hsl:=BN T D (p0::q) a (by simp only[List.length_cons]at hpl ⊢;omega) hlk h12
   rw[hl]at hsl
   unfold nu at hsl
   rw[hp.zero,if_pos rfl]at hsl
   clear h2 e2 hl hs hp hP h3 h4
   simp only[List.length_cons]at hll hpl
   rw[show(p0::q).getD 0 0=p0 from rfl]at hent
   refine ai<|ab (.a 4 rfl<|.c rfl (hsl) rfl<|.a 5 rfl<|.k [8,10,12] rfl)<|ah<|ab (.a 1 rfl<|.v (aJ (0) rfl (by omega) (by simp only[List.length_cons];omega)) rfl<|.a 1 rfl<|.v (aL rfl ((show(eM (s::l))[0]? =some (num s.kind) from rfl))) rfl<|.a 1 rfl<|.k [8,10,12,46] rfl)<|ag rfl (fun h5=>?_) (fun h5=>?_)
   ·have hc:iY (s::l)=l:=if_pos (tt h5)
    rw[hc]at hent
    have hlm:l.length≤32:=by omega
    refine az (.a 1 rfl<|.v (j8 rfl (bI.el.get rfl) rfl rfl) rfl<|.a 1 rfl<|.k [8,10,12] rfl) ?_
    refine ah<|ab (.a 3 rfl<|.k [8,10,12,51] rfl)<|ag rfl (fun h6=>?_) (fun h6=>?_)
    ·exact absurd (tt h6) (by omega)
    ·clear h6
     refine ai<|lV 5 20 mixed (
      .val [10] rfl (bH rfl) rfl rfl<|
      .val [53] rfl (qA (h:=1) rfl (bI.el.get rfl) rfl rfl rfl (show(aR (p0::q)).length=_ by simp[aR]) rfl rfl (by simp)) rfl rfl<|
      .val [12] rfl (bH rfl) rfl rfl<|
      .val [55] rfl (dJ rfl (nA _ (by omega))) rfl rfl<|
      .val [54,56] rfl (bH rfl) rfl rfl<|
      .nil) (by kernel_rfl) rfl rfl (bm (ks:=[8,57]) rfl) ?_
     refine av 2 rfl<|aG [8,9] rfl ?_
     exact aq<|⟨_,_,aA.of rfl,aB.bx (aj.cons (aB.fR (aj.cons (aB.pure (p:=aw [p0]))<|aj.cons aB.pure<|aj.cons (aB.pure (p:=cM _)) aj.nil)) (aj.cons aB.pure aj.nil)),by rw[hent];rfl⟩
   ·have hc:iY (s::l)=s::l:=if_neg (ff h5)
    rw[hc]at hent
    have hlm:(s::l).length≤32:=by simp only[List.length_cons];omega
    refine ai<|ah<|ab (.a 3 rfl<|.k [8,10,12,51] rfl)<|ag rfl (fun h6=>?_) (fun h6=>?_)
    ·exact absurd (tt h6) (by omega)
    ·clear h6
     refine ai<|lV 5 20 mixed (
      .val [10] rfl (bH rfl) rfl rfl<|
      .val [53] rfl (qA (h:=1) rfl (bI.el.get rfl) rfl rfl rfl (show(aR (p0::q)).length=_ by simp[aR]) rfl rfl (by simp)) rfl rfl<|
      .val [12] rfl (bH rfl) rfl rfl<|
      .val [55] rfl (dJ rfl (nA _ (by omega))) rfl rfl<|
      .val [54,56] rfl (bH rfl) rfl rfl<|
      .nil) (by kernel_rfl) rfl rfl (bm (ks:=[8,57]) rfl) ?_
     refine av 2 rfl<|aG [8,9] rfl ?_
     exact aq<|⟨_,_,aA.of rfl,aB.bx (aj.cons (aB.fR (aj.cons (aB.pure (p:=aw [p0]))<|aj.cons aB.pure<|aj.cons (aB.pure (p:=cM _)) aj.nil)) (aj.cons aB.pure aj.nil)),by rw[hent];rfl⟩
theorem rV{P:Program}{σ:cm}{t:cd}{o:Oper}{ty:TypeId}{x hi:Operand}{a:Int}{q:List Int}{k:IntKind}(ho:o.op= .slice ty x none (some hi) none)(he:tR P ty=some (3,1))(hx:aD t x=some (.slice (a::q).length (aR (a::q))))(hhi:aD t hi=some (.raw (.int k 1))):br P σ t o (.slice 1 (aR [a])):=by
 have h:=sW (h:=1) (σ:=σ) ho he hx hhi (by simp[aR]) rfl (by simp)
 exact h
theorem yq(T:an)(D:List Bool)(n d:Int)(h12:T.nodes≤12):Can Tryz.prog 139 [aN T,aQ D,num n,num d] (· =JT (bV T D n d) (i7 T D n d)):=by
 obtain⟨q0,hq0⟩:∃q,(ao T&&bN T D)=q:=⟨_,rfl⟩
 obtain⟨c1,hc1⟩:∃q,decide (n<0)=q:=⟨_,rfl⟩
 obtain⟨c2,hc2⟩:∃q,decide (T.nodes≤n)=q:=⟨_,rfl⟩
 obtain⟨c3,hc3⟩:∃q,decide (d<0)=q:=⟨_,rfl⟩
 obtain⟨c4,hc4⟩:∃q,decide (T.nodes≤d)=q:=⟨_,rfl⟩
 have hnode:∀x:Int,bd T x= !(decide (x<0)||decide (T.nodes≤x)):=fun x=>by rw[←Bool.decide_or,←decide_not];unfold bd;exact decide_eq_decide.2 (by omega)
 have hn0:=hnode n
 have hd0:=hnode d
 rw[hc1,hc2]at hn0
 rw[hc3,hc4]at hd0
 have hE:bV T D n d=if q0=true then(if(((c1||c2)||c3)||c4)=true then 2 else 0) else 1:=by
  unfold bV cf
  simp only[List.all_cons,List.all_nil,Bool.and_true,hn0,hd0,hq0]
  cases q0<;>cases c1<;>cases c2<;>cases c3<;>cases c4<;>rfl
 obtain⟨k1,hk1⟩:∃q,decide (fM T D n d≠0)=q:=⟨_,rfl⟩
 obtain⟨k2,hk2⟩:∃q,decide (n=d)=q:=⟨_,rfl⟩
 refine aE Tryz.func139 rfl Tryz.ntmps139 rfl<|aP<|av 3 rfl<|aG [1,2,3,4,8] rfl ?_
 refine ah<|ab (.a 2 rfl<|.c rfl (hq0▸nd T D) rfl<|.a 1 rfl<|.k [1,2,3,4,8,17] rfl)<|ag rfl (fun h1=>?_) (fun h1=>?_)
 ·have h1:q0=false:=by simpa using h1
  have he:bV T D n d=1:=by rw[hE,h1];rfl
  have hs:fM T D n d≠0:=by unfold fM;rw[he];simp
  rw[uJ hs,he]
  refine aP<|av 3 rfl<|aG [8,9] rfl ?_
  exact aq<|⟨_,_,aA.of rfl,aB.bx (aj.cons (aB.fR (aj.cons aB.bT<|aj.cons aB.pure<|aj.cons aB.bT aj.nil)) (aj.cons aB.pure aj.nil)),rfl⟩
 ·have h1:q0=true:=by simpa using h1
  refine ai<|ah<|bu 36 (.raw (.bool (((c1||c2)||c3)||c4))) [1,2,3,4,8] rfl ?_ ?_
  ·refine .a 1 rfl<|.v (b9 rfl (hc1)) rfl<|.a 1 rfl<|?_
   cases c1
   ·refine .a 3 rfl<|.v (b9 rfl (hc2)) rfl<|.a 2 rfl<|?_
    cases c2
    ·refine .a 1 rfl<|.v (b9 rfl (hc3)) rfl<|.a 2 rfl<|?_
     cases c3
     ·exact .a 3 rfl<|.v (b9 rfl (hc4)) rfl<|.a 1 rfl<|.k [36,1,2,3,4,8] rfl
     ·exact .a 5 rfl<|.k [36,1,2,3,4,8] rfl
    ·exact .a 9 rfl<|.k [36,1,2,3,4,8] rfl
   ·exact .a 15 rfl<|.k [36,1,2,3,4,8] rfl
  refine ag rfl (fun h2=>?_) (fun h2=>?_)
  ·have he:bV T D n d=2:=by rw[hE,h1,h2];rfl
   have hs:fM T D n d≠0:=by unfold fM;rw[he];simp
   rw[uJ hs,he]
   refine aP<|av 3 rfl<|aG [8,9] rfl ?_
   exact aq<|⟨_,_,aA.of rfl,aB.bx (aj.cons (aB.fR (aj.cons aB.bT<|aj.cons aB.pure<|aj.cons aB.bT aj.nil)) (aj.cons aB.pure aj.nil)),rfl⟩
  ·have he:bV T D n d=0:=by rw[hE,h1,h2];rfl
   rw[he]
   clear hE hn0 hd0 hnode h2 h1
   refine ai ?_
   have hrp:=mg T D n d
   unfold dh at hrp
   obtain⟨P,hP⟩:∃P,(if fM T D n d=0 then bY T D n.toNat d.toNat else [])=P:=⟨_,rfl⟩
   rw[hP]at hrp
   refine ab (.a 4 rfl<|.c rfl (hrp) rfl<|.a 5 rfl<|.k [1,2,3,4,8,10,11] rfl)<|ah<|bu 52 (.raw (.bool (k1||k2))) [1,2,4,8,10] rfl ?_ ?_
   ·refine .a 1 rfl<|.v (b9 rfl (hk1)) rfl<|.a 1 rfl<|?_
    cases k1
    ·exact .a 2 rfl<|.v (b9 rfl (hk2)) rfl<|.a 1 rfl<|.k [52,1,2,4,8,10] rfl
    ·exact .a 4 rfl<|.k [52,1,2,4,8,10] rfl
   refine ag rfl (fun h3=>?_) (fun h3=>?_)
   ·have hno:¬(fM T D n d=0∧n≠d):=by
     rintro⟨h4,h5⟩
     rcases Bool.or_eq_true_iff.1 h3 with h|h
     ·rw[h]at hk1;exact tt hk1 h4
     ·rw[h]at hk2;exact h5 (tt hk2)
    rw[uV hno]
    refine aP<|av 3 rfl<|aG [8,9] rfl ?_
    exact aq<|⟨_,_,aA.of rfl,aB.bx (aj.cons (aB.fR (aj.cons aB.bT<|aj.cons aB.pure<|aj.cons aB.bT aj.nil)) (aj.cons aB.pure aj.nil)),rfl⟩
   ·obtain⟨rfl,rfl⟩:=Bool.or_eq_false_iff.1 h3
    have h3:fM T D n d=0:=Classical.byContradiction (ff hk1)
    have h4:n≠d:=ff hk2
    obtain⟨a,b,rfl,rfl,hp⟩:=o9 h3 h4
    simp only[Int.toNat_natCast]at hP
    rw[if_pos h3]at hP
    have hent:=mD hp
    rw[hP]at hp hent
    have hpl:=hp.len
    obtain⟨s,l,hl,hs⟩:=rL (T:=T) (n:=(a:Int)) hp.pos
    have hll:=hp.Dt.2
    rw[hl]at hent hll
    have hpos:=hp.pos
    obtain⟨p0,q,rfl⟩:∃p0 q,P=p0::q:=by
     cases P with
     |nil=>simp at hpos
     |cons p0 q=>exact⟨_,_,rfl⟩
    have hsl:=zF T D (p0::q) a (by simp only[List.length_cons]at hpl ⊢;omega) h12
    rw[hl]at hsl
    unfold nu at hsl
    rw[hp.zero,if_pos rfl]at hsl
    clear hl hs hp hpos hP h3 h4 hk1 hk2
    simp only[List.length_cons]at hll hpl
    rw[show(p0::q).getD 0 0=p0 from rfl]at hent
    refine ai<|ab (.a 4 rfl<|.c rfl (hsl) rfl<|.a 5 rfl<|.k [8,10,12] rfl)<|ah<|ab (.a 1 rfl<|.v (aJ (0) rfl (by omega) (by simp only[List.length_cons];omega)) rfl<|.a 1 rfl<|.v (aL rfl ((show(eM (s::l))[0]? =some (num s.kind) from rfl))) rfl<|.a 1 rfl<|.k [8,10,12,66] rfl)<|ag rfl (fun h5=>?_) (fun h5=>?_)
    ·have hc:iY (s::l)=l:=if_pos (tt h5)
     rw[hc]at hent
     have hlm:l.length≤32:=by omega
     refine az (.a 1 rfl<|.v (j8 rfl (bI.el.get rfl) rfl rfl) rfl<|.a 1 rfl<|.k [8,10,12] rfl) ?_
     refine ah<|ab (.a 3 rfl<|.k [8,10,12,71] rfl)<|ag rfl (fun h6=>?_) (fun h6=>?_)
     ·exact absurd (tt h6) (by omega)
     ·clear h6
      refine ai<|aP<|av 1 rfl<|bC (rV rfl (bI.el.get rfl) rfl rfl) rfl<|av 4 rfl<|aG [8,9] rfl ?_
      exact aq<|⟨_,_,aA.of rfl,aB.bx (aj.cons (aB.fR (aj.cons (aB.pure (p:=aw [p0]))<|aj.cons aB.pure<|aj.cons (aB.pure (p:=cM _)) aj.nil)) (aj.cons aB.pure aj.nil)),by rw[hent];rfl⟩
    ·have hc:iY (s::l)=s::l:=if_neg (ff h5)
     rw[hc]at hent
     have hlm:(s::l).length≤32:=by simp only[List.length_cons];omega
     refine ai<|ah<|ab (.a 3 rfl<|.k [8,10,12,71] rfl)<|ag rfl (fun h6=>?_) (fun h6=>?_)
     ·exact absurd (tt h6) (by omega)
     ·clear h6
      refine ai<|aP<|av 1 rfl<|bC (rV rfl (bI.el.get rfl) rfl rfl) rfl<|av 4 rfl<|aG [8,9] rfl ?_
      exact aq<|⟨_,_,aA.of rfl,aB.bx (aj.cons (aB.fR (aj.cons (aB.pure (p:=aw [p0]))<|aj.cons aB.pure<|aj.cons (aB.pure (p:=cM _)) aj.nil)) (aj.cons aB.pure aj.nil)),by rw[hent];rfl⟩
end PW
end Go.Proofs.YtnegbdpggideiaaGreatDoor
namespace Go.Proofs.YtnegbdpggideiaaGreatDoor
namespace PW
open Go.RowKit cH Mem
section
variable {P:Program} {σ:cm} {t:cd} {o:Oper}
theorem xT{ty e s:Nat}{x:Operand}(ho:o.op= .call {callee:=.builtin .cap,args:= #[x],argTypes:= #[ty]})(he:tR P ty=some (e,s))(hx:aD t x=some (.raw (.slice none 0 0))):br P σ t o (.raw (.int .i64 0)):=by
 intro F base E ρ w hρ _ hT
 have h1:=ay hρ hT hx
 obtain⟨hu,_⟩:=fO he
 generalize hz:ρ x=z at h1
 cases h1
 simp[execOp,ho,resolve,invoke,builtin,Builtin.cap_,hz,run_underlying hu,goInt]
 exact bw (.raw _)
theorem yX{ty e s:Nat}{x hi':Operand}{k:IntKind}(ho:o.op= .slice ty x none (some hi') none)(he:tR P ty=some (e,s))(hx:aD t x=some (.raw (.slice none 0 0)))(hhi:aD t hi'=some (.raw (.int k 0))):br P σ t o (.raw (.slice none 0 0)):=by
 intro F base E ρ w hρ _ hT
 have h1:=ay hρ hT hx
 have h2:=ay hρ hT hhi
 obtain⟨hu,inf,hinf,hs⟩:=fO he
 generalize hz:ρ x=z at h1
 generalize hz':ρ hi'=z' at h2
 cases h1
 cases h2
 have hr:(execOp ρ o).run P w= .ok (.value (.slice none 0 0)) w:=by
  simp[execOp,ho,hz,hz',Instr.sliceAt,run_underlying hu,Instr.slice,Instr.sliceBounds,Instr.sliceBound,asIntOf,sizeOf,typeInfo,hinf]
 rw[hr]
 exact bw (.raw _)
theorem xe{P:Program}(w:World)(t tx ty e:TypeId)(i:TypeInfo)(z:Value)(ht:P.underlying t=some (.slice e))(hx:P.underlying tx=some (.int .i64))(hi:P.info? e=some i)(hz:i.zero=some z)(hp:0<i.size)(n:Nat)
  (h0:0<n) (h63:(n:Int)≤9223372036854775807) (h48:n*i.bytes≤281474976710656):
  (Builtin.append_ #[t,tx] ty #[.slice none 0 0,.int .i64 (n:Int)]).run P w=
   .ok (.slice (some ⟨w.heap.size,0,none⟩) n (grownCap w n 0 e)) (w.drew.alloc (.cells (Builtin.zeroCells z.cells n++Builtin.zeroCells z.cells (grownCap w n 0 e - n)) e)):=by
 have hn:n≠0:=by omega
 have hp':i.size≠0:=by omega
 have h63':¬(9223372036854775807<(n:Int)):=by omega
 have h48':¬(281474976710656<Builtin.nextslicecap n 0*i.bytes):=by rw[nextslicecap_zero h0];omega
 have hw:IntKind.i64.wrap (n:Int)=n:=jP (by unfold In64;omega)
 have hb:¬(281474976710656<(n:Int)*(i.bytes:Int)):=by
  have:((n*i.bytes:Nat):Int)≤281474976710656:=by omega
  rw[Int.natCast_mul]at this
  omega
 have sF:¬((n:Int)<0):=by omega
 simp[Builtin.append_,run_underlying ht,run_underlying hx,sizeOf,typeInfo,zeroValue,hi,hz,asInt,asIntOf,hw,hb,sF,hn,hp',h63',h48',Question.forced,run_firstCells_none,newRow,grownCap]
 exact fun h=>absurd h (Nat.mul_ne_zero hn hp')
theorem CG{ty tx e s by':Nat}{z:List Value}{x y:Operand}{n:Nat}{m:Int}(ho:o.op= .call {callee:=.builtin .append,args:= #[x,y],argTypes:= #[ty,tx]})(hk:wR P ty=some (e,s,by',z))(htx:P.underlying tx=some (.int .i64))(hx:aD t x=some (.raw (.slice none 0 0)))(hy:aD t y=some (.raw (.int .i64 m)))(hm:m=(n:Int))(h0:0<n)(hn:n≤maxLen∧n*by'≤281474976710656):
  cS P σ t o (.own σ.length) (σ++[some (.row e s n (dI (z.map .raw) n))]):=by
 intro F base E ρ w hρ hS hT
 have h1:=ay hρ hT hx
 have h2:=ay hρ hT hy
 generalize hz1:ρ x=v1 at h1
 generalize hz2:ρ y=v2 at h2
 cases h1;cases h2
 subst hm
 obtain⟨hu,i,z',hi,hs,hby,hz,hzz,hzs,hpos⟩:=oZ hk
 have hsm:n≤9223372036854775807:=by have:=hn.1;simp only[maxLen]at this;omega
 have hrun:=xe (P:=P) w ty tx o.type e i z' hu htx hi hz (by omega) n h0 (by omega) (by rw[hby];exact hn.2)
 have hr:(execOp ρ o).run P w= .ok (.value (.slice (some ⟨w.heap.size,0,none⟩) n (grownCap w n 0 e))) (w.drew.alloc (.cells (Builtin.zeroCells z'.cells n++Builtin.zeroCells z'.cells (grownCap w n 0 e - n)) e)):=by
  simp only[execOp,ho,resolve,invoke,builtin,Sem.run_bind,Sem.run_pure,Result.andThen_ok,List.map_toArray,List.map_cons,List.map_nil,hz1,hz2,hrun]
 have hge:=grownCap_ge w n 0 e
 have hcm:grownCap w n 0 e≤maxLen:=grownCap_le_maxLen w n 0 e hn.1
 have hzc:(Builtin.zeroCells z'.cells n).size=n*s:=by rw[size_zeroCells,hzs]
 have hown:(w.drew.alloc (.cells (Builtin.zeroCells z'.cells n++Builtin.zeroCells z'.cells (grownCap w n 0 e - n)) e)).ownsRow base e s (.slice (some ⟨w.heap.size,0,none⟩) n (grownCap w n 0 e)) n (Builtin.zeroCells z'.cells n).toList:=by
  refine⟨by rw[Array.length_toList,hzc],.inr ⟨w.heap.size,_,_,rfl,hS.bl,heap_alloc_new w.drew _,hge,hcm,?_,?_⟩⟩
  ·simp only[Array.size_append,size_zeroCells,hzs,←Nat.add_mul]
   congr 1
   omega
  ·simp only[Array.toList_append]
   rw[←hzc,←Array.length_toList]
   exact List.take_left
 have hg:w.grownBy (w.drew.alloc (.cells (Builtin.zeroCells z'.cells n++Builtin.zeroCells z'.cells (grownCap w n 0 e - n)) e)) none:=⟨rfl,rfl,rfl,by simp,fun k hk _=>heap_alloc_old w.drew _ hk⟩
 have hR:bb E w (Builtin.zeroCells z'.cells n).toList (dI (z.map .raw) n):=by
  rw[←hzz];exact mS z'.cells n (n*z'.cells.size) rfl
 obtain⟨a1,a2,a3,a4⟩:=oG hS (od hg) (fun b h=>by simp[bz]at h;omega) hown hR
 exact⟨_,_,_,.inl hr,a1,a2,a3,a4⟩
end
end PW
end Go.Proofs.YtnegbdpggideiaaGreatDoor
namespace Go.Proofs.YtnegbdpggideiaaGreatDoor
namespace PW
open Go.RowKit cH Mem Net fw
theorem rW(l:List Int)(hl:l.length≤1000):Can Tryz.prog 144 [aw l] (· =aw l):=by
 refine aE Tryz.func144 rfl Tryz.ntmps144 rfl<|ab (.a 1 rfl<|.k [0] rfl)<|ah<|aP (WR.mono (K:=fun s=>∃b:Bool,s=⟨[(0,aw l),(4,.raw (.bool b))],[]⟩∧(b=true→l=[])) ?_ ?_)
 ·cases l with
  |nil=>exact av 1 rfl<|uM rfl Jj rfl rfl rfl rfl rfl fun b=>aG [0,4] rfl ⟨b,rfl,fun _=>rfl⟩
  |cons a l=>exact av 1 rfl<|bK (oE rfl Jj rfl rfl (Nat.succ_pos _)) rfl rfl rfl<|aG [0,4] rfl ⟨_,rfl,fun h=>by cases h⟩
 rintro _ ⟨b,rfl,hb⟩
 refine ag rfl (fun hc=>?_) (fun hc=>?_)
 ·have:l=[]:=hb hc
  subst this
  exact ab (.a 1 rfl<|.k [2] rfl)<|aq<|⟨_,_,aA.of rfl,aB.bT,rfl⟩
 ·refine ai<|aP<|cp (kR rfl (bI.sl.get rfl)) rfl<|av 1 rfl<|cp (bA rfl (bI.rk.get rfl) rfl rfl rfl (show(aR l).length=l.length*1 by simp[aR]) (by unfold maxLen;omega)) rfl<|av 1 rfl<|aG [2] rfl ?_
  refine aq<|⟨_,_,aA.of rfl,aB.eH (xs:=aR l) (ys:=aR l) rfl aj.pure,?_⟩
  rw[Nat.zero_add];rfl
theorem Bv(n:Nat)(hn:n≤1000):bS Tryz.prog 172 [.raw (.slice none 0 0),num n] [] (fun r σ'=>r= .own 0∧σ'=[some (.row 103 2 0 [])]):=by
 refine cw Tryz.func172 rfl Tryz.ntmps172 rfl<|ab (.a 1 rfl<|.k [0,1] rfl)<|ah<|ab (.a 2 rfl<|.k [0,1,6] rfl)<|ag rfl (fun h1=>?_) (fun h1=>?_)
 ·exact absurd (tt h1) (by omega)
 ·clear h1
  refine ai<|ah<|ab (.a 2 rfl<|.v (xT rfl (bI.el.get rfl) rfl) rfl<|.a 1 rfl<|.v (rj rfl (bI.el.get rfl) rfl) rfl<|.v (aS rfl) rfl<|.v (aS rfl) rfl<|.a 1 rfl<|.k [0,1] rfl)<|ab (.a 2 rfl<|.k [0,1,16] rfl)<|ag rfl (fun h2=>?_) (fun h2=>?_)
  ·have hpos:0<n:=by have:=tt h2;omega
   refine bF<|av 2 rfl<|bC (xT rfl (bI.el.get rfl) rfl) rfl<|bC (yX rfl (bI.el.get rfl) rfl rfl) rfl<|av 1 rfl<|cp (CG (n:=n) rfl (bI.rk.get rfl) Tryz.underlying3 rfl rfl (by omega) hpos (by unfold maxLen;omega)) rfl<|av 1 rfl<|bC (rj rfl (bI.el.get rfl) rfl) rfl<|cp (nY (h:=0) rfl (bI.el.get rfl) rfl rfl rfl rfl (by omega)) rfl<|av 1 rfl<|aG [0] rfl ?_
   refine dx [1] (.c 0<|.nil) (.kept rfl (.row aF.nil)<|.nil) rfl rfl ?_
   exact ab (.a 2 rfl<|.k [4] rfl)<|aq<|⟨_,aA.of rfl,rfl,rfl⟩
  ·refine fp 0 103 2 rfl ?_
   exact ai<|ab (.a 2 rfl<|.k [4] rfl)<|aq<|⟨_,aA.of rfl,rfl,rfl⟩
def rn(A B:List ca)(i:Nat):List ca:=if i=0 then [] else if i=1 then A else A++B
def HM(A B:List ca)(i:Nat):List ca:=if i=0 then A else B
theorem vW(A B:List ca){i:Nat}(h:i<2):rn A B (i+1)=rn A B i++HM A B i:=by
 rcases(show i=0∨i=1 by omega)with rfl|rfl<;>rfl
theorem qf(A B:List ca)(i:Nat):(rn A B i).length≤A.length+B.length:=by
 unfold rn
 split
 ·simp
 ·split<;>simp
theorem p8(A B:List ca)(hl:A.length+B.length≤1000):Can Tryz.prog 145 [.slice 2 [cM A,cM B]] (· =cM (A++B)):=by
 refine aE Tryz.func145 rfl Tryz.ntmps145 rfl ?_
 have hg:=Bv (A++B).length (by simpa using hl)
 refine ab (.a 1 rfl<|.k [0] rfl)<|ab (.a 1 rfl<|.k [0,3] rfl)<|ah<|ab (.a 3 rfl<|.k [0,3,9,10,11] rfl)<|au<|eu [0,3,9,10,11] rfl<|bf (fun r s=>∃i,i≤2∧r=2 - i∧s=⟨[(0,.slice 2 [cM A,cM B]),(3,num (rn A B i).length),(9,.slice 2 [cM A,cM B]),(10,num 2),(11,num i)],[]⟩) 2 ⟨0,by omega,by omega,rfl⟩ ?_
 rintro r s ⟨i,hi,rfl,rfl⟩
 refine ab (.a 1 rfl<|.k [0,3,9,10,11,12] rfl)<|ah<|ag rfl (fun h1=>?_) (fun h1=>?_)
 ·have hlt:i<2:=by have:=tt h1;omega
  have hc1:=qf A B i
  have hc2:=qf A B (i+1)
  have hst:=congrArg List.length (vW A B hlt)
  rw[List.length_append]at hst
  have hget:[cM A,cM B][i]? =some (cM (HM A B i)):=by
   rcases(show i=0∨i=1 by omega)with rfl|rfl<;>rfl
  clear h1
  refine ai<|ah<|au<|ab (.v (aJ (i) rfl) rfl<|.v (aL rfl (hget)) rfl<|.a 1 rfl<|.k [0,3,5,9,10,11] rfl)<|ab (.a 3 rfl<|.v (aS rfl (hc:=(show((rn A B i).length:Int)+((HM A B i).length:Int)=((rn A B (i+1)).length:Int) by omega)) (hn:=(by unfold In64;omega))) rfl<|.a 1 rfl<|.k [0,3,9,10,11] rfl)<|ab (.a 2 rfl<|.k [0,3,9,10,11,20] rfl)<|ag rfl (fun h2=>?_) (fun h2=>?_)
  ·exact absurd (tt h2) (by omega)
  ·clear h2
   refine ai<|az (.v (aS rfl) rfl<|.a 1 rfl<|.k [0,3,9,10,11] rfl) ?_
   exact⟨2 - (i+1),by omega,i+1,by omega,rfl,rfl⟩
 ·have hie:i=2:=by have:=ff h1;omega
  subst hie
  have hcat:rn A B 2=A++B:=rfl
  rw[hcat]
  clear h1
  refine ba<|aP<|av 1 rfl<|cP rfl rfl (bS.mono hg (fun r σ' h=>?_))
  obtain⟨rfl,rfl⟩:=h
  refine av 1 rfl<|aG [0,6] rfl ?_
  refine ah<|ab (.a 3 rfl<|.k [6,25,26,27] rfl)<|au<|eu [6,25,26,27] rfl<|bf (fun r s=>∃i,i≤2∧r=2 - i∧s=⟨[(6,.own 0),(25,.slice 2 [cM A,cM B]),(26,num 2),(27,num i)],[some (.row 103 2 (rn A B i).length (eM (rn A B i)))]⟩) 2 ⟨0,by omega,by omega,rfl⟩ ?_
  rintro r s ⟨i,hi,rfl,rfl⟩
  refine ab (.a 1 rfl<|.k [6,25,26,27,28] rfl)<|ah<|ag rfl (fun h1=>?_) (fun h1=>?_)
  ·have hlt:i<2:=by have:=tt h1;omega
   have hc1:=qf A B i
   have hc2:=qf A B (i+1)
   have hst:=vW A B hlt
   have hsl:=congrArg List.length hst
   rw[List.length_append]at hsl
   have hget:[cM A,cM B][i]? =some (cM (HM A B i)):=by
    rcases(show i=0∨i=1 by omega)with rfl|rfl<;>rfl
   clear h1
   refine ai<|ah<|au<|ab (.v (aJ (i) rfl) rfl<|.v (aL rfl (hget)) rfl<|.a 1 rfl<|.k [6,8,25,26,27] rfl)<|bF<|av 2 rfl<|cp (bA rfl (bI.rk.get rfl) rfl rfl rfl (mj _) (show _≤maxLen∧_*16≤140737488355328 by unfold maxLen;omega)) rfl<|av 1 rfl ?_
   refine dD [1] (.c 6<|.c 25<|.c 26<|.c 27<|.nil) (.kept rfl (.eJ rfl (rfl))<|.nil) rfl rfl (bc ?_)
   refine az (.v (aS rfl) rfl<|.a 1 rfl<|.k [6,25,26,27] rfl) ?_
   refine⟨2 - (i+1),by omega,i+1,by omega,rfl,?_⟩
   rw[hst,List.length_append]
   unfold eM
   rw[List.flatMap_append]
   rfl
  ·have hie:i=2:=by have:=ff h1;omega
   subst hie
   have hcat:rn A B 2=A++B:=rfl
   rw[hcat]
   clear h1
   exact ba<|ab (.a 2 rfl<|.k [2] rfl)<|aq<|⟨_,_,aA.of rfl,aB.eH rfl aj.pure,rfl⟩
end PW
end Go.Proofs.YtnegbdpggideiaaGreatDoor
namespace Go.Proofs.YtnegbdpggideiaaGreatDoor
namespace PW
open Go.RowKit cH Mem Net fw
def Gt(v:Int):List Int→Nat→Int
 | [],_=> -1
 |a::l,i=>bif decide (v=a) then(i:Int) else Gt v l (i+1)
theorem Af(v:Int):∀(l:List Int) (i:Nat),0≤Gt v l i↔v∈l
 | [],i=>by simp[Gt]
 |a::l,i=>by
  simp only[Gt]
  by_cases h:v=a
  ·rw[decide_eq_true h,cond_true]
   exact⟨fun _=>by rw[h];exact List.mem_cons_self,fun _=>by omega⟩
  ·rw[decide_eq_false h,cond_false,Af v l (i+1),List.mem_cons]
   exact⟨.inr,fun h'=>h'.resolve_left h⟩
theorem GO(v:Int)(l:List Int)(i:Nat):decide (0≤Gt v l i)=decide (v∈l):=decide_eq_decide.2 (Af v l i)
theorem zb(l:List Int)(v:Int)(hl:l.length≤1000):Can Tryz.prog 143 [aw l,num v] (· =num (Gt v l 0)):=by
 refine aE Tryz.func143 rfl Tryz.ntmps143 rfl<|ab (.a 1 rfl<|.k [0,1] rfl)<|ah<|ab (.a 3 rfl<|.k [0,1,7,8] rfl)<|au<|eu [0,1,7,8] rfl<|bf (fun r s=>∃i,i≤l.length∧r=l.length - i∧Gt v l 0=Gt v (l.drop i) i∧s=⟨[(0,aw l),(1,num v),(7,num l.length),(8,num i)],[]⟩) l.length ⟨0,by omega,by omega,rfl,rfl⟩ ?_
 rintro r s ⟨i,hi,rfl,hx,rfl⟩
 refine ab (.a 1 rfl<|.k [0,1,7,8,9] rfl)<|ah<|ag rfl (fun h1=>?_) (fun h1=>?_)
 ·have hlt:i<l.length:=by have:=tt h1;omega
  rw[drop_cons l i hlt]at hx
  simp only[Gt]at hx
  obtain⟨q,hq⟩:∃q,decide (v=l.getD i 0)=q:=⟨_,rfl⟩
  rw[hq]at hx
  refine ai<|ah<|au<|ab (.a 2 rfl<|.k [0,1,5,7,8] rfl)<|ab (.a 3 rfl<|.v (aJ (i) rfl) rfl<|.v (aL rfl (ax l i hlt)) rfl<|.v (b9 rfl (hq)) rfl<|.k [0,1,5,7,8,16] rfl)<|ag rfl (fun h2=>?_) (fun h2=>?_)
  ·subst h2
   rw[cond_true]at hx
   rw[hx]
   exact ab (.a 2 rfl<|.k [4] rfl)<|aq<|⟨_,_,aA.of rfl,aB.pure,rfl⟩
  ·subst h2
   rw[cond_false]at hx
   refine ai<|az (.v (aS rfl) rfl<|.a 1 rfl<|.k [0,1,7,8] rfl) ?_
   exact⟨l.length - (i+1),by omega,i+1,by omega,rfl,hx,rfl⟩
 ·have hie:i=l.length:=by have:=ff h1;omega
  subst hie
  rw[List.drop_length]at hx
  rw[hx]
  exact ba<|ab (.a 1 rfl<|.k [4] rfl)<|aq<|⟨_,_,aA.of rfl,aB.pure,rfl⟩
theorem sJ(l:List Int)(v:Int)(hl:l.length≤1000):Can Tryz.prog 104 [aw l,num v] (· =flag (decide (v∈l))):=by
 obtain⟨q,hq⟩:∃q,decide (v∈l)=q:=⟨_,rfl⟩
 have hm:=(GO v l 0).trans hq
 rw[hq]
 exact aE Tryz.func104 rfl Tryz.ntmps104 rfl<|ab (.a 1 rfl<|.k [0,1] rfl)<|ab (.a 2 rfl<|.c rfl (zb l v hl) rfl<|.v (b9 rfl (hm)) rfl<|.a 1 rfl<|.k [4] rfl)<|aq<|⟨_,_,aA.of rfl,aB.pure,rfl⟩
structure fu where
 id:Int
 src:Int
 dst:Int
 rR:Int
 stack:List ca
 fJ:Int
def eh(p:fu):List PV:=[num p.id,num p.src,num p.dst,num p.rR,cM p.stack,num p.fJ]
def fr(p:fu):PV:=.agg (eh p)
instance (p:fu):aO (eh p):=by unfold eh;infer_instance
instance (p:fu):IsPure (fr p):=by unfold fr;infer_instance
structure Out where
 aK:List Int
 fH:fu
 dT:Int
def Cm(r:Out):PV:=.tuple [aw r.aK,fr r.fH,num r.dT]
def iz(p:fu)(r:Int):Out:=⟨[],p,r⟩
def cj(p:fu)(s:List ca)(aK:List Int):Out:=⟨aK,⟨p.id,p.src,p.dst,p.rR,s,p.fJ+1⟩,0⟩
def iH(p:fu)(s:List ca)(e:iV):Out:=
 if e.rep then(if 32<(e.push++s.drop 1).length then iz p 5 else cj p (e.push++s.drop 1) e.aK) else cj p s e.aK
theorem qG(p:fu)(s:List ca)(hl:s.length≤1000):Can Tryz.prog 102 [fr p,cM s] (· =fr ⟨p.id,p.src,p.dst,p.rR,s,p.fJ⟩):=by
 refine aE Tryz.func102 rfl Tryz.ntmps102 rfl<|aP<|cp (fS rfl rfl rfl) rfl<|av 1 rfl<|aG [1,2,4] rfl ?_
 refine aP<|av 1 rfl<|ec rfl (nA s hl) rfl<|av 2 rfl<|aG [2,4] rfl ?_
 refine aP<|av 2 rfl<|aG [4] rfl ?_
 exact aq<|⟨_,_,aA.of rfl,aB.pure (p:=fr ⟨p.id,p.src,p.dst,p.rR,s,p.fJ⟩),rfl⟩
theorem gF(p:fu)(r:Int)(hl:p.stack.length≤1000):Can Tryz.prog 101 [fr p,num r] (· =Cm (iz p r)):=by
 refine aE Tryz.func101 rfl Tryz.ntmps101 rfl<|aP<|av 4 rfl<|aG [1,2,5] rfl ?_
 refine aP<|av 2 rfl<|bC (aL rfl ((rfl:(eh p)[4]? =some (cM p.stack)))) rfl<|ec rfl (qG p p.stack hl) rfl<|av 4 rfl<|aG [4,5,6] rfl ?_
 exact aq<|⟨_,_,aA.of rfl,aB.bx (aj.cons aB.bT<|aj.cons (aB.pure (p:=fr p))<|aj.cons aB.pure aj.nil),rfl⟩
theorem mO(p:fu)(s:List ca)(aK:List Int)(hl:s.length≤1000)(ha:aK.length≤1000)(hh:0≤p.fJ∧p.fJ≤1000):Can Tryz.prog 105 [fr p,cM s,aw aK] (· =Cm (cj p s aK)):=by
 refine aE Tryz.func105 rfl Tryz.ntmps105 rfl<|aP<|cp (fS rfl rfl rfl) rfl<|av 3 rfl<|aG [1,2,3,7] rfl ?_
 refine aP<|av 2 rfl<|ec rfl (qG p s hl) rfl<|av 1 rfl<|aG [2,3,7] rfl ?_
 refine aP<|av 2 rfl<|bC (aS rfl (hn:=(show In64 (p.fJ+1) by unfold In64;omega))) rfl<|av 2 rfl<|aG [2,3,7] rfl ?_
 refine lV 4 20 mixed (
  .val [2] rfl (bH rfl) rfl rfl<|
  .val [16] rfl (dJ rfl (rW aK ha)) rfl rfl<|
  .val [3] rfl (bH rfl) rfl rfl<|
  .val [17] rfl (bH rfl) rfl rfl<|
  .nil) (by kernel_rfl) rfl rfl (bm (ks:=[6,7,18]) rfl) ?_
 refine av 2 rfl<|aG [6,7,8] rfl ?_
 exact aq<|⟨_,_,aA.of rfl,aB.bx (aj.cons (aB.pure (p:=aw aK))<|aj.cons (aB.pure (p:=fr ⟨p.id,p.src,p.dst,p.rR,s,p.fJ+1⟩))<|aj.cons aB.pure aj.nil),rfl⟩
end PW
end Go.Proofs.YtnegbdpggideiaaGreatDoor
namespace Go.Proofs.YtnegbdpggideiaaGreatDoor
namespace PW
open Go.RowKit cH Mem Net fw
theorem tQ{T:an}{n:Int}{L:List Int}(hl:T.ae.length≤256)(h:fh T n L=true):L.length≤512:=by
 have h:=of_decide_eq_true h
 have key:∀i:Nat,i<L.length→(i:Int)≤L.getD i 0:=by
  intro i
  induction i with
  |zero=>intro hi;have:=(cJ.1 (h 0 hi).1).1;omega
  |succ i ih=>
   intro hi
   have h1:=ih (by omega)
   have h2:=(h (i+1) hi).2.2 (by omega)
   rw[Nat.add_sub_cancel]at h2
   omega
 rcases Nat.eq_zero_or_pos L.length with h0|h0
 ·omega
 ·have h1:=key (L.length - 1) (by omega)
  have h2:=cJ.1 (h (L.length - 1) (by omega)).1
  omega
theorem uu(p:fu)(s:List ca)(e:iV)(hs:s.length≤40)(hp:e.push.length≤40)(ha:e.aK.length≤1000)(hps:p.stack.length≤1000)(hh:0≤p.fJ∧p.fJ≤1000):Can Tryz.prog 106 [fr p,cM s,rM e] (· =Cm (iH p s e)):=by
 obtain⟨c,hc⟩:∃q,e.rep=q:=⟨_,rfl⟩
 have hE:iH p s e=if c then(if 32<(e.push++s.drop 1).length then iz p 5 else cj p (e.push++s.drop 1) e.aK) else cj p s e.aK:=by unfold iH;rw[hc]
 rw[hE]
 refine aE Tryz.func106 rfl Tryz.ntmps106 rfl<|aP<|av 5 rfl<|aG [1,3,5,7] rfl ?_
 refine ah<|ab (.a 1 rfl<|.v (aL rfl ((show(kP e)[1]? =some (flag c) by rw[←hc];rfl))) rfl<|.k [1,3,5,7,11] rfl)<|ag rfl (fun h1=>?_) (fun h1=>?_)
 ·subst h1
  simp only[if_true]
  refine ab (.a 2 rfl<|.k [3,5,7,9] rfl)<|ah<|ab (.a 3 rfl<|.k [3,5,7,9,15] rfl)<|ag rfl (fun h2=>?_) (fun h2=>?_)
  ·obtain⟨a,l,rfl⟩:∃a l,s=a::l:=by
    cases s with
    |nil=>exact absurd (tt h2) (by simp)
    |cons a l=>exact⟨a,l,rfl⟩
   simp only[List.drop_succ_cons,List.drop_zero]
   obtain⟨s',hs',hsl⟩:∃s',l=s'∧s'.length≤40:=⟨l,rfl,by simp at hs;omega⟩
   refine az (.a 1 rfl<|.v (j8 rfl (bI.el.get rfl) rfl rfl) rfl<|.a 1 rfl<|.k [3,5,7,9] rfl) ?_
   rw[hs']
   refine ab (.a 4 rfl<|.c rfl (p8 e.push s' (by omega)) rfl<|.a 1 rfl<|.k [1,3,5,7] rfl)<|ab (.a 3 rfl<|.k [1,3,5,7,25] rfl)<|ag rfl (fun h3=>?_) (fun h3=>?_)
   ·have h3:=tt h3
    rw[if_pos (by omega)]
    refine aP<|av 1 rfl<|ec rfl (gF p 5 hps) rfl<|av 6 rfl<|aG [6,7,8] rfl ?_
    exact aq<|⟨_,_,aA.of rfl,aB.bx (aj.cons (aB.pure (p:=aw []))<|aj.cons (aB.pure (p:=fr p))<|aj.cons aB.pure aj.nil),rfl⟩
   ·have h3:=ff h3
    rw[if_neg (by omega)]
    refine ai<|aP<|av 4 rfl<|ec rfl (mO p _ e.aK (by first|(simp only[List.length_append];omega)|omega) ha hh) rfl<|av 6 rfl<|aG [6,7,8] rfl ?_
    exact aq<|⟨_,_,aA.of rfl,aB.bx (aj.cons (aB.pure (p:=aw e.aK))<|aj.cons (aB.pure (p:=fr ⟨p.id,p.src,p.dst,p.rR,_,p.fJ+1⟩))<|aj.cons aB.pure aj.nil),rfl⟩
  ·obtain rfl:s=[]:=by
    cases s with
    |nil=>rfl
    |cons a l=>exact absurd (ff h2) (by simp)
   simp only[List.drop_nil]
   obtain⟨s',hs',hsl⟩:∃s',([]:List ca)=s'∧s'.length≤40:=⟨[],rfl,by simp⟩
   refine ai ?_
   rw[hs']
   refine ab (.a 4 rfl<|.c rfl (p8 e.push s' (by omega)) rfl<|.a 1 rfl<|.k [1,3,5,7] rfl)<|ab (.a 3 rfl<|.k [1,3,5,7,25] rfl)<|ag rfl (fun h3=>?_) (fun h3=>?_)
   ·have h3:=tt h3
    rw[if_pos (by omega)]
    refine aP<|av 1 rfl<|ec rfl (gF p 5 hps) rfl<|av 6 rfl<|aG [6,7,8] rfl ?_
    exact aq<|⟨_,_,aA.of rfl,aB.bx (aj.cons (aB.pure (p:=aw []))<|aj.cons (aB.pure (p:=fr p))<|aj.cons aB.pure aj.nil),rfl⟩
   ·have h3:=ff h3
    rw[if_neg (by omega)]
    refine ai<|aP<|av 4 rfl<|ec rfl (mO p _ e.aK (by first|(simp only[List.length_append];omega)|omega) ha hh) rfl<|av 6 rfl<|aG [6,7,8] rfl ?_
    exact aq<|⟨_,_,aA.of rfl,aB.bx (aj.cons (aB.pure (p:=aw e.aK))<|aj.cons (aB.pure (p:=fr ⟨p.id,p.src,p.dst,p.rR,_,p.fJ+1⟩))<|aj.cons aB.pure aj.nil),rfl⟩
 ·subst h1
  simp only[Bool.false_eq_true,if_false]
  refine ai<|aP<|av 4 rfl<|ec rfl (mO p _ e.aK (by first|(simp only[List.length_append];omega)|omega) ha hh) rfl<|av 6 rfl<|aG [6,7,8] rfl ?_
  exact aq<|⟨_,_,aA.of rfl,aB.bx (aj.cons (aB.pure (p:=aw e.aK))<|aj.cons (aB.pure (p:=fr ⟨p.id,p.src,p.dst,p.rR,_,p.fJ+1⟩))<|aj.cons aB.pure aj.nil),rfl⟩
def dH(x:ef)(v:Int):iV:=x.eO.getD v.toNat IY
def fB(h:ca):List ca→List ca
 | []=>[]
 |a::l=>if a=h then fB h l else a::l
def H3(T:an)(x:ef)(p:fu)(s:List ca)(v:Int)(K:Out):Out:=if(bd T v&&decide (0<((dH x v).aK.length:Int)))=true then iH p s (dH x v) else K
def fc(T:an)(x:ef)(p:fu)(s:List ca)(K:Out):Out:=
 if(decide ((s.length:Int)=0)&&decide (p.dst=x.node))=true then⟨[],⟨p.id,p.src,p.dst,p.rR,[],p.fJ⟩, -1⟩
 else if(decide (255≤p.fJ)||decide (p.fJ<0))=true then iz p 4
 else match s with
  | []=>H3 T x p [] p.dst (iz p 1)
  |a::l=>if a.kind=1 then H3 T x p (a::l) a.num K
   else if a.kind=2 then(if(!(eF T a.num)||decide (aZ T a.num.toNat≠x.node))=true then iz p 2 else if a.num∈x.down then K else cj p l [a.num])
   else iz p 1
def dy(T:an)(x:ef)(p:fu):Out:=
 if((!dM T x)|| !(bd T p.dst))=true then iz p 1
 else if 32<(p.stack.length:Int) then iz p 5
 else fc T x p (fB ⟨1,x.node⟩ p.stack) (fc T x p [] (iz p 1))
theorem xz(h:ca):∀l:List ca,(fB h l).length≤l.length
 | []=>Nat.le_refl _
 |a::l=>by
  simp only[fB]
  split
  ·have:=xz h l;simp only[List.length_cons];omega
  ·exact Nat.le_refl _
theorem pB{T:an}{x:ef}(h:dM T x=true){v:Int}(hv:bd T v=true):∃k:Nat,v=(k:Int)∧x.eO[k]? =some (dH x v)∧(dH x v).push.length≤40∧(dH x v).aK.length≤1000:=by
 unfold dM at h
 simp only[Bool.and_eq_true,decide_eq_true_eq]at h
 obtain⟨⟨⟨⟨h1,h2⟩,h3⟩,h4⟩,h5⟩:=h
 have hll:=bJ h1
 obtain⟨v0,v1⟩:=aT.1 hv
 obtain⟨k,rfl⟩:=Int.eq_ofNat_of_zero_le v0
 have hk:k<x.eO.length:=by omega
 have hg:x.eO[k]? =some (dH x (k:Int)):=by
  unfold dH
  rw[Int.toNat_natCast,List.getD_eq_getElem?_getD,List.getElem?_eq_getElem hk]
  rfl
 have ho:=(of_decide_eq_true h5) k hk
 rw[mQ _ _ _ hg]at ho
 unfold jl at ho
 simp only[Bool.and_eq_true]at ho
 refine⟨k,rfl,hg,?_,?_⟩
 ·have:=ho.2
  split at this
  ·simp only[Bool.and_eq_true,decide_eq_true_eq]at this;omega
  ·simp only[decide_eq_true_eq]at this;omega
 ·have:=tQ hll ho.1.1;omega
theorem yO{T:an}{x:ef}(h:dM T x=true):x.down.length≤1000:=by
 unfold dM at h
 simp only[Bool.and_eq_true]at h
 have:=tQ (bJ h.1.1.1.1) h.1.2
 omega
set_option maxHeartbeats 2000000 in
theorem Eh(T : an)(x : ef)(p : fu)(hps : p.stack.length ≤ 1000) : Can Tryz.prog 47 [aN T, fZ x, fr p] (· = Cm (dy T x p)) := by
  obtain⟨c1,hc1⟩:∃q,dM T x=q:=⟨_,rfl⟩
  obtain⟨c2,hc2⟩:∃q,bd T p.dst=q:=⟨_,rfl⟩
  obtain⟨n,hn⟩:∃n,x.node=n:=⟨_,rfl⟩
  unfold dy
  rw[hc1,hc2]
  refine aE Tryz.func47 rfl Tryz.ntmps47 rfl<|aP<|av 6 rfl<|aG [3,4,5,7] rfl ?_
  refine Al ?_
  refine ah<|bu 22 (.raw (.bool ((!c1)|| !c2))) [3,4,5,7] rfl ?_ ?_
  · refine .a 2 rfl<|.c rfl (hc1▸sh T x) rfl<|.a 2 rfl<|?_
    cases c1
    · exact .a 6 rfl<|.k [22,3,4,5,7] rfl
    · exact .a 3 rfl<|.c rfl (hc2▸dv T p.dst) rfl<|.a 2 rfl<|.k [22,3,4,5,7] rfl
  refine ag rfl (fun h1=>?_) (fun h1=>?_)
  · rw[if_pos h1]
    refine aP<|av 1 rfl<|ec rfl (gF p 1 hps) rfl<|av 6 rfl<|aG [6,7,8] rfl ?_
    exact aq<|⟨_,_,aA.of rfl,aB.bx (aj.cons (aB.pure (p:=aw []))<|aj.cons (aB.pure (p:=fr p))<|aj.cons aB.pure aj.nil),rfl⟩
  · rw [if_neg (by rw [h1]; simp)]
    obtain⟨rfl,rfl⟩:c1=true∧c2=true:=by revert h1;cases c1<;>cases c2<;>simp
    refine ai<|ah<|ab (.a 1 rfl<|.v (aL rfl ((rfl:(eh p)[4]? =some (cM p.stack)))) rfl<|.a 2 rfl<|.k [3,4,5,7,31] rfl)<|ag rfl (fun h2=>?_) (fun h2=>?_)
    · rw[if_pos (tt h2)]
      refine aP<|av 1 rfl<|ec rfl (gF p 5 hps) rfl<|av 6 rfl<|aG [6,7,8] rfl ?_
      exact aq<|⟨_,_,aA.of rfl,aB.bx (aj.cons (aB.pure (p:=aw []))<|aj.cons (aB.pure (p:=fr p))<|aj.cons aB.pure aj.nil),rfl⟩
    · rw [if_neg (ff h2)]
      have h32:p.stack.length≤32:=by have:=ff h2;omega
      refine ai<|ab (.a 1 rfl<|.v (aL rfl ((rfl:(eh p)[4]? =some (cM p.stack)))) rfl<|.a 1 rfl<|.k [3,4,5,7,9] rfl)<|aP<|av 1 rfl<|bC (aL rfl ((show(fN x)[0]? =some (num n) by rw[←hn];rfl))) rfl<|av 3 rfl<|aG [3,4,5,7,9,10] rfl ?_
      refine ah<|au<|eu [3,4,5,7,9,10] rfl<|bf (fun r st=>∃s:List ca,s.length≤32∧r=s.length∧fB ⟨1,n⟩ p.stack=fB ⟨1,n⟩ s∧st=⟨[(3,.aY (bq T) 0),(4,.aY (fN x) 0),(5,.aY (eh p) 0),(7,.ptr 0 0),(9,cM s),(10,.ptr 1 0)],[some (.cells 66 [num 0,num 0,num 0,num 0,.raw (.slice none 0 0),num 0]),some (.cells 103 [num 1,num n])]⟩) p.stack.length ⟨p.stack,h32,rfl,rfl,rfl⟩ ?_
      rintro r st ⟨s,hs,rfl,hsk,rfl⟩
      obtain⟨e1,he1⟩:∃q,decide (0<(s.length:Int))=q:=⟨_,rfl⟩
      obtain⟨a,ha⟩:∃a,s.getD 0 ⟨0,0⟩=a:=⟨_,rfl⟩
      obtain⟨e2,he2⟩:∃q,decide (a=(⟨1,n⟩:ca))=q:=⟨_,rfl⟩
      refine ah<|jA mixed (by kernel_rfl) 51 (.raw (.bool (e1&&e2))) [3,4,5,7,9,10] rfl ?_ ?_
      · refine .a 2 rfl<|.v [43] (b9 rfl (he1)) rfl rfl<|.a 1 rfl<|?_
        cases e1
        · exact .a 6 rfl<|.k [51,3,4,5,7,9,10] rfl
        · exact .a 1 rfl<|.v [46] (aJ (0) rfl (by omega) (by have:=tt he1;omega)) rfl rfl<|.v [47] (gO rfl (o3 s 0 a (by rw[←ha];have:=tt he1;rw[List.getD_eq_getElem?_getD,List.getElem?_eq_getElem (by omega)];rfl)) rfl) rfl rfl<|.a 1 rfl<|.v [48,49] (C0 rfl rfl (b:=⟨1,n⟩) rfl he2) rfl rfl<|.a 1 rfl<|.k [51,3,4,5,7,9,10] rfl
      refine ag rfl (fun h3=>?_) (fun h3=>?_)
      · obtain⟨rfl,rfl⟩:=Bool.and_eq_true_iff.1 h3
        obtain⟨l,rfl⟩:∃l,s=(⟨1,n⟩:ca)::l:=by
          have h4:=tt he2
          cases s with
          |nil=>exact absurd (tt he1) (by simp)
          |cons b l=>exact⟨l,by rw[←h4,←ha];rfl⟩
        simp only[fB,if_true]at hsk
        refine ai<|au<|az (.a 1 rfl<|.v (j8 rfl (bI.el.get rfl) rfl rfl) rfl<|.a 1 rfl<|.k [3,4,5,7,9,10] rfl) ?_
        exact⟨l.length,by simp,l,by simp at hs;omega,rfl,hsk,rfl⟩
      · have hsk:fB ⟨1,n⟩ p.stack=s:=by
          rw[hsk]
          cases s with
          |nil=>rfl
          |cons b l=>
            have e1t:e1=true:=by rw[←he1];simp
            rw[e1t,Bool.true_and]at h3
            rw[h3]at he2
            have h5:=ff he2
            simp only[fB]
            rw[if_neg (by rw[←ha]at h5;exact h5)]
        rw[hn,hsk]
        clear he1 ha he2 h3
        refine ba<|ah<|Av ?_
        refine au<|eu [3,4,5,7,9] rfl<|bf (fun r st=>∃(s':List ca) (z:PV),kB z (cM s')∧s'.length≤32∧r=s'.length∧fc T x p s (fc T x p [] (iz p 1))=fc T x p s' (fc T x p [] (iz p 1))∧st=⟨[(3,.aY (bq T) 0),(4,.aY (fN x) 0),(5,.aY (eh p) 0),(7,.ptr 0 0),(9,z)],[some (.cells 66 [num 0,num 0,num 0,num 0,.raw (.slice none 0 0),num 0]),some (.cells 103 [num 1,num n])]⟩) s.length ⟨s,_,kB.refl _,hs,rfl,rfl,rfl⟩ ?_
        clear hsk hs
        rintro r st ⟨s',z,hz,hs,rfl,hR,rfl⟩
        refine lf (t':=[(3,.aY (bq T) 0),(4,.aY (fN x) 0),(5,.aY (eh p) 0),(7,.ptr 0 0),(9,cM s')]) ?_ ?_
        · exact Sub.cons rfl<|Sub.cons rfl<|Sub.cons rfl<|Sub.cons rfl<|Sub.II rfl hz<|Sub.nil _
        clear hz
        rw[hR]
        clear hR
        obtain⟨K0,hK0⟩:∃K,fc T x p [] (iz p 1)=K:=⟨_,rfl⟩
        rw[hK0]
        obtain⟨R,hS⟩:∃R,fc T x p s' K0=R:=⟨_,rfl⟩
        rw[hS]
        have hRR:=hS
        unfold fc at hRR
        obtain⟨c5,hc5⟩:∃q,decide ((s'.length:Int)=0)=q:=⟨_,rfl⟩
        obtain⟨c6,hc6⟩:∃q,decide (p.dst=n)=q:=⟨_,rfl⟩
        obtain⟨c7,hc7⟩:∃q,decide (255≤p.fJ)=q:=⟨_,rfl⟩
        obtain⟨c8,hc8⟩:∃q,decide (p.fJ<0)=q:=⟨_,rfl⟩
        rw[hc5,hn,hc6,hc7,hc8]at hRR
        refine au<|ah<|bu 63 (.raw (.bool (c5&&c6))) [3,4,5,7,9] rfl ?_ ?_
        · refine .a 2 rfl<|.v (b9 rfl (hc5)) rfl<|.a 1 rfl<|?_
          cases c5
          · exact .a 6 rfl<|.k [63,3,4,5,7,9] rfl
          · exact .a 1 rfl<|.v (aL rfl ((rfl:(eh p)[2]? =some (num p.dst)))) rfl<|.a 1 rfl<|.v (aL rfl ((show(fN x)[0]? =some (num n) by rw[←hn];rfl))) rfl<|.v (b9 rfl (hc6)) rfl<|.a 1 rfl<|.k [63,3,4,5,7,9] rfl
        refine ag rfl (fun h1=>?_) (fun h1=>?_)
        · rw[if_pos h1]at hRR
          subst hRR
          refine aP<|av 1 rfl<|bC (sn rfl (aj.cons aB.pure<|aj.cons aB.bT aj.nil) (qG p [] (by simp))) rfl<|av 3 rfl<|aG [6,7,8] rfl ?_
          exact aq<|⟨_,_,aA.of rfl,aB.bx (aj.cons aB.bT<|aj.cons (aB.pure (p:=fr ⟨p.id,p.src,p.dst,p.rR,[],p.fJ⟩))<|aj.cons aB.pure aj.nil),rfl⟩
        · rw [if_neg (by rw [h1]; simp)] at hRR
          refine ai<|ah<|bu 73 (.raw (.bool (c7||c8))) [3,4,5,7,9] rfl ?_ ?_
          · refine .a 1 rfl<|.v (aL rfl ((rfl:(eh p)[5]? =some (num p.fJ)))) rfl<|.v (b9 rfl (hc7)) rfl<|.a 1 rfl<|?_
            cases c7
            · exact .a 1 rfl<|.v (aL rfl ((rfl:(eh p)[5]? =some (num p.fJ)))) rfl<|.v (b9 rfl (hc8)) rfl<|.a 1 rfl<|.k [73,3,4,5,7,9] rfl
            · exact .a 4 rfl<|.k [73,3,4,5,7,9] rfl
          refine ag rfl (fun h2=>?_) (fun h2=>?_)
          · rw[if_pos h2]at hRR
            subst hRR
            refine aP<|av 1 rfl<|ec rfl (gF p 4 hps) rfl<|av 6 rfl<|aG [6,7,8] rfl ?_
            exact aq<|⟨_,_,aA.of rfl,aB.bx (aj.cons (aB.pure (p:=aw []))<|aj.cons (aB.pure (p:=fr p))<|aj.cons aB.pure aj.nil),rfl⟩
          · rw [if_neg (by rw [h2]; simp)] at hRR
            have hh:0≤p.fJ∧p.fJ≤1000:=by
              obtain⟨h3,h4⟩:=Bool.or_eq_false_iff.1 h2
              rw[←hc7]at h3
              rw[←hc8]at h4
              have:=ff h3
              have:=ff h4
              omega
            clear hc5 hc6 hc7 hc8 h1 h2
            refine ai ?_
            obtain⟨v,hv⟩:∃v,p.dst=v:=⟨_,rfl⟩
            refine ab (.a 1 rfl<|.v (aL rfl ((show(eh p)[2]? =some (num v) by rw[←hv];rfl))) rfl<|.a 1 rfl<|.k [3,4,5,7,9,11] rfl)<|ah<|ab (.a 3 rfl<|.k [3,4,5,7,9,11,83] rfl)<|ag rfl (fun h3=>?_) (fun h3=>?_)
            · have hne:0<s'.length:=by have:=tt h3;omega
              obtain⟨a,l,hs'⟩:∃a l,s'=a::l:=by
                cases s' with
                |nil=>exact absurd hne (by simp)
                |cons a l=>exact⟨a,l,rfl⟩
              have h0:s'[0]? =some a:=by rw[hs'];rfl
              rw[hs']at hRR
              dsimp only at hRR
              rw[←hs']at hRR
              clear hv
              obtain⟨v,hv⟩:∃v,a.num=v:=⟨_,rfl⟩
              rw[hv]at hRR
              refine ab (.a 1 rfl<|.v (aJ (0) rfl (by omega) (by omega)) rfl<|.a 1 rfl<|.v (aL rfl (((IH s' 0 a h0).trans (by rw[hv])))) rfl<|.a 1 rfl<|.k [3,4,5,7,9,11] rfl)<|ab (.a 1 rfl<|.v (aJ (0) rfl (by omega) (by omega)) rfl<|.a 1 rfl<|.v (aL rfl ((Io s' 0 a h0))) rfl<|.k [3,4,5,7,9,11,91] rfl)<|au<|ab (.a 2 rfl<|.k [3,4,5,7,9,11,91,97] rfl)<|ag rfl (fun h4=>?_) (fun h4=>?_)
              · rw[if_pos (tt h4)]at hRR
                obtain⟨K1,hK1,hK1n,hK1p⟩:∃K1,K1=K0∧(s'.length=0→K1=iz p 1)∧(0<s'.length→K1=K0):=⟨_,rfl,fun h=>absurd h (by omega),fun h=>rfl⟩
                rw[←hK1]at hRR
                clear hK1 h3 h4 hs' hv h0
                refine ai<|ah ?_
                obtain⟨c11,hc11⟩:∃q,bd T v=q:=⟨_,rfl⟩
                have hnc:=dv T v
                rw[hc11]at hnc
                unfold H3 at hRR
                have hes:c11=true→x.eO[v.toNat]? =some (dH x v)∧(dH x v).push.length≤40∧(dH x v).aK.length≤1000∧v<(x.eO.length:Int)∧0≤v:=fun h=>by
                  obtain⟨k,rfl,g1,g2,g3⟩:=pB hc1 (hc11.trans h)
                  have:=(List.getElem?_eq_some_iff.1 g1).1
                  exact⟨g1,g2,g3,by omega,by omega⟩
                obtain⟨e,he⟩:∃e,dH x v=e:=⟨_,rfl⟩
                obtain⟨Km,hc12⟩:∃q,decide (0<(e.aK.length:Int))=q:=⟨_,rfl⟩
                rw[he]at hes hRR
                rw[hc11,hc12]at hRR
                refine vy (Q1:=fun st=>st=⟨[(143,flag (c11&&Km)),(3,.aY (bq T) 0),(4,.aY (fN x) 0),(5,.aY (eh p) 0),(7,.ptr 0 0),(9,cM s'),(11,num v)],[some (.cells 66 [num 0,num 0,num 0,num 0,.raw (.slice none 0 0),num 0]),some (.cells 103 [num 1,num n])]⟩) ?_ ?_
                · cases c11
                  · refine az (.a 2 rfl<|.c rfl (hnc) rfl<|.a 10 rfl<|.k [143,3,4,5,7,9,11] rfl) ?_
                    rfl
                  · refine az (.a 2 rfl<|.c rfl (hnc) rfl<|.a 2 rfl<|.v (aL rfl ((rfl:(fN x)[1]? =some (jT x.eO)))) rfl<|.a 1 rfl<|.v (aJ ((v.toNat*3)) rfl (hes rfl).2.2.2.2 (hes rfl).2.2.2.1) rfl<|.a 1 rfl<|.v (aL rfl ((oF x.eO v.toNat 0 e (hes rfl).1 (by omega)))) rfl<|.a 1 rfl<|.v (b9 rfl (hc12)) rfl<|.a 1 rfl<|.k [143,3,4,5,7,9,11] rfl) ?_
                    rfl
                rintro _ rfl
                refine ag rfl (fun h8=>?_) (fun h8=>?_)
                · rw[if_pos h8]at hRR
                  obtain⟨g1,g2,g3,g4,g5⟩:=hes (Bool.and_eq_true_iff.1 h8).1
                  subst hRR
                  refine lV 12 20 mixed (
                    .val [5] rfl (bH rfl) rfl rfl<|
                    .val [9] rfl (bH rfl) rfl rfl<|
                    .val [4] rfl (bH rfl) rfl rfl<|
                    .val [146] rfl (aL rfl ((rfl:(fN x)[1]? =some (jT x.eO)))) rfl rfl<|
                    .val [11] rfl (bH rfl) rfl rfl<|
                    .val [147,148] rfl (aJ ((v.toNat*3)) rfl g5 g4) rfl rfl<|
                    .val [149] rfl (gO rfl ((px x.eO v.toNat e g1)) rfl) rfl rfl<|
                    .val [144,145,150] rfl (dJ rfl (uu p s' e (by omega) g2 g3 hps hh)) rfl rfl<|
                    .val [151] rfl (bH rfl) rfl rfl<|
                    .val [151] rfl (bH rfl) rfl rfl<|
                    .val [151] rfl (bH rfl) rfl rfl<|
                    .val [152] rfl (bH rfl) rfl rfl<|
                    .nil) (by kernel_rfl) rfl rfl (bm (ks:=[6,7,153,154]) rfl) ?_
                  refine av 2 rfl<|aG [6,7,8] rfl ?_
                  exact aq<|⟨_,_,aA.of rfl,aB.bx (aj.cons (aB.pure (p:=aw (iH p s' e).aK))<|aj.cons (aB.pure (p:=fr (iH p s' e).fH))<|aj.cons aB.pure aj.nil),rfl⟩
                · rw[if_neg (by rw[h8];simp)]at hRR
                  refine ai<|ah<|ab (.a 3 rfl<|.k [3,4,5,7,157] rfl)<|ag rfl (fun h9=>?_) (fun h9=>?_)
                  · rw[hK1n (by have:=tt h9;omega)]at hRR
                    subst hRR
                    refine aP<|av 1 rfl<|ec rfl (gF p 1 hps) rfl<|av 6 rfl<|aG [6,7,8] rfl ?_
                    exact aq<|⟨_,_,aA.of rfl,aB.bx (aj.cons (aB.pure (p:=aw []))<|aj.cons (aB.pure (p:=fr p))<|aj.cons aB.pure aj.nil),rfl⟩
                  · have hne:0<s'.length:=by have:=ff h9;omega
                    rw[hK1p hne]at hRR
                    refine ai<|az (.a 1 rfl<|.k [3,4,5,7,9] rfl) ?_
                    exact⟨0,hne,[],_,kB.bT,by simp,rfl,hRR.symm.trans (hK0.symm.trans rfl),rfl⟩
              · rw[if_neg (ff h4)]at hRR
                refine ab (.a 2 rfl<|.k [3,4,5,7,9,11,99] rfl)<|ag rfl (fun h5=>?_) (fun h5=>?_)
                · rw[if_pos (tt h5)]at hRR
                  obtain⟨c9,hc9⟩:∃q,eF T v=q:=⟨_,rfl⟩
                  obtain⟨c10,hc10⟩:∃q,decide (aZ T v.toNat≠n)=q:=⟨_,rfl⟩
                  have hac:=qw T (by have h:=hc1;unfold dM at h;simp only[Bool.and_eq_true]at h;have:=bJ h.1.1.1.1;omega) v
                  rw[hc9]at hac
                  rw[hc9,hc10]at hRR
                  refine ah<|jA mixed (by kernel_rfl) 112 (.raw (.bool ((!c9)||c10))) [3,4,5,7,9,11] rfl ?_ ?_
                  · refine .a 2 rfl<|.v [101,102] (dJ rfl (hac)) rfl rfl<|.a 2 rfl<|?_
                    cases c9
                    · exact .a 7 rfl<|.k [112,3,4,5,7,9,11] rfl
                    · exact .a 2 rfl<|.v [106,107] (dJ rfl (pq T v hc9)) rfl rfl<|.a 1 rfl<|.v [109] (aL rfl ((show(fN x)[0]? =some (num n) by rw[←hn];rfl))) rfl rfl<|.v [108,110] (b9 rfl (hc10)) rfl rfl<|.a 1 rfl<|.k [112,3,4,5,7,9,11] rfl
                  refine ag rfl (fun h6=>?_) (fun h6=>?_)
                  · rw[if_pos h6]at hRR
                    subst hRR
                    refine aP<|av 1 rfl<|ec rfl (gF p 2 hps) rfl<|av 6 rfl<|aG [6,7,8] rfl ?_
                    exact aq<|⟨_,_,aA.of rfl,aB.bx (aj.cons (aB.pure (p:=aw []))<|aj.cons (aB.pure (p:=fr p))<|aj.cons aB.pure aj.nil),rfl⟩
                  · rw[if_neg (by rw[h6];simp)]at hRR
                    refine ai<|ah<|ab (.a 1 rfl<|.v (aL rfl ((rfl:(fN x)[2]? =some (aw x.down)))) rfl<|.a 1 rfl<|.c rfl (sJ x.down v (yO hc1)) rfl<|.k [3,4,5,7,9,11,121] rfl)<|ag rfl (fun h7=>?_) (fun h7=>?_)
                    · rw[if_pos (tt h7)]at hRR
                      exact ab (.a 1 rfl<|.k [3,4,5,7,9] rfl)<|ba<|⟨0,hne,[],_,kB.bT,by simp,rfl,hRR.symm.trans (hK0.symm.trans rfl),rfl⟩
                    · rw[if_neg (ff h7)]at hRR
                      subst hRR
                      subst hs'
                      refine ai<|lV 10 20 mixed (
                        .val [5] rfl (bH rfl) rfl rfl<|
                        .val [9] rfl (bH rfl) rfl rfl<|
                        .val [123] rfl (j8 rfl (bI.el.get rfl) rfl rfl) rfl rfl<|
                        .val [11] rfl (bH rfl) rfl rfl<|
                        .val [125] rfl (bH rfl) rfl rfl<|
                        .val [122,124,126] rfl (dJ rfl (mO p l [v] (by simp at hs;omega) (by simp) hh)) rfl rfl<|
                        .val [127] rfl (bH rfl) rfl rfl<|
                        .val [127] rfl (bH rfl) rfl rfl<|
                        .val [127] rfl (bH rfl) rfl rfl<|
                        .val [128] rfl (bH rfl) rfl rfl<|
                        .nil) (by kernel_rfl) rfl rfl (bm (ks:=[6,7,129,130]) rfl) ?_
                      refine av 2 rfl<|aG [6,7,8] rfl ?_
                      exact aq<|⟨_,_,aA.of rfl,aB.bx (aj.cons (aB.pure (p:=aw [v]))<|aj.cons (aB.pure (p:=fr (cj p l [v]).fH))<|aj.cons aB.pure aj.nil),rfl⟩
                · rw[if_neg (ff h5)]at hRR
                  subst hRR
                  refine aP<|av 1 rfl<|ec rfl (gF p 1 hps) rfl<|av 6 rfl<|aG [6,7,8] rfl ?_
                  exact aq<|⟨_,_,aA.of rfl,aB.bx (aj.cons (aB.pure (p:=aw []))<|aj.cons (aB.pure (p:=fr p))<|aj.cons aB.pure aj.nil),rfl⟩
            · have hs':s'=[]:=by
                cases s' with
                |nil=>rfl
                |cons a l=>exact absurd (ff h3) (by simp)
              rw[hs']at hRR
              dsimp only at hRR
              rw[←hs',hv]at hRR
              obtain⟨K1,hK1,hK1n,hK1p⟩:∃K1,K1=iz p 1∧(s'.length=0→K1=iz p 1)∧(0<s'.length→K1=K0):=⟨_,rfl,fun _=>rfl,fun h=>absurd h (by rw[hs'];simp)⟩
              rw[←hK1]at hRR
              clear hK1 h3 hs' hv
              refine ai<|ah ?_
              obtain⟨c11,hc11⟩:∃q,bd T v=q:=⟨_,rfl⟩
              have hnc:=dv T v
              rw[hc11]at hnc
              unfold H3 at hRR
              have hes:c11=true→x.eO[v.toNat]? =some (dH x v)∧(dH x v).push.length≤40∧(dH x v).aK.length≤1000∧v<(x.eO.length:Int)∧0≤v:=fun h=>by
                obtain⟨k,rfl,g1,g2,g3⟩:=pB hc1 (hc11.trans h)
                have:=(List.getElem?_eq_some_iff.1 g1).1
                exact⟨g1,g2,g3,by omega,by omega⟩
              obtain⟨e,he⟩:∃e,dH x v=e:=⟨_,rfl⟩
              obtain⟨Km,hc12⟩:∃q,decide (0<(e.aK.length:Int))=q:=⟨_,rfl⟩
              rw[he]at hes hRR
              rw[hc11,hc12]at hRR
              refine vy (Q1:=fun st=>st=⟨[(143,flag (c11&&Km)),(3,.aY (bq T) 0),(4,.aY (fN x) 0),(5,.aY (eh p) 0),(7,.ptr 0 0),(9,cM s'),(11,num v)],[some (.cells 66 [num 0,num 0,num 0,num 0,.raw (.slice none 0 0),num 0]),some (.cells 103 [num 1,num n])]⟩) ?_ ?_
              · cases c11
                · refine az (.a 2 rfl<|.c rfl (hnc) rfl<|.a 10 rfl<|.k [143,3,4,5,7,9,11] rfl) ?_
                  rfl
                · refine az (.a 2 rfl<|.c rfl (hnc) rfl<|.a 2 rfl<|.v (aL rfl ((rfl:(fN x)[1]? =some (jT x.eO)))) rfl<|.a 1 rfl<|.v (aJ ((v.toNat*3)) rfl (hes rfl).2.2.2.2 (hes rfl).2.2.2.1) rfl<|.a 1 rfl<|.v (aL rfl ((oF x.eO v.toNat 0 e (hes rfl).1 (by omega)))) rfl<|.a 1 rfl<|.v (b9 rfl (hc12)) rfl<|.a 1 rfl<|.k [143,3,4,5,7,9,11] rfl) ?_
                  rfl
              rintro _ rfl
              refine ag rfl (fun h8=>?_) (fun h8=>?_)
              · rw[if_pos h8]at hRR
                obtain⟨g1,g2,g3,g4,g5⟩:=hes (Bool.and_eq_true_iff.1 h8).1
                subst hRR
                refine lV 12 20 mixed (
                  .val [5] rfl (bH rfl) rfl rfl<|
                  .val [9] rfl (bH rfl) rfl rfl<|
                  .val [4] rfl (bH rfl) rfl rfl<|
                  .val [146] rfl (aL rfl ((rfl:(fN x)[1]? =some (jT x.eO)))) rfl rfl<|
                  .val [11] rfl (bH rfl) rfl rfl<|
                  .val [147,148] rfl (aJ ((v.toNat*3)) rfl g5 g4) rfl rfl<|
                  .val [149] rfl (gO rfl ((px x.eO v.toNat e g1)) rfl) rfl rfl<|
                  .val [144,145,150] rfl (dJ rfl (uu p s' e (by omega) g2 g3 hps hh)) rfl rfl<|
                  .val [151] rfl (bH rfl) rfl rfl<|
                  .val [151] rfl (bH rfl) rfl rfl<|
                  .val [151] rfl (bH rfl) rfl rfl<|
                  .val [152] rfl (bH rfl) rfl rfl<|
                  .nil) (by kernel_rfl) rfl rfl (bm (ks:=[6,7,153,154]) rfl) ?_
                refine av 2 rfl<|aG [6,7,8] rfl ?_
                exact aq<|⟨_,_,aA.of rfl,aB.bx (aj.cons (aB.pure (p:=aw (iH p s' e).aK))<|aj.cons (aB.pure (p:=fr (iH p s' e).fH))<|aj.cons aB.pure aj.nil),rfl⟩
              · rw[if_neg (by rw[h8];simp)]at hRR
                refine ai<|ah<|ab (.a 3 rfl<|.k [3,4,5,7,157] rfl)<|ag rfl (fun h9=>?_) (fun h9=>?_)
                · rw[hK1n (by have:=tt h9;omega)]at hRR
                  subst hRR
                  refine aP<|av 1 rfl<|ec rfl (gF p 1 hps) rfl<|av 6 rfl<|aG [6,7,8] rfl ?_
                  exact aq<|⟨_,_,aA.of rfl,aB.bx (aj.cons (aB.pure (p:=aw []))<|aj.cons (aB.pure (p:=fr p))<|aj.cons aB.pure aj.nil),rfl⟩
                · have hne:0<s'.length:=by have:=ff h9;omega
                  rw[hK1p hne]at hRR
                  refine ai<|az (.a 1 rfl<|.k [3,4,5,7,9] rfl) ?_
                  exact⟨0,hne,[],_,kB.bT,by simp,rfl,hRR.symm.trans (hK0.symm.trans rfl),rfl⟩
end PW
end Go.Proofs.YtnegbdpggideiaaGreatDoor
namespace Go.Proofs.YtnegbdpggideiaaGreatDoor
namespace PW
open Go.RowKit cH Mem Net
section
variable {T:an} {D:List Bool}
theorem Ch.snoc{d n:Nat}{q:List Int}(h:Ch T D d n q):∀ {a x:Nat},(q=[]∨cU T d=false)→a<2*T.ae.length→aZ T a=(d:Int)→aI D a=false→aW T a=(x:Int)→Ch T D x n (q++[(a:Int)]):=by
 induction h with
 |nil=>intro a x _ h1 h2 h3 h4;exact .cons h1 h2 h3 h4 (.inl rfl) .nil
 | @cons n b m p hb ht hu hm ho hp ih=>
  intro a x hov h1 h2 h3 h4
  have hov':cU T d=false:=by rcases hov with h|h;cases h;exact h
  refine .cons hb ht hu hm ?_ (ih (.inr hov') h1 h2 h3 h4)
  rcases ho with h|h
  ·have:=hp.to h
   subst this
   exact .inr hov'
  ·exact .inr h
theorem IN(hv:ao T=true){n:Nat}(hn:(n:Int)<T.nodes){d m:Nat}{p:List Int}(h:Ch T D d m p)(h0:0≤at' (bn T D n true) (m:Int))(ho:p=[]∨m=n∨cU T m=false):0≤at' (bn T D n true) (d:Int):=by
 have hI:=jj (aM hv) D true hn
 induction h with
 |nil=>exact h0
 | @cons m a m' p ha ht hu hm hov hp ih=>
  have hw:=hI.closed a ha ⟨hu,by simp only[cR,if_true];rw[ht];exact h0,by
   simp only[cR,if_true];rw[ht]
   rcases ho with h|h|h
   ·cases h
   ·exact .inl (by rw[h])
   ·exact .inr (by simpa using h)⟩
  simp only[fv,if_true]at hw
  rw[hm]at hw
  refine ih hw.1 ?_
  rcases hov with h|h
  ·exact .inl h
  ·exact .inr (.inr h)
theorem IK(hv:ao T=true){n:Nat}(hn:(n:Int)<T.nodes):∀(k x:Nat),(x:Int)<T.nodes→0≤at' (bn T D n true) (x:Int)→at' (bn T D n true) (x:Int)≤k→0≤dN T D x n:=by
 have hS:=aM hv
 have hI:=jj hS D true hn
 intro k
 induction k with
 |zero=>
  intro x hx h0 hk
  rcases hI.nj x hx h0 with h|⟨a,ha,hX,hW,hs⟩
  ·subst h;rw[kY hv hn];exact Int.le_refl _
  ·have:=(hS.cost a ha).1
   have:=hW.2.1
   omega
 |succ k ih=>
  intro x hx h0 hk
  rcases hI.nj x hx h0 with h|⟨a,ha,hX,hW,hs⟩
  ·subst h;rw[kY hv hn];exact Int.le_refl _
  ·simp only[fv,cR,if_true]at hX hs
   obtain⟨hu,hy0,hyo⟩:=hW
   simp only[cR,if_true]at hy0 hyo
   have hc:=(hS.cost a ha).1
   have ht:=hS.tail a ha
   obtain⟨y,hy⟩:=Int.eq_ofNat_of_zero_le ht.1
   rw[hy]at hy0 hyo hs ht
   have hyN:(y:Int)<T.nodes:=ht.2
   have h1:=ih y hyN hy0 (by omega)
   have hsp:=eB (D:=D) hv hyN hn h1
   have hc2:=hsp.ch.snoc (a:=a) (x:=x) (by
    rcases hyo with h|h
    ·have:y=n:=by omega
     subst this
     exact .inl hsp.self
    ·exact .inr (by simpa using h)) ha hy hu hX
   exact(hc2.le hv hx).1
theorem Hi(hv:ao T=true){n d:Nat}(hn:(n:Int)<T.nodes)(hd:(d:Int)<T.nodes):0≤(bn T D n true).getD d 0↔0≤dN T D d n:=by
 have hS:=aM hv
 have hI:=jj hS D true hn
 have hl:=hI.len
 have e:(bn T D n true).getD d 0=at' (bn T D n true) (d:Int):=by
  unfold at'
  rw[Int.toNat_natCast,List.getD_eq_getElem?_getD,List.getD_eq_getElem?_getD,List.getElem?_eq_getElem (by omega)]
  rfl
 rw[e]
 constructor
 ·intro h0
  exact IK hv hn (at' (bn T D n true) (d:Int)).toNat d hd h0 (by have:=Int.toNat_of_nonneg h0;omega)
 ·intro h0
  have hsp:=eB (D:=D) hv hd hn h0
  refine IN hv hn hsp.ch ?_ (.inr (.inl rfl))
  rw[hI.root]
  exact Int.le_refl _
end
end PW
end Go.Proofs.YtnegbdpggideiaaGreatDoor
namespace Go.Proofs.YtnegbdpggideiaaGreatDoor
namespace PW
open Go.RowKit cH Mem Net fw
def ga(T:an)(a:Nat):Int:=(cB T.ae (a / 2)).uz
noncomputable def gh(T:an)(D:List Bool)(n d:Int):Bool:=decide (fM T D n d=0)
noncomputable def cA(T:an)(a:Nat)(d:Int):Int×Int:=
 if(decide (0<ga T a)&&gh T (aC T 3 (ga T a)) (aZ T a) d)=true then(3,ga T a)
 else if(decide (aW T a≠d)&&gh T (aC T 2 (aW T a)) (aZ T a) d)=true then(2,aW T a)
 else(1,((a / 2:Nat):Int))
def dr(T:an)(M:List Bool)(n:Int):List Bool:=(List.range (2*T.ae.length)).map fun a=>aI M a&&decide (aZ T a=n)
def orM(T:an)(D E:List Bool):List Bool:=(List.range (2*T.ae.length)).map fun a=>aI D a||aI E a
theorem xA{f:Nat→Bool}{n a:Nat}:aI ((List.range n).map f) a=(decide (a<n)&&f a):=by
 unfold aI
 rw[List.getD_eq_getElem?_getD,List.getElem?_map]
 by_cases h:a<n
 ·rw[List.getElem?_range h];simp[h]
 ·rw[List.getElem?_eq_none (by simp;omega)];simp[h]
theorem sf{T:an}{f:Nat→Bool}:bN T ((List.range (2*T.ae.length)).map f)=true:=by simp[bN]
theorem lZ{T:an}{M:List Bool}{n:Int}{a:Nat}:aI (dr T M n) a=(decide (a<2*T.ae.length)&&(aI M a&&decide (aZ T a=n))):=xA
theorem FQ{T:an}{D E:List Bool}{a:Nat}:aI (orM T D E) a=(decide (a<2*T.ae.length)&&(aI D a||aI E a)):=xA
theorem db(T:an)(k x:Int):bN T (aC T k x)=true:=sf
theorem nZ(T:an)(M:List Bool)(n:Int):bN T (dr T M n)=true:=sf
theorem u9(T:an)(D E:List Bool):bN T (orM T D E)=true:=sf
theorem mA{T:an}{D:List Bool}{x y:Nat}(hv:ao T=true)(hf:bN T D=true)(hx:(x:Int)<T.nodes)(hy:(y:Int)<T.nodes):gh T D x y=true↔0≤dN T D y x:=by
 unfold gh
 rw[decide_eq_true_eq,iv hv hf hx hy]
 split<;>omega
theorem sR{T:an}(hv:ao T=true){a:Nat}(ha:a<2*T.ae.length):0≤ga T a∧ga T a≤64:=by
 have h:=rE hv (a / 2) (by omega)
 unfold ga
 unfold iL at h
 rw[Bool.and_eq_true]at h
 unfold bU at h
 exact of_decide_eq_true h.2
theorem ow{T:an}(hv:ao T=true){a:Nat}(ha:a<2*T.ae.length)(d:Int):bZ T (cA T a d).1 (cA T a d).2=true:=by
 have hg:=sR hv ha
 unfold cA
 split
 ·rename_i h
  rw[Bool.and_eq_true,decide_eq_true_eq]at h
  show bZ T 3 (ga T a)=true
  unfold bZ
  simp only[if_neg (show ¬(3:Int)=1 by decide),if_neg (show ¬(3:Int)=2 by decide),if_true,Bool.and_eq_true,decide_eq_true_eq]
  exact⟨by omega,by omega⟩
 ·split
  ·obtain⟨h0,h1⟩:=(aM hv).head a ha
   show bZ T 2 (aW T a)=true
   unfold bZ
   simp only[if_neg (show ¬(2:Int)=1 by decide),if_true]
   exact aT.2 ⟨h0,h1⟩
  ·show bZ T 1 ((a / 2:Nat):Int)=true
   unfold bZ
   simp only[if_true,Bool.and_eq_true,decide_eq_true_eq]
   exact⟨by omega,by omega⟩
def ev(own:List Bool)(l:List Int):Option Int:=l.find? fun a=>aI own a.toNat
noncomputable def lr(T:an)(own:List Bool)(n d:Int)(a:Nat):List Bool:=
 if gh T (orM T (aC T (cA T a d).1 (cA T a d).2) own) n d=true then orM T (aC T (cA T a d).1 (cA T a d).2) own else own
noncomputable def gN(T:an)(own:List Bool)(n d:Nat):iV:=match ev own (aX T [] n d)with
 |none=>⟨aX T [] n d,false,[]⟩
 |some a=>i7 T (lr T own n d a.toNat) n d
noncomputable def lT(T:an)(own:List Bool)(n k:Nat):List iV:=(List.range k).map fun d=>gN T own n d
theorem tO(T:an)(own:List Bool)(n k:Nat):lT T own n (k+1)=lT T own n k++[gN T own n k]:=by simp[lT,List.range_succ]
theorem mb(T:an)(own:List Bool)(n k:Nat):(lT T own n k).length=k:=by simp[lT]
theorem qN{T:an}{own:List Bool}{n k d:Nat}(h:d<k):(lT T own n k)[d]? =some (gN T own n d):=by simp[lT,h]
noncomputable def kV(T:an)(M:List Bool)(n:Nat):ef:=⟨n,lT T (dr T M n) n T.nodes.toNat,cr M (bG T n)⟩
section
variable {T:an} {M own:List Bool} {n d:Nat}
theorem ke(hf:bN T own=true)(a:Nat):bN T (lr T own n d a)=true:=by
 unfold lr;split
 ·exact u9 _ _ _
 ·exact hf
theorem Ek{l:List Int}(h:ev own l=none):∀a∈l,aI own a.toNat=false:=fun a ha=>by
 have:=List.find?_eq_none.1 h a ha
 simpa using this
theorem iw{l:List Int}{a:Int}(h:ev own l=some a):a∈l∧aI own a.toNat=true:=⟨List.mem_of_find?_eq_some h,by have:=List.find?_some (p:=fun a:Int=>aI own a.toNat) h;exact this⟩
theorem IC(hv:ao T=true)(h12:T.nodes≤12):jl T n d (gN T own n d)=true:=by
 unfold gN
 cases ev own (aX T [] n d)with
 |some b=>exact EW _ _ _ _ h12
 |none=>
  unfold jl
  simp only[qW,Bool.true_and]
  by_cases hdn:d=n
  ·subst hdn;rw[jb];simp
  ·rw[decide_eq_false (by omega)];simp
theorem kl(hv:ao T=true)(h12:T.nodes≤12)(hn:(n:Int)<T.nodes):dM T (kV T M n)=true:=by
 unfold dM kV
 have h1:bd T (n:Int)=true:=aT.2 ⟨by omega,hn⟩
 have hN:=(aM hv).nodes
 have h2:decide (((lT T (dr T M n) n T.nodes.toNat).length:Int)=T.nodes)=true:=decide_eq_true (by rw[mb];omega)
 have h3:fh T n (cr M (bG T n))=true:=mP T n _
 have h4:nG T n (lT T (dr T M n) n T.nodes.toNat)=true:=jk fun d e he=>by
  have hd:d<T.nodes.toNat:=by
   have:=(List.getElem?_eq_some_iff.1 he).1
   rwa [mb]at this
  rw[qN hd]at he
  cases he
  exact IC hv h12
 rw[hv,h1,h2,h3,h4]
 rfl
theorem Fi{D E:List Bool}(hv:ao T=true)(hn:(n:Int)<T.nodes)(hd:(d:Int)<T.nodes)(hE:∀a,a<2*T.ae.length→aI D a=false→aI E a=false)(h:0≤dN T D d n):0≤dN T E d n:=by
 have hsp:=eB (D:=D) hv hd hn h
 have hch:Ch T E d n (bY T D n d):=by
  have:=hsp.ch
  generalize bY T D n d=p at this
  clear hsp h hn
  induction this with
  |nil=>exact .nil
  |cons ha ht hu hm ho hp ih=>exact .cons ha ht (hE _ ha hu) hm ho ih
 exact(hch.le hv hd).1
end
end PW
end Go.Proofs.YtnegbdpggideiaaGreatDoor
namespace Go.Proofs.YtnegbdpggideiaaGreatDoor
namespace PW
open Go.RowKit cH Mem Net
section
variable {T:an} {D:List Bool}
theorem iE.tail{n y m:Nat}{a:Int}{p:List Int}(h:iE T D n y (a::p))(hm:aW T a.toNat=(m:Int)):(p=[]∧m=y)∨iE T D m y p:=by
 have hsp:=h.sp
 cases hsp with
 | @cons n a m' p hnr hh hp=>
  rw[Int.toNat_natCast,hh]at hm
  have e:m'=m:=by omega
  subst e
  cases p with
  |nil=>cases hp;exact .inl ⟨rfl,rfl⟩
  |cons b p=>
   refine .inr ?_
   have hpt:=h.part (i:=1) (k:=p.length+1) (by omega) (by simp)
   have hb:∃b':Nat,b=(b':Int)∧aZ T b'=(m':Int):=by
    cases hp with
    |cons hn2 _ _=>exact⟨_,rfl,hn2.tail⟩
   obtain⟨b',rfl,hbt⟩:=hb
   have hfin:=h.sp.ch.fin
   have hlast:aW T (((a:Int)::(b':Int)::p).getD (p.length+1) 0).toNat=(y:Int):=by
    rw[←hfin]
    have:=eZ T (n:Int) ((a:Int)::(b':Int)::p) (p.length+1) (by simp)
    rw[←this,List.take_of_length_le (by simp)]
   rw[hlast]at hpt
   have e1:aZ T (((a:Int)::(b':Int)::p).getD 1 0).toNat=(m':Int):=hbt
   rw[e1]at hpt
   obtain⟨u,v,e3,e4,hs,_⟩:=AX hpt
   have e5:m'=u:=by omega
   have e6:y=v:=by omega
   subst e5;subst e6
   have:=hs.sp.unique hs.valid hs.hy hp hs.nf
   rw[this]at hs
   exact hs
theorem iE.Ie{E:List Bool}{n y:Nat}{p:List Int}(h:iE T D n y p)(hf:bN T E=true)(hE:∀a,aI D a=false→aI E a=false):iE T E n y p:=
 ⟨h.valid,hf,h.ne,h.hx,h.hy,h.uniq,h.sp,fun a ha=>hE _ (h.up a ha)⟩
inductive sD (T:an) (D:List Bool) (d:Nat):Nat→List ca→List Int→Prop
 |nil:sD T D d d [] []
 |node {n y:Nat} {p q:List Int} {l:List ca}:iE T D n y p→sD T D d y l q→sD T D d n (⟨1,(y:Int)⟩::l) (p++q)
 |eU {n a m:Nat} {q:List Int} {l:List ca}:a<2*T.ae.length→aZ T a=(n:Int)→aI D a=false→aW T a=(m:Int)→sD T D d m l q→sD T D d n (⟨2,(a:Int)⟩::l) ((a:Int)::q)
theorem sD.len{d n:Nat}{l:List ca}{q:List Int}(h:sD T D d n l q):l.length≤q.length:=by
 induction h with
 |nil=>exact Nat.le_refl _
 |node hs _ ih=>have:=hs.pos;simp only[List.length_cons,List.length_append];omega
 |eU _ _ _ _ _ ih=>simp only[List.length_cons];omega
theorem sD.skip{d n:Nat}{l:List ca}{q:List Int}(h:sD T D d n l q):fB ⟨1,(n:Int)⟩ l=l:=by
 cases h with
 |nil=>rfl
 |node hs _=>
  have hne:=hs.ne
  simp only[fB]
  rw[if_neg (fun e=>by cases e;exact hne rfl)]
 |eU _ _ _ _ _=>
  simp only[fB]
  rw[if_neg (fun e=>by cases e)]
theorem sD.end_{d n:Nat}{l:List ca}(h:sD T D d n l []):l=[]∧n=d:=by
 generalize hq:([]:List Int)=q at h
 cases h with
 |nil=>exact⟨rfl,rfl⟩
 |node hs _=>
  have:=hs.pos
  have h2:=congrArg List.length hq
  simp only[List.length_nil,List.length_append]at h2
  omega
 |eU _ _ _ _ _=>cases hq
structure He (T:an) (D:List Bool) (n:Nat) (x:ef):Prop where
 ok:dM T x=true
 node:x.node=(n:Int)
 down:∀a:Nat,(a:Int)∈x.down→aI D a=true
 JO:∀(y:Nat) p,iE T D n y p→(dH x (y:Int)).aK=[p.getD 0 0]∧((dH x (y:Int)).rep=true→(dH x (y:Int)).push=[⟨1,(y:Int)⟩])
theorem pS{n d:Nat}{x:ef}(hx:He T D n x)(hd:(d:Int)<T.nodes){p:fu}(hp:p.dst=(d:Int))(hn:n=d)(hl:fB ⟨1,(n:Int)⟩ p.stack=[])(h32:p.stack.length≤32):(dy T x p).aK=[]∧(dy T x p).dT= -1:=by
 have hdb:bd T p.dst=true:=aT.2 ⟨by omega,by omega⟩
 unfold dy
 rw[hx.ok,hdb,hx.node,hl,if_neg (by simp),if_neg (by omega)]
 unfold fc
 rw[if_pos (by rw[hp,hx.node,hn];simp)]
 exact⟨rfl,rfl⟩
theorem Bq{n d:Nat}{x:ef}(hx:He T D n x)(hd:(d:Int)<T.nodes){p:fu}(hp:p.dst=(d:Int))(hh:p.fJ=0){l:List ca}{a:Int}{q:List Int}(hl:fB ⟨1,(n:Int)⟩ p.stack=l)(h:sD T D d n l (a::q))(h32:p.stack.length≤32):
  ∃(m:Nat) (s:List ca),aW T a.toNat=(m:Int)∧0≤a∧a.toNat<2*T.ae.length∧aZ T a.toNat=(n:Int)∧aI D a.toNat=false∧dy T x p=cj p s [a]∧s.length≤p.stack.length∧sD T D d m (fB ⟨1,(m:Int)⟩ s) q:=by
 have hdb:bd T p.dst=true:=aT.2 ⟨by omega,by omega⟩
 have hsl:=xz ⟨1,(n:Int)⟩ p.stack
 rw[hl]at hsl
 unfold dy
 rw[hx.ok,hdb,hx.node,hl,if_neg (by simp),if_neg (by omega)]
 generalize fc T x p [] (iz p 1)=K
 generalize hq:a::q=q0 at h
 cases h with
 |nil=>cases hq
 | @node n y pp q1 l1 hs hr=>
  obtain⟨p0,pt,rfl⟩:∃p0 pt,pp=p0::pt:=by
   cases pp with
   |nil=>exact absurd hs.pos (by simp)
   |cons p0 pt=>exact⟨p0,pt,rfl⟩
  simp only[List.cons_append,List.cons.injEq]at hq
  obtain⟨rfl,rfl⟩:=hq
  have hyb:bd T (y:Int)=true:=aT.2 ⟨by omega,hs.hy⟩
  obtain⟨e1,e2⟩:=hx.JO y _ hs
  have ha:∃a' m:Nat,a=(a':Int)∧a'<2*T.ae.length∧aZ T a'=(n:Int)∧aW T a'=(m:Int):=by
   have:=hs.sp
   cases this with
   |cons hnr hh _=>exact⟨_,_,rfl,hnr.eU,hnr.tail,hh⟩
  obtain⟨a',m,rfl,ha1,ha2,ha3⟩:=ha
  have hup:=hs.up (a':Int) (by simp)
  rw[Int.toNat_natCast]at hup ⊢
  have hskip:sD T D d m (fB ⟨1,(m:Int)⟩ (⟨1,(y:Int)⟩::l1)) (pt++q1):=by
   rcases hs.tail (m:=m) (by rw[Int.toNat_natCast];exact ha3)with⟨rfl,rfl⟩|ht
   ·simp only[fB,if_true,List.nil_append]
    rw[hr.skip]
    exact hr
   ·rw[(sD.node ht hr).skip]
    exact .node ht hr
  have hgo:fc T x p (⟨1,(y:Int)⟩::l1) K=cj p (⟨1,(y:Int)⟩::l1) [(a':Int)]:=by
   unfold fc
   rw[if_neg (by simp;intro h;omega),if_neg (by rw[hh];simp)]
   dsimp only
   rw[if_pos rfl]
   unfold H3
   rw[hyb,e1,if_pos (by simp)]
   unfold iH
   rw[e1]
   by_cases hrp:(dH x (y:Int)).rep=true
   ·rw[if_pos hrp,e2 hrp]
    have hlen:([⟨1,(y:Int)⟩]++(⟨1,(y:Int)⟩::l1:List ca).drop 1)=(⟨1,(y:Int)⟩::l1:List ca):=rfl
    rw[hlen,if_neg (by omega)]
    rfl
   ·rw[if_neg hrp]
    rfl
  exact⟨m,_,ha3,by omega,ha1,ha2,hup,hgo,hsl,hskip⟩
 | @eU n a' m q1 l1 h1 h2 h3 h4 h5=>
  simp only[List.cons.injEq]at hq
  obtain⟨rfl,rfl⟩:=hq
  rw[Int.toNat_natCast]
  have hab:eF T (a':Int)=true:=cJ.2 ⟨by omega,by omega⟩
  have hgo:fc T x p (⟨2,(a':Int)⟩::l1) K=cj p l1 [(a':Int)]:=by
   unfold fc
   rw[if_neg (by simp;intro h;omega),if_neg (by rw[hh];simp)]
   dsimp only
   rw[if_neg (by decide),if_pos rfl,hab,Int.toNat_natCast,h2,hx.node,if_neg (by simp),if_neg (fun hm=>by rw[hx.down a' hm]at h3;cases h3)]
  refine⟨m,l1,h4,by omega,h1,h2,h3,hgo,by simp only[List.length_cons]at hsl;omega,?_⟩
  rw[h5.skip]
  exact h5
theorem u6{n:Int}{p:List Int}{d:Nat}(hF:pL T D n p)(hfin:cE T n p=(d:Int)):∀(f i u:Nat),p.length - i≤f→i≤p.length→cE T n (p.take i)=(u:Int)→sD T D d u (gJ T [] n p f i) (p.drop i)
 |f,i,u,hf,hi,hu=>by
  by_cases hlt:i<p.length
  ·cases f with
   |zero=>omega
   |succ f=>
    have ha:=hF.aK
    cases ht:iU (ep T [] n p i) i p.length with
    |none=>
     rw[lE hlt (fun k h1 h2=>jR _ ht k h1 h2)]
     obtain⟨v,hv,_⟩:=cg hF.valid hF.node ha (i+1) (by omega)
     have h1:=eZ T n p i hlt
     rw[hv]at h1
     have h2:=mr hF hlt hu
     have hm:=bO (d:=0) hlt
     have h3:=cJ.1 (ha _ hm)
     have h4:=hF.up _ hm
     have h5:=u6 hF hfin f (i+1) v (by omega) (by omega) hv
     rw[drop_cons p i hlt]
     obtain⟨a,hae⟩:=Int.eq_ofNat_of_zero_le h3.1
     rw[hae]at h1 h2 h3 h4 ⊢
     rw[Int.toNat_natCast]at h1 h2 h4
     exact .eU (by omega) h2 h4 h1.symm h5
    |some j=>
     obtain⟨t1,t2,t3,t4⟩:=my _ _ ht
     rw[ko hlt t1 t2 t3 t4]
     obtain⟨v,hv,_⟩:=cg hF.valid hF.node ha j t2
     have hc:=nI hF t1 t2 hu hv
     rw[t3,Bool.and_eq_true]at hc
     obtain⟨h1,h2⟩:=hc
     obtain⟨a,b,e1,e2,hs,_⟩:=AX h1
     have e1:u=a:=by omega
     have e2:v=b:=by omega
     subst e1;subst e2
     have e3:bY T [] u v=dA p i j:=of_decide_eq_true h2
     rw[e3]at hs
     have h5:=u6 hF hfin f j v (by omega) t2 hv
     have e4:p.drop i=dA p i j++p.drop j:=by
      unfold dA
      have:=List.take_append_drop (j - i) (p.drop i)
      rw[List.drop_drop,show i+(j - i)=j by omega]at this
      exact this.symm
     rw[hv,e4]
     exact .node hs h5
  ·have e:i=p.length:=by omega
   subst e
   rw[List.take_length,hfin]at hu
   have e:d=u:=by omega
   subst e
   rw[mo _ _ (Nat.le_refl _),List.drop_length]
   exact .nil
theorem oX.Kj{n d:Nat}{p:List Int}(h:oX T D n d p):sD T D d n (ig T [] n p) p:=by
 have:=u6 h.Ij h.sp.ch.fin p.length 0 n (by omega) (by omega) (by simp[cE])
 exact this
theorem oX.enter{n d:Nat}{p:List Int}(h:oX T D n d p):∃(a m:Nat) (q:List Int),p=(a:Int)::q∧a<2*T.ae.length∧aZ T a=(n:Int)∧aI D a=false∧aW T a=(m:Int)∧sD T D d m (fB ⟨1,(m:Int)⟩ (iY (ig T [] n p))) q:=by
 have hl:=h.Kj
 have hpos:=h.pos
 generalize ig T [] n p=l at hl
 cases hl with
 |nil=>exact absurd hpos (by simp)
 | @node n y pp q1 l1 hs hr=>
  obtain⟨p0,pt,rfl⟩:∃p0 pt,pp=p0::pt:=by
   cases pp with
   |nil=>exact absurd hs.pos (by simp)
   |cons p0 pt=>exact⟨p0,pt,rfl⟩
  have ha:∃a' m:Nat,p0=(a':Int)∧a'<2*T.ae.length∧aZ T a'=(n:Int)∧aW T a'=(m:Int):=by
   have:=hs.sp
   cases this with
   |cons hnr hh _=>exact⟨_,_,rfl,hnr.eU,hnr.tail,hh⟩
  obtain⟨a',m,rfl,ha1,ha2,ha3⟩:=ha
  have hup:=hs.up (a':Int) (by simp)
  rw[Int.toNat_natCast]at hup
  refine⟨a',m,pt++q1,rfl,ha1,ha2,hup,ha3,?_⟩
  have hcut:iY (⟨1,(y:Int)⟩::l1)=⟨1,(y:Int)⟩::l1:=by simp[iY]
  rw[hcut]
  rcases hs.tail (m:=m) (by rw[Int.toNat_natCast];exact ha3)with⟨rfl,rfl⟩|ht
  ·simp only[fB,if_true,List.nil_append]
   rw[hr.skip]
   exact hr
  ·rw[(sD.node ht hr).skip]
   exact .node ht hr
 | @eU n a' m q1 l1 h1 h2 h3 h4 h5=>
  refine⟨a',m,q1,rfl,h1,h2,h3,h4,?_⟩
  have hcut:iY (⟨2,(a':Int)⟩::l1)=l1:=by simp[iY]
  rw[hcut,h5.skip]
  exact h5
theorem td{n d:Nat}{x:ef}(hok:dM T x=true)(hxn:x.node=(n:Int))(hd:(d:Int)<T.nodes)(hne:n≠d){p:fu}(hp:p.dst=(d:Int))(hh:p.fJ=0)(hl:fB ⟨1,(n:Int)⟩ p.stack=[])(h32:p.stack.length≤32)(ha:0<(dH x (d:Int)).aK.length)(hpl:(dH x (d:Int)).push.length≤32):
  dy T x p=cj p (if(dH x (d:Int)).rep then(dH x (d:Int)).push else []) (dH x (d:Int)).aK:=by
 have hdb:bd T p.dst=true:=aT.2 ⟨by omega,by omega⟩
 unfold dy
 rw[hok,hdb,hxn,hl,if_neg (by simp),if_neg (by omega)]
 unfold fc
 have hdn:decide ((d:Int)=x.node)=false:=decide_eq_false (by rw[hxn];omega)
 rw[hp,hdn,if_neg (by simp),if_neg (by rw[hh];simp)]
 dsimp only
 unfold H3
 rw[←hp,hdb,hp,if_pos (by simp;omega)]
 unfold iH
 simp only[List.drop_nil,List.append_nil]
 by_cases hr:(dH x (d:Int)).rep=true
 ·rw[if_pos hr,if_pos hr,if_neg (by omega)]
 ·rw[if_neg hr,if_neg hr]
end
end PW
end Go.Proofs.YtnegbdpggideiaaGreatDoor
namespace Go.Proofs.YtnegbdpggideiaaGreatDoor
namespace fw
open Go.RowKit Go.Shelf Net
attribute [local go_sem] Oper.semAt_some
end fw
end Go.Proofs.YtnegbdpggideiaaGreatDoor
namespace Go.Proofs.YtnegbdpggideiaaGreatDoor
namespace PW
open Go.RowKit cH Mem
inductive Up (k:Nat):PV→PV→Prop
 |pure {p:PV} [IsPure p]:Up k p p
 |own {i j:Nat}:j=k+i→Up k (.own i) (.own j)
 |ptr {i j o:Nat}:j=k+i→Up k (.ptr i o) (.ptr j o)
 |agg {xs ys:List PV} (hl:ys.length=xs.length) (hs:∀(j:Nat) x y,xs[j]? =some x→ys[j]? =some y→Up k x y):Up k (.agg xs) (.agg ys)
 |tuple {xs ys:List PV} (hl:ys.length=xs.length) (hs:∀(j:Nat) x y,xs[j]? =some x→ys[j]? =some y→Up k x y):Up k (.tuple xs) (.tuple ys)
 |func {f:FuncId} {xs ys:List PV} (hl:ys.length=xs.length) (hs:∀(j:Nat) x y,xs[j]? =some x→ys[j]? =some y→Up k x y):Up k (.func f xs) (.func f ys)
def kC(k:Nat)(xs ys:List PV):Prop:=ys.length=xs.length∧∀(j:Nat) x y,xs[j]? =some x→ys[j]? =some y→Up k x y
theorem kC.nil{k:Nat}:kC k [] []:=⟨rfl,fun j x y h=>by simp at h⟩
theorem kC.cons{k:Nat}{x y:PV}{xs ys:List PV}(h:Up k x y)(hs:kC k xs ys):kC k (x::xs) (y::ys):=⟨by simp[hs.1],fun j a b h1 h2=>by
 cases j with
 |zero=>simp at h1 h2;subst h1;subst h2;exact h
 |succ j=>exact hs.2 j a b (by simpa using h1) (by simpa using h2)⟩
theorem kC.pure{k:Nat}{xs:List PV}[h:aO xs]:kC k xs xs:=⟨rfl,fun j x y h1 h2=>by
 rw[h1]at h2;cases h2
 haveI:=h.out j x h1
 exact Up.pure⟩
theorem Up.fR{k:Nat}{xs ys:List PV}(h:kC k xs ys):Up k (.agg xs) (.agg ys):=.agg h.1 h.2
theorem Up.bx{k:Nat}{xs ys:List PV}(h:kC k xs ys):Up k (.tuple xs) (.tuple ys):=.tuple h.1 h.2
inductive IS (k:Nat):cZ→cZ→Prop
 |cells {ty:TypeId} {xs ys:List PV}:kC k xs ys→IS k (.cells ty xs) (.cells ty ys)
 |row {e s n:Nat} {xs ys:List PV}:kC k xs ys→IS k (.row e s n xs) (.row e s n ys)
 |mp {kv:List (Value×PV)} [aO (kv.map (·.2))]:IS k (.mp kv) (.mp kv)
def mf(k:Nat)(xs ys:List cZ):Prop:=ys.length=xs.length∧∀(j:Nat) x y,xs[j]? =some x→ys[j]? =some y→IS k x y
theorem mf.nil{k:Nat}:mf k [] []:=⟨rfl,fun j x y h=>by simp at h⟩
theorem mf.cons{k:Nat}{x y:cZ}{xs ys:List cZ}(h:IS k x y)(hs:mf k xs ys):mf k (x::xs) (y::ys):=⟨by simp[hs.1],fun j a b h1 h2=>by
 cases j with
 |zero=>simp at h1 h2;subst h1;subst h2;exact h
 |succ j=>exact hs.2 j a b (by simpa using h1) (by simpa using h2)⟩
section
variable {E E1 E2:Env} {w:World} {k:Nat}
theorem Up.rep(hat:∀i,i<E1.L→E2.at_ (k+i)=E1.at_ i∧k+i<E2.L)(hM:∀b,E2.M b→E1.M b){p q:PV}(h:Up k p q):∀v,cG E1 w v p→cG E2 w v q:=by
 induction h with
 | @pure p hp=>
  intro v h
  have:=hp.out E1 E2.M w v hM h
  exact this.goes (E:=EF E2.M) (E':=E2) (w:=w) (w':=w) ⟨Nat.zero_le _,fun i hi=>absurd hi (Nat.not_lt_zero i),fun _ _ h=>h,Nat.le_refl _,fun _ _ _=>rfl⟩
 | @own i j hij=>
  intro v h
  subst hij
  cases h with
  |own _ hi _ h hs=>exact .own _ (hat i hi).2 v ((hat i hi).1.trans h) hs
 | @ptr i j o hij=>
  intro v h
  subst hij
  cases h with
  |ptr _ _ b hi h=>exact .ptr _ o b (hat i hi).2 (by rw[(hat i hi).1];exact h)
 | @agg xs ys hl _ ih=>
  intro v h
  cases h with
  |agg cs _ hl' hr=>exact .agg cs ys (hl'.trans hl.symm) (fun j c u h1 h2=>by
    have hj:j<xs.length:=by rw[←hl];exact(List.getElem?_eq_some_iff.1 h2).1
    exact ih j xs[j] u (by simp[hj]) h2 c (hr j c _ h1 (by simp[hj])))
 | @tuple xs ys hl _ ih=>
  intro v h
  cases h with
  |tuple cs _ hl' hr=>exact .tuple cs ys (hl'.trans hl.symm) (fun j c u h1 h2=>by
    have hj:j<xs.length:=by rw[←hl];exact(List.getElem?_eq_some_iff.1 h2).1
    exact ih j xs[j] u (by simp[hj]) h2 c (hr j c _ h1 (by simp[hj])))
 | @func f xs ys hl _ ih=>
  intro v h
  cases h with
  |func _ cs _ hl' hr=>exact .func f cs ys (hl'.trans hl.symm) (fun j c u h1 h2=>by
    have hj:j<xs.length:=by rw[←hl];exact(List.getElem?_eq_some_iff.1 h2).1
    exact ih j xs[j] u (by simp[hj]) h2 c (hr j c _ h1 (by simp[hj])))
theorem kC.rep(hat:∀i,i<E1.L→E2.at_ (k+i)=E1.at_ i∧k+i<E2.L)(hM:∀b,E2.M b→E1.M b){xs ys:List PV}(h:kC k xs ys){cs:List Value}(hs:bb E1 w cs xs):bb E2 w cs ys:=⟨hs.1.trans h.1.symm,fun j c u h1 h2=>by
 have hj:j<xs.length:=by rw[←h.1];exact(List.getElem?_eq_some_iff.1 h2).1
 exact(h.2 j xs[j] u (by simp[hj]) h2).rep hat hM c (hs.2 j c _ h1 (by simp[hj]))⟩
theorem IS.sat{base base':Nat}(hb:base'≤base)(hat:∀i,i<E1.L→E2.at_ (k+i)=E1.at_ i∧k+i<E2.L)(hM:∀b,E2.M b→E1.M b){v:Value}{x y:cZ}(h:IS k x y)(hs:gM base E1 w v x):gM base' E2 w v y:=by
 cases h with
 |cells h1=>
  obtain⟨b,cs,h2,h3,h4,h5⟩:=hs
  exact⟨b,cs,h2,by omega,h4,h1.rep hat hM h5⟩
 |row h1=>
  obtain⟨cs,h2,h3⟩:=hs
  refine⟨cs,⟨h2.1,?_⟩,h1.rep hat hM h3⟩
  rcases h2.2 with h|⟨g,cap,cur,a1,a2,a3⟩
  ·exact .inl h
  ·exact .inr ⟨g,cap,cur,a1,by omega,a3⟩
 | @mp kv hp=>
  obtain⟨r,es,ck,h2,h3,h4,h5,h6⟩:=hs
  exact⟨r,es,ck,h2,by omega,h4,h5,kC.pure (k:=k).rep hat hM h6⟩
end
theorem bS.frame{P:Program}{f:FuncId}{ps:List PV}{σ:cm}{R:PV→cm→Prop}[aO ps]
  (h:bS P f ps [] (fun r σ1=>∃bs,σ1=bs.map some∧∃r' bs',Up σ.length r r'∧mf σ.length bs bs'∧R r' (σ++bs'.map some))):bS P f ps σ R:=fun F base E w vs hS hR=>by
 refine(h E.M w.heap.size (EF E.M) w vs (Sat.start E.M w (fun b hb=>hS.lt hb) hS.gl) (hR.pure (fun _ h=>h))).mono ?_
 rintro e w' ⟨v,r,σ1,E1,rfl,⟨bs,rfl,r',bs',hu,hbu,hRr⟩,hS1,hg1,hB1,hv⟩
 have hE:Ext w w':=hB1
 have hL1:E1.L=bs.length:=by rw[hS1.len];simp
 have hlen:((List.range bs.length).map E1.at_).length=bs'.length:=by rw[List.length_map,List.length_range,hbu.1]
 have hget:∀(i:Nat) v,((List.range bs.length).map E1.at_)[i]? =some v→i<bs.length∧v=E1.at_ i:=fun i v hi=>by
  have hi':i<bs.length:=by have:=(List.getElem?_eq_some_iff.1 hi).1;simpa using this
  rw[List.getElem?_map,List.getElem?_range hi']at hi
  cases hi
  exact⟨hi',rfl⟩
 have hbk:∀i,i<bs.length→∃x,bs[i]? =some x∧(bs.map some)[i]? =some (some x):=fun i hi=>⟨bs[i],by simp[hi],by simp[hi]⟩
 have hat:∀i,i<E1.L→(E.ew ((List.range bs.length).map E1.at_)).at_ (σ.length+i)=E1.at_ i∧σ.length+i<(E.ew ((List.range bs.length).map E1.at_)).L:=fun i hi=>by
  rw[hL1]at hi
  refine⟨?_,?_⟩
  ·simp only[Env.ew,hS.len]
   rw[if_neg (by omega),Nat.add_sub_cancel_left,List.getD_eq_getElem?_getD,List.getElem?_map,List.getElem?_range hi]
   rfl
  ·simp only[Env.ew,hS.len,List.length_map,List.length_range];omega
 have hM:∀b,(E.ew ((List.range bs.length).map E1.at_)).M b→E1.M b:=fun b hb=>by
  rcases hb with hb|⟨v,hv1,hv2⟩
  ·exact(hS1.mm b).2 (.inl hb)
  ·obtain⟨i,hi⟩:=List.getElem?_of_mem hv1
   obtain⟨hi1,rfl⟩:=hget i v hi
   obtain⟨x,_,hx⟩:=hbk i hi1
   exact(hS1.mm b).2 (.inr ⟨i,x,hx,hv2⟩)
 have hp:=hS.ew hE ((List.range bs.length).map E1.at_) bs' hlen
  (fun v hv1 b hb=>by
   obtain⟨i,hi⟩:=List.getElem?_of_mem hv1
   obtain⟨hi1,rfl⟩:=hget i v hi
   obtain⟨x,_,hx⟩:=hbk i hi1
   exact((hS1.blk i x hx).lt hb).1)
  (fun i j u v b hi hj hu hv=>by
   obtain⟨hi1,rfl⟩:=hget i u hi
   obtain⟨hj1,rfl⟩:=hget j v hj
   obtain⟨x,_,hx⟩:=hbk i hi1
   obtain⟨y,_,hy⟩:=hbk j hj1
   exact hS1.inj i j x y b hx hy hu hv)
  (fun i v blk hi hb=>by
   obtain⟨hi1,rfl⟩:=hget i v hi
   obtain⟨x,hx0,hx⟩:=hbk i hi1
   exact(hbu.2 i x blk hx0 hb).sat hS.bl hat hM (hS1.blk i x hx))
 exact⟨v,r',_,_,rfl,hRr,hp.1,hp.2,Below.iP hE hS.bl,hu.rep hat hM v hv⟩
end PW
end Go.Proofs.YtnegbdpggideiaaGreatDoor
namespace Go.Proofs.YtnegbdpggideiaaGreatDoor
namespace PW
open Go.RowKit cH Mem Net
theorem qS(T:an)(D:List Bool)(n:Int):Can Tryz.prog 53 [aN T,aQ D,num n] (· = .tuple [fZ (jS T D n),num (cf T D [n])]):=by
 refine aE Tryz.func53 rfl Tryz.ntmps53 rfl<|aP<|av 3 rfl<|aG [1,2,3,6] rfl ?_
 refine ah ?_
 obtain⟨q1,hq1⟩:∃q,ao T=q:=⟨_,rfl⟩
 obtain⟨q2,hq2⟩:∃q,bN T D=q:=⟨_,rfl⟩
 refine bu 22 (.raw (.bool ((!q1)||(!q2)))) [1,2,3,6] rfl ?_ ?_
 ·refine .a 1 rfl<|.c rfl (hq1▸eC T) rfl<|.a 2 rfl<|?_
  cases q1
  ·exact .a 5 rfl<|.k [22,1,2,3,6] rfl
  ·exact .a 2 rfl<|.c rfl (hq2▸lM T D (by have:=bJ hq1;omega)) rfl<|.a 2 rfl<|.k [22,1,2,3,6] rfl
 refine ag rfl (fun hc=>?_) (fun hc=>?_)
 ·have hch:cf T D [n]=1:=by
   unfold cf
   rw[hq1,hq2,if_neg]
   revert hc
   cases q1<;>cases q2<;>simp
  refine aP<|av 3 rfl<|aG [6,7] rfl ?_
  exact aq<|⟨_,_,aA.of rfl,aB.bx (aj.cons (aB.fR (aj.cons aB.pure<|aj.cons aB.bT<|aj.cons aB.bT aj.nil)) (aj.cons aB.pure aj.nil)),by unfold jS;rw[hch];rfl⟩
 ·have hok:(ao T&&bN T D)=true:=by
   rw[hq1,hq2]
   revert hc
   cases q1<;>cases q2<;>simp
  clear hc hq1 hq2
  refine ai<|ah<|ab (.a 2 rfl<|.c rfl (dv T n) rfl<|.a 1 rfl<|.k [1,2,3,6,27] rfl)<|ag rfl (fun hc=>?_) (fun hc=>?_)
  ·have hn:bd T n=false:=by revert hc;cases bd T n<;>simp
   have hch:cf T D [n]=2:=by
    unfold cf
    rw[if_pos hok,if_neg]
    simp[hn]
   refine aP<|av 3 rfl<|aG [6,7] rfl ?_
   exact aq<|⟨_,_,aA.of rfl,aB.bx (aj.cons (aB.fR (aj.cons aB.pure<|aj.cons aB.bT<|aj.cons aB.bT aj.nil)) (aj.cons aB.pure aj.nil)),by unfold jS;rw[hch];rfl⟩
  ·have hn:bd T n=true:=by revert hc;cases bd T n<;>simp
   have hch:cf T D [n]=0:=by
    unfold cf
    rw[if_pos hok,if_pos]
    simp[hn]
   obtain⟨hv,hf⟩:=Bool.and_eq_true_iff.1 hok
   rw[aT]at hn
   obtain⟨m,rfl⟩:=Int.eq_ofNat_of_zero_le hn.1
   obtain⟨N,hN⟩:∃N:Nat,T.nodes=(N:Int):=⟨T.nodes.toNat,by omega⟩
   have hN64:N≤64:=by have:=(aM hv).nodes;omega
   have hll:=bJ hv
   refine ai<|aP<|av 4 rfl<|aG [1,2,3,6,8] rfl ?_
   refine cn 1 1 76 3 rfl rfl ?_
   refine cn 1 2 3 1 rfl rfl ?_
   refine ah<|ab (.a 1 rfl<|.v (aL rfl ((show some (num T.nodes)=some (num (N:Int)) by rw[hN]))) rfl<|.a 1 rfl<|.k [1,2,3,6,8,32,33] rfl)<|au<|eu [1,2,3,6,8,32,33] rfl<|bf (fun r s=>∃j,j≤N∧r=N - j∧s=⟨[(1,aQ D),(2,num m),(3,.aY (bq T) 0),(6,.ptr 0 0),(8,.ptr 1 0),(32,num N),(33,num j)],[some (.cells 56 [num 0,.raw (.slice none 0 0),.raw (.slice none 0 0)]),some (.cells 56 [num m,.own 2,.own 3]),some (.row 76 3 j (di (oR T D m j))),some (.row 3 1 0 [])]⟩) N ⟨0,by omega,by omega,rfl⟩ ?_
   rintro r s ⟨j,hj,rfl,rfl⟩
   refine ab (.a 1 rfl<|.k [1,2,3,6,8,32,33,34] rfl)<|ah<|ag rfl (fun hc=>?_) (fun hc=>?_)
   ·have hlt:j<N:=by have:=of_decide_eq_true hc;omega
    have hne:bV T D (m:Int) (j:Int)=0:=by
     have hnb:bd T (j:Int)=true:=aT.2 ⟨by omega,by omega⟩
     have hch':cf T D [(j:Int)]=0:=by
      unfold cf
      rw[if_pos hok,if_pos]
      simp[hnb]
     unfold bV
     rw[if_pos hch',if_pos (aT.2 hn)]
    have hnx:Can Tryz.prog 109 [aN T,aQ D,num m,num j] (· = .tuple [aw (aX T D m j),num 0]):=by
     have h:=sd T D (m:Int) (j:Int)
     rw[hne]at h
     exact h
    refine ai<|ah<|au<|ab (.a 2 rfl<|.k [1,2,3,6,8,9,32,33] rfl)<|ab (.a 4 rfl<|.c rfl (hnx) rfl<|.a 5 rfl<|.k [1,2,3,6,8,10,32,33] rfl)<|bF<|av 3 rfl<|bC (EO (ia (xs:=[_,_,_]) rfl (bI.st.get rfl) rfl rfl) (kB.fR (.cons (kB.refl _)<|.cons (kB.refl _)<|.cons kB.bT .nil))) rfl<|av 1 rfl<|cp (bA rfl (bI.rk.get rfl) rfl rfl rfl rfl (by unfold maxLen;omega)) rfl<|av 2 rfl ?_
    refine dD [0,1,4,3] (.c 1<|.c 2<|.c 3<|.c 6<|.c 8<|.c 32<|.c 33<|.nil) (.kept rfl (.cells (aF.c<|aF.c<|aF.c<|aF.nil))<|.kept rfl (.cells (aF.c<|aF.c<|aF.c<|aF.nil))<|.kept rfl (.eJ rfl (show _=di (oR T D m (j+1)) by rw[xQ];exact kM _ ⟨aX T D m j,false,[]⟩))<|.kept rfl (.row aF.pure)<|.nil) rfl rfl (bc ?_)
    refine az (.v (aS rfl) rfl<|.a 1 rfl<|.k [1,2,3,6,8,32,33] rfl) ?_
    exact⟨N - (j+1),by omega,j+1,by omega,rfl,rfl⟩
   ·have hje:j=N:=by have:=of_decide_eq_false hc;omega
    subst hje
    refine ba<|ah ?_
    have hol:(bG T m).length≤512:=Nat.le_trans (ee T m _) (by omega)
    refine ab (.a 2 rfl<|.c rfl (oh T hll _) rfl<|.a 2 rfl<|.k [1,6,8,54,55,56] rfl)<|au<|eu [1,6,8,54,55,56] rfl<|bf (fun r s=>∃i,i≤(bG T m).length∧r=(bG T m).length - i∧s=⟨[(1,aQ D),(6,.ptr 0 0),(8,.ptr 1 0),(54,aw (bG T m)),(55,num (bG T m).length),(56,num i)],[some (.cells 56 [num 0,.raw (.slice none 0 0),.raw (.slice none 0 0)]),some (.cells 56 [num m,.own 2,.own 3]),some (.row 76 3 j (di (oR T D m j))),some (.row 3 1 (cr D ((bG T m).take i)).length (aR (cr D ((bG T m).take i))))]⟩) (bG T m).length ⟨0,by omega,by omega,rfl⟩ ?_
    rintro r s ⟨i,hi,rfl,rfl⟩
    refine ab (.a 1 rfl<|.k [1,6,8,54,55,56,57] rfl)<|ah<|ag rfl (fun hc=>?_) (fun hc=>?_)
    ·have hlt:i<(bG T m).length:=by have:=of_decide_eq_true hc;omega
     obtain⟨h0,h1⟩:=jz (bO (d:=0) hlt)
     obtain⟨a,ha⟩:=Int.eq_ofNat_of_zero_le h0
     have hDl:D.length=0∨a<D.length:=by simp only[bN,decide_eq_true_eq]at hf;omega
     have hstep:cr D ((bG T m).take (i+1))=cr D ((bG T m).take i)++(if aI D a then [(a:Int)] else []):=by
      unfold cr
      rw[dc _ i 0 hlt,List.filter_append,ha]
      simp only[List.filter_cons,List.filter_nil,Int.toNat_natCast]
     have hdl:(cr D ((bG T m).take i)).length≤1000:=Nat.le_trans (List.length_filter_le _ _) (by rw[List.length_take];have:=ee T m (2*T.ae.length);unfold bG at*;omega)
     refine ai<|ah<|au<|ab (.v (aJ (i) rfl) rfl<|.v (aL rfl ((ax _ i hlt).trans (by rw[ha]))) rfl<|.a 1 rfl<|.k [1,6,8,13,54,55,56] rfl)<|ab (.a 2 rfl<|.c rfl (jE D a hDl) rfl<|.k [1,6,8,13,54,55,56,62] rfl)<|ag rfl (fun hcd=>?_) (fun hcd=>?_)
     ·rw[hcd,if_pos rfl]at hstep
      refine bF<|av 4 rfl<|cp (bA rfl (bI.rk.get rfl) rfl rfl rfl rfl (by unfold maxLen;omega)) rfl<|av 2 rfl ?_
      refine dD [0,1,2,4] (.c 1<|.c 6<|.c 8<|.c 54<|.c 55<|.c 56<|.nil) (.kept rfl (.cells (aF.c<|aF.c<|aF.c<|aF.nil))<|.kept rfl (.cells (aF.c<|aF.c<|aF.c<|aF.nil))<|.kept rfl (.row aF.pure)<|.kept rfl (.eJ rfl (cN _ _))<|.nil) rfl rfl (bc ?_)
      refine az (.v (aS rfl) rfl<|.a 1 rfl<|.k [1,6,8,54,55,56] rfl) ?_
      refine⟨(bG T m).length - (i+1),by omega,i+1,by omega,rfl,?_⟩
      rw[hstep]
      first
       |rfl
       |(simp only[List.length_append,List.length_singleton];rfl)
     ·rw[hcd,if_neg (by simp),List.append_nil]at hstep
      refine ai<|az (.v (aS rfl) rfl<|.a 1 rfl<|.k [1,6,8,54,55,56] rfl) ?_
      refine⟨(bG T m).length - (i+1),by omega,i+1,by omega,rfl,?_⟩
      rw[hstep]
      first
       |rfl
       |(simp only[List.length_append,List.length_singleton];rfl)
    ·have hie:i=(bG T m).length:=by have:=of_decide_eq_false hc;omega
     subst hie
     refine ba<|aP<|bC (eR (ys:=[num m,.own 2,.own 3]) rfl (bI.tk.get rfl) rfl rfl rfl rfl) rfl<|av 2 rfl<|aG [6,7] rfl ?_
     refine aq<|⟨_,_,aA.of rfl,aB.bx (aj.cons (aB.fR (aj.cons aB.pure<|aj.cons (aB.eH rfl aj.pure)<|aj.cons (aB.eH rfl aj.pure) aj.nil)) (aj.cons aB.pure aj.nil)),?_⟩
     unfold jS
     rw[hch,if_pos rfl,List.take_length]
     unfold dK fZ fN jT aw
     rw[vo,show T.nodes.toNat=j by omega]
     rfl
end PW
end Go.Proofs.YtnegbdpggideiaaGreatDoor
