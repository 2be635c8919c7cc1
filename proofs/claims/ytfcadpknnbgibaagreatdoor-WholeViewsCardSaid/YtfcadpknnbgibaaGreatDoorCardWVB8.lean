/- Part 8. -/
import Derived.Test.YtfcadpknnbgibaaGreatDoorCardWVB7
set_option maxRecDepth 100000
set_option maxHeartbeats 4000000
namespace Go.Proofs.YtfcadpknnbgibaaGreatDoor
open Go.Proofs.Tryz
namespace PW
section
open Go.RowKit cm Mem
def iJ:bH->List Nat->bH->bH
 |σ,i::fs,b::τ=>iJ (σ.set i b) fs τ
 |σ,_,_=>σ
theorem eI:∀(fs:List Nat) (σ τ:bH),(iJ σ fs τ).length=σ.length
 | [],_,_=>by simp[iJ]
 |_::_,_,[]=>by simp[iJ]
 |i::fs,σ,b::τ=>by simp only[iJ];rw[eI fs];simp
theorem pQ:∀(fs:List Nat) (σ τ:bH) {i:Nat},i∉fs->(iJ σ fs τ)[i]? =σ[i]?
 | [],_,_,_,_=>by simp[iJ]
 |_::_,_,[],_,_=>by simp[iJ]
 |j::fs,σ,b::τ,i,h=>by
  simp only[V9,not_or]at h;simp only[iJ];rw[pQ fs _ _ h.2,VY (λe=>h.1 e.symm)]
theorem rT:∀(fs:List Nat) (σ τ:bH) {k i:Nat},fs.Nodup->(∀i∈fs,i<σ.length)->fs.length<=τ.length->fs[k]? =some i->(iJ σ fs τ)[i]? =τ[k]?
 | [],_,_,_,_,_,_,_,h=>by simp at h
 |_::_,_,[],_,_,_,_,hl,_=>by simp at hl
 |j::fs,σ,b::τ,k,i,hn,hlt,hl,h=>by
  simp only[Wv]at hn;simp only[iJ];cases k with
  |zero=>
   simp at h;subst h;rw[pQ fs _ _ hn.1,WC (hlt _ (VC ..))]
   rfl
  |succ k=>
   rw[rT fs _ τ hn.2 (λx hx=>by rw[VK];exact hlt x (VB _ hx)) (by simpa using hl) (by simpa using h)];simp
inductive uF (g:Nat->Nat):bH->bH->Prop
 |nil:uF g [] []
 |gone {σ τ:bH}:uF g σ τ->uF g (none::σ) (none::τ)
 |kept {b c:cj} {σ τ:bH}:E5 g b c->uF g σ τ->uF g (some b::σ) (some c::τ)
theorem uF.get{g:Nat->Nat}{σ τ:bH}(h:uF g σ τ):τ.length=σ.length/\∀(k:Nat) c,τ[k]? =some (some c)->∃b,σ[k]? =some (some b)/\E5 g b c:=by
 induction h with
 |nil=>exact⟨rfl,λk c h=>by simp at h⟩
 |gone _ ih=>exact⟨by simp[ih.1],λk c h=>by
   cases k with
   |zero=>simp at h
   |succ k=>exact ih.2 k c (by simpa using h)⟩
 |kept hb _ ih=>exact⟨by simp[ih.1],λk c h=>by
   cases k with
   |zero=>simp at h;subst h;exact⟨_,rfl,hb⟩
   |succ k=>exact ih.2 k c (by simpa using h)⟩
theorem uF.app{g:Nat->Nat}{σ τ σ' a}(h:uF g σ τ)(k:uF g σ' a):uF g (σ++σ') (τ++a):=by
 induction h with
 |nil=>exact k
 |gone _ ih=>exact .gone ih
 |kept hb _ ih=>exact .kept hb ih
theorem Ml{fs:List Nat}{σ}{i:Nat}(h:i∉fs):un fs σ i=true:=by
 cases hu:un fs σ i with
 |true=>rfl
 |false=>
  obtain⟨k,b,h1,_⟩:=uv hu;exact absurd (VE h1) h
theorem HM{l:List Nat}(h:gd l=true):l.Nodup:=by
 rw[WY,W7];intro i j hi hj a he;have:=nK h i j l[i] (by simp[hi]) (by rw[he];simp[hj]);omega
theorem Tg.put{σ σ0 c τ:bH}(fs:List Nat)(hn:gd fs=true)(hb:(fs.all λi=>Nat.blt i σ.length)=true)(hl:fs.length<=c.length)(hm:uF (bk fs σ.length) c τ):Tg σ fs σ0 c (iJ σ fs τ++τ.drop fs.length):=by
 obtain⟨h1,h2⟩:=hm.get;have hlt:∀i∈fs,i<σ.length:=λi hi=>Nat.blt_eq.mp (VG.1 hb i hi);refine⟨by rw[Vu,eI,XY,h1],λi g hi=>?_⟩;by_cases a:i<σ.length
 ·rw[Vl (by rw[eI];exact a)]at hi;by_cases f:i∈fs
  ·obtain⟨k,hk⟩:=W8 f;rw[rT fs σ τ (HM hn) hlt (by omega) hk]at hi;obtain⟨b,d,e⟩:=h2 k g hi;exact .inr ⟨k,b,d,e,.inl ⟨(Vf.1 hk).1,a,hk⟩⟩
  ·rw[pQ fs σ τ f]at hi;exact .inl ⟨a,Ml f,hi⟩
 ·rw[Vq (by rw[eI];omega),eI,WV]at hi;obtain⟨b,d,e⟩:=h2 _ g hi;exact .inr ⟨_,b,d,e,.inr ⟨by omega,by omega⟩⟩
section
variable {P:Program}
theorem aD.part{f ps d}{σ σ0:bH}{R:PV->bH->Prop}(fs:List Nat)(hn:gd fs=true)(ha:ax fs d ps)(c:eV fs σ σ0 fs)(hb:(fs.all λi=>Nat.blt i σ.length)=true)
  (h:aD P f d σ0 (λr a=>∃b τ,fs.length<=a.length/\Mw (bk fs σ.length) r b/\uF (bk fs σ.length) a τ/\R b (iJ σ fs τ++τ.drop fs.length))):aD P f ps σ R:=
 aD.Qr fs hn ha c hb (h.mono λ_ _ ⟨b,τ,h1,h2,e,g⟩=>⟨b,_,h2,.put fs hn hb h1 e,g⟩)
abbrev Y5:=@aD.part
theorem vy:∀(k:Nat) (A B X Y:bH),A.length=B.length->X.length=k->iJ (X++(A++Y)) ((List.range B.length).map (· +k)) B=X++(B++Y)
 |k,[],[],X,Y,_,_=>by simp[iJ]
 |k,a::A,b::B,X,Y,hl,d=>by
  have c:A.length=B.length:=by simpa using hl
  have e:(List.range (b::B).length).map (· +k)=k::(List.range B.length).map (· +(k+1)):=by
   rw[VI,List.range_succ_eq_map,VX,V7];simp only[Ws,Ys,true_and];exact Wh λx _=>by simp only[Function.comp_apply];omega
  rw[e];simp only[iJ];have f:(X++(a::A++Y)).set k b=(X++[b])++(A++Y):=by
   subst d;simp
  rw[f,vy (k+1) A B (X++[b]) Y c (by simp[d])];simp
 |_,[],_::_,_,_,hl,_=>by simp at hl
 |_,_::_,[],_,_,hl,_=>by simp at hl
theorem aD.low{f ps}{A X:bH}{R c:PV->bH->Prop}(k:fF A.length A)(a:ax (List.range A.length) ps ps)
  (h:aD P f ps A R) (m:∀r B,R r B->B.length=A.length/\Mw (bk (List.range A.length) (A++X).length) r r/\uF (bk (List.range A.length) (A++X).length) B B/\c r (B++X)):aD P f ps (A++X) c:=by
 have hl:(List.range A.length).length=A.length:=by simp
 refine Y5 (σ0:=A) (List.range A.length) (nodup_range _) a ?_ (VG.2 λi hi=>Nat.blt_eq.mpr (by have:=VP.1 hi;simp;omega)) (h.mono λr B l=>?_)
 ·exact ZG A (List.range A.length) (by simp) (λi b j h1 h2=>by
   have hi:=(Vf.1 h1).1;rw[cV hi]at h2;cases h2;exact⟨b,by rw[Vl hi];exact h1,k i b h1⟩)
 ·obtain⟨h1,h2,d,g⟩:=m r B l;refine⟨r,B,by rw[hl,h1];exact Vh _,h2,d,?_⟩;have e:=vy 0 A B [] X h1.symm rfl;simp only[WJ,Yf,List.map_id']at e;rw[h1]at e;rw[e,hl,Wi (by omega),V6];exact g
theorem Ren.more{fs gs:List Nat}{p q}(h:Ren fs p q):Ren (fs++gs) p q:=by
 have hm:∀ {i j:Nat},fs[i]? =some j->(fs++gs)[i]? =some j:=λ{i j} h=>by
  rw[Vl (Vf.1 h).1];exact h
 induction h with
 |pure=>exact .pure
 |any=>exact .any
 |own h=>exact .own (hm h)
 |ptr h=>exact .ptr (hm h)
 |agg hl _ ih=>exact .agg hl ih
 |tuple hl _ ih=>exact .tuple hl ih
 |func hl _ ih=>exact .func hl ih
 |bound hl _ ih=>exact .bound hl ih
theorem ax.more{fs gs:List Nat}{xs ys}(h:ax fs xs ys):ax (fs++gs) xs ys:=⟨h.1,λj x y h1 h2=>(h.2 j x y h1 h2).more⟩
theorem ji.more{fs gs:List Nat}{b c}(h:ji fs b c):ji (fs++gs) b c:=by
 cases h with
 |cells h=>exact .cells h.more
 |row h=>exact .row h.more
 |eZ h1 h2=>exact .eZ h1 h2
 |mp=>exact .mp
 |De h1 h2=>exact .De h1 h2.more
 |win h1 h2=>exact .win h1 h2.more
 |Af h1 h2=>exact .Af h1 h2.more
 |mK=>exact .mK
 |oB h=>exact .oB (by rw[Vl (Vf.1 h).1];exact h)
theorem QG{N L:Nat}{c t t'}{A:bH}{b b'}{Q:Exit->St->Prop}(f:fF A.length A)(hb:ji (List.range A.length++[A.length+1]) b' b)(hT:oy (List.range A.length++[A.length+1]) t t')(g:Nat.ble L A.length=true)(h:W P N L c ⟨t',A++[some b']⟩ Q):W P N L c ⟨t,A++[none,some b]⟩ Q:=by
 have hn:(List.range A.length++[A.length+1]).Nodup:=X7.2 ⟨XR,by simp,λa ha b hb=>by
  have:=VP.1 ha;simp at hb;omega⟩
 refine dM (List.range A.length++[A.length+1]) hT ?_ (gu _ hn) ?_ h
 ·refine ZG _ _ (by simp) λi e j h1 h2=>?_;by_cases hi:i<A.length
  ·rw[Vl (by simpa using hi),cV hi]at h2;rw[Vl hi]at h1;cases h2;exact⟨e,by rw[Vl hi];exact h1,(f i e h1).more⟩
  ·have d:i=A.length:=by
    have:=(Vf.1 h2).1;simp at this;omega
   subst d;rw[Vq (by simp)]at h2;rw[Vq (Vh _)]at h1;simp at h1 h2;subst h1;subst h2;exact⟨b,by rw[Vq (by omega)];simp,hb⟩
 ·have:∀k,k<=A.length->Dd (List.range A.length++[A.length+1]) k=true:=λk=>by
   induction k with
   |zero=>intro _;rfl
   |succ k ih=>
    intro hk;simp only[Dd];rw[Vl (by simp;omega),cV (show k<A.length by omega),ih (by omega)];simp
  exact this L (Nat.ble_eq.mp g)
theorem yS{N L:Nat}{c t t'}{A X:bH}{b b'}{Q:Exit->St->Prop}(i:Nat)(l:X[i]? =some (some b))(f:fF A.length A)(hb:ji (List.range A.length++[A.length+i]) b' b)(hT:oy (List.range A.length++[A.length+i]) t t')(g:Nat.ble L A.length=true)(h:W P N L c ⟨t',A++[some b']⟩ Q):W P N L c ⟨t,A++X⟩ Q:=by
 have hn:(List.range A.length++[A.length+i]).Nodup:=X7.2 ⟨XR,by simp,λa ha b hb=>by
  have:=VP.1 ha;simp at hb;omega⟩
 refine dM (List.range A.length++[A.length+i]) hT ?_ (gu _ hn) ?_ h
 ·refine ZG _ _ (by simp) λk e j h1 h2=>?_;by_cases hi:k<A.length
  ·rw[Vl (by simpa using hi),cV hi]at h2;rw[Vl hi]at h1;cases h2;exact⟨e,by rw[Vl hi];exact h1,(f k e h1).more⟩
  ·have d:k=A.length:=by
    have:=(Vf.1 h2).1;simp at this;omega
   subst d;rw[Vq (by simp)]at h2;rw[Vq (Vh _)]at h1;simp at h1 h2;subst h1;subst h2;exact⟨b,by rw[Vq (by omega),XT];exact l,hb⟩
 ·have:∀k,k<=A.length->Dd (List.range A.length++[A.length+i]) k=true:=λk=>by
   induction k with
   |zero=>intro _;rfl
   |succ k ih=>
    intro hk;simp only[Dd];rw[Vl (by simp;omega),cV (show k<A.length by omega),ih (by omega)];simp
  exact this L (Nat.ble_eq.mp g)
theorem Fb{N L:Nat}{c t t'}{A X:bH}{b b' r r'}{Q:Exit->St->Prop}(i:Nat)(m:X[i]? =some (some r))(g:fF A.length A)(hb:ji (List.range (A.length+1)++[A.length+1+i]) b' b)(hr:ji (List.range (A.length+1)++[A.length+1+i]) r' r)(hT:oy (List.range (A.length+1)++[A.length+1+i]) t t')(l:Nat.ble L A.length=true)(h:W P N L c ⟨t',A++[some b',some r']⟩ Q):W P N L c ⟨t,A++some b::X⟩ Q:=by
 have hn:(List.range (A.length+1)++[A.length+1+i]).Nodup:=X7.2 ⟨XR,by simp,λa ha b hb=>by
  have:=VP.1 ha;simp at hb;omega⟩
 refine dM (List.range (A.length+1)++[A.length+1+i]) hT ?_ (gu _ hn) ?_ h
 ·refine ZG _ _ (by simp) λk f j h1 h2=>?_;by_cases hi:k<A.length
  ·rw[Vl (by simp;omega),cV (by omega)]at h2;rw[Vl hi]at h1;cases h2;refine⟨f,by rw[Vl hi];exact h1,?_⟩;have:=(g k f h1).more (gs:=[A.length,A.length+1+i]);rw[WM,VU];exact this
  ·by_cases d:k=A.length
   ·subst d;rw[Vl (by simp),cV (by omega)]at h2;rw[Vq (Vh _)]at h1;simp at h1;cases h2;subst h1;exact⟨b,by simp,hb⟩
   ·have e:k=A.length+1:=by
     have:=(Vf.1 h2).1;simp at this;omega
    subst e;rw[Vq (by simp)]at h2;rw[Vq (by omega)]at h1;simp at h1 h2;subst h1;subst h2;exact⟨r,by rw[Vq (by omega),show A.length+1+i - A.length=i+1 by omega];simpa using m,hr⟩
 ·have:∀k,k<=A.length->Dd (List.range (A.length+1)++[A.length+1+i]) k=true:=λk=>by
   induction k with
   |zero=>intro _;rfl
   |succ k ih=>
    intro hk;simp only[Dd];rw[Vl (by simp;omega),cV (show k<A.length+1 by omega),ih (by omega)];simp
  exact this L (Nat.ble_eq.mp l)
theorem oP{n m i:Nat}(h:i<n):bk (List.range n) m i=i:=by
 unfold bk;rw[Vn (by simpa using h),Qo,cV h];rfl
theorem uF.opt{g:Nat->Nat}{b σ τ}(h:∀c,b=some c->E5 g c c)(hs:uF g σ τ):uF g (b::σ) (b::τ):=by
 cases b with
 |none=>exact .gone hs
 |some c=>exact .kept (h c rfl) hs
end
open Go.Maps Go.Sort Go.Shelf
theorem _root_.Eq.sto{kv kv':List (Int×PV)}(h:kv=kv'){σ σ':bH}(i:Nat)(hs:σ.set i (some (.mp (bD c7 kv')))=σ'):σ.set i (some (.mp (bD c7 kv)))=σ':=by rw[h];exact hs
theorem eY:jK prog 3 c7:=Kz Tryz.underlying3
theorem tW:qd prog 156=some (3,155):=by kernel_rfl
def P7(a:cC):List PV:=[num a.cn,num a.seq,num a.gM,flag a.over,eG a.cU,.slice 0 [],num 60]
def qG(a:cC):PV:=.agg (P7 a)
instance (a:cC):aM (P7 a):=by unfold P7;infer_instance
instance (a:cC):IsPure (qG a):=by unfold qG;infer_instance
def SZ:Value:=.agg #[.int .i64 0,.int .i64 0,.int .i64 0,.bool false,.slice none 0 0,.slice none 0 0,.int .i64 0]
theorem PI:MV prog 155=some SZ:=by kernel_rfl
def Dz(d:Db):Option cj:=some (.mp (bD c7 (ib qG d)))
def iW(d:Db):bH:=[Dz d,some (.cells 158 [.own 0])]
theorem ic(d:Db):fF 2 (iW d):=.cons (.mp)<|.cons (.cells (V0 (gU (show 0<2 by decide)) Wp)) .nil
theorem de.qh{P σ σ' σ'' t o p p'}(h:de P σ t o p σ')(hs:σ'=σ'')(hp:p=p':=by rfl):de P σ t o p' σ'':=by subst hp;subst hs;exact h
abbrev YD:=@de.qh
theorem wg{P:Program}{σ t}{o:Oper}{x y ty m}{i:Nat}{kv}(ho:o.op= .binOp .eql ty x y m)(hk:(P.underlying ty).isSome=true)(hm:(qd P ty).isSome=true)(hx:aI t x=some (.own i))(hi:σ[i]? =some (some (.mp kv)))(hy:aI t y=some (.raw (.map none))):bE P σ t o (.raw (.bool false)):=by
 intro F base E ρ w b f hT;have h1:=aB b hT hx;have h2:=aB b hT hy;generalize l:ρ x=z at h1;generalize c:ρ y=p at h2;cases h2;cases h1 with
 |own _ g _ a _=>
  obtain⟨r,n,ck,hr,_⟩:=f.blk i _ hi;rw[hr]at a;subst a;have hu:∃k e,P.underlying ty=some (.map k e):=by
   unfold qd at hm;split at hm
   ·rename_i k e h;exact⟨k,e,h⟩
   ·cases hm
  obtain⟨k,e,hu⟩:=hu;have key:∀d,(Op.equalIn (d+1) ty (.map (some r)) (.map none)).run P w= .ok false w:=λd=>by
   simp only[Op.equalIn,Sem.run_bind,run_underlying hu,Result.andThen_ok,Sem.run_pure]
  have j:(Op.equal ty (.map (some r)) (.map none)).run P w= .ok false w:=key 9999;simp only[execOp,ho,l,c,Sem.run_bind,eqGuard,binOp,ite_self,j,Result.andThen_ok,Sem.run_pure];exact bA (.raw _)
theorem j5(σ:bH):aD prog 51 [] σ (λr σ'=>r= .ptr (σ.length+1) 0/\σ'=σ++[Dz [],some (.cells 158 [.own σ.length])]):=by
 refine aV func51 I ntmps51 I<|aj (.a 1 I<|.k [] I)<|aK<|bW (mF c7 rfl) I<|av 1 I<|bW (dv I I I) I<|av 1 I<|aF [0] I ?_;exact aA<|⟨_,V5 I,by simp[IN],by simp[Dz,ib,bD]⟩
def I0:List PV:=[num 0,num 0,num 0,flag false,.raw (.slice none 0 0),.raw (.slice none 0 0),num 0]
theorem DA(d:Db)(a:cC)(ha:a.Ok)(hg:aN a.cn d=none):aD prog 98 [.ptr 1 0,dP a] (iW d) (λr σ'=>r= .tuple [num 1,num 0]/\σ'=iW (ke a d)):=by
 have hm:ir (a.cn:Int) (qG a) (ib qG d)=ib qG (ke a d):=sX qG a.cn a d;have hl:cQ (a.cn:Int) (ib qG d)=none:=by rw[gH,hg];rfl
 refine Xa<|aV func98 I ntmps98 I<|aK<|bW (dv I I I) I<|av 2 I<|aF [0,3] I ?_;refine an<|aj (.a 2 I<|.k [0,3,9] I)<|ak I (λhc=>?_) (λhc=>?_)
 ·cases hc
 ·refine ao<|an<|aj (.a 1 I<|.c rfl (dI a ha) I<|.a 1 I<|.k [0,3,12] I)<|ak I (λhc=>?_) (λhc=>?_)
  ·cases hc
  ·refine ao<|an<|kT 20 2 ((iW d++[some (.cells 141 (dp a))])::(iW d++[some (.cells 141 (dp a)),some (.cells 155 I0)])::(iW d++[some (.cells 141 (dp a)),some (.cells 155 I0)])::[]) (⟨_,none,0,1⟩::⟨_,none,0,1⟩::⟨_,none,0,1⟩::⟨_,none,0,1⟩::⟨_,none,0,1⟩::⟨_,none,0,1⟩::⟨.tuple [.raw SZ,flag false],none,0,1⟩::⟨_,none,0,1⟩::⟨_,none,0,1⟩::⟨_,none,0,2⟩::⟨_,some 0,0,0⟩::⟨_,some 1,0,0⟩::⟨_,none,2,2⟩::[]) _ mixed ?grd5 rfl rfl rfl rfl (.cons (.val [0] I I (yz (bF (aP I) (bF (aP I) b7))) I I)<|.cons (.val [14] I I (yz (bF (aP I) (bF (aP I) b7))) I I)<|.cons (.val [15] I I (yz (bF (aP I) (bF (aP I) b7))) I I)<|.cons (.val [16] I I (yz (bF (aP I) (bF (aP I) b7))) I I)<|.cons (.val [3] I I (yz (bF (aP I) (bF (aP I) b7))) I I)<|.cons (.val [18] I I (yz (bF (aP I) (bF (aP I) b7))) I I)<|.cons (.val [17,19] I I (yz (bF (eA eY (k:=(a.cn:Int)) I tW PI rfl rfl rfl (cz _) (by rw[hl];rfl) (by rw[hl];rfl)) (bF (eA eY (k:=(a.cn:Int)) I tW PI rfl rfl rfl (cz _) (by rw[hl];rfl) (by rw[hl];rfl)) b7))) I I)<|.cons (.val [20] I I (yz (bF (aP I) (bF (aP I) b7))) I I)<|.cons (.val [13] I I (yz (bF (aP I) (bF (aP I) b7))) I I)<|.cons (.val [13] I I (yz (bF (aP I) (bF (aP I) (bF (aP I) b7)))) I I)<|.cons (.tV [] I I I I (cG I) I I)<|.cons (.gT [6,21] I I I I (cG I) I)<|.cons (.val [22] I I (yz (bF (aP I) b7)) I I) .nil) (aJ (ks:=[0,3,6,7]) I) ?_
   case grd5=>kernel_rfl
   refine aj (.a 1 I<|.k [0,3,6,23] I)<|ak I (λhc=>?_) (λhc=>?_)
   ·cases hc
   ·refine ao<|an<|aj (.a 4 I<|.v (wg I (by kernel_rfl) (by kernel_rfl) I I I) I<|.k [0,3,36] I)<|ak I (λhc=>?_) (λhc=>?_)
    ·cases hc
    ·refine ao<|kT 20 1 ((iW d++[some (.cells 141 (dp a)),some (.cells 155 I0)])::(iW (ke a d)++[some (.cells 141 (dp a)),some (.cells 155 I0)])::[]) (⟨_,none,0,0⟩::⟨_,none,0,0⟩::⟨_,none,0,0⟩::⟨_,none,0,0⟩::⟨_,none,0,0⟩::⟨_,none,0,0⟩::⟨_,none,0,0⟩::⟨_,none,0,0⟩::⟨_,none,0,0⟩::⟨_,some 0,0,0⟩::[]) _ mixed ?grd6 rfl rfl rfl rfl (.cons (.val [0] I I (yz (bF (aP I) b7)) I I)<|.cons (.val [41] I I (yz (bF (aP I) b7)) I I)<|.cons (.val [42] I I (yz (bF (aP I) b7)) I I)<|.cons (.val [43] I I (yz (bF (aP I) b7)) I I)<|.cons (.val [3] I I (yz (bF (aP I) b7)) I I)<|.cons (.val [45] I I (yz (bF (aP I) b7)) I I)<|.cons (.val [3] I I (yz (bF (aP I) b7)) I I)<|.cons (.val [47] I I (yz (bF (dW I (nB a ha.len)) b7)) I I)<|.cons (.val [48] I I (yz (bF (aP I) b7)) I I)<|.cons (.gT [44,46,49] I I I I (YD (iP eY (k:=(a.cn:Int)) I tW rfl rfl rfl (cz _) I) (hm.sto 0 I)) I) .nil) (aJ (ks:=[]) I) ?_
     case grd6=>kernel_rfl
     exact aj (.a 2 I<|.k [4,5] I)<|aA<|⟨_,V5 I,iW (ke a d),_,rfl,Vh _,ic _,Ren.pure,rfl,rfl⟩
theorem DY{d}{a:cC}(hg:aN a.cn d=none):gm a d=(ke a d,1):=by unfold gm;rw[hg]
theorem DZ{d}{a x:cC}(hg:aN a.cn d=some x):gm a d=if x.seq<a.seq then(ke a d,1) else if a.seq=x.seq then(d,2) else(d,3):=by unfold gm;rw[hg]
theorem DB(d:Db)(a x:cC)(ha:a.Ok)(hx:x.Ok)(hs:oa a x)(hg:aN a.cn d=some x):aD prog 98 [.ptr 1 0,dP a] (iW d) (λr σ'=>r= .tuple [num (gm a d).2,num 0]/\σ'=iW (gm a d).1):=by
 have hm:ir (a.cn:Int) (qG a) (ib qG d)=ib qG (ke a d):=sX qG a.cn a d;have hl:cQ (a.cn:Int) (ib qG d)=some (qG x):=by rw[gH,hg];rfl
 have c:=DZ hg;refine Xa<|aV func98 I ntmps98 I<|aK<|bW (dv I I I) I<|av 2 I<|aF [0,3] I ?_;refine an<|aj (.a 2 I<|.k [0,3,9] I)<|ak I (λhc=>?_) (λhc=>?_)
 ·cases hc
 ·refine ao<|an<|aj (.a 1 I<|.c rfl (dI a ha) I<|.a 1 I<|.k [0,3,12] I)<|ak I (λhc=>?_) (λhc=>?_)
  ·cases hc
  ·refine ao<|an<|kT 20 2 ((iW d++[some (.cells 141 (dp a))])::(iW d++[some (.cells 141 (dp a)),some (.cells 155 I0)])::(iW d++[some (.cells 141 (dp a)),some (.cells 155 (P7 x))])::[]) (⟨_,none,0,1⟩::⟨_,none,0,1⟩::⟨_,none,0,1⟩::⟨_,none,0,1⟩::⟨_,none,0,1⟩::⟨_,none,0,1⟩::⟨.tuple [qG x,flag true],none,0,1⟩::⟨_,none,0,1⟩::⟨_,none,0,1⟩::⟨_,none,0,2⟩::⟨_,some 0,0,0⟩::⟨_,some 1,0,0⟩::⟨_,none,2,2⟩::[]) _ mixed ?grd7 rfl rfl rfl rfl (.cons (.val [0] I I (yz (bF (aP I) (bF (aP I) b7))) I I)<|.cons (.val [14] I I (yz (bF (aP I) (bF (aP I) b7))) I I)<|.cons (.val [15] I I (yz (bF (aP I) (bF (aP I) b7))) I I)<|.cons (.val [16] I I (yz (bF (aP I) (bF (aP I) b7))) I I)<|.cons (.val [3] I I (yz (bF (aP I) (bF (aP I) b7))) I I)<|.cons (.val [18] I I (yz (bF (aP I) (bF (aP I) b7))) I I)<|.cons (.val [17,19] I I (yz (bF (eA eY (k:=(a.cn:Int)) I tW PI rfl rfl rfl (cz _) (by rw[hl];rfl) (by rw[hl];rfl)) (bF (eA eY (k:=(a.cn:Int)) I tW PI rfl rfl rfl (cz _) (by rw[hl];rfl) (by rw[hl];rfl)) b7))) I I)<|.cons (.val [20] I I (yz (bF (aP I) (bF (aP I) b7))) I I)<|.cons (.val [13] I I (yz (bF (aP I) (bF (aP I) b7))) I I)<|.cons (.val [13] I I (yz (bF (aP I) (bF (aP I) (bF (aP I) b7)))) I I)<|.cons (.tV [] I I I I (cG I) I I)<|.cons (.gT [6,21] I I I I (cG I) I)<|.cons (.val [22] I I (yz (bF (aP I) b7)) I I) .nil) (aJ (ks:=[0,3,6,7]) I) ?_
   case grd7=>kernel_rfl
   refine aj (.a 1 I<|.k [0,3,6,23] I)<|ak I (λhc=>?_) (λhc=>?_)
   ·refine aj (.a 3 I<|.c rfl (pM a x ha hx hs) I<|.k [0,3,27] I)<|ay<|aj (.a 2 I<|.k [0,3,27,28] I)<|ak I (λhc=>?_) (λhc=>?_)
    ·have h0:=Vg hc;have b:gm a d=(d,2):=by rw[c];unfold nI at h0;split at h0<;>(try split at h0)<;>first|omega|(rw[Vk (by omega),Vn (by omega)])
     exact aj (.a 2 I<|.k [4,5] I)<|aA<|⟨_,V5 I,iW d,_,rfl,Vh _,ic _,Ren.pure,by rw[b];rfl,by rw[b]⟩
    ·have h0:=Vj hc;refine aj (.a 2 I<|.k [0,3,30] I)<|ak I (λhc=>?_) (λhc=>?_)
     ·have h1:=Vg hc;have b:gm a d=(d,3):=by rw[c];unfold nI at h1;split at h1<;>(try split at h1)<;>first|omega|(rw[Vk (by omega),Vk (by omega)])
      exact aj (.a 2 I<|.k [4,5] I)<|aA<|⟨_,V5 I,iW d,_,rfl,Vh _,ic _,Ren.pure,by rw[b];rfl,by rw[b]⟩
     ·have h1:=Vj hc;have b:gm a d=(ke a d,1):=by rw[c];unfold nI at h0 h1;split at h0<;>(try split at h0)<;>first|omega|(rw[Vn (by omega)])
      refine ao<|an<|aj (.a 4 I<|.v (wg I (by kernel_rfl) (by kernel_rfl) I I I) I<|.k [0,3,36] I)<|ak I (λhc=>?_) (λhc=>?_)
      ·cases hc
      ·refine ao<|kT 20 1 ((iW d++[some (.cells 141 (dp a)),some (.cells 155 (P7 x))])::(iW (ke a d)++[some (.cells 141 (dp a)),some (.cells 155 (P7 x))])::[]) (⟨_,none,0,0⟩::⟨_,none,0,0⟩::⟨_,none,0,0⟩::⟨_,none,0,0⟩::⟨_,none,0,0⟩::⟨_,none,0,0⟩::⟨_,none,0,0⟩::⟨_,none,0,0⟩::⟨_,none,0,0⟩::⟨_,some 0,0,0⟩::[]) _ mixed ?grd8 rfl rfl rfl rfl (.cons (.val [0] I I (yz (bF (aP I) b7)) I I)<|.cons (.val [41] I I (yz (bF (aP I) b7)) I I)<|.cons (.val [42] I I (yz (bF (aP I) b7)) I I)<|.cons (.val [43] I I (yz (bF (aP I) b7)) I I)<|.cons (.val [3] I I (yz (bF (aP I) b7)) I I)<|.cons (.val [45] I I (yz (bF (aP I) b7)) I I)<|.cons (.val [3] I I (yz (bF (aP I) b7)) I I)<|.cons (.val [47] I I (yz (bF (dW I (nB a ha.len)) b7)) I I)<|.cons (.val [48] I I (yz (bF (aP I) b7)) I I)<|.cons (.gT [44,46,49] I I I I (YD (iP eY (k:=(a.cn:Int)) I tW rfl rfl rfl (cz _) I) (hm.sto 0 I)) I) .nil) (aJ (ks:=[]) I) ?_
       case grd8=>kernel_rfl
       exact aj (.a 2 I<|.k [4,5] I)<|aA<|⟨_,V5 I,iW (ke a d),_,rfl,Vh _,ic _,Ren.pure,by rw[b];rfl,by rw[b]⟩
   ·cases hc
def fc(l:List Nat):PV:=bm (l.map Int.ofNat)
instance (l:List Nat):IsPure (fc l):=by unfold fc;infer_instance
theorem jv(l:List Nat)(k:Nat)(h:k<l.length):(cb (l.map Int.ofNat))[k]? =some (num (l.getD k 0:Nat)):=by
 simp[cb,Qo,h]
theorem xd(d:Db)(hk:∀x∈az d,x<1000)(hl:d.length<=1000):aD prog 88 [.ptr 1 0] (iW d) (λr σ'=>r=fc (bT (az d))/\σ'=iW d):=by
 have hs:bm (pn ((ib qG d).map (·.1)))=fc (bT (az d)):=by rw[zy,sZ];rfl
 refine Xa<|aV func88 I ntmps88 I<|aj (.a 1 I<|.k [0] I)<|an<|aj (.a 2 I<|.k [0,4] I)<|ak I (λhc=>?_) (λhc=>?_)
 ·cases hc
 ·refine ao<|aK<|av 4 I<|br I I (VO (GH (iW d) 0) (λ_ σ' h=>?_));obtain⟨rfl,rfl⟩:=h;refine aZ (wj (kv:=ib qG d) Tryz.Ul rfl rfl (by kernel_rfl) I I I (λx hx=>by obtain⟨y,hy,rfl⟩:=Vv.1 hx;have:=hk y.1 (Vv.2 ⟨y,hy,rfl⟩);simp only;omega) (by simpa[ib]using hl)) I<|av 1 I<|aF [2] I ?_;exact aA<|⟨_,V5 I,iW d,_,rfl,Vh _,ic _,Ren.pure,hs,rfl⟩
def NJ(P:Program)(s f:Nat):Option (Nat×Option Nat):=match P.underlying s with
 |some (.struct fs)=>match fs[f]? with
  |some fl=>(qU P fl.type).map λk=>(fl.offset,k)
  |none=>none
 |_=>none
theorem xj{P:Program}{s f off:Nat}{k:Option Nat}(h:NJ P s f=some (off,k)):∃fs fl,P.underlying s=some (.struct fs)/\fs[f]? =some fl/\fl.offset=off/\qU P fl.type=some k:=by
 unfold NJ at h;split at h
 ·rename_i fs hu;split at h
  ·rename_i fl a;simp only[Vr]at h;obtain⟨b,hk,he⟩:=h;cases he;exact⟨fs,fl,hu,a,rfl,hk⟩
  ·cases h
 ·cases h
theorem qR{P σ t}{o:Oper}{s f off n:Nat}{x}{xs ys:List PV}(ho:o.op= .field s x f)(l:NJ P s f=some (off,some n))(hx:aI t x=some (.agg xs))(hp:(xs.drop off).take n=ys):bE P σ t o (.agg ys):=by
 intro F base E ρ w j _ hT;have h1:=aB j hT hx;generalize p:ρ x=z at h1;cases h1 with
 |agg cs _ hl hr=>
  obtain⟨fs,fl,hu,e,b,hk⟩:=xj l;have k:bn E w cs.toList xs:=⟨by simpa using hl,λi x u h1 h2=>hr i x u (by simpa using h1) h2⟩;have c:∀w,(isAgg fl.type).run P w= .ok true w:=by
   intro w;have a:=hk;unfold qU at a;split at a
   ·rename_i d i h m;unfold isAgg;simp only[Sem.run_bind,run_underlying h,Result.andThen_ok];split at a<;>first|rfl|(cases a;done)|simp_all
   ·cases a
  have g:=λw=>pv hk w;have he:(cs.extract off (off+n)).toList=(cs.toList.drop off).take n:=by simp[Array.toList_extract,List.extract_eq_take_drop]
  simp only[execOp,ho,p,Instr.field,asAgg,Go.part,Sem.run_bind,run_underlying hu,Result.andThen_ok,e,b,c,g,Xr,Sem.run_pure,WH];refine bA ?_;have h2:=(k.drop off).take n;rw[<-he,hp]at h2;exact .agg _ _ (by rw[<-V3];exact h2.1) (λi x u k1 q=>h2.2 i x u (by rw[Xj];exact k1) q)
theorem kj{α:Type}{d:List (Nat×α)}{k:Nat}(h:k<(bT (az d)).length):(bT (az d)).getD k 0∈az d:=by
 rw[Qo,Vm h];exact eN.1 (Yl h)
theorem fC{α:Type}{d:List (Nat×α)}{o:Nat}(h:o∈az d):∃v,aN o d=some v:=by
 cases hg:aN o d with
 |none=>exact absurd h (mE.1 hg)
 |some v=>exact⟨v,rfl⟩
theorem lE{l:List Nat}(hn:l.Nodup){k:Nat}(h:k<(bT l).length):(bT l).getD k 0∉(bT l).take k:=by
 have a:=tJ hn;rw[Qo,Vm h];intro hm;obtain⟨i,hi,he⟩:=List.mem_iff_getElem.1 hm;rw[V8]at hi;rw[List.getElem_take]at he;exact W7.1 a i k (by omega) h (by omega) he
theorem jc(l:List Nat){k:Nat}(h:k<l.length):l.take (k+1)=l.take k++[l.getD k 0]:=by
 rw[XJ,Vm h,Qo,Vm h];rfl
def sP(_:Nat)(a:cC):cC:=a.uk (a.gM+1)
theorem Mf(d:Db):bL (bT (az d)) sP d=lY d:=mJ (λ_ h=>eN.2 h)
theorem GY(d:Db)(hn:(az d).Nodup)(hk:∀x∈az d,x<1000)(hl:d.length<=1000)(ha:∀o x,aN o d=some x->x.gM+1<3600):aD prog 63 [.ptr 1 0,num 1] (iW d) (λr σ'=>r= .raw (.slice none 0 0)/\σ'=iW (lY d)):=by
 have q:(bT (az d)).length=d.length:=by rw[ez];simp[az]
 generalize c:bT (az d)=S at*;have v:(S.map Int.ofNat).length=S.length:=by simp
 refine aV func63 I ntmps63 I<|aj (.a 1 I<|.k [0,1] I)<|aj (.a 1 I<|.k [0,1,5] I)<|an<|aj (.a 2 I<|.k [0,1,5,11] I)<|ak I (λhc=>?_) (λhc=>?_)
 ·cases hc
 ·refine ao<|an<|aK<|av 1 I<|br I I (VO ((c▸xd d hk hl)) (λ_ σ' h=>?_));obtain⟨rfl,rfl⟩:=h;refine av 2 I<|aF [0,1,5,14,15,16] I ?_;refine ay<|eX [0,1,5,14,15,16] I<|bq (λr s=>∃k,k<=S.length/\r=S.length - k/\s=⟨[(0,.ptr 1 0),(1,num 1),(5,.raw (.slice none 0 0)),(14,fc S),(15,num S.length),(16,num k)],iW (bL (S.take k) sP d)⟩) S.length ⟨0,by omega,rfl,by simp[fc,bm,jP]⟩ ?_;rintro r s ⟨k,u,rfl,rfl⟩;refine aj (.a 1 I<|.k [0,1,5,14,15,16,17] I)<|an<|ak I (λhc=>?_) (λhc=>?_)
  ·have hlt:k<S.length:=by have:=Vg hc;omega
   have f:=jv S k hlt;have b:=lE hn (k:=k) (by rw[c];exact hlt);have a:=kj (d:=d) (k:=k) (by rw[c];exact hlt);rw[c]at b a;have g:=jc S hlt;generalize S.getD k 0=o at f b a g;obtain⟨x,hx⟩:=fC a;have t:=ha o x hx;have i:aN o (bL (S.take k) sP d)=some x:=by rw[iX,hx];simp[b]
   have l:cQ (o:Int) (ib qG (bL (S.take k) sP d))=some (qG x):=by rw[gH,i];rfl
   have m:ir (o:Int) (qG (sP o x)) (ib qG (bL (S.take k) sP d))=ib qG (bL (S.take (k+1)) sP d):=by rw[sX,jQ hn hx,g]
   have n:decide ((x.gM:Int)<3600)=true:=VM (by omega);have p:decide ((1:Int)<((3600 - x.gM:Nat):Int))=true:=VM (by omega);refine ao<|an<|ay<|aj (.v (aX (k) I) I<|.v (aO I (f)) I<|.a 1 I<|.k [0,1,5,7,14,15,16] I)<|aK<|av 5 I<|aZ (fu eY (k:=(o:Int)) I tW PI rfl rfl rfl (cz _) (by rw[l];first|done|rfl)) I<|av 2 I<|aF [0,1,5,7,8,14,15,16] I ?_;refine aj (.a 2 I<|.k [0,1,5,7,8,9,14,15,16] I)<|an<|aj (.a 3 I<|.v (cT I (n)) I<|.k [0,1,5,7,8,9,14,15,16,30] I)<|ak I (λhc=>?_) (λhc=>?_)
   ·refine an<|aj (.a 4 I<|.v (aU I (hc:=(show(3600:Int) - (x.gM:Int)=((3600 - x.gM:Nat):Int) by omega))) I<|.v (cT I (p)) I<|.k [0,1,5,7,8,14,15,16,36] I)<|ak I (λhc=>?_) (λhc=>?_)
    ·refine aK<|av 4 I<|aZ (aU I (hc:=(show(x.gM:Int)+1=((x.gM+1:Nat):Int) by omega))) I<|av 3 I<|aF [0,1,5,7,8,14,15,16] I ?_;refine kT 20 1 ((iW (bL (S.take k) sP d)++[some (.cells 155 (P7 (sP o x)))])::(iW (bL (S.take (k+1)) sP d)++[some (.cells 155 (P7 (sP o x)))])::[]) (⟨_,none,0,0⟩::⟨_,none,0,0⟩::⟨_,none,0,0⟩::⟨_,none,0,0⟩::⟨_,none,0,0⟩::⟨_,none,0,0⟩::⟨_,some 0,0,0⟩::[]) _ mixed ?grd9 rfl rfl rfl rfl (.cons (.val [0] I I (yz (bF (aP I) b7)) I I)<|.cons (.val [44] I I (yz (bF (aP I) b7)) I I)<|.cons (.val [45] I I (yz (bF (aP I) b7)) I I)<|.cons (.val [46] I I (yz (bF (aP I) b7)) I I)<|.cons (.val [7] I I (yz (bF (aP I) b7)) I I)<|.cons (.val [8] I I (yz (bF (aP I) b7)) I I)<|.cons (.gT [47,48,49] I I I I (YD (iP eY (k:=(o:Int)) I tW rfl rfl rfl (cz _) I) (m.sto 0 I)) I) .nil) (aJ (ks:=[0,1,5,14,15,16]) I) ?_
     case grd9=>kernel_rfl
     refine ko (A:=iW (bL (S.take (k+1)) sP d)) (ic _) (.cons 0 I (gV (show 1<2 by decide))<|.c 1<|.c 5<|.c 14<|.c 15<|.c 16 .nil) I<|bh<|aL (.v (aU I) I<|.a 1 I<|.k [0,1,5,14,15,16] I) ?_;exact⟨S.length - (k+1),by omega,k+1,by omega,rfl,rfl⟩
    ·cases hc
   ·cases hc
  ·have j:k=S.length:=by have:=Vj hc;omega
   have e:bL (S.take k) sP d=lY d:=by rw[j,VN,<-c,Mf]
   exact bh<|aj (.a 2 I<|.k [4] I)<|aA<|⟨_,V5 I,rfl,by rw[e]⟩
theorem A6(d:Db)(o:Nat)(x:cC)(hx:aN o d=some x)(hl:x.cU.length<=256):aD prog 64 [.ptr 1 0,num o] (iW d) (λr σ'=>r= .tuple [dP x,flag true]/\σ'=iW d):=by
 have a:cQ (o:Int) (ib qG d)=some (qG x):=by rw[gH,hx];rfl
 refine Xa<|aV func64 I ntmps64 I<|aK<|av 2 I<|aF [0,1,4] I ?_;refine an<|aj (.a 2 I<|.k [0,1,4,9] I)<|ak I (λhc=>?_) (λhc=>?_)
 ·cases hc
 ·refine ao<|aK<|av 5 I<|aZ (eA eY (k:=(o:Int)) I tW PI rfl rfl rfl (cz _) (by rw[a];first|done|rfl) (by rw[a];first|done|rfl)) I<|av 6 I<|aF [4,6,7] I ?_;refine aK<|av 2 I<|fW I (nB x hl) I<|av 3 I<|aF [4,5] I ?_;exact aA<|⟨_,V5 I,iW d,_,rfl,Vh _,ic _,(Ren.pure:Ren _ (.tuple [dP x,flag true]) (.tuple [dP x,flag true])),rfl,rfl⟩
def mI(l:List cC):List PV:=l.flatMap dp
def oh(l:List cC):PV:=.slice l.length (mI l)
instance (l:List cC):aM (mI l):=Ym _ _ λ_=>inferInstance
instance (l:List cC):IsPure (oh l):=by unfold oh;infer_instance
theorem D7(l:List cC)(a:cC):mI l++dp a=mI (l++[a]):=by simp[mI]
def Oe:cC:=⟨0,0,0,false,[]⟩
theorem xB(l:List cC)(i:Nat)(hi:i<l.length):((mI l).drop (i*6)).take 6=dp (l.getD i Oe):=by
 induction l generalizing i with
 |nil=>cases hi
 |cons a l ih=>
  cases i with
  |zero=>simp[mI,dp]
  |succ i=>
   have:=ih i (by simpa using hi);rw[show(i+1)*6=6+i*6 by omega,<-X4];show(((dp a++mI l).drop 6).drop (i*6)).take 6=_;rw[show(dp a++mI l).drop 6=mI l from Yb rfl,this];simp
def wv(d:Db)(S:List Nat):List cC:=S.filterMap λo=>aN o d
theorem Gu{d}{S:List Nat}{o:Nat}{x}(h:aN o d=some x):wv d (S++[o])=wv d S++[x]:=by simp[wv,h]
theorem A5(d:Db)(hk:∀x∈az d,x<1000)(hl:d.length<=1000)(ha:∀o x,aN o d=some x->x.cU.length<=256):aD prog 47 [.ptr 1 0] (iW d) (λr σ'=>r=oh (gE d)/\σ'=iW d):=by
 have p:(bT (az d)).length=d.length:=by rw[ez];simp[az]
 have c:wv d (bT (az d))=gE d:=rfl;have a:∀k,k<(bT (az d)).length->(bT (az d)).getD k 0∈az d:=λk h=>kj h;have g:=xd d hk hl;generalize bT (az d)=S at*;have t:(S.map Int.ofNat).length=S.length:=by simp
 refine Xa<|aV func47 I ntmps47 I<|aj (.a 1 I<|.k [0] I)<|aj (.a 1 I<|.k [0,3] I)<|an<|aK<|av 1 I<|br I I (VO (g) (λ_ σ' h=>?_));obtain⟨rfl,rfl⟩:=h;refine av 2 I<|aF [0,3,7,8,9] I ?_;refine fe 3 141 6 I<|ay<|eX [0,3,7,8,9] I<|bq (λr s=>∃k,k<=S.length/\r=S.length - k/\s=⟨[(0,.ptr 1 0),(3,.own 2),(7,fc S),(8,num S.length),(9,num k)],iW d++[some (.row 141 6 (wv d (S.take k)).length (mI (wv d (S.take k))))]⟩) S.length ⟨0,by omega,rfl,by simp[fc,bm,wv,mI];rfl⟩ ?_;rintro r s ⟨k,q,rfl,rfl⟩;refine aj (.a 1 I<|.k [0,3,7,8,9,10] I)<|an<|ak I (λhc=>?_) (λhc=>?_)
 ·have hlt:k<S.length:=by have:=Vg hc;omega
  have e:=jv S k hlt;have a:=a k hlt;have f:=jc S hlt;generalize S.getD k 0=o at e a f;obtain⟨x,hx⟩:=fC a;have l:cQ (o:Int) (ib qG d)=some (qG x):=by rw[gH,hx];rfl
  have b:=Gu (S:=S.take k) hx;rw[<-f]at b;have m:(wv d (S.take k)).length<=k:=VL (YL ..) (by rw[V8];omega);refine ao<|an<|ay<|aj (.v (aX (k) I) I<|.v (aO I (e)) I<|.a 1 I<|.k [0,3,5,7,8,9] I)<|bp<|av 6 I<|aZ (fu eY (k:=(o:Int)) I tW PI rfl rfl rfl (cz _) (by rw[l];first|done|rfl)) I<|aZ (qR (off:=0) (n:=6) I (by kernel_rfl) I I) I<|fW I (nB x (ha o x hx)) I<|av 1 I<|bW (bP I (VW I) I I I I (by unfold maxLen;omega)) I<|av 1 I<|aF [0,3,7,8,9] I ?_;refine QG (A:=iW d) (b':=.row 141 6 (wv d (S.take (k+1))).length (mI (wv d (S.take (k+1))))) (ic d) (.eZ (by rw[b];simp) (by rw[b,<-D7];rfl)) (.c 0<|.cons 3 I (.own (i:=2) I)<|.c 7<|.c 8<|.c 9 .nil) I<|aL (.v (aU I) I<|.a 1 I<|.k [0,3,7,8,9] I) ?_;exact⟨S.length - (k+1),by omega,k+1,by omega,rfl,rfl⟩
 ·have j:k=S.length:=by have:=Vj hc;omega
  refine bh<|aj (.a 2 I<|.k [2] I)<|sy 2 2 I I ?_;exact aA<|⟨_,V5 I,iW d,_,rfl,Vh _,ic _,Ren.pure,by rw[j,VN,c];rfl,rfl⟩
theorem jH:qd prog 210=some (3,208):=by kernel_rfl
theorem j8:qd prog 188=some (3,210):=by kernel_rfl
theorem qj:MV prog 210=some (.map none):=by kernel_rfl
def MS(x:cC×Nat):List PV:=[num x.1.cn,num x.1.seq,num x.1.gM,flag x.1.over,eG x.1.cU,.slice 0 [],num x.2]
def kO(x:cC×Nat):PV:=.agg (MS x)
instance (x:cC×Nat):aM (MS x):=by unfold MS;infer_instance
instance (x:cC×Nat):IsPure (kO x):=by unfold kO;infer_instance
theorem wm:MV prog 208=some SZ:=by kernel_rfl
def Lu(p:Pm):cj:=.mp (bD c7 (ib kO p))
def fT(nb:Nb)(k:Nat):Option cj:=(aN k nb).map Lu
def fS(b:Nat)(nb:Nb):List (Int×PV):=nb.map λx=>((x.1:Int),.own (x.1+b))
def mN(nb:Nb):bH:=[fT nb 0,fT nb 1,fT nb 2,fT nb 3,fT nb 4,fT nb 5,fT nb 6,fT nb 7]
def Bi(iv:Nat)(b:Nat)(nb:Nb):bH:=[some (.mp (bD c7 (fS b nb))),some (.cells 190 [num iv,.own 0])]
def cq(iv:Nat)(nb:Nb):bH:=Bi iv 2 nb++mN nb
theorem lU(nb:Nb){k:Nat}(h:k<8):(mN nb)[k]? =some (fT nb k):=by
 rcases(show k=0\/k=1\/k=2\/k=3\/k=4\/k=5\/k=6\/k=7 by omega)with rfl|rfl|rfl|rfl|rfl|rfl|rfl|rfl<;>rfl
theorem rS(nb:Nb)(j k:Nat)(q:Pm):fT (bS k q nb) j=if j=k then some (Lu q) else fT nb j:=by
 unfold fT;rw[fI];split<;>rfl
theorem ON(nb:Nb){k:Nat}(h:k<8)(q:Pm):(mN nb).set k (some (Lu q))=mN (bS k q nb):=by
 simp only[mN,rS];rcases(show k=0\/k=1\/k=2\/k=3\/k=4\/k=5\/k=6\/k=7 by omega)with rfl|rfl|rfl|rfl|rfl|rfl|rfl|rfl<;>rfl
theorem FG(b k:Nat)(nb:Nb):cQ (k:Int) (fS b nb)=(aN k nb).map λ_=>.own (k+b):=by
 induction nb with
 |nil=>rfl
 |cons x l ih=>
  obtain⟨a,v⟩:=x;simp only[fS,VX,cQ,aN];by_cases h:k=a
  ·simp[h]
  ·rw[Vk h,Vk (by omega)];exact ih
theorem K5(b:Nat){nb a}(h:az nb=az a):fS b nb=fS b a:=by
 have e:∀nb:Nb,fS b nb=(az nb).map fun(k:Nat)=>((k:Int),PV.own (k+b)):=λnb=>by simp[fS,az]
 rw[e,e,h]
theorem gF{iv:Nat}{nb}{k:Nat}{p}(hk:k<8)(h:aN k nb=some p)(X:bH):(cq iv nb++X)[k+2]? =some (some (Lu p)):=by
 show(mN nb++X)[k]? =_;rw[Vl hk,lU nb hk,fT,h];rfl
theorem pH{iv:Nat}{nb}{k:Nat}{p q}(hk:k<8)(h:aN k nb=some p)(X:bH):(cq iv nb++X).set (k+2) (some (Lu q))=cq iv (bS k q nb)++X:=by
 have hm:k∈az nb:=by
  cases hd:decide (k∈az nb)with
  |true=>exact Vg hd
  |false=>rw[mE.2 (Vj hd)]at h;cases h
 show Bi iv 2 nb++(mN nb++X).set k _=(Bi iv 2 (bS k q nb)++mN (bS k q nb))++X;rw[List.set_append_left _ _ hk,ON nb hk,VU];unfold Bi;rw[K5 2 (nD hm)]
theorem zT(b:Nat)(nb:Nb)(n:Nat)(h:∀x∈az nb,x<8)(hn:8+b<=n):ax (List.range n) ((bD c7 (fS b nb)).map (·.2)) ((bD c7 (fS b nb)).map (·.2)):=⟨rfl,λj x y h1 h2=>by
 rw[h1]at h2;cases h2;simp only[bD,fS,V7,Vt,Vr]at h1;obtain⟨z,a,rfl⟩:=h1;have:=h z.1 (Vv.2 ⟨z,VE a,rfl⟩);exact gU (by omega)⟩
theorem fF.opt{n:Nat}{b σ}(h:∀c,b=some c->ji (List.range n) c c)(hs:fF n σ):fF n (b::σ):=by
 cases b with
 |some c=>exact .cons (h c rfl) hs
 |none=>
  intro i c hc;cases i with
  |zero=>simp at hc
  |succ i=>exact hs i c (by simpa using hc)
theorem nN{n:Nat}{nb}{k:Nat}:∀c,fT nb k=some c->ji (List.range n) c c:=λc h=>by
 unfold fT at h;simp only[Vr]at h;obtain⟨p,_,rfl⟩:=h;exact .mp
theorem zN(n:Nat)(nb:Nb):fF n (mN nb):=.opt nN<|.opt nN<|.opt nN<|.opt nN<|.opt nN<|.opt nN<|.opt nN<|.opt nN .nil
theorem dL(iv:Nat)(nb:Nb)(h:∀x∈az nb,x<8):fF 10 (cq iv nb):=
 .cons (.De rfl (zT 2 nb 10 h (by omega)))<|.cons (.cells (V0 Ren.pure (V0 (gU (by omega)) Wp))) (zN 10 nb)
theorem ku{g:Nat->Nat}{nb}{k:Nat}:∀c,fT nb k=some c->E5 g c c:=λc h=>by
 unfold fT at h;simp only[Vr]at h;obtain⟨p,_,rfl⟩:=h;exact .mp rfl Ye
theorem nO(g:Nat->Nat)(nb:Nb):uF g (mN nb) (mN nb):=.opt ku<|.opt ku<|.opt ku<|.opt ku<|.opt ku<|.opt ku<|.opt ku<|.opt ku .nil
theorem Ee{g:Nat->Nat}{b b':Nat}{nb}(h:∀x∈az nb,x<8)(hg:∀k,k<8->g (k+b)=k+b'):fB g ((bD c7 (fS b nb)).map (·.2)) ((bD c7 (fS b' nb)).map (·.2)):=⟨by simp[bD,fS],λj x y h1 h2=>by
 simp only[bD,fS,V7,Vt,Vr]at h1 h2;obtain⟨z,c,rfl⟩:=h1;obtain⟨d,a,rfl⟩:=h2;rw[c]at a;cases a;exact .own (hg _ (h z.1 (Vv.2 ⟨z,VE c,rfl⟩)))⟩
theorem K6(b b':Nat)(nb:Nb):(bD c7 (fS b nb)).map (·.1)=(bD c7 (fS b' nb)).map (·.1):=by simp[bD,fS]
theorem Ka{g:Nat->Nat}(iv:Nat){nb}(h:∀x∈az nb,x<8)(hg:∀k,k<10->g k=k):uF g (cq iv nb) (cq iv nb):=
 .kept (.mp rfl (Ee h λk hk=>hg _ (by omega)))<|.kept (.cells (XN Mw.pure (XN (.own (hg 0 (by omega))) Y9))) (nO g nb)
theorem ld{f c}[aM c]{iv:Nat}{nb a p}[IsPure p](h8:∀x∈az nb,x<8)(b:∀x∈az a,x<8)(X:bH)(h:aD prog f (.ptr 1 0::c) (cq iv nb) (λr σ'=>r=p/\σ'=cq iv a)):aD prog f (.ptr 1 0::c) (cq iv nb++X) (λr σ'=>r=p/\σ'=cq iv a++X):=
 aD.low (dL iv nb h8) (V0 (gV (show 1<10 by decide)) VT) h (by
  rintro r B ⟨rfl,rfl⟩;exact⟨rfl,Mw.pure,Ka iv b λk hk=>oP hk,rfl,rfl⟩)
theorem aD.any{f ps σ}{R:bH->Prop}(h:aD prog f ps σ (λ_ σ'=>R σ')):aD prog f ps σ (λr σ'=>r= .any/\R σ'):=λF base E w vs c b=>by
 refine(h F base E w vs c b).mono ?_;rintro e w' ⟨v,r,σ',E',rfl,a,h⟩;exact⟨v,.any,σ',E',rfl,⟨rfl,a⟩,h.1,h.2.1,h.2.2.1,.any _⟩
abbrev Zu:=@aD.any
theorem HI(σ:bH)(i:Nat):aD prog 145 [.own i] σ (λr σ'=>r= .func 198 [.ptr σ.length 0]/\σ'=σ++[some (.cells 188 [.own i])]):=by
 refine aV func145 I ntmps145 I<|aK<|bW (dv (xs:=[_]) I I I) I<|av 1 I<|aF [1] I ?_;exact aj (.a 2 I<|.k [2] I)<|aA<|⟨_,V5 I,rfl,rfl⟩
theorem H2(σ:bH)(i:Nat):aD prog 150 [.own i] σ (λr σ'=>r= .func 205 [.ptr σ.length 0]/\σ'=σ++[some (.cells 210 [.own i])]):=by
 refine aV func150 I ntmps150 I<|aK<|bW (dv (xs:=[_]) I I I) I<|av 1 I<|aF [1] I ?_;exact aj (.a 2 I<|.k [2] I)<|aA<|⟨_,V5 I,rfl,rfl⟩
theorem Ov(b:Nat)(nb:Nb):(fS b nb).map (·.1)=(az nb).map Int.ofNat:=by simp[fS,az]
theorem kZ(iv:Nat)(nb:Nb)(h8:∀x∈az nb,x<8)(hl:nb.length<=1000):aD prog 104 [.ptr 1 0] (cq iv nb) (λr σ'=>r=fc (bT (az nb))/\σ'=cq iv nb):=by
 have hs:bm (pn ((fS 2 nb).map (·.1)))=fc (bT (az nb)):=by rw[Ov,sZ];rfl
 refine Xa<|aV func104 I ntmps104 I<|aj (.a 1 I<|.k [0] I)<|an<|aj (.a 2 I<|.k [0,4] I)<|ak I (λhc=>?_) (λhc=>?_)
 ·cases hc
 ·refine ao<|aK<|av 4 I<|br I I (VO (HI (cq iv nb) 0) (λ_ σ' h=>?_));obtain⟨rfl,rfl⟩:=h;refine aZ (wj (kv:=fS 2 nb) Tryz.Um rfl rfl (by kernel_rfl) I I I (λx hx=>by obtain⟨y,hy,rfl⟩:=Vv.1 hx;have:=h8 y.1 (Vv.2 ⟨y,hy,rfl⟩);simp only;omega) (by simpa[fS]using hl)) I<|av 1 I<|aF [2] I ?_;exact aA<|⟨_,V5 I,cq iv nb,_,rfl,Vh _,dL iv nb h8,Ren.pure,hs,rfl⟩
theorem ju{b k:Nat}{nb p}(h:aN k nb=some p):cQ (k:Int) (fS b nb)=some (.own (k+b)):=by rw[FG,h];rfl
theorem ij{α:Type}{k:Nat}{l:List (Nat×α)}{v}(h:aN k l=some v):k∈az l:=Vv.2 ⟨(k,v),Hi h,rfl⟩
theorem kp{nb:Nb}{lk:Nat}{p q:Pm}(h8:∀x∈az nb,x<8)(hp:aN lk nb=some p):∀x∈az (bS lk q nb),x<8:=by rw[nD (ij hp)];exact h8
theorem Kf(σ:bH):aD prog 52 [num 2] σ (λr σ'=>r= .tuple [.ptr (σ.length+1) 0,num 0]/\σ'=σ++[some (.mp (bD c7 [])),some (.cells 190 [num 2,.own σ.length])]):=by
 refine aV func52 I ntmps52 I<|aj (.a 2 I<|.k [0] I)<|an<|aj (.a 6 I<|.k [0,9] I)<|ak I (λhc=>?_) (λhc=>?_)
 ·cases hc
 ·refine ao<|aK<|av 1 I<|bW (mF c7 rfl) I<|av 1 I<|bW (dv I I I) I<|av 2 I<|aF [2,3] I ?_;exact aA<|⟨_,V5 I,by simp[IN],by simp[bD]⟩
theorem Bl(iv:Nat)(nb:Nb)(lk:Nat)(p:Pm)(a:cC)(h8:∀x∈az nb,x<8)(b:lk<8)(hp:aN lk nb=some p)(ha:a.Ok)(hg:aN a.cn p=none):aD prog 105 [.ptr 1 0,num lk,dP a] (cq iv nb) (λ_ σ'=>σ'=cq iv (bS lk (dD a p) nb)):=by
 have c:cQ (lk:Int) (fS 2 nb)=some (.own (lk+2)):=ju hp;have hl:cQ (a.cn:Int) (ib kO p)=none:=by rw[gH,hg];rfl
 have hm:ir (a.cn:Int) (kO (a,0)) (ib kO p)=ib kO (dD a p):=by rw[sX];unfold dD;rw[hg]
 have d:=kp (q:=dD a p) h8 hp;refine Xa<|aV func105 I ntmps105 I<|aK<|bW (dv I I I) I<|aF [0,1,5] I ?_;refine kT 20 2 ((cq iv nb++[some (.cells 141 (dp a))])::(cq iv nb++[some (.cells 141 (dp a)),some (.cells 208 I0)])::(cq iv nb++[some (.cells 141 (dp a)),some (.cells 208 I0)])::[]) (⟨_,none,0,1⟩::⟨_,none,0,1⟩::⟨_,none,0,1⟩::⟨_,none,0,1⟩::⟨_,none,0,1⟩::⟨.own (lk+2),none,0,1⟩::⟨_,none,0,1⟩::⟨_,none,0,1⟩::⟨.tuple [.raw SZ,flag false],none,0,1⟩::⟨_,none,0,1⟩::⟨_,none,0,1⟩::⟨_,none,0,2⟩::⟨_,some 0,0,0⟩::⟨_,some 1,0,0⟩::⟨_,none,2,2⟩::[]) _ mixed ?grd10 rfl rfl rfl rfl (.cons (.val [0] I I (yz (bF (aP I) (bF (aP I) b7))) I I)<|.cons (.val [9] I I (yz (bF (aP I) (bF (aP I) b7))) I I)<|.cons (.val [10] I I (yz (bF (aP I) (bF (aP I) b7))) I I)<|.cons (.val [11] I I (yz (bF (aP I) (bF (aP I) b7))) I I)<|.cons (.val [1] I I (yz (bF (aP I) (bF (aP I) b7))) I I)<|.cons (.val [12,13] I I (yz (bF (fu eY (k:=(lk:Int)) I j8 qj rfl rfl rfl (cz _) (by rw[c];first|done|rfl)) (bF (fu eY (k:=(lk:Int)) I j8 qj rfl rfl rfl (cz _) (by rw[c];first|done|rfl)) b7))) I I)<|.cons (.val [5] I I (yz (bF (aP I) (bF (aP I) b7))) I I)<|.cons (.val [15] I I (yz (bF (aP I) (bF (aP I) b7))) I I)<|.cons (.val [14,16] I I (yz (bF (eA eY (k:=(a.cn:Int)) I jH wm rfl (gF b hp _) I (cz _) (by rw[hl];first|done|rfl) (by rw[hl];first|done|rfl)) (bF (eA eY (k:=(a.cn:Int)) I jH wm rfl (gF b hp _) I (cz _) (by rw[hl];first|done|rfl) (by rw[hl];first|done|rfl)) b7))) I I)<|.cons (.val [17] I I (yz (bF (aP I) (bF (aP I) b7))) I I)<|.cons (.val [8] I I (yz (bF (aP I) (bF (aP I) b7))) I I)<|.cons (.val [8] I I (yz (bF (aP I) (bF (aP I) (bF (aP I) b7)))) I I)<|.cons (.tV [] I I I I (cG I) I I)<|.cons (.gT [6,18] I I I I (cG I) I)<|.cons (.val [19] I I (yz (bF (aP I) b7)) I I) .nil) (aJ (ks:=[0,1,5,6,7]) I) ?_
 case grd10=>kernel_rfl
 refine aj (.a 9 I<|.k [0,1,5,28] I)<|ak I (λhc=>?_) (λhc=>?_)
 ·refine oL 20 1 ((cq iv nb++[some (.cells 141 (dp a)),some (.cells 208 I0)])::(cq iv (bS lk (dD a p) nb)++[some (.cells 141 (dp a)),some (.cells 208 I0)])::[]) (⟨_,none,0,0⟩::⟨_,none,0,0⟩::⟨_,none,0,0⟩::⟨_,none,0,0⟩::⟨_,none,0,0⟩::⟨.own (lk+2),none,0,0⟩::⟨_,none,0,0⟩::⟨_,none,0,0⟩::⟨_,none,0,0⟩::⟨_,none,0,0⟩::⟨_,none,0,0⟩::⟨_,some 0,0,0⟩::[]) _ mixed ?grd11 rfl rfl rfl rfl (.cons (.val [0] I I (yz (bF (aP I) b7)) I I)<|.cons (.val [29] I I (yz (bF (aP I) b7)) I I)<|.cons (.val [30] I I (yz (bF (aP I) b7)) I I)<|.cons (.val [31] I I (yz (bF (aP I) b7)) I I)<|.cons (.val [1] I I (yz (bF (aP I) b7)) I I)<|.cons (.val [32,33] I I (yz (bF (fu eY (k:=(lk:Int)) I j8 qj rfl rfl rfl (cz _) (by rw[c];first|done|rfl)) b7)) I I)<|.cons (.val [5] I I (yz (bF (aP I) b7)) I I)<|.cons (.val [35] I I (yz (bF (aP I) b7)) I I)<|.cons (.val [5] I I (yz (bF (aP I) b7)) I I)<|.cons (.val [37] I I (yz (bF (dW I (qD a ha.len)) b7)) I I)<|.cons (.val [38] I I (yz (bF (aP I) b7)) I I)<|.cons (.gT [34,36,39] I I I I (YD (iP eY (k:=(a.cn:Int)) I jH rfl (gF b hp _) I (cz _) I) (hm.sto (lk+2) (pH b hp _))) I) .nil) (aJ (ks:=[]) I) ?_
  case grd11=>kernel_rfl
  exact⟨_,V5 I,cq iv (bS lk (dD a p) nb),_,rfl,Vh _,dL iv _ d,Ren.pure,rfl⟩
 ·cases hc
theorem Bn(iv:Nat)(nb:Nb)(lk:Nat)(p:Pm)(a:cC)(x:cC×Nat)(h8:∀x∈az nb,x<8)(c:lk<8)(hp:aN lk nb=some p)(ha:a.Ok)(hg:aN a.cn p=some x)(hx:x.1.Ok)(hs:oa a x.1):aD prog 105 [.ptr 1 0,num lk,dP a] (cq iv nb) (λ_ σ'=>σ'=cq iv (bS lk (dD a p) nb)):=by
 have d:cQ (lk:Int) (fS 2 nb)=some (.own (lk+2)):=ju hp;have hl:cQ (a.cn:Int) (ib kO p)=some (kO x):=by rw[gH,hg];rfl
 have g:dD a p=if x.1.seq<a.seq then bS a.cn (a,0) p else p:=by unfold dD;rw[hg]
 have e:=kp (q:=dD a p) h8 hp;have f:∀q,aN lk nb=some q->bS lk q nb=nb:=λq h=>jU h;refine Xa<|aV func105 I ntmps105 I<|aK<|bW (dv I I I) I<|aF [0,1,5] I ?_;refine kT 20 2 ((cq iv nb++[some (.cells 141 (dp a))])::(cq iv nb++[some (.cells 141 (dp a)),some (.cells 208 I0)])::(cq iv nb++[some (.cells 141 (dp a)),some (.cells 208 (MS x))])::[]) (⟨_,none,0,1⟩::⟨_,none,0,1⟩::⟨_,none,0,1⟩::⟨_,none,0,1⟩::⟨_,none,0,1⟩::⟨.own (lk+2),none,0,1⟩::⟨_,none,0,1⟩::⟨_,none,0,1⟩::⟨.tuple [kO x,flag true],none,0,1⟩::⟨_,none,0,1⟩::⟨_,none,0,1⟩::⟨_,none,0,2⟩::⟨_,some 0,0,0⟩::⟨_,some 1,0,0⟩::⟨_,none,2,2⟩::[]) _ mixed ?grd12 rfl rfl rfl rfl (.cons (.val [0] I I (yz (bF (aP I) (bF (aP I) b7))) I I)<|.cons (.val [9] I I (yz (bF (aP I) (bF (aP I) b7))) I I)<|.cons (.val [10] I I (yz (bF (aP I) (bF (aP I) b7))) I I)<|.cons (.val [11] I I (yz (bF (aP I) (bF (aP I) b7))) I I)<|.cons (.val [1] I I (yz (bF (aP I) (bF (aP I) b7))) I I)<|.cons (.val [12,13] I I (yz (bF (fu eY (k:=(lk:Int)) I j8 qj rfl rfl rfl (cz _) (by rw[d];first|done|rfl)) (bF (fu eY (k:=(lk:Int)) I j8 qj rfl rfl rfl (cz _) (by rw[d];first|done|rfl)) b7))) I I)<|.cons (.val [5] I I (yz (bF (aP I) (bF (aP I) b7))) I I)<|.cons (.val [15] I I (yz (bF (aP I) (bF (aP I) b7))) I I)<|.cons (.val [14,16] I I (yz (bF (eA eY (k:=(a.cn:Int)) I jH wm rfl (gF c hp _) I (cz _) (by rw[hl];first|done|rfl) (by rw[hl];first|done|rfl)) (bF (eA eY (k:=(a.cn:Int)) I jH wm rfl (gF c hp _) I (cz _) (by rw[hl];first|done|rfl) (by rw[hl];first|done|rfl)) b7))) I I)<|.cons (.val [17] I I (yz (bF (aP I) (bF (aP I) b7))) I I)<|.cons (.val [8] I I (yz (bF (aP I) (bF (aP I) b7))) I I)<|.cons (.val [8] I I (yz (bF (aP I) (bF (aP I) (bF (aP I) b7)))) I I)<|.cons (.tV [] I I I I (cG I) I I)<|.cons (.gT [6,18] I I I I (cG I) I)<|.cons (.val [19] I I (yz (bF (aP I) b7)) I I) .nil) (aJ (ks:=[0,1,5,6,7]) I) ?_
 case grd12=>kernel_rfl
 refine aj (.a 6 I<|.c rfl (pM a x.1 ha hx hs) I<|.a 2 I<|.k [0,1,5,28] I)<|ak I (λhc=>?_) (λhc=>?_)
 ·have h0:0<nI a x.1:=Vg hc;have b:dD a p=bS a.cn (a,0) p:=by rw[g];unfold nI at h0;split at h0<;>(try split at h0)<;>first|omega|(rw[Vn (by omega)])
  have hm:ir (a.cn:Int) (kO (a,0)) (ib kO p)=ib kO (dD a p):=by rw[sX,b]
  refine oL 20 1 ((cq iv nb++[some (.cells 141 (dp a)),some (.cells 208 (MS x))])::(cq iv (bS lk (dD a p) nb)++[some (.cells 141 (dp a)),some (.cells 208 (MS x))])::[]) (⟨_,none,0,0⟩::⟨_,none,0,0⟩::⟨_,none,0,0⟩::⟨_,none,0,0⟩::⟨_,none,0,0⟩::⟨.own (lk+2),none,0,0⟩::⟨_,none,0,0⟩::⟨_,none,0,0⟩::⟨_,none,0,0⟩::⟨_,none,0,0⟩::⟨_,none,0,0⟩::⟨_,some 0,0,0⟩::[]) _ mixed ?grd13 rfl rfl rfl rfl (.cons (.val [0] I I (yz (bF (aP I) b7)) I I)<|.cons (.val [29] I I (yz (bF (aP I) b7)) I I)<|.cons (.val [30] I I (yz (bF (aP I) b7)) I I)<|.cons (.val [31] I I (yz (bF (aP I) b7)) I I)<|.cons (.val [1] I I (yz (bF (aP I) b7)) I I)<|.cons (.val [32,33] I I (yz (bF (fu eY (k:=(lk:Int)) I j8 qj rfl rfl rfl (cz _) (by rw[d];first|done|rfl)) b7)) I I)<|.cons (.val [5] I I (yz (bF (aP I) b7)) I I)<|.cons (.val [35] I I (yz (bF (aP I) b7)) I I)<|.cons (.val [5] I I (yz (bF (aP I) b7)) I I)<|.cons (.val [37] I I (yz (bF (dW I (qD a ha.len)) b7)) I I)<|.cons (.val [38] I I (yz (bF (aP I) b7)) I I)<|.cons (.gT [34,36,39] I I I I (YD (iP eY (k:=(a.cn:Int)) I jH rfl (gF c hp _) I (cz _) I) (hm.sto (lk+2) (pH c hp _))) I) .nil) (aJ (ks:=[]) I) ?_
  case grd13=>kernel_rfl
  first|exact⟨_,V5 I,cq iv (bS lk (dD a p) nb),_,rfl,Vh _,dL iv _ e,Ren.pure,rfl⟩|exact⟨_,V5 I,cq iv nb,_,rfl,Vh _,dL iv _ h8,Ren.pure,by rw[b,f p hp]⟩
 ·have h0:¬0<nI a x.1:=Vj hc;have b:dD a p=p:=by rw[g];unfold nI at h0;split at h0<;>(try split at h0)<;>first|omega|(rw[Vk (by omega)])
  refine ao ?_;first|exact⟨_,V5 I,cq iv (bS lk (dD a p) nb),_,rfl,Vh _,dL iv _ e,Ren.pure,rfl⟩|exact⟨_,V5 I,cq iv nb,_,rfl,Vh _,dL iv _ h8,Ren.pure,by rw[b,f p hp]⟩
def wq(a:cC)(p:Pm):Prop:=∀x,aN a.cn p=some x->x.1.Ok/\oa a x.1
theorem lg(iv:Nat)(nb:Nb)(lk:Nat)(p:Pm)(a:cC)(h8:∀x∈az nb,x<8)(hp:aN lk nb=some p)(ha:a.Ok)(hg:wq a p):aD prog 105 [.ptr 1 0,num lk,dP a] (cq iv nb) (λr σ'=>r= .any/\σ'=cq iv (bS lk (dD a p) nb)):=by
 have b:=h8 lk (ij hp);refine Zu ?_;cases h:aN a.cn p with
 |none=>exact Bl iv nb lk p a h8 b hp ha h
 |some x=>exact Bn iv nb lk p a x h8 b hp ha h (hg x h).1 (hg x h).2
theorem uZ(iv:Nat)(nb:Nb)(lk:Nat)(p:Pm)(a:cC)(h8:∀x∈az nb,x<8)(hp:aN lk nb=some p)(ha:a.Ok)(hg:wq a p):aD prog 118 [.ptr 1 0,num lk,dP a] (cq iv nb) (λr σ'=>r=num 0/\σ'=cq iv (bS lk (dD a p) nb)):=by
 have c:cQ (lk:Int) (fS 2 nb)=some (.own (lk+2)):=ju hp;have b:=kp (q:=dD a p) h8 hp;refine Xa<|aV func118 I ntmps118 I<|aK<|bW (dv I I I) I<|av 1 I<|aF [0,1,5] I ?_;refine an<|aj (.a 2 I<|.k [0,1,5,10] I)<|ak I (λhc=>?_) (λhc=>?_)
 ·cases hc
 ·refine ao<|an<|aj (.a 5 I<|.v (eA eY (k:=(lk:Int)) I j8 qj rfl rfl rfl (cz _) (by rw[c];first|done|rfl) (by rw[c];first|done|rfl)) I<|.a 5 I<|.k [0,1,5,8] I)<|aj (.a 2 I<|.k [0,1,5,21] I)<|ak I (λhc=>?_) (λhc=>?_)
  ·cases hc
  ·refine ao<|an<|aj (.a 1 I<|.c rfl (dI a ha) I<|.a 1 I<|.k [0,1,5,24] I)<|ak I (λhc=>?_) (λhc=>?_)
   ·cases hc
   ·refine ao<|aK<|av 3 I<|br I I (VO (ld h8 b _ (lg iv nb lk p a h8 hp ha hg)) (λ_ σ' h=>?_));obtain⟨rfl,rfl⟩:=h;refine aF [] I<|aj (.a 1 I<|.k [6] I)<|aA<|⟨_,V5 I,cq iv (bS lk (dD a p) nb),_,rfl,Vh _,dL iv _ b,Ren.pure,rfl,rfl⟩
theorem G7(iv:Nat)(nb:Nb)(lk:Nat)(p:Pm)(a:cC)(h8:∀x∈az nb,x<8)(hp:aN lk nb=some p)(hg:aN a.cn p=none):aD prog 73 [.ptr 1 0,num lk,dP a] (cq iv nb) (λr σ'=>σ'=cq iv nb):=by
 have b:cQ (lk:Int) (fS 2 nb)=some (.own (lk+2)):=ju hp;have hl:cQ (a.cn:Int) (ib kO p)=none:=by rw[gH,hg];rfl
 have c:=h8 lk (ij hp);refine Xa<|aV func73 I ntmps73 I<|aK<|bW (dv I I I) I<|av 2 I<|aF [0,1,5] I ?_;refine an<|aj (.a 2 I<|.k [0,1,5,12] I)<|ak I (λhc=>?_) (λhc=>?_)
 ·cases hc
 ·refine ao<|aj (.a 5 I<|.v (eA eY (k:=(lk:Int)) I j8 qj rfl rfl rfl (cz _) (by rw[b];first|done|rfl) (by rw[b];first|done|rfl)) I<|.a 5 I<|.k [5,8,9] I)<|an<|aj (.a 2 I<|.k [5,8,23] I)<|ak I (λhc=>?_) (λhc=>?_)
  ·cases hc
  ·refine ao<|aK<|av 3 I<|aZ (eA eY (k:=(a.cn:Int)) I jH wm rfl (gF c hp _) I (cz _) (by rw[hl];first|done|rfl) (by rw[hl];first|done|rfl)) I<|av 6 I<|aF [5,8,9,10] I ?_;refine an<|aj (.a 9 I<|.k [5,8,39] I)<|ak I (λhc=>?_) (λhc=>?_)
   ·exact aj (.a 2 I<|.k [6,7] I)<|aA<|⟨_,V5 I,cq iv nb,_,rfl,Vh _,dL iv _ h8,Ren.pure,rfl⟩
   ·cases hc
theorem G8(iv:Nat)(nb:Nb)(lk:Nat)(p:Pm)(a:cC)(x:cC×Nat)(h8:∀x∈az nb,x<8)(hp:aN lk nb=some p)(ha:a.Ok)(hx:x.1.Ok)(ho:x.1.cn=a.cn)(hg:aN a.cn p=some x):aD prog 73 [.ptr 1 0,num lk,dP a] (cq iv nb) (λr σ'=>σ'=cq iv (bS lk (gi a p) nb)):=by
 have c:cQ (lk:Int) (fS 2 nb)=some (.own (lk+2)):=ju hp;have hl:cQ (a.cn:Int) (ib kO p)=some (kO x):=by rw[gH,hg];rfl
 have b:=h8 lk (ij hp);have e:=kp (q:=gi a p) h8 hp;have f:gi a p=if iC x.1 a then sG a.cn p else p:=by unfold gi;rw[hg]
 have g:bS lk p nb=nb:=jU hp;have⟨i,h⟩:=dw (iC x.1 a);have d:=LW x.1 a hx ha ho;rw[h]at f d;refine Xa<|aV func73 I ntmps73 I<|aK<|bW (dv I I I) I<|av 2 I<|aF [0,1,5] I ?_;refine an<|aj (.a 2 I<|.k [0,1,5,12] I)<|ak I (λhc=>?_) (λhc=>?_)
 ·cases hc
 ·refine ao<|aj (.a 5 I<|.v (eA eY (k:=(lk:Int)) I j8 qj rfl rfl rfl (cz _) (by rw[c];first|done|rfl) (by rw[c];first|done|rfl)) I<|.a 5 I<|.k [5,8,9] I)<|an<|aj (.a 2 I<|.k [5,8,23] I)<|ak I (λhc=>?_) (λhc=>?_)
  ·cases hc
  ·refine ao<|aK<|av 3 I<|aZ (eA eY (k:=(a.cn:Int)) I jH wm rfl (gF b hp _) I (cz _) (by rw[hl];first|done|rfl) (by rw[hl];first|done|rfl)) I<|av 6 I<|aF [5,8,9,10] I ?_;refine an<|aj (.a 6 I<|.c rfl (d) I<|.a 2 I<|.k [5,8,39] I)<|ak I (λhc=>?_) (λhc=>?_)
   ·have h0:i=false:=by simpa using hc
    subst h0;exact aj (.a 2 I<|.k [6,7] I)<|aA<|⟨_,V5 I,cq iv nb,_,rfl,Vh _,dL iv _ h8,Ren.pure,by rw[f,Vk (by decide),g]⟩
   ·have h0:i=true:=by simpa using hc
    subst h0;have hm:qy (a.cn:Int) (ib kO p)=ib kO (gi a p):=by rw[JU,f,Vn rfl]
    refine ao<|aK<|av 3 I<|bw (YD (BK eY (k:=(a.cn:Int)) I I jH rfl (gF b hp _) I (cz _)) (hm.sto (lk+2) (pH b hp _))) I I<|aF [] I ?_;exact aj (.a 2 I<|.k [6,7] I)<|aA<|⟨_,V5 I,cq iv (bS lk (gi a p) nb),_,rfl,Vh _,dL iv _ e,Ren.pure,rfl⟩
theorem Bg(iv:Nat)(nb:Nb)(lk:Nat)(p:Pm)(a:cC)(h8:∀x∈az nb,x<8)(hp:aN lk nb=some p)(ha:a.Ok)(hg:wq a p):aD prog 73 [.ptr 1 0,num lk,dP a] (cq iv nb) (λr σ'=>r= .any/\σ'=cq iv (bS lk (gi a p) nb)):=by
 refine Zu ?_;cases h:aN a.cn p with
 |none=>
  have:bS lk (gi a p) nb=nb:=by unfold gi;rw[h];exact jU hp
  rw[this];exact G7 iv nb lk p a h8 hp h
 |some x=>exact G8 iv nb lk p a x h8 hp ha (hg x h).1 (hg x h).2.1.symm h
def ee(a:cC)(ex:Int)(lk:Nat)(p:Pm):Pm:=s7 a ex lk p
theorem Ak(a:cC)(ex:Int)(nb:Nb):bL (bT (az nb)) (ee a ex) nb=iT a ex nb:=mJ (λ_ h=>eN.2 h)
theorem va(iv:Nat)(nb:Nb)(ty:TypeId)(xs:List PV)[aM xs](h:∀x∈az nb,x<8):fF 11 (cq iv nb++[some (.cells ty xs)]):=by
 have h1:=dL iv nb h;refine fF.app (λi b hb=>?_) (.cons (.cells VT) .nil);exact(h1 i b hb).more (gs:=[10])
theorem oa.sym{a b}(h:oa a b):oa b a:=⟨h.1.symm,λe=>⟨(h.2 e.symm).1.symm,(h.2 e.symm).2.symm⟩⟩
theorem zq(iv:Nat)(nb:Nb)(a:cC)(ex:Int)(h8:∀x∈az nb,x<8)(hn:(az nb).Nodup)(hl:nb.length<=1000)(ha:a.Ok)(hg:∀lk p,aN lk nb=some p->wq a p)(hex:∀x∈az nb,(x:Int)≠ex):aD prog 65 [.ptr 1 0,dP a,num ex] (cq iv nb) (λr σ'=>r=num 0/\σ'=cq iv (iT a ex nb)):=by
 have n:=kZ iv nb h8 hl;have c:∀k,k<(bT (az nb)).length->(bT (az nb)).getD k 0∉(bT (az nb)).take k:=λk h=>lE hn h;have b:∀k,k<(bT (az nb)).length->(bT (az nb)).getD k 0∈az nb:=λk h=>kj h;have f:=Ak a ex nb;have e:∀S,∀x∈az (bL S (ee a ex) nb),x<8:=λS=>by rw[ll];exact h8
 have v:(bT (az nb)).length=nb.length:=by rw[ez];simp[az]
 generalize bT (az nb)=S at*;have y:(S.map Int.ofNat).length=S.length:=by simp
 refine Xa<|aV func65 I ntmps65 I<|aK<|bW (dv I I I) I<|av 1 I<|aF [0,2,4] I ?_;refine an<|aj (.a 2 I<|.k [0,2,4,12] I)<|ak I (λhc=>?_) (λhc=>?_)
 ·cases hc
 ·refine ao<|an<|aj (.a 1 I<|.c rfl (dI a ha) I<|.a 1 I<|.k [0,2,4,15] I)<|ak I (λhc=>?_) (λhc=>?_)
  ·cases hc
  ·refine ao<|an<|aK<|av 1 I<|br I I (VO (ld h8 h8 _ n) (λ_ σ' h=>?_));obtain⟨rfl,rfl⟩:=h;refine av 2 I<|aF [0,2,4,17,18,19] I ?_;refine ay<|eX [0,2,4,17,18,19] I<|bq (λr s=>∃k,k<=S.length/\r=S.length - k/\s=⟨[(0,.ptr 1 0),(2,num ex),(4,.ptr 10 0),(17,fc S),(18,num S.length),(19,num k)],cq iv (bL (S.take k) (ee a ex) nb)++[some (.cells 141 (dp a))]⟩) S.length ⟨0,by omega,rfl,by simp[fc,bm,jP];rfl⟩ ?_;rintro r s ⟨k,w,rfl,rfl⟩;refine aj (.a 1 I<|.k [0,2,4,17,18,19,20] I)<|an<|ak I (λhc=>?_) (λhc=>?_)
   ·have hlt:k<S.length:=by have:=Vg hc;omega
    have g:=jv S k hlt;have c:=c k hlt;have b:=b k hlt;have l:=jc S hlt;generalize S.getD k 0=o at g c b l;obtain⟨p,hp⟩:=fC b;have i:aN o (bL (S.take k) (ee a ex) nb)=some p:=by rw[iX,hp];simp[c]
    have j:bS o (ee a ex o p) (bL (S.take k) (ee a ex) nb)=bL (S.take (k+1)) (ee a ex) nb:=by rw[l];exact jQ hn hp
    have d:=e (S.take k);have z:=h8 o b;refine ao<|an<|ay<|aj (.v (aX (k) I) I<|.v (aO I (g)) I<|.a 1 I<|.k [0,2,4,8,17,18,19] I)<|an<|aj (.a 3 I<|.k [0,2,4,8,17,18,19,25] I)<|ak I (λhc=>?_) (λhc=>?_)
    ·have t:=Vg hc;have u:bS o (dD a p) (bL (S.take k) (ee a ex) nb)=bL (S.take (k+1)) (ee a ex) nb:=by rw[<-j];unfold ee s7;rw[Vk t]
     refine aK<|av 3 I<|br I I (VO (ld d (kp (q:=dD a p) d i) _ (lg iv _ o p a d i ha (hg o p hp))) (λ_ σ' h=>?_));obtain⟨rfl,rfl⟩:=h;refine aF [0,2,4,17,18,19] I<|bh<|aL (.v (aU I) I<|.a 1 I<|.k [0,2,4,17,18,19] I) ?_;exact⟨S.length - (k+1),by omega,k+1,by omega,rfl,by rw[u];rfl⟩
    ·exact absurd (Vj hc) (not_not_intro (hex o b))
   ·have m:k=S.length:=by have:=Vj hc;omega
    exact bh<|aj (.a 1 I<|.k [6] I)<|aA<|⟨_,V5 I,cq iv (bL (S.take k) (ee a ex) nb),_,rfl,Vh _,dL iv _ (e _),Ren.pure,rfl,by rw[m,VN,f]⟩
theorem zr(iv:Nat)(nb:Nb)(a:cC)(ex:Int)(h8:∀x∈az nb,x<8)(hn:(az nb).Nodup)(hl:nb.length<=1000)(ha:a.Ok)(hg:∀lk p,aN lk nb=some p->wq a p)(z:Nat)(J:ex=(z:Int))(y:Pm)(F:aN z nb=some y)(n:aN a.cn y=none):aD prog 65 [.ptr 1 0,dP a,num ex] (cq iv nb) (λr σ'=>r=num 0/\σ'=cq iv (iT a ex nb)):=by
 have C:=kZ iv nb h8 hl;have g:∀k,k<(bT (az nb)).length->(bT (az nb)).getD k 0∉(bT (az nb)).take k:=λk h=>lE hn h;have c:∀k,k<(bT (az nb)).length->(bT (az nb)).getD k 0∈az nb:=λk h=>kj h;have l:=Ak a ex nb;have j:∀S,∀x∈az (bL S (ee a ex) nb),x<8:=λS=>by rw[ll];exact h8
 have H:(bT (az nb)).length=nb.length:=by rw[ez];simp[az]
 generalize bT (az nb)=S at*;have L:(S.map Int.ofNat).length=S.length:=by simp
 refine Xa<|aV func65 I ntmps65 I<|aK<|bW (dv I I I) I<|av 1 I<|aF [0,2,4] I ?_;refine an<|aj (.a 2 I<|.k [0,2,4,12] I)<|ak I (λhc=>?_) (λhc=>?_)
 ·cases hc
 ·refine ao<|an<|aj (.a 1 I<|.c rfl (dI a ha) I<|.a 1 I<|.k [0,2,4,15] I)<|ak I (λhc=>?_) (λhc=>?_)
  ·cases hc
  ·refine ao<|an<|aK<|av 1 I<|br I I (VO (ld h8 h8 _ C) (λ_ σ' h=>?_));obtain⟨rfl,rfl⟩:=h;refine av 2 I<|aF [0,2,4,17,18,19] I ?_;refine ay<|eX [0,2,4,17,18,19] I<|bq (λr s=>∃k,k<=S.length/\r=S.length - k/\s=⟨[(0,.ptr 1 0),(2,num ex),(4,.ptr 10 0),(17,fc S),(18,num S.length),(19,num k)],cq iv (bL (S.take k) (ee a ex) nb)++[some (.cells 141 (dp a))]⟩) S.length ⟨0,by omega,rfl,by simp[fc,bm,jP];rfl⟩ ?_;rintro r s ⟨k,K,rfl,rfl⟩;refine aj (.a 1 I<|.k [0,2,4,17,18,19,20] I)<|an<|ak I (λhc=>?_) (λhc=>?_)
   ·have hlt:k<S.length:=by have:=Vg hc;omega
    have m:=jv S k hlt;have g:=g k hlt;have c:=c k hlt;have w:=jc S hlt;generalize S.getD k 0=o at m g c w;obtain⟨p,hp⟩:=fC c;have b:aN o (bL (S.take k) (ee a ex) nb)=some p:=by rw[iX,hp];simp[g]
    have d:bS o (ee a ex o p) (bL (S.take k) (ee a ex) nb)=bL (S.take (k+1)) (ee a ex) nb:=by rw[w];exact jQ hn hp
    have e:=j (S.take k);have u:=h8 o c;refine ao<|an<|ay<|aj (.v (aX (k) I) I<|.v (aO I (m)) I<|.a 1 I<|.k [0,2,4,8,17,18,19] I)<|an<|aj (.a 3 I<|.k [0,2,4,8,17,18,19,25] I)<|ak I (λhc=>?_) (λhc=>?_)
    ·have D:=Vg hc;have i:bS o (dD a p) (bL (S.take k) (ee a ex) nb)=bL (S.take (k+1)) (ee a ex) nb:=by rw[<-d];unfold ee s7;rw[Vk D]
     refine aK<|av 3 I<|br I I (VO (ld e (kp (q:=dD a p) e b) _ (lg iv _ o p a e b ha (hg o p hp))) (λ_ σ' h=>?_));obtain⟨rfl,rfl⟩:=h;refine aF [0,2,4,17,18,19] I<|bh<|aL (.v (aU I) I<|.a 1 I<|.k [0,2,4,17,18,19] I) ?_;exact⟨S.length - (k+1),by omega,k+1,by omega,rfl,by rw[i];rfl⟩
    ·have E:(o:Int)=ex:=Zo.1 (Vj hc);have v:o=z:=by omega
     subst v;rw[F]at hp;cases hp;have t:cQ (o:Int) (fS 2 (bL (S.take k) (ee a ex) nb))=some (.own (o+2)):=ju b;have f:cQ (a.cn:Int) (ib kO y)=none:=by rw[gH,n];rfl
     have G:ee a ex o y=o7 a y:=by unfold ee s7;rw[Vn E]
     rw[G]at d;refine ao<|kT 20 2 ((cq iv (bL (S.take k) (ee a ex) nb)++[some (.cells 141 (dp a))])::(cq iv (bL (S.take k) (ee a ex) nb)++[some (.cells 141 (dp a))]++[some (.cells 208 I0)])::(cq iv (bL (S.take k) (ee a ex) nb)++[some (.cells 141 (dp a))]++[some (.cells 208 I0)])::[]) (⟨_,none,0,1⟩::⟨_,none,0,1⟩::⟨_,none,0,1⟩::⟨_,none,0,1⟩::⟨_,none,0,1⟩::⟨.own (o+2),none,0,1⟩::⟨_,none,0,1⟩::⟨_,none,0,1⟩::⟨.tuple [.raw SZ,flag false],none,0,1⟩::⟨_,none,0,1⟩::⟨_,none,0,1⟩::⟨_,none,0,2⟩::⟨_,some 0,0,0⟩::⟨_,some 1,0,0⟩::⟨_,none,2,2⟩::[]) _ mixed ?grd14 rfl rfl rfl rfl (.cons (.val [0] I I (yz (bF (aP I) (bF (aP I) b7))) I I)<|.cons (.val [31] I I (yz (bF (aP I) (bF (aP I) b7))) I I)<|.cons (.val [32] I I (yz (bF (aP I) (bF (aP I) b7))) I I)<|.cons (.val [33] I I (yz (bF (aP I) (bF (aP I) b7))) I I)<|.cons (.val [8] I I (yz (bF (aP I) (bF (aP I) b7))) I I)<|.cons (.val [34,35] I I (yz (bF (fu eY (k:=(o:Int)) I j8 qj rfl rfl rfl (cz _) (by rw[t];first|done|rfl)) (bF (fu eY (k:=(o:Int)) I j8 qj rfl rfl rfl (cz _) (by rw[t];first|done|rfl)) b7))) I I)<|.cons (.val [4] I I (yz (bF (aP I) (bF (aP I) b7))) I I)<|.cons (.val [37] I I (yz (bF (aP I) (bF (aP I) b7))) I I)<|.cons (.val [36,38] I I (yz (bF (eA eY (k:=(a.cn:Int)) I jH wm rfl (gF u b _) I (cz _) (by rw[f];first|done|rfl) (by rw[f];first|done|rfl)) (bF (eA eY (k:=(a.cn:Int)) I jH wm rfl (gF u b _) I (cz _) (by rw[f];first|done|rfl) (by rw[f];first|done|rfl)) b7))) I I)<|.cons (.val [39] I I (yz (bF (aP I) (bF (aP I) b7))) I I)<|.cons (.val [30] I I (yz (bF (aP I) (bF (aP I) b7))) I I)<|.cons (.val [30] I I (yz (bF (aP I) (bF (aP I) (bF (aP I) b7)))) I I)<|.cons (.tV [] I I I I (cG I) I I)<|.cons (.gT [9,40] I I I I (cG I) I)<|.cons (.val [41] I I (yz (bF (aP I) b7)) I I) .nil) (aJ (ks:=[0,2,4,8,9,10,17,18,19]) I) ?_
     case grd14=>kernel_rfl
     refine aj (.a 8 I<|.k [0,2,4,8,17,18,19,49] I)<|ak I (λhc=>?_) (λhc=>?_)
     ·cases hc
     ·have i:bL (S.take k) (ee a ex) nb=bL (S.take (k+1)) (ee a ex) nb:=by rw[<-d];unfold o7;rw[n];exact(jU b).symm
      refine ko (A:=cq iv (bL (S.take k) (ee a ex) nb)++[some (cj.cells 141 (dp a))]) (va iv _ 141 (dp a) e) (.c 0<|.c 2<|.c 4<|.c 17<|.c 18<|.c 19 .nil) I<|ao<|aL (.v (aU I) I<|.a 1 I<|.k [0,2,4,17,18,19] I) ?_;exact⟨S.length - (k+1),by omega,k+1,by omega,rfl,by rw[i];rfl⟩
   ·have B:k=S.length:=by have:=Vj hc;omega
    exact bh<|aj (.a 1 I<|.k [6] I)<|aA<|⟨_,V5 I,cq iv (bL (S.take k) (ee a ex) nb),_,rfl,Vh _,dL iv _ (j _),Ren.pure,rfl,by rw[B,VN,l]⟩
theorem zt(iv:Nat)(nb:Nb)(a:cC)(ex:Int)(h8:∀x∈az nb,x<8)(hn:(az nb).Nodup)(hl:nb.length<=1000)(ha:a.Ok)(hg:∀lk p,aN lk nb=some p->wq a p)(B:Nat)(L:ex=(B:Int))(d:Pm)(y:aN B nb=some d)(x:cC×Nat)(i:aN a.cn d=some x):aD prog 65 [.ptr 1 0,dP a,num ex] (cq iv nb) (λr σ'=>r=num 0/\σ'=cq iv (iT a ex nb)):=by
 have D:=kZ iv nb h8 hl;have m:∀k,k<(bT (az nb)).length->(bT (az nb)).getD k 0∉(bT (az nb)).take k:=λk h=>lE hn h;have g:∀k,k<(bT (az nb)).length->(bT (az nb)).getD k 0∈az nb:=λk h=>kj h;have u:=Ak a ex nb;have t:∀S,∀x∈az (bL S (ee a ex) nb),x<8:=λS=>by rw[ll];exact h8
 have K:(bT (az nb)).length=nb.length:=by rw[ez];simp[az]
 have hx:=hg B d y x i;have F:Can prog 106 [dP x.1,dP a] (· =num (nI x.1 a)):=pM x.1 a hx.1 ha hx.2.sym;generalize bT (az nb)=S at*;have N:(S.map Int.ofNat).length=S.length:=by simp
 refine Xa<|aV func65 I ntmps65 I<|aK<|bW (dv I I I) I<|av 1 I<|aF [0,2,4] I ?_;refine an<|aj (.a 2 I<|.k [0,2,4,12] I)<|ak I (λhc=>?_) (λhc=>?_)
 ·cases hc
 ·refine ao<|an<|aj (.a 1 I<|.c rfl (dI a ha) I<|.a 1 I<|.k [0,2,4,15] I)<|ak I (λhc=>?_) (λhc=>?_)
  ·cases hc
  ·refine ao<|an<|aK<|av 1 I<|br I I (VO (ld h8 h8 _ D) (λ_ σ' h=>?_));obtain⟨rfl,rfl⟩:=h;refine av 2 I<|aF [0,2,4,17,18,19] I ?_;refine ay<|eX [0,2,4,17,18,19] I<|bq (λr s=>∃k,k<=S.length/\r=S.length - k/\s=⟨[(0,.ptr 1 0),(2,num ex),(4,.ptr 10 0),(17,fc S),(18,num S.length),(19,num k)],cq iv (bL (S.take k) (ee a ex) nb)++[some (.cells 141 (dp a))]⟩) S.length ⟨0,by omega,rfl,by simp[fc,bm,jP];rfl⟩ ?_;rintro r s ⟨k,M,rfl,rfl⟩;refine aj (.a 1 I<|.k [0,2,4,17,18,19,20] I)<|an<|ak I (λhc=>?_) (λhc=>?_)
   ·have hlt:k<S.length:=by have:=Vg hc;omega
    have v:=jv S k hlt;have m:=m k hlt;have g:=g k hlt;have z:=jc S hlt;generalize S.getD k 0=o at v m g z;obtain⟨p,hp⟩:=fC g;have b:aN o (bL (S.take k) (ee a ex) nb)=some p:=by rw[iX,hp];simp[m]
    have c:bS o (ee a ex o p) (bL (S.take k) (ee a ex) nb)=bL (S.take (k+1)) (ee a ex) nb:=by rw[z];exact jQ hn hp
    have e:=t (S.take k);have l:=h8 o g;refine ao<|an<|ay<|aj (.v (aX (k) I) I<|.v (aO I (v)) I<|.a 1 I<|.k [0,2,4,8,17,18,19] I)<|an<|aj (.a 3 I<|.k [0,2,4,8,17,18,19,25] I)<|ak I (λhc=>?_) (λhc=>?_)
    ·have E:=Vg hc;have f:bS o (dD a p) (bL (S.take k) (ee a ex) nb)=bL (S.take (k+1)) (ee a ex) nb:=by rw[<-c];unfold ee s7;rw[Vk E]
     refine aK<|av 3 I<|br I I (VO (ld e (kp (q:=dD a p) e b) _ (lg iv _ o p a e b ha (hg o p hp))) (λ_ σ' h=>?_));obtain⟨rfl,rfl⟩:=h;refine aF [0,2,4,17,18,19] I<|bh<|aL (.v (aU I) I<|.a 1 I<|.k [0,2,4,17,18,19] I) ?_;exact⟨S.length - (k+1),by omega,k+1,by omega,rfl,by rw[f];rfl⟩
    ·have G:(o:Int)=ex:=Zo.1 (Vj hc);have w:o=B:=by omega
     subst w;rw[y]at hp;cases hp;have n:cQ (o:Int) (fS 2 (bL (S.take k) (ee a ex) nb))=some (.own (o+2)):=ju b;have j:cQ (a.cn:Int) (ib kO d)=some (kO x):=by rw[gH,i];rfl
     have J:ee a ex o d=o7 a d:=by unfold ee s7;rw[Vn G]
     rw[J]at c;refine ao<|kT 20 2 ((cq iv (bL (S.take k) (ee a ex) nb)++[some (.cells 141 (dp a))])::(cq iv (bL (S.take k) (ee a ex) nb)++[some (.cells 141 (dp a))]++[some (.cells 208 I0)])::(cq iv (bL (S.take k) (ee a ex) nb)++[some (.cells 141 (dp a))]++[some (.cells 208 (MS x))])::[]) (⟨_,none,0,1⟩::⟨_,none,0,1⟩::⟨_,none,0,1⟩::⟨_,none,0,1⟩::⟨_,none,0,1⟩::⟨.own (o+2),none,0,1⟩::⟨_,none,0,1⟩::⟨_,none,0,1⟩::⟨.tuple [kO x,flag true],none,0,1⟩::⟨_,none,0,1⟩::⟨_,none,0,1⟩::⟨_,none,0,2⟩::⟨_,some 0,0,0⟩::⟨_,some 1,0,0⟩::⟨_,none,2,2⟩::[]) _ mixed ?grd15 rfl rfl rfl rfl (.cons (.val [0] I I (yz (bF (aP I) (bF (aP I) b7))) I I)<|.cons (.val [31] I I (yz (bF (aP I) (bF (aP I) b7))) I I)<|.cons (.val [32] I I (yz (bF (aP I) (bF (aP I) b7))) I I)<|.cons (.val [33] I I (yz (bF (aP I) (bF (aP I) b7))) I I)<|.cons (.val [8] I I (yz (bF (aP I) (bF (aP I) b7))) I I)<|.cons (.val [34,35] I I (yz (bF (fu eY (k:=(o:Int)) I j8 qj rfl rfl rfl (cz _) (by rw[n];first|done|rfl)) (bF (fu eY (k:=(o:Int)) I j8 qj rfl rfl rfl (cz _) (by rw[n];first|done|rfl)) b7))) I I)<|.cons (.val [4] I I (yz (bF (aP I) (bF (aP I) b7))) I I)<|.cons (.val [37] I I (yz (bF (aP I) (bF (aP I) b7))) I I)<|.cons (.val [36,38] I I (yz (bF (eA eY (k:=(a.cn:Int)) I jH wm rfl (gF l b _) I (cz _) (by rw[j];first|done|rfl) (by rw[j];first|done|rfl)) (bF (eA eY (k:=(a.cn:Int)) I jH wm rfl (gF l b _) I (cz _) (by rw[j];first|done|rfl) (by rw[j];first|done|rfl)) b7))) I I)<|.cons (.val [39] I I (yz (bF (aP I) (bF (aP I) b7))) I I)<|.cons (.val [30] I I (yz (bF (aP I) (bF (aP I) b7))) I I)<|.cons (.val [30] I I (yz (bF (aP I) (bF (aP I) (bF (aP I) b7)))) I I)<|.cons (.tV [] I I I I (cG I) I I)<|.cons (.gT [9,40] I I I I (cG I) I)<|.cons (.val [41] I I (yz (bF (aP I) b7)) I I) .nil) (aJ (ks:=[0,2,4,8,9,10,17,18,19]) I) ?_
     case grd15=>kernel_rfl
     refine aj (.a 5 I<|.c rfl (F) I<|.a 2 I<|.k [0,2,4,8,17,18,19,49] I)<|ak I (λhc=>?_) (λhc=>?_)
     ·have h0:nI x.1 a<=0:=Vg hc;have hle:x.1.seq<=a.seq:=by unfold nI at h0;split at h0<;>(try split at h0)<;>omega
      have H:o7 a d=sG a.cn d:=by unfold o7;rw[i];exact Vn hle
      have hm:qy (a.cn:Int) (ib kO d)=ib kO (o7 a d):=by rw[JU,H]
      have f:bS o (o7 a d) (bL (S.take k) (ee a ex) nb)=bL (S.take (k+1)) (ee a ex) nb:=c;refine oL 20 1 ((cq iv (bL (S.take k) (ee a ex) nb)++[some (.cells 141 (dp a))]++[some (.cells 208 (MS x))])::(cq iv (bS o (o7 a d) (bL (S.take k) (ee a ex) nb))++[some (.cells 141 (dp a))]++[some (.cells 208 (MS x))])::[]) (⟨_,none,0,0⟩::⟨_,none,0,0⟩::⟨_,none,0,0⟩::⟨_,none,0,0⟩::⟨_,none,0,0⟩::⟨.own (o+2),none,0,0⟩::⟨_,none,0,0⟩::⟨_,none,0,0⟩::⟨_,some 0,0,0⟩::[]) _ mixed ?grd16 rfl rfl rfl rfl (.cons (.val [0] I I (yz (bF (aP I) b7)) I I)<|.cons (.val [50] I I (yz (bF (aP I) b7)) I I)<|.cons (.val [51] I I (yz (bF (aP I) b7)) I I)<|.cons (.val [52] I I (yz (bF (aP I) b7)) I I)<|.cons (.val [8] I I (yz (bF (aP I) b7)) I I)<|.cons (.val [53,54] I I (yz (bF (fu eY (k:=(o:Int)) I j8 qj rfl rfl rfl (cz _) (by rw[n];first|done|rfl)) b7)) I I)<|.cons (.val [4] I I (yz (bF (aP I) b7)) I I)<|.cons (.val [56] I I (yz (bF (aP I) b7)) I I)<|.cons (.gT [55,57] I I I I (YD (BK eY (k:=(a.cn:Int)) I I jH rfl (gF l b _) I (cz _)) (hm.sto (o+2) (pH l b _))) I) .nil) (aJ (ks:=[0,2,4,17,18,19]) I) ?_
      case grd16=>kernel_rfl
      refine ko (A:=cq iv (bS o (o7 a d) (bL (S.take k) (ee a ex) nb))++[some (cj.cells 141 (dp a))]) (va iv _ 141 (dp a) (kp e b)) (.c 0<|.c 2<|.c 4<|.c 17<|.c 18<|.c 19 .nil) I<|aL (.v (aU I) I<|.a 1 I<|.k [0,2,4,17,18,19] I) ?_;exact⟨S.length - (k+1),by omega,k+1,by omega,rfl,by rw[f];rfl⟩
     ·have h0:¬nI x.1 a<=0:=Vj hc;have hle:¬x.1.seq<=a.seq:=by unfold nI at h0;split at h0<;>(try split at h0)<;>omega
      have f:bL (S.take k) (ee a ex) nb=bL (S.take (k+1)) (ee a ex) nb:=by rw[<-c];unfold o7;rw[i];simp only;rw[Vk hle];exact(jU b).symm
      refine ko (A:=cq iv (bL (S.take k) (ee a ex) nb)++[some (cj.cells 141 (dp a))]) (va iv _ 141 (dp a) e) (.c 0<|.c 2<|.c 4<|.c 17<|.c 18<|.c 19 .nil) I<|ao<|aL (.v (aU I) I<|.a 1 I<|.k [0,2,4,17,18,19] I) ?_;exact⟨S.length - (k+1),by omega,k+1,by omega,rfl,by rw[f];rfl⟩
   ·have C:k=S.length:=by have:=Vj hc;omega
    exact bh<|aj (.a 1 I<|.k [6] I)<|aA<|⟨_,V5 I,cq iv (bL (S.take k) (ee a ex) nb),_,rfl,Vh _,dL iv _ (t _),Ren.pure,rfl,by rw[C,VN,u]⟩
theorem tx(iv:Nat)(nb:Nb)(a:cC)(ex:Int)(h8:∀x∈az nb,x<8)(hn:(az nb).Nodup)(hl:nb.length<=1000)(ha:a.Ok)(hg:∀lk p,aN lk nb=some p->wq a p):aD prog 65 [.ptr 1 0,dP a,num ex] (cq iv nb) (λr σ'=>r=num 0/\σ'=cq iv (iT a ex nb)):=by
 by_cases hex:∀x∈az nb,(x:Int)≠ex
 ·exact zq iv nb a ex h8 hn hl ha hg hex
 ·obtain⟨e,he⟩:=Classical.not_forall.1 hex;obtain⟨hm,he⟩:=Classical.not_imp.1 he;have b:ex=(e:Int):=(Zo.1 he).symm;obtain⟨f,d⟩:=fC hm;cases c:aN a.cn f with
  |none=>exact zr iv nb a ex h8 hn hl ha hg e b f d c
  |some x=>exact zt iv nb a ex h8 hn hl ha hg e b f d x c
def wB(lk:Nat):List Nat:=(List.range 10).set (lk+2) 10
def B2(lk:Nat)(nb:Nb):List (Int×PV):=fS 2 nb++[((lk:Int),.own 10)]
def qE(iv lk:Nat)(nb:Nb)(p:Pm):bH:=[some (.mp (bD c7 (B2 lk nb))),some (.cells 190 [num iv,.own 0])]++mN nb++[some (Lu p)]
theorem mU{α:Type}{k:Nat}{v}{l:List (Nat×α)}(h:aN k l=none):bS k v l=l++[(k,v)]:=by
 induction l with
 |nil=>rfl
 |cons x l ih=>
  obtain⟨a,u⟩:=x;simp only[aN]at h;split at h
  ·cases h
  ·rename_i e;simp only[bS];rw[Vk e,ih h];rfl
theorem L0{k:Int}{v}{l:List (Int×PV)}(h:cQ k l=none):ir k v l=l++[(k,v)]:=by
 induction l with
 |nil=>rfl
 |cons x l ih=>
  obtain⟨a,u⟩:=x;simp only[cQ]at h;split at h
  ·cases h
  ·rename_i e;simp only[ir];rw[Vk e,ih h];rfl
theorem zI{nb:Nb}{lk:Nat}(a:aN lk nb=none){x:Nat}(h:x∈az nb):x≠lk:=λe=>mE.1 a (e▸h)
theorem zp{lk:Nat}(a:lk<8):(wB lk)[lk+2]? =some 10:=by unfold wB;rw[WC (by simp;omega)]
theorem oX{lk k:Nat}(hk:k<10)(h:k≠lk+2):(wB lk)[k]? =some k:=by unfold wB;rw[VY (λe=>h e.symm),cV hk]
theorem Oo{nb}{lk:Nat}(b:lk<8)(a:aN lk nb=none)(h8:∀x∈az nb,x<8)(p:Pm):ax (wB lk) ((bD c7 (fS 2 (bS lk p nb))).map (·.2)) ((bD c7 (B2 lk nb)).map (·.2)):=by
 rw[mU a];have c:(bD c7 (fS 2 (nb++[(lk,p)]))).map (·.2)=(bD c7 (fS 2 nb)).map (·.2)++[.own (lk+2)]:=by simp[bD,fS]
 have d:(bD c7 (B2 lk nb)).map (·.2)=(bD c7 (fS 2 nb)).map (·.2)++[.own 10]:=by simp[bD,B2]
 rw[c,d];refine⟨by simp,λj x y h1 h2=>?_⟩;by_cases hj:j<((bD c7 (fS 2 nb)).map (·.2)).length
 ·rw[Vl hj]at h1 h2;rw[h1]at h2;cases h2;simp only[bD,fS,V7,Vt,Vr]at h1;obtain⟨z,f,rfl⟩:=h1;have hm:z.1∈az nb:=Vv.2 ⟨z,VE f,rfl⟩;have:=h8 _ hm;have e:=zI a hm;exact .own (oX (by omega) (by omega))
 ·rw[Vq (by omega)]at h1 h2;have:j - ((bD c7 (fS 2 nb)).map (·.2)).length=0:=by
   have:=(Vf.1 h1).1;simpa using this
  rw[this]at h1 h2;cases h1;cases h2;exact .own (zp b)
theorem iI{fs:List Nat}{nb}{k:Nat}:∀c,fT nb k=some c->ji fs c c:=λc h=>by
 unfold fT at h;simp only[Vr]at h;obtain⟨p,_,rfl⟩:=h;exact .mp
theorem Kc{iv lk:Nat}{nb}(c:lk<8)(d:aN lk nb=none)(h8:∀x∈az nb,x<8)(p:Pm)(X:bH):eV (wB lk) (qE iv lk nb p++X) (cq iv (bS lk p nb)) (wB lk):=by
 refine ZG _ _ (by simp[wB,cq,Bi,mN]) λi b j h1 h2=>?_;by_cases hi:i<10
 ·rcases(show i=0\/i=1\/2<=i by omega)with rfl|rfl|e
  ·rw[oX (by omega) (by omega)]at h2;cases h2;cases h1;exact⟨_,rfl,.De (by rw[mU d];simp[bD,fS,B2]) (Oo c d h8 p)⟩
  ·rw[oX (by omega) (by omega)]at h2;cases h2;cases h1;exact⟨_,rfl,.cells (V0 Ren.pure (V0 (.own (oX (by omega) (by omega))) Wp))⟩
  ·obtain⟨k,rfl⟩:∃k,i=k+2:=⟨i - 2,by omega⟩;have a:fT (bS lk p nb) k=some b:=by
    have:(cq iv (bS lk p nb))[k+2]? =some (fT (bS lk p nb) k):=lU _ (by omega);exact XA (this.symm.trans h1)
   rw[rS]at a;by_cases he:k=lk
   ·subst he;rw[zp c]at h2;cases h2;rw[Vn rfl]at a;cases a;exact⟨_,rfl,.mp⟩
   ·rw[oX hi (by omega)]at h2;cases h2;rw[Vk he]at a;refine⟨b,?_,iI b a⟩;show(mN nb++[some (Lu p)]++X)[k]? =_;rw[VU,Vl (show k<8 by omega),lU nb (by omega),a]
 ·have:(wB lk).length=10:=by simp[wB]
  have:=(Vf.1 h2).1;omega
theorem Kb{iv lk:Nat}{nb}(b:lk<8)(a:aN lk nb=none)(p q:Pm)(X:bH):iJ (qE iv lk nb p++X) (wB lk) ([some (.mp (bD c7 (B2 lk nb))),some (.cells 190 [num iv,.own 0])]++mN (bS lk q nb))=qE iv lk nb q++X:=by
 have hn:fT nb lk=none:=by unfold fT;rw[a];rfl
 simp only[mN,rS];rcases(show lk=0\/lk=1\/lk=2\/lk=3\/lk=4\/lk=5\/lk=6\/lk=7 by omega)with rfl|rfl|rfl|rfl|rfl|rfl|rfl|rfl<;>rfl
theorem Hf{lk:Nat}(a:lk<8):gd (wB lk)=true:=by
 rcases(show lk=0\/lk=1\/lk=2\/lk=3\/lk=4\/lk=5\/lk=6\/lk=7 by omega)with rfl|rfl|rfl|rfl|rfl|rfl|rfl|rfl<;>rfl
theorem QQ{lk n:Nat}(a:lk<8):bk (wB lk) n (lk+2)=10:=by
 unfold bk;rw[Vn (by simp[wB];omega),Qo,zp a];rfl
theorem Jw{lk n k:Nat}(hk:k<10)(h:k≠lk+2):bk (wB lk) n k=k:=by
 unfold bk;rw[Vn (by simp[wB];omega),Qo,oX hk h];rfl
theorem G9{f e}[aM e]{iv lk:Nat}{nb p q z}[IsPure z](a:lk<8)(b:aN lk nb=none)(h8:∀x∈az nb,x<8)(X:bH)(h:aD prog f (.ptr 1 0::e) (cq iv (bS lk p nb)) (λr σ'=>r=z/\σ'=cq iv (bS lk q nb))):aD prog f (.ptr 1 0::e) (qE iv lk nb p++X) (λr σ'=>r=z/\σ'=qE iv lk nb q++X):=by
 refine Y5 (wB lk) (Hf a) (V0 (.ptr (oX (by omega) (by omega))) VT) (Kc a b h8 p X) (VG.2 λi hi=>Nat.blt_eq.mpr ?_) (h.mono ?_)
 ·obtain⟨k,hk⟩:=W8 hi;have d:(qE iv lk nb p++X).length=11+X.length:=by simp[qE,mN];omega
  rw[d];by_cases he:k=lk+2
  ·rw[he,zp a]at hk;cases hk;omega
  ·have c:k<10:=by have:=(Vf.1 hk).1;simpa[wB]using this
   rw[oX c he]at hk;cases hk;omega
 ·rintro r σ' ⟨rfl,rfl⟩;refine⟨_,[some (.mp (bD c7 (B2 lk nb))),some (.cells 190 [num iv,.own 0])]++mN (bS lk q nb),by simp[wB,cq,Bi,mN],Mw.pure,.kept (.mp ?_ ?_) (.kept (.cells (XN Mw.pure (XN (.own (Jw (by omega) (by omega))) Y9))) (nO _ _)),rfl,?_⟩
  ·rw[mU b];simp[bD,fS,B2]
  ·rw[mU b];have g:(bD c7 (fS 2 (nb++[(lk,q)]))).map (·.2)=(bD c7 (fS 2 nb)).map (·.2)++[.own (lk+2)]:=by simp[bD,fS]
   have l:(bD c7 (B2 lk nb)).map (·.2)=(bD c7 (fS 2 nb)).map (·.2)++[.own 10]:=by simp[bD,B2]
   rw[g,l];refine⟨by simp,λj x y h1 h2=>?_⟩;by_cases hj:j<((bD c7 (fS 2 nb)).map (·.2)).length
   ·rw[Vl hj]at h1 h2;rw[h1]at h2;cases h2;simp only[bD,fS,V7,Vt,Vr]at h1;obtain⟨z,n,rfl⟩:=h1;have hm:z.1∈az nb:=Vv.2 ⟨z,VE n,rfl⟩;have:=h8 _ hm;have m:=zI b hm;exact .own (Jw (by omega) (by omega))
   ·rw[Vq (by omega)]at h1 h2;have:j - ((bD c7 (fS 2 nb)).map (·.2)).length=0:=by
     have:=(Vf.1 h1).1;simpa using this
    rw[this]at h1 h2;cases h1;cases h2;exact .own (QQ a)
  ·rw[Kb a b];rw[show(([some (cj.mp (bD c7 (B2 lk nb))),some (cj.cells 190 [num iv,.own 0])]++mN (bS lk q nb)).drop (wB lk).length)=[] from Wi (by simp[wB,mN])];simp
def pw(l:List cC):Pm:=l.foldl (λp a=>dD a p) []
theorem Mo(l:List cC)(a:cC):pw (l++[a])=dD a (pw l):=by simp[pw]
theorem Hs{a:cC}{p}{o:Nat}(h:o∈az (dD a p)):o=a.cn\/o∈az p:=by
 unfold dD at h;split at h
 ·exact kE.1 h
 ·split at h
  ·exact kE.1 h
  ·exact .inr h
theorem xw:∀ {l:List cC} {p} {o:Nat},o∈az (l.foldl (λp a=>dD a p) p)->o∈az p\/∃a∈l,a.cn=o
 | [],_,_,h=>.inl h
 |a::l,p,o,h=>by
  rcases xw (l:=l) h with h|⟨b,hb,he⟩
  ·rcases Hs h with rfl|h
   ·exact .inr ⟨a,by simp,rfl⟩
   ·exact .inl h
  ·exact .inr ⟨b,VB _ hb,he⟩
theorem KD{l}{o:Nat}(h:o∈az (pw l)):∃a∈l,a.cn=o:=by
 rcases xw h with h|h
 ·simp[az]at h
 ·exact h
theorem ax.app{fs:List Nat}{xs ys a b}(h:ax fs xs ys)(k:ax fs a b):ax fs (xs++a) (ys++b):=⟨by simp[h.1,k.1],λj x y h1 h2=>by
 by_cases hj:j<xs.length
 ·rw[Vl hj]at h1;rw[Vl (by rw[h.1];exact hj)]at h2;exact h.2 j x y h1 h2
 ·rw[Vq (by omega)]at h1;rw[Vq (by rw[h.1];omega),h.1]at h2;exact k.2 _ x y h1 h2⟩
theorem Bk(iv lk:Nat)(nb:Nb)(p:Pm)(b:lk<8)(h:∀x∈az nb,x<8):fF 11 (qE iv lk nb p):=by
 refine fF.app (fF.app (.cons (.De rfl ?_) (.cons (.cells (V0 Ren.pure (V0 (gU (by omega)) Wp))) .nil)) (zN 11 nb)) (.cons .mp .nil);have a:(bD c7 (B2 lk nb)).map (·.2)=(bD c7 (fS 2 nb)).map (·.2)++[.own 10]:=by simp[bD,B2]
 rw[a];exact(zT 2 nb 11 h (by omega)).app (V0 (gU (by omega)) Wp)
theorem NO(iv lk:Nat)(nb:Nb)(l:List cC)(e:lk<8)(j:aN lk nb=none)(h8:∀x∈az nb,x<8)(hl:l.length<=100000)(ha:∀a∈l,a.Ok)(hn:(l.map (·.cn)).Nodup):aD prog 99 [.ptr 1 0,num lk,oh l] (cq iv nb) (λr σ'=>r=num 0/\σ'=qE iv lk nb (pw l)):=by
 have v:decide ((lk:Int)<0)=false:=VA (by omega);have w:decide ((256:Int)<=(lk:Int))=false:=VA (by omega);have hm:ir (lk:Int) (.own 10) (fS 2 nb)=B2 lk nb:=L0 (by rw[FG,j];rfl);have n:∀p,∀x∈az (bS lk p nb),x<8:=λp x hx=>by
  rcases kE.1 hx with rfl|h
  ·exact e
  ·exact h8 x h
 refine Xa<|aV func99 I ntmps99 I<|aj (.a 1 I<|.k [0,1,2] I)<|an<|aj (.a 2 I<|.k [0,1,2,12] I)<|ak I (λhc=>?_) (λhc=>?_)
 ·cases hc
 ·refine ao<|an<|aj (.a 1 I<|.v (cT I (v)) I<|.a 2 I<|.v (cT I (w)) I<|.a 1 I<|.k [0,1,2,18] I)<|ak I (λhc=>?_) (λhc=>?_)
  ·cases hc
  ·refine ao<|an<|aj (.a 3 I<|.k [0,1,2,19,20,21] I)<|ay<|eX [0,1,2,19,20,21] I<|bq (λr s=>∃k,k<=l.length/\r=l.length - k/\s=⟨[(0,.ptr 1 0),(1,num lk),(2,oh l),(19,oh l),(20,num l.length),(21,num k)],cq iv nb⟩) l.length ⟨0,by omega,rfl,rfl⟩ ?_;rintro r s ⟨k,t,rfl,rfl⟩;refine aj (.a 1 I<|.k [0,1,2,19,20,21,22] I)<|an<|ak I (λhc=>?_) (λhc=>?_)
   ·have hlt:k<l.length:=by have:=Vg hc;omega
    have c:=xB l k hlt;have d:(l.getD k Oe).Ok:=ha _ (b9 hlt);generalize l.getD k Oe=a at c d;refine ao<|an<|ay<|aK<|aZ (aX (k*6) I) I<|aZ (gr I (c) I) I<|av 2 I<|aF [0,1,2,8,19,20,21] I ?_;refine aj (.a 1 I<|.c rfl (dI a d) I<|.a 1 I<|.k [0,1,2,19,20,21,27] I)<|ak I (λhc=>?_) (λhc=>?_)
    ·cases hc
    ·refine ko (A:=cq iv nb) (dL iv nb h8) (.c 0<|.c 1<|.c 2<|.c 19<|.c 20<|.c 21 .nil) I<|ao<|aL (.v (aU I) I<|.a 1 I<|.k [0,1,2,19,20,21] I) ?_;exact⟨l.length - (k+1),by omega,k+1,by omega,rfl,rfl⟩
   ·refine bh<|an<|aj (.a 4 I<|.v (wg I (by kernel_rfl) (by kernel_rfl) I I I) I<|.k [0,1,2,33] I)<|ak I (λhc=>?_) (λhc=>?_)
    ·cases hc
    ·refine ao<|aK<|av 5 I<|bW (mF c7 rfl) I<|bw (YD (iP eY (k:=(lk:Int)) I j8 rfl rfl rfl (cz _) I) (hm.sto 0 I)) I I<|aF [0,1,2] I ?_;refine an<|aj (.a 3 I<|.k [0,1,44,45,46] I)<|ay<|eX [0,1,44,45,46] I<|bq (λr s=>∃k,k<=l.length/\r=l.length - k/\s=⟨[(0,.ptr 1 0),(1,num lk),(44,oh l),(45,num l.length),(46,num k)],qE iv lk nb (pw (l.take k))⟩) l.length ⟨0,by omega,rfl,rfl⟩ ?_;rintro r s ⟨k,t,rfl,rfl⟩;refine aj (.a 1 I<|.k [0,1,44,45,46,47] I)<|an<|ak I (λhc=>?_) (λhc=>?_)
     ·have hlt:k<l.length:=by have:=Vg hc;omega
      have c:=xB l k hlt;have d:(l.getD k Oe).Ok:=ha _ (b9 hlt);have f:l.take (k+1)=l.take k++[l.getD k Oe]:=by rw[XJ,Vm hlt,Qo,Vm hlt];rfl
      have i:aN (l.getD k Oe).cn (pw (l.take k))=none:=mE.2 λhm=>by
       obtain⟨b,hb,he⟩:=KD hm;have g:=hn.sublist ((List.take_sublist (k+1) l).map (·.cn));rw[f,Wu]at g;exact(X7.1 g).2.2 _ (Vv.2 ⟨b,hb,he⟩) _ (by simp) I
      generalize l.getD k Oe=a at c d f i;have u:dD a (pw (l.take k))=pw (l.take (k+1)):=by rw[f,Mo]
      have o:∀p,aN lk (bS lk p nb)=some p:=λp=>by rw[fI,Vn rfl]
      have m:=lg iv (bS lk (pw (l.take k)) nb) lk (pw (l.take k)) a (n _) (o _) d (λx hx=>by rw[i]at hx;cases hx);rw[CN]at m;refine ao<|an<|ay<|aK<|aZ (aX (k*6) I) I<|aZ (gr I (c) I) I<|av 2 I<|aF [0,1,10,44,45,46] I ?_;refine bp<|av 3 I<|br I I (VO (G9 e j h8 _ m) (λ_ σ' h=>?_));obtain⟨rfl,rfl⟩:=h;refine aF [0,1,44,45,46] I<|ko (A:=qE iv lk nb (dD a (pw (l.take k)))) (Bk iv lk nb _ e h8) (.c 0<|.c 1<|.c 44<|.c 45<|.c 46 .nil) I ?_;refine aL (.v (aU I) I<|.a 1 I<|.k [0,1,44,45,46] I)<|⟨l.length - (k+1),by omega,k+1,by omega,rfl,by rw[u];rfl⟩
     ·have q:k=l.length:=by have:=Vj hc;omega
      exact bh<|aj (.a 1 I<|.k [6] I)<|aA<|⟨_,V5 I,qE iv lk nb (pw (l.take k)),[],by simp,by simp[qE,cq,Bi,mN],Bk iv lk nb _ e h8,Ren.pure,rfl,by rw[q,VN]⟩
end
section
open Go.RowKit cm Mem
theorem mL{f a}[b:aM a]{s s' X p}[IsPure p](h:aD prog f (.ptr 0 0::a) [fm s] (λr σ'=>r=p/\σ'=[fm s'])):aD prog f (.ptr 0 0::a) [fm s,X] (λr σ'=>r=p/\σ'=[fm s',X]):=
 Y5 [0] I (V0 (.ptr rfl) VT) (.kept rfl (.cells VT) .nil) I (h.mono (by
  rintro r σ' ⟨rfl,rfl⟩;exact⟨_,[fm s'],Vh _,Mw.pure,.kept (.cells Ye) .nil,rfl,rfl⟩))
theorem vr(s:C9)(c:s.floor<2000000000):aD prog 96 [.ptr 0 0] [fm s] (λr σ'=>r= .any/\σ'=[fm {s with floor:=s.floor+1,made:=true,gM:=0}]):=λF base E w vs b a=>by
 refine(HT s c F base E w vs b a).mono ?_;rintro e w' ⟨v,r,σ',E',rfl,rfl,h⟩;exact⟨v,.any,_,E',rfl,⟨rfl,rfl⟩,h.1,h.2.1,h.2.2.1,.any _⟩
theorem HW(o c:Bool)(l b:List gG)(n f g:Nat)(a:(⟨n,1,0,o,l⟩:cC).Ok)(e:f<1000000000):aD prog 58 [.ptr 0 0,ri o l] [fm ⟨c,b,n,f,false,g⟩] (λr σ'=>r= .tuple [flag true,num 0]/\σ'=[fm ⟨o,l,n,f+1,true,0⟩]):=by
 have hl:l.length<=256:=a.len;have d:decide ((1073741824:Int)<=(f:Int))=false:=VA (by omega);refine Xa<|aV func58 I ntmps58 I<|aK<|bW (dv I I I) I<|av 2 I<|aF [0,3] I ?_;refine an<|aj (.a 2 I<|.k [0,3,7] I)<|ak I (λhc=>?_) (λhc=>?_)
 ·cases hc
 ·refine ao<|an<|aK<|av 2 I<|br I I (VO (mL (vp ⟨c,b,n,f,false,g⟩ o l 1 0 hl)) (λ_ σ' h=>?_));obtain⟨rfl,rfl⟩:=h;refine fW I (dI ⟨n,1,0,o,l⟩ a) I<|av 1 I<|aF [0,3,12] I ?_;refine ak I (λhc=>?_) (λhc=>?_)
  ·cases hc
  ·refine ao<|an<|ev mixed (by kernel_rfl) (.a 12 I<|.k [0,3,24] I) ?_;refine ak I (λhc=>?_) (λhc=>?_)
   ·cases hc
   ·refine ao<|an<|aj (.a 4 I<|.v (cT I (d)) I<|.k [0,3,29] I)<|ak I (λhc=>?_) (λhc=>?_)
    ·cases hc
    ·refine ao<|aK<|av 2 I<|fW I (qu o l hl) I<|av 3 I<|aF [0] I ?_;refine aK<|av 1 I<|br I I (VO (mL (vr ⟨o,l,n,f,false,g⟩ (by simp;omega))) (λ_ σ' h=>?_));obtain⟨rfl,rfl⟩:=h;refine aF [] I<|aj (.a 2 I<|.k [4,5] I)<|aA<|⟨_,V5 I,[fm ⟨o,l,n,f+1,true,0⟩],_,rfl,Vh _,.cons (.cells VT) .nil,Ren.pure,rfl,rfl⟩
theorem HX(o b:Bool)(l a:List gG)(n f g:Nat)(i:(⟨n,1,0,o,l⟩:cC).Ok)(k:a.length<=256)(q:f<1000000000):aD prog 58 [.ptr 0 0,ri o l] [fm ⟨b,a,n,f,true,g⟩] (λr σ'=>r= .tuple [flag (!(b==o&&decide (a=l))),num 0]/\σ'=[fm (if b=o/\a=l then⟨b,a,n,f,true,g⟩ else⟨o,l,n,f+1,true,0⟩)]):=by
 have hl:l.length<=256:=i.len;have m:decide ((1073741824:Int)<=(f:Int))=false:=VA (by omega);have c:=Dv b o a l k;have⟨p,j⟩:=dw (b==o&&decide (a=l));have d:(b=o/\a=l)↔p=true:=by rw[<-j];simp
 rw[j]at c ⊢;refine Xa<|aV func58 I ntmps58 I<|aK<|bW (dv I I I) I<|av 2 I<|aF [0,3] I ?_;refine an<|aj (.a 2 I<|.k [0,3,7] I)<|ak I (λhc=>?_) (λhc=>?_)
 ·cases hc
 ·refine ao<|an<|aK<|av 2 I<|br I I (VO (mL (vp ⟨b,a,n,f,true,g⟩ o l 1 0 hl)) (λ_ σ' h=>?_));obtain⟨rfl,rfl⟩:=h;refine fW I (dI ⟨n,1,0,o,l⟩ i) I<|av 1 I<|aF [0,3,12] I ?_;refine ak I (λhc=>?_) (λhc=>?_)
  ·cases hc
  ·refine ao<|an<|ev mixed (by kernel_rfl) (.a 10 I<|.v [21,22] (dW I (c)) I I<|.a 1 I<|.k [0,3,24] I) ?_;refine ak I (λhc=>?_) (λhc=>?_)
   ·subst hc;exact aj (.a 2 I<|.k [4,5] I)<|aA<|⟨_,V5 I,[fm ⟨b,a,n,f,true,g⟩],_,rfl,Vh _,.cons (.cells VT) .nil,Ren.pure,rfl,by rw[Vn (d.2 rfl)]⟩
   ·subst hc;refine ao<|an<|aj (.a 4 I<|.v (cT I (m)) I<|.k [0,3,29] I)<|ak I (λhc=>?_) (λhc=>?_)
    ·cases hc
    ·refine ao<|aK<|av 2 I<|fW I (qu o l hl) I<|av 3 I<|aF [0] I ?_;refine aK<|av 1 I<|br I I (VO (mL (vr ⟨o,l,n,f,true,g⟩ (by simp;omega))) (λ_ σ' h=>?_));obtain⟨rfl,rfl⟩:=h;refine aF [] I<|aj (.a 2 I<|.k [4,5] I)<|aA<|⟨_,V5 I,[fm ⟨o,l,n,f+1,true,0⟩],_,rfl,Vh _,.cons (.cells VT) .nil,Ren.pure,rfl,by rw[Vk (λe=>by cases d.1 e)]⟩
theorem B8(o:Bool)(l:List gG)(n f g:Nat)(hl:l.length<=256):aD prog 97 [.ptr 0 0] [fm ⟨o,l,n,f,true,g⟩] (λr σ'=>r= .tuple [dP ⟨n,f,g,o,l⟩,flag true]/\σ'=[fm ⟨o,l,n,f,true,g⟩]):=by
 refine Xa<|aV func97 I ntmps97 I<|aK<|av 2 I<|aF [0,2] I ?_;refine an<|aj (.a 9 I<|.k [0,2,12] I)<|ak I (λhc=>?_) (λhc=>?_)
 ·cases hc
 ·refine ao<|lN 13 20 mixed (.val [0] I (aP I) I I<|.val [0] I (aP I) I I<|.val [15] I (aP I) I I<|.val [16] I (aP I) I I<|.val [17] I (aP I) I I<|.val [0] I (aP I) I I<|.val [19] I (aP I) I I<|.val [20] I (aP I) I I<|.val [21] I (aP I) I I<|.val [0] I (aP I) I I<|.val [23] I (aP I) I I<|.val [24] I (aP I) I I<|.val [25] I (aP I) I I<|.nil) (by kernel_rfl) I I (aJ (ks:=[2,14,18,22,26]) I) ?_;refine br I I (VO (mL (vp ⟨o,l,n,f,true,g⟩ o l f g hl)) (λ_ σ' h=>?_));obtain⟨rfl,rfl⟩:=h;refine av 2 I<|aF [2,3] I ?_;exact aA<|⟨_,V5 I,[fm ⟨o,l,n,f,true,g⟩],_,rfl,Vh _,.cons (.cells VT) .nil,(Ren.pure:Ren _ (.tuple [dP ⟨n,f,g,o,l⟩,flag true]) (.tuple [dP ⟨n,f,g,o,l⟩,flag true])),rfl,rfl⟩
theorem HR(o:Bool)(l:List gG)(n f g:Nat)(a:cC)(ha:a.Ok)(hk:(⟨n,f,g,o,l⟩:cC).Ok)(hs:oa a ⟨n,f,g,o,l⟩)(b:a.seq<=f):aD prog 117 [.ptr 0 0,dP a] [fm ⟨o,l,n,f,true,g⟩] (λr σ'=>r= .tuple [flag false,num 0]/\σ'=[fm ⟨o,l,n,f,true,g⟩]):=by
 have e:a.cn=n:=hs.1;have c:decide ((a.cn:Int)≠(n:Int))=false:=VA (by omega);have d:decide (nI a ⟨n,f,g,o,l⟩<=0)=true:=VM (by unfold nI;simp only;split<;>(try split)<;>omega);refine Xa<|aV func117 I ntmps117 I<|aK<|bW (dv I I I) I<|av 2 I<|aF [0,3] I ?_;refine an<|aj (.a 2 I<|.k [0,3,9] I)<|ak I (λhc=>?_) (λhc=>?_)
 ·cases hc
 ·refine ao<|an<|ev mixed (by kernel_rfl) (.a 1 I<|.v [10] (dW I (dI a ha)) I I<|.a 8 I<|.v [15,19] (cT I (c)) I I<|.a 1 I<|.k [0,3,21] I) ?_;refine ak I (λhc=>?_) (λhc=>?_)
  ·exact absurd hc (by simp)
  ·refine ao<|aK<|av 1 I<|br I I (VO (mL (B8 o l n f g hk.len)) (λ_ σ' h=>?_));obtain⟨rfl,rfl⟩:=h;refine av 6 I<|aF [0,3,6,7] I ?_;refine an<|aj (.a 2 I<|.k [0,3,6,28] I)<|ak I (λhc=>?_) (λhc=>?_)
   ·exact absurd hc (by simp)
   ·refine ao<|an<|aj (.a 2 I<|.c rfl (pM a ⟨n,f,g,o,l⟩ ha hk hs) I<|.v (cT I (d)) I<|.k [0,3,42] I)<|ak I (λhc=>?_) (λhc=>?_)
    ·exact aj (.a 2 I<|.k [4,5] I)<|aA<|⟨_,V5 I,[fm ⟨o,l,n,f,true,g⟩],_,rfl,Vh _,.cons (.cells VT) .nil,Ren.pure,rfl,rfl⟩
    ·cases hc
open Go.Maps Go.Sort Go.Shelf Net
def jS(p:gO):List PV:=[num p.lk,num p.ot,num p.co,num p.ph,num p.lf,num p.bt]
def dz(l:List gO):List PV:=l.flatMap jS
instance (p:gO):aM (jS p):=by unfold jS;infer_instance
instance (p:gO):di (jS p):=by unfold jS;infer_instance
instance (l:List gO):aM (dz l):=Ym _ _ λ_=>inferInstance
theorem jT(l:List gO):(dz l).length=l.length*6:=by
 induction l with
 |nil=>rfl
 |cons a l ih=>simp only[dz,Wm,Vu,VI]at*;rw[ih];simp[jS];omega
theorem kP(l:List gO)(i:Nat)(hi:i<l.length):((dz l).drop (i*6)).take 6=jS (l.getD i cX):=by
 induction l generalizing i with
 |nil=>cases hi
 |cons a l ih=>
  cases i with
  |zero=>simp[dz,jS]
  |succ i=>
   have:=ih i (by simpa using hi);rw[show(i+1)*6=6+i*6 by omega,<-X4];show(((jS a++dz l).drop 6).drop (i*6)).take 6=_;rw[show(jS a++dz l).drop 6=dz l from Yb rfl,this];simp
theorem eH(l:List gO)(i j:Nat)(hi:i<l.length)(hj:j<6):(dz l)[i*6+j]? =(jS (l.getD i cX))[j]? :=by
 rw[<-kP l i hi,List.getElem?_take_of_lt hj,WV]
def IC(T:aw)(s:Nd):List PV:=[.raw (.int .i64 T.nodes),aY T.over,.slice T.ah.length (bR T.ah),num s.node,num 1,num 1,num 3,num 2,num s.time,.own 1,flag s.over,.slice 0 [],.ptr 3 0,.ptr 5 0,.ptr 6 0]
def EP(T:aw)(s:Nd):bH:=[some (.cells 76 (IC T s)),some (.row 84 6 s.au.length (dz s.au)),Dz s.db,some (.cells 158 [.own 2]),some (.mp (bD c7 (fS 7 s.nb))),some (.cells 190 [num 2,.own 4]),fm s.og]
def aW(T:aw)(s:Nd):bH:=EP T s++mN s.nb
theorem eV.opt{fs:List Nat}{σ σ'}{js:List Nat}{j:Nat}{d}(h:σ[j]? =some d)(hb:∀c,d=some c->ji fs c c)(hs:eV fs σ σ' js):eV fs σ (d::σ') (j::js):=by
 cases d with
 |none=>exact .gone hs
 |some c=>exact .kept h (hb c rfl) hs
theorem sb{fs:List Nat}(T:aw)(s:Nd)(h1:fs[1]? =some 1)(a:fs[3]? =some 3)(b:fs[5]? =some 5)(c:fs[6]? =some 6):ax fs (IC T s) (IC T s):=
 .cons .pure<|.cons .pure<|.cons .pure<|.cons .pure<|.cons .pure<|.cons .pure<|.cons .pure<|.cons .pure<|.cons .pure<|.cons (.own h1)<|.cons .pure<|.cons .pure<|.cons (.ptr a)<|.cons (.ptr b)<|.cons (.ptr c) .nil
theorem bU(T:aw)(s:Nd)(h8:∀x∈az s.nb,x<8):fF 15 (aW T s):=
 .cons (.cells (sb T s rfl rfl rfl rfl))<|.cons (.row VT)<|.cons .mp<|.cons (.cells (V0 (gU (by omega)) Wp))<|.cons (.De rfl (zT 7 s.nb 15 h8 (by omega)))<|.cons (.cells (V0 Ren.pure (V0 (gU (by omega)) Wp)))<|.cons (.cells VT) (zN 15 s.nb)
theorem F1{g:Nat->Nat}(T:aw)(s:Nd)(hg:∀k,k<15->g k=k):fB g (IC T s) (IC T s):=
 .cons .pure<|.cons .pure<|.cons .pure<|.cons .pure<|.cons .pure<|.cons .pure<|.cons .pure<|.cons .pure<|.cons .pure<|.cons (.own (hg 1 (by omega)))<|.cons .pure<|.cons .pure<|.cons (.ptr (hg 3 (by omega)))<|.cons (.ptr (hg 5 (by omega)))<|.cons (.ptr (hg 6 (by omega))) .nil
theorem L7{g:Nat->Nat}(T:aw)(s:Nd)(h8:∀x∈az s.nb,x<8)(hg:∀k,k<15->g k=k):uF g (aW T s) (aW T s):=
 .kept (.cells (F1 T s hg))<|.kept (.row Ye)<|.kept (.mp rfl Ye)<|.kept (.cells (XN (.own (hg 2 (by omega))) Y9))<|.kept (.mp rfl (Ee h8 λk hk=>hg _ (by omega)))<|.kept (.cells (XN Mw.pure (XN (.own (hg 4 (by omega))) Y9)))<|.kept (.cells Ye) (nO g s.nb)
theorem mW{f a T}{s s':Nd}{p}[IsPure p](h8:∀x∈az s.nb,x<8)(b:∀x∈az s'.nb,x<8)(c:ax (List.range 15) a a)(X:bH)(h:aD prog f a (aW T s) (λr σ'=>r=p/\σ'=aW T s')):aD prog f a (aW T s++X) (λr σ'=>r=p/\σ'=aW T s'++X):=
 aD.low (bU T s h8) c h (by
  rintro r B ⟨rfl,rfl⟩;exact⟨rfl,Mw.pure,L7 T s' b λk hk=>oP hk,rfl,rfl⟩)
theorem kz{f a}[aM a]{T}{s:Nd}{d p}[IsPure p](X:bH)(h:aD prog f (.ptr 1 0::a) (iW s.db) (λr σ'=>r=p/\σ'=iW d)):aD prog f (.ptr 3 0::a) (aW T s++X) (λr σ'=>r=p/\σ'=aW T {s with db:=d}++X):=
 Y5 [2,3] I (V0 (.ptr rfl) VT) (.kept rfl .mp<|.kept rfl (.cells (V0 (.own rfl) Wp)) .nil) I (h.mono (by
  rintro r B ⟨rfl,rfl⟩;exact⟨_,[Dz d,some (.cells 158 [.own 2])],Vh _,Mw.pure,.kept (.mp rfl Ye)<|.kept (.cells (XN (.own rfl) Y9)) .nil,rfl,V6 _⟩))
theorem Aj{f a}[aM a]{T}{s:Nd}{o p}[IsPure p](X:bH)(h:aD prog f (.ptr 0 0::a) [fm s.og] (λr σ'=>r=p/\σ'=[fm o])):aD prog f (.ptr 6 0::a) (aW T s++X) (λr σ'=>r=p/\σ'=aW T {s with og:=o}++X):=
 Y5 [6] I (V0 (.ptr rfl) VT) (.kept rfl (.cells VT) .nil) I (h.mono (by
  rintro r B ⟨rfl,rfl⟩;exact⟨_,[fm o],Vh _,Mw.pure,.kept (.cells Ye) .nil,rfl,V6 _⟩))
def P5:List Nat:=[4,5,7,8,9,10,11,12,13,14]
theorem Kk{k:Nat}(h:k<8):P5[k+2]? =some (k+7):=by
 rcases(show k=0\/k=1\/k=2\/k=3\/k=4\/k=5\/k=6\/k=7 by omega)with rfl|rfl|rfl|rfl|rfl|rfl|rfl|rfl<;>rfl
theorem Om{nb}(h8:∀x∈az nb,x<8):ax P5 ((bD c7 (fS 2 nb)).map (·.2)) ((bD c7 (fS 7 nb)).map (·.2)):=⟨by simp[bD,fS],λj x y h1 h2=>by
 simp only[bD,fS,V7,Vt,Vr]at h1 h2;obtain⟨z,b,rfl⟩:=h1;obtain⟨c,a,rfl⟩:=h2;rw[b]at a;cases a;exact .own (Kk (h8 z.1 (Vv.2 ⟨z,VE b,rfl⟩)))⟩
theorem CR(T:aw)(s:Nd)(h8:∀x∈az s.nb,x<8)(X:bH):eV P5 (aW T s++X) (cq 2 s.nb) P5:=
 .kept rfl (.De (K6 2 7 s.nb) (Om h8))<|.kept rfl (.cells (V0 Ren.pure (V0 (.own rfl) Wp)))<|.opt rfl iI<|.opt rfl iI<|.opt rfl iI<|.opt rfl iI<|.opt rfl iI<|.opt rfl iI<|.opt rfl iI<|.opt rfl iI .nil
theorem Jv{k n:Nat}(h:k<8):bk P5 n (k+2)=k+7:=by
 unfold bk;rw[Vn (by show k+2<10;omega),Qo,Kk h];rfl
theorem mf{f b}[aM b]{T}{s:Nd}{nb p}[IsPure p](h8:∀x∈az s.nb,x<8)(a:∀x∈az nb,x<8)(X:bH)(h:aD prog f (.ptr 1 0::b) (cq 2 s.nb) (λr σ'=>r=p/\σ'=cq 2 nb)):aD prog f (.ptr 5 0::b) (aW T s++X) (λr σ'=>r=p/\σ'=aW T {s with nb:=nb}++X):=
 Y5 P5 rfl (V0 (.ptr rfl) VT) (CR T s h8 X) I (h.mono (by
  rintro r B ⟨rfl,rfl⟩;exact⟨_,[some (.mp (bD c7 (fS 7 nb))),some (.cells 190 [num 2,.own 4])]++mN nb,Vh _,Mw.pure,.kept (.mp (K6 2 7 nb) (Ee a λk hk=>Jv hk))<|.kept (.cells (XN Mw.pure (XN (.own rfl) Y9))) (nO _ nb),rfl,V6 _⟩))
end
section
open Go.RowKit Go.Maps Go.Sort Go.Shelf cm Mem
def CQ(x:Nat×cC):List PV:=[num x.1,num x.2.cn,num x.2.seq,num x.2.gM,flag x.2.over,eG x.2.cU,.slice 0 []]
instance (x:Nat×cC):aM (CQ x):=by unfold CQ;infer_instance
def ki(l:List (Nat×cC)):List PV:=l.flatMap CQ
def FZ(l:List (Nat×cC)):PV:=.slice l.length (ki l)
instance (l:List (Nat×cC)):aM (ki l):=Ym _ _ λ_=>inferInstance
instance (l:List (Nat×cC)):IsPure (FZ l):=by unfold FZ;infer_instance
theorem EL(l:List (Nat×cC))(a:Nat×cC):ki l++CQ a=ki (l++[a]):=by simp[ki]
theorem Bj(iv:Nat)(nb:Nb)(e s n:Nat)(xs:List PV)[aM xs](h:∀x∈az nb,x<8):fF 11 (cq iv nb++[some (.row e s n xs)]):=by
 have h1:=dL iv nb h;refine fF.app (λi b hb=>?_) (.cons (.row VT) .nil);exact(h1 i b hb).more (gs:=[10])
def oE(iv:Nat)(_:Nat)(x:cC×Nat):cC×Nat:=if x.2=0 then(x.1,iv) else x
def wH(iv:Nat)(_:Nat)(p:Pm):Pm:=zP iv p
theorem OS(iv:Nat)(p:Pm):bL (bT (az p)) (oE iv) p=zP iv p:=mJ (λ_ h=>eN.2 h)
theorem OR(iv:Nat)(nb:Nb):bL (bT (az nb)) (wH iv) nb=mc iv nb:=mJ (λ_ h=>eN.2 h)
def qA(lk:Nat)(p:Pm)(T:List Nat):List (Nat×cC):=T.filterMap λo=>(aN o p).bind λx=>if x.2=0 then some (lk,x.1) else none
theorem G0{lk:Nat}{p}{T:List Nat}{o:Nat}{x:cC×Nat}(h:aN o p=some x):qA lk p (T++[o])=qA lk p T++(if x.2=0 then [(lk,x.1)] else []):=by
 by_cases hx:x.2=0<;>simp[qA,List.filterMap_append,List.filterMap_cons,List.filterMap_nil,h,hx]
theorem J0(lk:Nat)(p:Pm):qA lk p (bT (az p))=sH lk p:=rfl
def qz(nb:Nb)(S:List Nat):List (Nat×cC):=S.flatMap λlk=>sH lk ((aN lk nb).getD [])
theorem GZ{nb}{S:List Nat}{lk:Nat}{p}(h:aN lk nb=some p):qz nb (S++[lk])=qz nb S++sH lk p:=by simp[qz,h]
theorem Ba(lk:Nat)(p:Pm)(T:List Nat):(qA lk p T).length<=T.length:=YL ..
theorem A9{nb}(hp:∀lk p,aN lk nb=some p->p.length<=1000)(S:List Nat):(qz nb S).length<=S.length*1000:=by
 induction S with
 |nil=>simp[qz]
 |cons o S ih=>
  have e:qz nb (o::S)=sH o ((aN o nb).getD [])++qz nb S:=by simp[qz]
  have h1:(sH o ((aN o nb).getD [])).length<=1000:=by
   refine VL (Ba _ _ _) ?_;rw[ez];cases h:aN o nb with
   |none=>simp[az]
   |some p=>simpa[az]using hp o p h
  rw[e,Vu,VI];omega
theorem IZ{Φ σ t}{o:Oper}[d:Has prog Φ]{ρ:Go.Shelf.Ren}{f1 i j:Nat}{T}{kv:List (Int×PV)}{S:List Nat}(hs:bm (pn (kv.map (·.1)))=fc S)(L:SlLaysZI.n10 prog ρ)(c:ρ.t 26=3)(b:ρ.f 10=f1)(a:enters prog f1=true)(h:oQ Φ t o.op=some (136,[.func f1 [.ptr j 0]]))(hj:σ[j]? =some (some (.cells T [.own i])))(hi:σ[i]? =some (some (.mp (bD c7 kv))))(hr:∀x∈kv,0<=x.1/\x.1<1000)(hl:kv.length<=1000):bE prog σ t o (fc S):=hs▸wj L c b a h hj hi hr hl
theorem Hc(iv:Nat)(nb:Nb)(aq:0<iv)(h8:∀x∈az nb,x<8)(hn:(az nb).Nodup)(hl:nb.length<=1000)(hp:∀lk p,aN lk nb=some p->p.length<=1000/\(az p).Nodup/\(∀x∈az p,x<1000)/\∀o x,aN o p=some x->x.1.cU.length<=256):aD prog 107 [.ptr 1 0] (cq iv nb) (λr σ'=>r=FZ (oz nb)/\σ'=cq iv (mc iv nb)):=by
 have ab:=kZ iv nb h8 hl;have w:∀k,k<(bT (az nb)).length->(bT (az nb)).getD k 0∉(bT (az nb)).take k:=λk h=>lE hn h;have e:∀k,k<(bT (az nb)).length->(bT (az nb)).getD k 0∈az nb:=λk h=>kj h;have M:=OR iv nb;have D:qz nb (bT (az nb))=oz nb:=rfl;have J:∀S,∀x∈az (bL S (wH iv) nb),x<8:=λS=>by rw[ll];exact h8
 have ah:(bT (az nb)).length=nb.length:=by rw[ez];simp[az]
 have X:=A9 (nb:=nb) (λlk p h=>(hp lk p h).1);generalize bT (az nb)=S at*;have ax:(S.map Int.ofNat).length=S.length:=by simp
 refine Xa<|aV func107 I ntmps107 I<|aj (.a 1 I<|.k [0] I)<|aj (.a 1 I<|.k [0,3] I)<|an<|aK<|av 1 I<|br I I (VO (ab) (λ_ σ' h=>?_));obtain⟨rfl,rfl⟩:=h;refine av 2 I<|aF [0,3,11,12,13] I ?_;refine fe 3 215 7 I<|ay<|eX [0,3,11,12,13] I<|bq (λr s=>∃k,k<=S.length/\r=S.length - k/\s=⟨[(0,.ptr 1 0),(3,.own 10),(11,fc S),(12,num S.length),(13,num k)],cq iv (bL (S.take k) (wH iv) nb)++[some (.row 215 7 (qz nb (S.take k)).length (ki (qz nb (S.take k))))]⟩) S.length ⟨0,by omega,rfl,by simp[fc,bm,jP,qz,ki];rfl⟩ ?_;rintro r s ⟨k,au,rfl,rfl⟩;refine aj (.a 1 I<|.k [0,3,11,12,13,14] I)<|an<|ak I (λhc=>?_) (λhc=>?_)
 ·have hlt:k<S.length:=by have:=Vg hc;omega
  have N:=jv S k hlt;have w:=w k hlt;have e:=e k hlt;have H:=jc S hlt;have K:=X (S.take k);rw[V8]at K;generalize S.getD k 0=o at N w e H;obtain⟨p,z⟩:=fC e;have f:aN o (bL (S.take k) (wH iv) nb)=some p:=by rw[iX,z];simp[w]
  have R:bS o (zP iv p) (bL (S.take k) (wH iv) nb)=bL (S.take (k+1)) (wH iv) nb:=by rw[H];exact jQ (g:=wH iv) hn z
  have Y:qz nb (S.take (k+1))=qz nb (S.take k)++sH o p:=by rw[H];exact GZ z
  have B:=J (S.take k);have v:=h8 o e;have aa:cQ (o:Int) (fS 2 (bL (S.take k) (wH iv) nb))=some (.own (o+2)):=ju f;obtain⟨ag,Q,af,ae⟩:=hp o p z;have ai:(bT (az p)).length=p.length:=by rw[ez];simp[az]
  have c:∀k,k<(bT (az p)).length->(bT (az p)).getD k 0∉(bT (az p)).take k:=λk h=>lE Q h;have b:∀k,k<(bT (az p)).length->(bT (az p)).getD k 0∈az p:=λk h=>kj h;have C:=OS iv p;have t:=J0 o p;have W:bm (pn ((ib kO p).map (·.1)))=fc (bT (az p)):=by rw[zy,sZ];rfl
  generalize bT (az p)=T at*;have aw:(T.map Int.ofNat).length=T.length:=by simp
  generalize bL (S.take k) (wH iv) nb=a at*;generalize qz nb (S.take k)=m at*;refine ao<|an<|ay<|aj (.v (aX (k) I) I<|.v (aO I (N)) I<|.a 1 I<|.k [0,3,5,11,12,13] I)<|aj (.a 5 I<|.v (fu eY (k:=(o:Int)) I j8 qj rfl rfl rfl (cz _) (by rw[aa];first|done|rfl)) I<|.a 1 I<|.k [0,3,5,6,11,12,13] I)<|aK<|av 1 I<|br I I (VO (H2 (cq iv a++[some (.row 215 7 m.length (ki m))]) (o+2)) (λ_ σ' h=>?_));obtain⟨rfl,rfl⟩:=h;refine aZ (IZ W (kv:=ib kO p) Tryz.Un rfl rfl (by kernel_rfl) I I (gF v f _) (λx hx=>by obtain⟨y,hy,rfl⟩:=Vv.1 hx;have:=af y.1 (Vv.2 ⟨y,hy,rfl⟩);simp only;omega) (by simpa[ib]using ag)) I<|av 2 I<|aF [0,3,5,6,11,12,13,25,26,27] I ?_;refine ko (A:=cq iv a++[some (cj.row 215 7 m.length (ki m))]) (Bj iv a _ _ _ _ B) (.c 0<|.c 3<|.c 5<|.cons 6 I (gU (show o+2<11 by omega))<|.c 11<|.c 12<|.c 13<|.c 25<|.c 26<|.c 27 .nil) I<|ay<|eX [0,3,5,6,11,12,13,25,26,27] I<|bq (λr s=>∃j,j<=T.length/\r=T.length - j/\s=⟨[(0,.ptr 1 0),(3,.own 10),(5,num o),(6,.own (o+2)),(11,fc S),(12,num S.length),(13,num k),(25,fc T),(26,num T.length),(27,num j)],cq iv (bS o (bL (T.take j) (oE iv) p) a)++[some (.row 215 7 (m++qA o p (T.take j)).length (ki (m++qA o p (T.take j))))]⟩) T.length ⟨0,by omega,rfl,by simp[fc,bm,jP,qA,jU f]⟩ ?_;rintro r s ⟨j,ar,rfl,rfl⟩;refine aj (.a 1 I<|.k [0,3,5,6,11,12,13,25,26,27,28] I)<|an<|ak I (λhc=>?_) (λhc=>?_)
  ·have u:j<T.length:=by have:=Vg hc;omega
   have O:=jv T j u;have c:=c j u;have b:=b j u;have G:=jc T u;generalize T.getD j 0=y at O c b G;obtain⟨x,hx⟩:=fC b;have U:aN y (bL (T.take j) (oE iv) p)=some x:=by rw[iX,hx];simp[c]
   have l:bS y (oE iv y x) (bL (T.take j) (oE iv) p)=bL (T.take (j+1)) (oE iv) p:=by rw[G];exact jQ Q hx
   have d:qA o p (T.take (j+1))=qA o p (T.take j)++(if x.2=0 then [(o,x.1)] else []):=by rw[G];exact G0 hx
   have F:aN o (bS o (bL (T.take j) (oE iv) p) a)=some (bL (T.take j) (oE iv) p):=by rw[fI,Vn rfl]
   have V:=kp (q:=bL (T.take j) (oE iv) p) B f;have ad:cQ (y:Int) (ib kO (bL (T.take j) (oE iv) p))=some (kO x):=by rw[gH,U];rfl
   have L:=Ba o p (T.take j);rw[V8]at L;have al:(m++qA o p (T.take j)).length<=2000000:=by rw[Vu];omega
   refine ao<|an<|ay<|aj (.v (aX (j) I) I<|.v (aO I (O)) I<|.a 1 I<|.k [0,3,5,6,8,11,12,13,25,26,27] I)<|aK<|av 2 I<|aZ (fu eY (k:=(y:Int)) I jH wm rfl (gF v F _) I (cz _) (by rw[ad];first|done|rfl)) I<|av 2 I<|aF [0,3,5,6,8,9,11,12,13,25,26,27] I ?_;refine an<|aj (.a 3 I<|.k [0,3,5,6,8,9,11,12,13,25,26,27,36] I)<|ak I (λhc=>?_) (λhc=>?_)
   ·have hx2:¬x.2=0:=by have:=Vg hc;omega
    have E:oE iv y x=x:=by unfold oE;rw[Vk hx2]
    rw[E,jU U]at l;rw[Vk hx2,V6]at d;refine ko (A:=cq iv (bS o (bL (T.take j) (oE iv) p) a)++[some (cj.row 215 7 (m++qA o p (T.take j)).length (ki (m++qA o p (T.take j))))]) (Bj iv _ _ _ _ _ V) (.c 0<|.c 3<|.c 5<|.cons 6 I (gU (show o+2<11 by omega))<|.c 11<|.c 12<|.c 13<|.c 25<|.c 26<|.c 27 .nil) I<|bh<|aL (.v (aU I) I<|.a 1 I<|.k [0,3,5,6,11,12,13,25,26,27] I) ?_;first|exact⟨T.length - (j+1),by omega,j+1,by omega,rfl,rfl⟩|exact⟨T.length - (j+1),by omega,j+1,by omega,rfl,by rw[l,d];rfl⟩
   ·have hx2:x.2=0:=by have:=Vj hc;omega
    have E:oE iv y x=(x.1,iv):=by unfold oE;rw[Vn hx2]
    rw[E]at l;rw[Vn hx2]at d;have hm:ir (y:Int) (kO (x.1,iv)) (ib kO (bL (T.take j) (oE iv) p))=ib kO (bL (T.take (j+1)) (oE iv) p):=by rw[sX,l]
    refine ao<|aK<|av 4 I<|fW I (qD x.1 (ae y x hx)) I<|av 2 I<|bW (bP I (VW I) I I I I (by unfold maxLen;omega)) I<|av 1 I<|aF [0,3,5,6,8,9,11,12,13,25,26,27] I ?_;refine aK<|av 6 I<|aF [0,3,5,6,8,9,11,12,13,25,26,27] I ?_;refine bp<|av 3 I<|bw (YD (iP eY (k:=(y:Int)) I jH rfl (gF v F _) I (cz _) I) (hm.sto (o+2) (pH v F _))) I I<|aF [0,3,5,6,11,12,13,25,26,27] I ?_;rw[CN];refine yS (A:=cq iv (bS o (bL (T.take (j+1)) (oE iv) p) a)) (b':=.row 215 7 (m++qA o p (T.take (j+1))).length (ki (m++qA o p (T.take (j+1))))) 2 I (dL iv _ (kp B f)) (.eZ (by rw[d];simp[Xk]) (by rw[d,<-VU,<-EL];rfl)) (.c 0<|.cons 3 I (.own (i:=10) I)<|.c 5<|.cons 6 I (gU (n:=10) (show o+2<10 by omega)).more<|.c 11<|.c 12<|.c 13<|.c 25<|.c 26<|.c 27 .nil) I<|aL (.v (aU I) I<|.a 1 I<|.k [0,3,5,6,11,12,13,25,26,27] I) ?_;first|exact⟨T.length - (j+1),by omega,j+1,by omega,rfl,rfl⟩|exact⟨T.length - (j+1),by omega,j+1,by omega,rfl,by rw[l,d];rfl⟩
  ·have Z:j=T.length:=by have:=Vj hc;omega
   refine bh<|aL (.v (aU I) I<|.a 1 I<|.k [0,3,11,12,13] I) ?_;exact⟨S.length - (k+1),by omega,k+1,by omega,rfl,by rw[Z,VN,C,R,t,Y];rfl⟩
 ·have P:k=S.length:=by have:=Vj hc;omega
  refine bh<|aj (.a 2 I<|.k [2] I)<|sy 2 10 I I ?_;exact aA<|⟨_,V5 I,cq iv (bL (S.take k) (wH iv) nb),_,rfl,Vh _,dL iv _ (J _),Ren.pure,by rw[P,VN,D];rfl,by rw[P,VN,M]⟩
open Net
theorem mP(T:aw)(s:Nd)(lk i:Nat)(c:s.au.length<=1000)(hi:i<s.au.length)(he:(s.au.getD i cX).lk=lk)(b:∀j,j<i->(s.au.getD j cX).lk≠lk):aD prog 25 [.ptr 0 0,num lk] (aW T s) (λr σ'=>r= .ptr 1 (i*6)/\σ'=aW T s):=by
 refine aV func25 I ntmps25 I<|aj (.a 1 I<|.k [0,1] I)<|an<|aj (.a 6 I<|.k [0,1,10,11] I)<|ay<|eX [0,1,10,11] I<|bq (λr st=>∃k,k<=i/\r=i+1 - k/\st=⟨[(0,.ptr 0 0),(1,num lk),(10,num s.au.length),(11,num k)],aW T s⟩) (i+1) ⟨0,by omega,rfl,rfl⟩ ?_;rintro r st ⟨k,hk,rfl,rfl⟩;refine aj (.a 1 I<|.k [0,1,10,11,12] I)<|an<|ak I (λhc=>?_) (λhc=>?_)
 ·have hlt:k<s.au.length:=by have:=Vg hc;omega
  refine ao<|an<|ay<|aj (.a 2 I<|.k [0,1,5,10,11] I)<|aj (.a 5 I<|.v (aX (k*6) I) I<|.a 1 I<|.v (aO I (eH s.au k 0 hlt (by decide))) I<|.a 2 I<|.k [0,1,5,10,11,23] I)<|ak I (λhc=>?_) (λhc=>?_)
  ·have h1:((s.au.getD k cX).lk:Int)=(lk:Int):=Vg hc;have a:k=i:=by
    rcases Ww k i with h|h
    ·exact absurd (by omega) (b k h)
    ·omega
   exact aj (.a 5 I<|.v (aX (k*6) I) I<|.a 1 I<|.k [4] I)<|aA<|⟨_,V5 I,by rw[a];rfl,rfl⟩
  ·have h1:¬((s.au.getD k cX).lk:Int)=(lk:Int):=Vj hc;have a:k≠i:=λe=>h1 (by rw[e,he]);refine ao<|aL (.v (aU I) I<|.a 1 I<|.k [0,1,10,11] I) ?_;exact⟨i+1 - (k+1),by omega,k+1,by omega,rfl,rfl⟩
 ·have:=Vj hc;omega
def FV(x:Nat×km):List PV:=[num x.1,cE (rI x.2)]
instance (x:Nat×km):aM (FV x):=by unfold FV;infer_instance
theorem H5(T:aw)(s:Nd)(lk n h:Nat)(h8:∀x∈az s.nb,x<8)(hm:(km.df n 1 h).Ok):aD prog 72 [.ptr 0 0,num lk,mb (.df n 0 h)] (aW T s) (λr σ'=>r= .agg (FV (lk,.df n 1 h))/\σ'=aW T s):=by
 have hp:=H4 n 1 h hm;refine Xa<|aV func72 I ntmps72 I<|aK<|bW (dv I I I) I<|av 1 I<|aF [0,1,5,6] I ?_;refine aK<|av 6 I<|aF [1,5,6] I ?_;refine aj (.a 1 I<|.c rfl (hp) I<|.a 5 I<|.k [1,6,7] I)<|aK<|av 4 I<|aF [6] I ?_;exact aA<|⟨_,V5 I,aW T s,_,rfl,Vh _,bU T s h8,(Ren.pure:Ren _ (.agg (FV (lk,.df n 1 h))) (.agg (FV (lk,.df n 1 h)))),rfl,rfl⟩
theorem xQ(T:aw)(s:Nd)(lk k:Nat)(a:cC)(h8:∀x∈az s.nb,x<8)(hm:(km.iU k 1 a).Ok):aD prog 72 [.ptr 0 0,num lk,mb (.iU k 0 a)] (aW T s) (λr σ'=>r= .agg (FV (lk,.iU k 1 a))/\σ'=aW T s):=by
 have hp:=H3 k 1 a hm;refine Xa<|aV func72 I ntmps72 I<|aK<|bW (dv I I I) I<|av 1 I<|aF [0,1,5,6] I ?_;refine aK<|av 6 I<|aF [1,5,6] I ?_;refine aj (.a 1 I<|.c rfl (hp) I<|.a 5 I<|.k [1,6,7] I)<|aK<|av 4 I<|aF [6] I ?_;exact aA<|⟨_,V5 I,aW T s,_,rfl,Vh _,bU T s h8,(Ren.pure:Ren _ (.agg (FV (lk,.iU k 1 a))) (.agg (FV (lk,.iU k 1 a)))),rfl,rfl⟩
def RP(a:cC)(d:Db):Prop:=∀x,aN a.cn d=some x->x.Ok/\oa a x
theorem w8(d:Db)(a:cC)(ha:a.Ok)(hg:RP a d):aD prog 98 [.ptr 1 0,dP a] (iW d) (λr σ'=>r= .tuple [num (gm a d).2,num 0]/\σ'=iW (gm a d).1):=by
 cases h:aN a.cn d with
 |none=>rw[DY h];exact DA d a ha h
 |some x=>exact DB d a x ha (hg x h).1 (hg x h).2 h
theorem HQ(s:C9)(hm:s.made=true)(hl:s.cU.length<=256):aD prog 97 [.ptr 0 0] [fm s] (λr σ'=>r= .tuple [dP (l7 s),flag true]/\σ'=[fm s]):=by
 obtain⟨o,l,n,f,m,g⟩:=s;cases hm;exact B8 o l n f g hl
structure Nd.Fit (s:Nd):Prop where
 h8:∀x∈az s.nb,x<8
 nn:(az s.nb).Nodup
 nl:s.nb.length<=1000
 pl:s.au.length<=1000
def MW(a:cC)(s:Nd):Prop:=RP a s.db/\∀lk p,aN lk s.nb=some p->wq a p
theorem mX(a:cC)(ex:Int)(nb:Nb):az (iT a ex nb)=az nb:=by simp[iT,az]
theorem Nd.Fit.set{s:Nd}(h:s.Fit){nb:Nb}(hk:az nb=az s.nb):∀x∈az nb,x<8:=by rw[hk];exact h.h8
theorem Cr(T:aw)(s:Nd)(c:s.Fit)(hm:s.og.made=true)(a:(l7 s.og).Ok)(hg:MW (l7 s.og) s):aD prog 59 [.ptr 0 0] (aW T s) (λr σ'=>σ'=aW T s.OW):=by
 have h8:=c.h8;have b:=c.set (mX (l7 s.og) (-1) s.nb);have e:=tx 2 s.nb (l7 s.og) (-1) c.h8 c.nn c.nl a hg.2;refine Xa<|aV func59 I ntmps59 I<|aK<|av 4 I<|br I I (VO (Aj (s:=s) (o:=s.og) [] (HQ s.og hm a.len)) (λ_ σ' h=>?_));obtain⟨rfl,rfl⟩:=h;refine av 6 I<|aF [0,2] I ?_;refine lN 5 20 mixed (.val [0] I (aP I) I I<|.val [12] I (aP I) I I<|.val [13] I (aP I) I I<|.val [14] I (aP I) I I<|.val [2] I (aP I) I I<|.nil) (by kernel_rfl) I I (aJ (ks:=[0,2,15,16]) I)<|br I I (VO (kz (s:=s) (d:=(gm (l7 s.og) s.db).1) _ (w8 s.db (l7 s.og) a hg.1)) (λ_ σ' h=>?_));obtain⟨rfl,rfl⟩:=h;refine aF [0,2] I<|dE 5 20 mixed (.val [0] I (aP I) I I<|.val [18] I (aP I) I I<|.val [19] I (aP I) I I<|.val [20] I (aP I) I I<|.val [2] I (aP I) I I<|.nil) (by kernel_rfl) I I (aJ (ks:=[21,22]) I) ?_;refine br I I (VO (mf (s:= {s with db:=(gm (l7 s.og) s.db).1}) (nb:=iT (l7 s.og) (-1) s.nb) h8 b _ e) (λ_ σ' h=>?_));obtain⟨rfl,rfl⟩:=h;refine aF [] I<|⟨_,V5 I,aW T s.OW,_,rfl,Vh _,bU T s.OW b,Ren.pure,rfl⟩
theorem NN{A:bH}{b b' r}(h:yL (A.length+1) r b b'):AE (A.length+1) r (A++[some b,some r]) (A++[some b',none]):=by
 refine⟨by simp,by simp,λj hj=>?_⟩;by_cases h1:j<A.length
 ·exact .inl (by rw[Vl h1,Vl h1])
 ·by_cases h2:j=A.length
  ·subst h2;exact .inr ⟨b,b',by simp,by simp,h⟩
  ·refine .inl ?_;rw[Vq (by omega),Vq (by omega),V4 (by simp;omega),V4 (by simp;omega)]
def sN(s:C9)(o:Bool)(l:List gG):Bool:= !(s.made&&(s.over==o&&decide (s.cU=l)))
theorem rJ(s:C9)(o:Bool)(l:List gG):sN s o l=false↔s.made=true/\s.over=o/\s.cU=l:=by
 unfold sN;cases s.made<;>simp
theorem Lj(s:C9)(o:Bool)(l:List gG)(c:(⟨s.node,1,0,o,l⟩:cC).Ok)(d:s.cU.length<=256)(i:s.floor<1000000000):aD prog 58 [.ptr 0 0,ri o l] [fm s] (λr σ'=>r= .tuple [flag (sN s o l),num 0]/\σ'=[fm (if sN s o l then⟨o,l,s.node,s.floor+1,true,0⟩ else s)]):=by
 obtain⟨b,a,n,f,m,g⟩:=s;cases m with
 |false=>exact HW o b l a n f g c i
 |true=>
  have h:=HX o b l a n f g c d i;by_cases hs:b=o/\a=l
  ·have e:sN ⟨b,a,n,f,true,g⟩ o l=false:=(rJ _ _ _).2 ⟨rfl,hs⟩;rw[e];rw[Vn hs]at h;obtain⟨rfl,rfl⟩:=hs;simpa using h
  ·have e:sN ⟨b,a,n,f,true,g⟩ o l=true:=by
    cases hc:sN ⟨b,a,n,f,true,g⟩ o l with
    |true=>rfl
    |false=>exact absurd ((rJ _ _ _).1 hc).2 hs
   rw[e];rw[Vk hs]at h;have j:(!(b==o&&decide (a=l)))=true:=by
    rw[<-e];simp[sN]
   rw[j]at h;exact h
def Nd.news(s:Nd):Nd:= {s with og:=⟨s.over,dS s.au,s.og.node,s.og.floor+1,true,0⟩}
theorem FJ(s:Nd):s.il=if sN s.og s.over (dS s.au) then s.news.OW else s:=by
 unfold Nd.il;by_cases h:s.og.made=true/\s.og.over=s.over/\s.og.cU=dS s.au
 ·rw[Vn h,(rJ _ _ _).2 h];rfl
 ·rw[Vk h];cases hc:sN s.og s.over (dS s.au)with
  |true=>rfl
  |false=>exact absurd ((rJ _ _ _).1 hc) h
theorem Gs(l:List gO)(p:gO):dS (l++[p])=if p.ph=2 then dS l++[⟨p.ot,p.lk,p.co⟩] else dS l:=by
 unfold dS;rw[WI,Wu];by_cases h:p.ph=2<;>simp[h]
theorem AL(l:List gO):(dS l).length<=l.length:=by unfold dS;rw[Wf];exact Wl ..
theorem qm(T:aw)(s:Nd)(f:s.Fit)(v:(⟨s.og.node,1,0,s.over,dS s.au⟩:cC).Ok)(u:s.og.cU.length<=256)(y:s.og.floor<1000000000)(l:(l7 s.news.og).Ok)(hg:sN s.og s.over (dS s.au)=true->MW (l7 s.news.og) s):aD prog 23 [.ptr 0 0] (aW T s) (λr σ'=>σ'=aW T s.il):=by
 have h8:=f.h8;have e:∀x∈az s.il.nb,x<8:=by
  rw[FJ];split
  ·exact f.set (mX _ _ _)
  ·exact h8
 have B:=f.pl;have c:=FJ s;have d:=Lj s.og s.over (dS s.au) v u y;have⟨j,w⟩:=dw (sN s.og s.over (dS s.au));rw[w]at c d hg;have z:fF 17 (aW T s++[some (.cells 129 [flag s.over,.own 16,.slice 0 []]),some (.row 131 3 0 [])]):=by
  refine fF.app (λi b hb=>((bU T s h8) i b hb).more (gs:=[15,16])) (.cons (.cells (V0 .pure (V0 (gU (by omega)) (V0 .pure .nil)))) (.cons (.row VT) .nil))
 refine Xa<|aV func23 I ntmps23 I<|kT 20 2 ((aW T s)::(aW T s++[some (.cells 129 [flag false,.raw (.slice none 0 0),.raw (.slice none 0 0)])])::(aW T s++[some (.cells 129 [flag s.over,.raw (.slice none 0 0),.slice 0 []])])::[]) (⟨_,none,0,1⟩::⟨_,none,0,1⟩::⟨_,none,0,1⟩::⟨_,none,0,1⟩::⟨_,none,0,1⟩::⟨_,none,0,1⟩::⟨_,none,0,1⟩::⟨_,none,0,1⟩::⟨_,none,0,1⟩::⟨_,some 0,0,0⟩::⟨_,some 1,0,0⟩::[]) _ mixed ?grd1 rfl rfl rfl rfl (.cons (.val [0] I I (yz (bF (aP I) (bF (aP I) b7))) I I)<|.cons (.val [7] I I (yz (bF (aP I) (bF (aP I) b7))) I I)<|.cons (.val [8] I I (yz (bF (aP I) (bF (aP I) b7))) I I)<|.cons (.val [9] I I (yz (bF (aP I) (bF (aP I) b7))) I I)<|.cons (.val [0] I I (yz (bF (aP I) (bF (aP I) b7))) I I)<|.cons (.val [11] I I (yz (bF (aP I) (bF (aP I) b7))) I I)<|.cons (.val [12] I I (yz (bF (aP I) (bF (aP I) b7))) I I)<|.cons (.val [13] I I (yz (bF (aP I) (bF (aP I) b7))) I I)<|.cons (.val [10,14] I I (yz (bF (aP I) (bF (aP I) b7))) I I)<|.cons (.tV [] I I I I (cG I) I I)<|.cons (.gT [2,15] I I I I (cG I) I) .nil) (aJ (ks:=[0,2]) I) ?_
 case grd1=>kernel_rfl
 refine cO 15 1 131 3 I I<|an<|aj (.a 6 I<|.k [0,2,19,20,21] I)<|ay<|eX [0,2,19,20,21] I<|bq (λr st=>∃k,k<=s.au.length/\r=s.au.length - k/\st=⟨[(0,.ptr 0 0),(2,.ptr 15 0),(19,.own 1),(20,num s.au.length),(21,num k)],aW T s++[some (.cells 129 [flag s.over,.own 16,.slice 0 []]),some (.row 131 3 (dS (s.au.take k)).length (dZ (dS (s.au.take k))))]⟩) s.au.length ⟨0,by omega,rfl,rfl⟩ ?_;rintro r st ⟨k,hk,rfl,rfl⟩;refine aj (.a 1 I<|.k [0,2,19,20,21,22] I)<|an<|ak I (λhc=>?_) (λhc=>?_)
 ·have hlt:k<s.au.length:=by have:=Vg hc;omega
  have m:=kP s.au k hlt;have n:s.au.take (k+1)=s.au.take k++[s.au.getD k cX]:=cL _ _ _ hlt;have q:=AL (s.au.take k);rw[V8]at q;generalize s.au.getD k cX=p at m n;have a:=Gs (s.au.take k) p;rw[<-n]at a;refine ao<|an<|ay<|aK<|aZ (aX (k*6) I) I<|aZ (gr I (m) I) I<|av 2 I<|aF [0,2,4,19,20,21] I ?_;refine aj (.a 4 I<|.k [0,2,4,19,20,21,28] I)<|ak I (λhc=>?_) (λhc=>?_)
  ·have g:p.ph=2:=by have:=Vg hc;omega
   rw[Vn g]at a;refine bp<|av 10 I<|bW (bP I (VW I) I I I I (by unfold maxLen;omega)) I<|av 2 I<|aF [0,2,19,20,21] I ?_;refine Fb (A:=aW T s) (X:=[none,some (.cells 84 (jS p)),some (.row 131 3 ((dS (s.au.take k)).length+1) (dZ (dS (s.au.take k))++[num p.ot,num p.lk,num p.co]))]) (b:=.cells 129 [flag s.over,.own 18,.slice 0 []]) (b':=.cells 129 [flag s.over,.own 16,.slice 0 []]) (r':=.row 131 3 (dS (s.au.take (k+1))).length (dZ (dS (s.au.take (k+1))))) 2 I (bU T s h8) (.cells (V0 .pure (V0 (.own rfl) (V0 .pure .nil)))) (.eZ (by rw[a];simp) (by rw[a,<-Dp];rfl)) (.c 0<|.c 2<|.c 19<|.c 20<|.c 21 .nil) I<|aL (.v (aU I) I<|.a 1 I<|.k [0,2,19,20,21] I) ?_;first|exact⟨s.au.length - (k+1),by omega,k+1,by omega,rfl,rfl⟩|exact⟨s.au.length - (k+1),by omega,k+1,by omega,rfl,by rw[a];rfl⟩
  ·have g:¬p.ph=2:=by have:=Vj hc;omega
   rw[Vk g]at a;refine Fb (A:=aW T s) (X:=[some (.row 131 3 (dS (s.au.take k)).length (dZ (dS (s.au.take k)))),some (.cells 84 (jS p))]) (b':=.cells 129 [flag s.over,.own 16,.slice 0 []]) (r':=.row 131 3 (dS (s.au.take k)).length (dZ (dS (s.au.take k)))) 0 I (bU T s h8) (.cells (V0 .pure (V0 (.own rfl) (V0 .pure .nil)))) (.row VT) (.c 0<|.c 2<|.c 19<|.c 20<|.c 21 .nil) I<|ao<|aL (.v (aU I) I<|.a 1 I<|.k [0,2,19,20,21] I) ?_;first|exact⟨s.au.length - (k+1),by omega,k+1,by omega,rfl,rfl⟩|exact⟨s.au.length - (k+1),by omega,k+1,by omega,rfl,by rw[a];rfl⟩
 ·have t:k=s.au.length:=by have:=Vj hc;omega
  subst t;rw[VN];refine mn 16 (σ':=aW T s++[some (.cells 129 [flag s.over,eG (dS s.au),.slice 0 []]),none]) (t':=[(0,.ptr 0 0),(2,.ptr 15 0)]) (blk:=.row 131 3 (dS s.au).length (dZ (dS s.au))) I (NN (A:=aW T s) (.cells (.cons (.same _)<|.cons .own<|.cons (.same _) .nil))) (.cons 0 I (.same _)<|.cons 2 I (.same _) .nil)<|bh<|eC _ _ mixed (UD [0,2] [0,5] [5] [(0,1),(0,1),(0,1),(0,1),(0,1),(0,1),(1,1),(1,1),(1,1),(1,1),(1,1)] [(0,_),(2,_),(5,flag j),(6,num 0),(42,.tuple [flag j,num 0]),(43,.ptr 0 0),(44,.ptr 0 0),(45,.ptr 0 14),(46,.ptr 6 0),(47,ri s.over (dS s.au)),(48,.tuple [flag j,num 0]),(49,flag j),(50,num 0)] [_,aW T {s with og:=if j then s.news.og else s.og}++[some (.cells 129 [flag s.over,eG (dS s.au),.slice 0 []]),none]] 20 (by kernel_rfl) I I I I (UG 5 I<|UN rfl (UH rfl rfl ((Aj (s:=s) (o:=if j then s.news.og else s.og) _ d)) I)<|UG 5 I<|UT rfl)) ?_;refine aj (.a 1 I<|.k [0,51] I)<|ak I (λhc=>?_) (λhc=>?_)
  ·subst hc;refine bp<|av 1 I<|br I I (VO (mW (s:=s.news) (s':=s.news.OW) h8 (by have h:=e;rw[c]at h;exact h) (V0 (gV (by omega)) .nil) _ (Zu (Cr T s.news ⟨f.h8,f.nn,f.nl,f.pl⟩ rfl l (hg rfl)))) (λ_ σ' h=>?_));obtain⟨rfl,rfl⟩:=h;refine aF [] I<|⟨_,V5 I,aW T s.il,_,by rw[c];rfl,Vh _,bU T s.il e,Ren.pure,rfl⟩
  ·subst hc;exact ao<|⟨_,V5 I,aW T s.il,_,by rw[c];rfl,Vh _,bU T s.il e,Ren.pure,rfl⟩
theorem Ek(s:C9)(a:cC)(hm:s.made=true)(ha:a.Ok)(hk:(l7 s).Ok)(hs:oa a (l7 s))(b:a.seq<=s.floor):aD prog 117 [.ptr 0 0,dP a] [fm s] (λr σ'=>r= .tuple [flag false,num 0]/\σ'=[fm s]):=by
 obtain⟨o,l,n,f,m,g⟩:=s;cases hm;exact HR o l n f g a ha hk hs b
theorem BE(a:cC)(d:Db):gm a d=(ke a d,1)\/(gm a d=(d,2)/\∃x,aN a.cn d=some x)\/(gm a d=(d,3)/\∃x,aN a.cn d=some x):=by
 unfold gm;cases h:aN a.cn d with
 |none=>exact .inl rfl
 |some x=>
  simp only;split
  ·exact .inl rfl
  ·split
   ·exact .inr (.inl ⟨rfl,x,rfl⟩)
   ·exact .inr (.inr ⟨rfl,x,rfl⟩)
theorem oN{lk:Nat}{g:Pm->Pm}{nb p}(h:aN lk nb=some p):Az lk g nb=bS lk (g p) nb:=by unfold Az;rw[h]
structure Jf (s:Nd) (a:cC) (pm:Pm):Prop where
 ok:a.Ok
 Uy:MW a s
 own:a.cn=s.node->s.og.made=true/\(l7 s.og).Ok/\oa a (l7 s.og)/\a.seq<=s.og.floor
 held:∀x,aN a.cn s.db=some x->wq x pm
theorem Ie(T:aw)(s:Nd)(i:Nat)(a:cC)(pm:Pm)(B:s.Fit)(hi:i<s.au.length)(e:aN (s.au.getD i cX).lk s.nb=some pm)(M:Jf s a pm):aD prog 71 [.ptr 0 0,.ptr 1 (i*6),dP a] (aW T s) (λr σ'=>r=flag (s.jh (s.au.getD i cX).lk a).2/\σ'=aW T (s.jh (s.au.getD i cX).lk a).1):=by
  have g:=eH s.au i 0 hi (by decide);generalize s.au.getD i cX=p at e g ⊢;have h8:=B.h8;obtain⟨ha,m,D,t⟩:=M;have v:=w8 s.db a ha m.1;have E:=tx 2 s.nb a p.lk B.h8 B.nn B.nl ha m.2;have C:=Bg 2 s.nb p.lk pm a h8 e ha (m.2 _ _ e);have c:∀q,∀x∈az (bS p.lk q s.nb),x<8:=λq=>kp h8 e;have f:=B.set (mX a p.lk s.nb);have l:=BE a s.db;obtain⟨d,q,k⟩:∃d q,gm a s.db=(d,q):=⟨_,_,rfl⟩;rw[k]at v;refine Xa<|aV func71 I ntmps71 I<|aK<|bW (dv I I I) I<|av 1 I<|aF [0,1,5] I ?_;refine an<|ev mixed (by kernel_rfl) (.a 7 I<|.k [0,1,5,19] I) ?_;refine ak I (λhc=>?_) (λhc=>?_)
  · obtain ⟨H, F, J, K⟩ := D (by have := Vg hc; omega);have G:=Ek s.og a H ha F J K;refine gQ (aJ (ks:=[0,1,5]) I)<|eC _ _ mixed (UD [0,1,5] [0,1,5,7,8] [] [(0,1),(0,1),(0,1),(0,1),(0,1),(0,1),(0,1),(0,1),(0,1),(0,1),(0,1)] [(0,_),(1,_),(5,_),(7,flag false),(8,num 0),(20,.tuple [flag false,num 0]),(21,.ptr 0 0),(22,.ptr 0 0),(23,.ptr 0 14),(24,.ptr 6 0),(25,dP a),(26,.tuple [flag false,num 0]),(27,flag false),(28,num 0)] [_] 20 (by kernel_rfl) I I I I (UG 5 I<|UK rfl (UL (UH rfl rfl ((Aj (s:=s) (o:=s.og) _ G)) I))<|UG 5 I<|UT rfl)) ?_;refine an<|aj (.a 1 I<|.k [0,1,5,7,8,29] I)<|ak I (λhc=>?_) (λhc=>?_)
    · cases hc
    · refine ao<|aj (.a 5 I<|.k [0,1,5,36] I)<|ak I (λhc=>?_) (λhc=>?_)
      · cases hc
      · refine ao<|gQ (aJ (ks:=[0,1,5]) I) ?_;refine eC _ _ mixed (UD [0,1,5] [0,1,5,9] [5] [(0,1),(0,1),(0,1),(0,1),(0,1),(0,1),(1,1),(1,1),(1,1),(1,1),(1,1)] [(0,_),(1,_),(5,_),(9,num q),(10,num 0),(37,.tuple [num q,num 0]),(38,.ptr 0 0),(39,.ptr 0 0),(40,.ptr 0 12),(41,.ptr 3 0),(42,dP a),(43,.tuple [num q,num 0]),(44,num q),(45,num 0)] [_,aW T {s with db:=d}++[some (.cells 141 (dp a))]] 20 (by kernel_rfl) I I I I (UG 5 I<|UN rfl (UH rfl rfl ((kz (s:=s) (d:=d) _ v)) I)<|UG 5 I<|UT rfl))<|an<|aj (.a 1 I<|.k [0,1,5,46] I)<|ay<|aj (.a 2 I<|.k [0,1,5,46,67] I)<|ak I (λhc=>?_) (λhc=>?_)
        · have y:q=1:=by have:=Vg hc;omega
          subst y;have b:s.jh p.lk a=({s with db:=d,nb:=iT a p.lk s.nb},true):=by unfold Nd.jh;rw[k];rfl
          refine dE 9 20 mixed (.val [0] I (aP I) I I<|.val [69] I (aP I) I I<|.val [70] I (aP I) I I<|.val [71] I (aP I) I I<|.val [5] I (aP I) I I<|.val [1] I (aP I) I I<|.val [74] I (aP I) I I<|.val [75] I (aP I) I I<|.val [76] I (aO I (g)) I I<|.nil) (by kernel_rfl) I I (aJ (ks:=[72,73,77]) I)<|br I I (VO (mf (s:= {s with db:=d}) (nb:=iT a p.lk s.nb) h8 f _ E) (λ_ σ' h=>?_));obtain⟨rfl,rfl⟩:=h;refine aF [] I<|aj (.a 1 I<|.k [6] I)<|aA ?_;first|exact⟨_,V5 I,aW T {s with db:=d,nb:=iT a p.lk s.nb},_,rfl,Vh _,bU T _ f,Ren.pure,by rw[b];rfl,by rw[b]⟩|exact⟨_,V5 I,aW T {s with nb:=bS p.lk (gi a pm) s.nb},_,rfl,Vh _,bU T _ (c _),Ren.pure,by rw[b];rfl,by rw[b]⟩|exact⟨_,V5 I,aW T {s with nb:=bS p.lk (dD x pm) s.nb},_,rfl,Vh _,bU T _ (c _),Ren.pure,by rw[b];rfl,by rw[b]⟩
        · have j:q≠1:=by have:=Vj hc;omega
          have hd:d=s.db:=by
           rcases l with h|⟨h,_⟩|⟨h,_⟩<;>rw[k]at h<;>simp only[Xp]at h
           · exact absurd h.2 j
           · exact h.1
           · exact h.1
          subst hd;refine aj (.a 2 I<|.k [0,1,5,79] I)<|ak I (λhc=>?_) (λhc=>?_)
          · have y:q=2:=by have:=Vg hc;omega
            subst y;have b:s.jh p.lk a=({s with nb:=bS p.lk (gi a pm) s.nb},true):=by unfold Nd.jh;rw[k];show({s with nb:=Az p.lk (gi a) s.nb},true)=_;rw[oN e]
            refine dE 9 20 mixed (.val [0] I (aP I) I I<|.val [81] I (aP I) I I<|.val [82] I (aP I) I I<|.val [83] I (aP I) I I<|.val [1] I (aP I) I I<|.val [85] I (aP I) I I<|.val [86] I (aP I) I I<|.val [87] I (aO I (g)) I I<|.val [5] I (aP I) I I<|.nil) (by kernel_rfl) I I (aJ (ks:=[84,88,89]) I)<|br I I (VO (mf (s:=s) (nb:=bS p.lk (gi a pm) s.nb) h8 (c _) _ C) (λ_ σ' h=>?_));obtain⟨rfl,rfl⟩:=h;refine aF [] I<|aj (.a 1 I<|.k [6] I)<|aA ?_;first|exact⟨_,V5 I,aW T {s with db:=d,nb:=iT a p.lk s.nb},_,rfl,Vh _,bU T _ f,Ren.pure,by rw[b];rfl,by rw[b]⟩|exact⟨_,V5 I,aW T {s with nb:=bS p.lk (gi a pm) s.nb},_,rfl,Vh _,bU T _ (c _),Ren.pure,by rw[b];rfl,by rw[b]⟩|exact⟨_,V5 I,aW T {s with nb:=bS p.lk (dD x pm) s.nb},_,rfl,Vh _,bU T _ (c _),Ren.pure,by rw[b];rfl,by rw[b]⟩
          · have z:q≠2:=by have:=Vj hc;omega
            have hx:∃x,aN a.cn s.db=some x:=by
             rcases l with h|⟨h,hx⟩|⟨h,hx⟩
             · rw[k]at h;simp only[Xp]at h;exact absurd h.2 j
             · exact hx
             · exact hx
            obtain⟨x,hx⟩:=hx;obtain⟨u,L⟩:=m.1 x hx;have n:=A6 s.db a.cn x hx u.len;have w:=uZ 2 s.nb p.lk pm x h8 e u (t x hx);have A:q=3:=by
             rcases l with h|⟨h,_⟩|⟨h,_⟩<;>rw[k]at h<;>simp only[Xp]at h
             · exact absurd h.2 j
             · exact absurd h.2 z
             · exact h.2
            subst A;have b:s.jh p.lk a=({s with nb:=bS p.lk (dD x pm) s.nb},false):=by unfold Nd.jh;rw[k];show({s with nb:=Az p.lk (dD ((aN a.cn s.db).getD a)) s.nb},false)=_;rw[oN e,hx];rfl
            refine gQ (aJ (ks:=[0,1,5]) I)<|eC _ _ mixed (UD [0,1,5] [0,1,11] [10,11] [(0,2),(0,2),(0,2),(0,2),(0,2),(0,2),(0,2),(0,2),(0,2),(0,3),(0,1),(1,1),(2,1)] [(0,_),(1,_),(5,_),(11,.ptr 16 0),(12,flag true),(47,.tuple [dP x,flag true]),(48,.ptr 0 0),(49,.ptr 0 0),(50,.ptr 0 12),(51,.ptr 3 0),(52,.ptr 15 0),(53,num a.cn),(54,.tuple [dP x,flag true]),(55,dP x),(56,flag true)] [_,aW T s++[some (.cells 141 (dp a)),some (.cells 141 [num 0,num 0,num 0,flag false,.raw (.slice none 0 0),.raw (.slice none 0 0)])],aW T s++[some (.cells 141 (dp a)),some (.cells 141 (dp x))]] 20 (by kernel_rfl) I I I I (UG 6 I<|UK rfl (U7 (UH rfl rfl ((kz (s:=s) (d:=s.db) _ n)) I)<|UL (UH rfl rfl ((kz (s:=s) (d:=s.db) _ n)) I))<|UG 3 I<|UN rfl (UY rfl (cG I) I)<|UN rfl (UW rfl rfl rfl (cG I) I)<|UG 1 I<|UT rfl)) ?_;refine lN 9 20 mixed (.val [0] I (aP I) I I<|.val [57] I (aP I) I I<|.val [58] I (aP I) I I<|.val [59] I (aP I) I I<|.val [1] I (aP I) I I<|.val [61] I (aP I) I I<|.val [62] I (aP I) I I<|.val [63] I (aO I (g)) I I<|.val [11] I (aP I) I I<|.nil) (by kernel_rfl) I I (aJ (ks:=[60,64,65]) I)<|br I I (VO (mf (s:=s) (nb:=bS p.lk (dD x pm) s.nb) h8 (c _) _ w) (λ_ σ' h=>?_));obtain⟨rfl,rfl⟩:=h;refine aF [] I<|aj (.a 1 I<|.k [6] I)<|aA ?_;first|exact⟨_,V5 I,aW T {s with db:=d,nb:=iT a p.lk s.nb},_,rfl,Vh _,bU T _ f,Ren.pure,by rw[b];rfl,by rw[b]⟩|exact⟨_,V5 I,aW T {s with nb:=bS p.lk (gi a pm) s.nb},_,rfl,Vh _,bU T _ (c _),Ren.pure,by rw[b];rfl,by rw[b]⟩|exact⟨_,V5 I,aW T {s with nb:=bS p.lk (dD x pm) s.nb},_,rfl,Vh _,bU T _ (c _),Ren.pure,by rw[b];rfl,by rw[b]⟩
  · refine ao<|gQ (aJ (ks:=[0,1,5]) I) ?_;refine eC _ _ mixed (UD [0,1,5] [0,1,5,9] [5] [(0,1),(0,1),(0,1),(0,1),(0,1),(0,1),(1,1),(1,1),(1,1),(1,1),(1,1)] [(0,_),(1,_),(5,_),(9,num q),(10,num 0),(37,.tuple [num q,num 0]),(38,.ptr 0 0),(39,.ptr 0 0),(40,.ptr 0 12),(41,.ptr 3 0),(42,dP a),(43,.tuple [num q,num 0]),(44,num q),(45,num 0)] [_,aW T {s with db:=d}++[some (.cells 141 (dp a))]] 20 (by kernel_rfl) I I I I (UG 5 I<|UN rfl (UH rfl rfl ((kz (s:=s) (d:=d) _ v)) I)<|UG 5 I<|UT rfl))<|an<|aj (.a 1 I<|.k [0,1,5,46] I)<|ay<|aj (.a 2 I<|.k [0,1,5,46,67] I)<|ak I (λhc=>?_) (λhc=>?_)
    · have y:q=1:=by have:=Vg hc;omega
      subst y;have b:s.jh p.lk a=({s with db:=d,nb:=iT a p.lk s.nb},true):=by unfold Nd.jh;rw[k];rfl
      refine dE 9 20 mixed (.val [0] I (aP I) I I<|.val [69] I (aP I) I I<|.val [70] I (aP I) I I<|.val [71] I (aP I) I I<|.val [5] I (aP I) I I<|.val [1] I (aP I) I I<|.val [74] I (aP I) I I<|.val [75] I (aP I) I I<|.val [76] I (aO I (g)) I I<|.nil) (by kernel_rfl) I I (aJ (ks:=[72,73,77]) I)<|br I I (VO (mf (s:= {s with db:=d}) (nb:=iT a p.lk s.nb) h8 f _ E) (λ_ σ' h=>?_));obtain⟨rfl,rfl⟩:=h;refine aF [] I<|aj (.a 1 I<|.k [6] I)<|aA ?_;first|exact⟨_,V5 I,aW T {s with db:=d,nb:=iT a p.lk s.nb},_,rfl,Vh _,bU T _ f,Ren.pure,by rw[b];rfl,by rw[b]⟩|exact⟨_,V5 I,aW T {s with nb:=bS p.lk (gi a pm) s.nb},_,rfl,Vh _,bU T _ (c _),Ren.pure,by rw[b];rfl,by rw[b]⟩|exact⟨_,V5 I,aW T {s with nb:=bS p.lk (dD x pm) s.nb},_,rfl,Vh _,bU T _ (c _),Ren.pure,by rw[b];rfl,by rw[b]⟩
    · have j:q≠1:=by have:=Vj hc;omega
      have hd:d=s.db:=by
       rcases l with h|⟨h,_⟩|⟨h,_⟩<;>rw[k]at h<;>simp only[Xp]at h
       · exact absurd h.2 j
       · exact h.1
       · exact h.1
      subst hd;refine aj (.a 2 I<|.k [0,1,5,79] I)<|ak I (λhc=>?_) (λhc=>?_)
      · have y:q=2:=by have:=Vg hc;omega
        subst y;have b:s.jh p.lk a=({s with nb:=bS p.lk (gi a pm) s.nb},true):=by unfold Nd.jh;rw[k];show({s with nb:=Az p.lk (gi a) s.nb},true)=_;rw[oN e]
        refine dE 9 20 mixed (.val [0] I (aP I) I I<|.val [81] I (aP I) I I<|.val [82] I (aP I) I I<|.val [83] I (aP I) I I<|.val [1] I (aP I) I I<|.val [85] I (aP I) I I<|.val [86] I (aP I) I I<|.val [87] I (aO I (g)) I I<|.val [5] I (aP I) I I<|.nil) (by kernel_rfl) I I (aJ (ks:=[84,88,89]) I)<|br I I (VO (mf (s:=s) (nb:=bS p.lk (gi a pm) s.nb) h8 (c _) _ C) (λ_ σ' h=>?_));obtain⟨rfl,rfl⟩:=h;refine aF [] I<|aj (.a 1 I<|.k [6] I)<|aA ?_;first|exact⟨_,V5 I,aW T {s with db:=d,nb:=iT a p.lk s.nb},_,rfl,Vh _,bU T _ f,Ren.pure,by rw[b];rfl,by rw[b]⟩|exact⟨_,V5 I,aW T {s with nb:=bS p.lk (gi a pm) s.nb},_,rfl,Vh _,bU T _ (c _),Ren.pure,by rw[b];rfl,by rw[b]⟩|exact⟨_,V5 I,aW T {s with nb:=bS p.lk (dD x pm) s.nb},_,rfl,Vh _,bU T _ (c _),Ren.pure,by rw[b];rfl,by rw[b]⟩
      · have z:q≠2:=by have:=Vj hc;omega
        have hx:∃x,aN a.cn s.db=some x:=by
         rcases l with h|⟨h,hx⟩|⟨h,hx⟩
         · rw[k]at h;simp only[Xp]at h;exact absurd h.2 j
         · exact hx
         · exact hx
        obtain⟨x,hx⟩:=hx;obtain⟨u,L⟩:=m.1 x hx;have n:=A6 s.db a.cn x hx u.len;have w:=uZ 2 s.nb p.lk pm x h8 e u (t x hx);have A:q=3:=by
         rcases l with h|⟨h,_⟩|⟨h,_⟩<;>rw[k]at h<;>simp only[Xp]at h
         · exact absurd h.2 j
         · exact absurd h.2 z
         · exact h.2
        subst A;have b:s.jh p.lk a=({s with nb:=bS p.lk (dD x pm) s.nb},false):=by unfold Nd.jh;rw[k];show({s with nb:=Az p.lk (dD ((aN a.cn s.db).getD a)) s.nb},false)=_;rw[oN e,hx];rfl
        refine gQ (aJ (ks:=[0,1,5]) I)<|eC _ _ mixed (UD [0,1,5] [0,1,11] [10,11] [(0,2),(0,2),(0,2),(0,2),(0,2),(0,2),(0,2),(0,2),(0,2),(0,3),(0,1),(1,1),(2,1)] [(0,_),(1,_),(5,_),(11,.ptr 16 0),(12,flag true),(47,.tuple [dP x,flag true]),(48,.ptr 0 0),(49,.ptr 0 0),(50,.ptr 0 12),(51,.ptr 3 0),(52,.ptr 15 0),(53,num a.cn),(54,.tuple [dP x,flag true]),(55,dP x),(56,flag true)] [_,aW T s++[some (.cells 141 (dp a)),some (.cells 141 [num 0,num 0,num 0,flag false,.raw (.slice none 0 0),.raw (.slice none 0 0)])],aW T s++[some (.cells 141 (dp a)),some (.cells 141 (dp x))]] 20 (by kernel_rfl) I I I I (UG 6 I<|UK rfl (U7 (UH rfl rfl ((kz (s:=s) (d:=s.db) _ n)) I)<|UL (UH rfl rfl ((kz (s:=s) (d:=s.db) _ n)) I))<|UG 3 I<|UN rfl (UY rfl (cG I) I)<|UN rfl (UW rfl rfl rfl (cG I) I)<|UG 1 I<|UT rfl)) ?_;refine lN 9 20 mixed (.val [0] I (aP I) I I<|.val [57] I (aP I) I I<|.val [58] I (aP I) I I<|.val [59] I (aP I) I I<|.val [1] I (aP I) I I<|.val [61] I (aP I) I I<|.val [62] I (aP I) I I<|.val [63] I (aO I (g)) I I<|.val [11] I (aP I) I I<|.nil) (by kernel_rfl) I I (aJ (ks:=[60,64,65]) I)<|br I I (VO (mf (s:=s) (nb:=bS p.lk (dD x pm) s.nb) h8 (c _) _ w) (λ_ σ' h=>?_));obtain⟨rfl,rfl⟩:=h;refine aF [] I<|aj (.a 1 I<|.k [6] I)<|aA ?_;first|exact⟨_,V5 I,aW T {s with db:=d,nb:=iT a p.lk s.nb},_,rfl,Vh _,bU T _ f,Ren.pure,by rw[b];rfl,by rw[b]⟩|exact⟨_,V5 I,aW T {s with nb:=bS p.lk (gi a pm) s.nb},_,rfl,Vh _,bU T _ (c _),Ren.pure,by rw[b];rfl,by rw[b]⟩|exact⟨_,V5 I,aW T {s with nb:=bS p.lk (dD x pm) s.nb},_,rfl,Vh _,bU T _ (c _),Ren.pure,by rw[b];rfl,by rw[b]⟩
end
section
open Go.RowKit cm Mem Net
theorem ik:∀(k:Nat) (l:List Nat),l.Nodup->(∀x∈l,x<k)->l.length<=k
 |0,l,_,h=>by
  cases l with
  |nil=>simp
  |cons a l=>exact absurd (h a (VC ..)) (by omega)
 |k+1,l,hn,h=>by
  have h1:=ik k (l.filter (· !=k)) (hn.sublist Zd) (λx hx=>by
   have h2:=Wk.1 hx;have:=h x h2.1;have:x≠k:=by simpa using h2.2
   omega)
  have h2:l.length<=(l.filter (· !=k)).length+1:=by
   clear h1 h;induction l with
   |nil=>simp
   |cons a l ih=>
    obtain⟨ha,hn⟩:=Wv.1 hn;by_cases e:a=k
    ·subst e;have:l.filter (· !=a)=l:=List.filter_eq_self.2 λx hx=>by
      have:x≠a:=λe=>ha (e▸hx);simpa using this
     simp[this]
    ·have:(a::l).filter (· !=k)=a::l.filter (· !=k):=by simp[e]
     rw[this];have:=ih hn;simp only[VI];omega
  omega
theorem fj{α:Type}(l:List (Nat×α)):(az l).length=l.length:=by simp[az]
structure Kn (H:Nat->Nat->Bool×List gG) (f:Nat->Nat) (τ N:Nat) (a:cC):Prop where
 cn:a.cn<N
 s1:1<=a.seq
 s2:a.seq<=f a.cn
 ct:(a.over,a.cU)=H a.cn a.seq
 ag:a.gM<=τ
structure QA (o:Nat) (c:Bool×List gG):Prop where
 len:c.2.length<=256
 inc:c.2.Pairwise λx y=>x.lk<y.lk
 ok:∀x∈c.2,x.lk<256/\x.to≠o/\x.to<64/\1<=x.co/\x.co<=65535
variable {H:Nat->Nat->Bool×List gG} {f:Nat->Nat} {τ N:Nat}
theorem Kn.same{a b:cC}(ha:Kn H f τ N a)(hb:Kn H f τ N b)(h:a.cn=b.cn):oa a b:=⟨h,λe=>by
 have h1:=ha.ct;rw[h,e,<-hb.ct]at h1;simp only[Xp]at h1;exact h1⟩
theorem Kn.mono{H':Nat->Nat->Bool×List gG}{f':Nat->Nat}{b:Nat}{a}(h:Kn H f τ N a)(c:∀o,f o<=f' o)(hH:∀o q,q<=f o->H' o q=H o q)(d:τ<=b):Kn H' f' b N a:=
 ⟨h.cn,h.s1,VL h.s2 (c _),by rw[hH _ _ h.s2];exact h.ct,VL h.ag d⟩
theorem Kn.ok{a:cC}(h:Kn H f τ N a)(hc:∀o,o<N->∀q,1<=q->q<=f o->QA o (H o q))(hN:N<=64)(b:∀o,o<N->f o<=1000000000)(c:τ<=1000):a.Ok:=by
 have h1:=hc _ h.cn _ h.s1 h.s2;rw[<-h.ct]at h1;have:=h.cn;have:=h.s2;have:=b _ h.cn;have:=h.ag;exact⟨by omega,h.s1,by omega,by omega,h1.len,h1.inc,h1.ok⟩
theorem vq{a p}(h:(az p).Nodup):(az (dD a p)).Nodup:=by
 unfold dD;split
 ·exact pN h
 ·split
  ·exact pN h
  ·exact h
theorem rM(a:cC)(p:Pm)(o:Nat):aN o (dD a p)=aN o p\/(o=a.cn/\aN o (dD a p)=some (a,0)/\∀x,aN o p=some x->x.1.seq<a.seq):=by
 unfold dD;cases h:aN a.cn p with
 |none=>
  simp only;rw[fI];by_cases e:o=a.cn
  ·subst e;exact .inr ⟨rfl,by simp,λx hx=>by rw[h]at hx;cases hx⟩
  ·rw[Vk e];exact .inl rfl
 |some x=>
  simp only;split
  ·rename_i hlt;rw[fI];by_cases e:o=a.cn
   ·subst e;exact .inr ⟨rfl,by simp,λy hy=>by rw[h]at hy;cases hy;exact hlt⟩
   ·rw[Vk e];exact .inl rfl
  ·exact .inl rfl
theorem B9{a:cC}{p}(h:∀x,aN a.cn p=some x->x.1.seq<a.seq):aN a.cn (dD a p)=some (a,0):=by
 unfold dD;cases hg:aN a.cn p with
 |none=>simp[fI]
 |some x=>simp[h x hg,fI]
theorem AH(a:cC){p}(hn:(az p).Nodup)(o:Nat):aN o (gi a p)=aN o p\/(o=a.cn/\aN o (gi a p)=none/\∃x,aN o p=some x/\x.1.seq=a.seq):=by
 unfold gi;cases h:aN a.cn p with
 |none=>exact .inl rfl
 |some x=>
  simp only;split
  ·rename_i hs;rw[Bv _ _ hn];by_cases e:o=a.cn
   ·subst e;exact .inr ⟨rfl,by simp,x,h,by unfold iC at hs;exact(Vg hs).1⟩
   ·rw[Vk e];exact .inl rfl
  ·exact .inl rfl
theorem Cf(a:cC){p}(hn:(az p).Nodup)(o:Nat):aN o (o7 a p)=aN o p\/(o=a.cn/\aN o (o7 a p)=none/\∃x,aN o p=some x/\x.1.seq<=a.seq):=by
 unfold o7;cases h:aN a.cn p with
 |none=>exact .inl rfl
 |some x=>
  simp only;split
  ·rename_i hs;rw[Bv _ _ hn];by_cases e:o=a.cn
   ·subst e;exact .inr ⟨rfl,by simp,x,h,hs⟩
   ·rw[Vk e];exact .inl rfl
  ·exact .inl rfl
theorem Dn{a p}(h:(az p).Nodup):(az (gi a p)).Nodup:=by
 unfold gi;split
 ·exact h
 ·split
  ·exact xI h
  ·exact h
theorem Er{a p}(h:(az p).Nodup):(az (o7 a p)).Nodup:=by
 unfold o7;split
 ·exact h
 ·split
  ·exact xI h
  ·exact h
def Ge(d:Db)(o q:Nat):Prop:=∃y,aN o d=some y/\q<=y.seq
structure PO (H:Nat->Nat->Bool×List gG) (f:Nat->Nat) (τ N:Nat) (d:Db) (p:Pm):Prop where
 nd:(az p).Nodup
 all:∀o x,aN o p=some x->x.1.cn=o/\Kn H f τ N x.1/\x.2<=2/\Ge d o x.1.seq
structure DO (H:Nat->Nat->Bool×List gG) (f:Nat->Nat) (τ N:Nat) (d:Db):Prop where
 nd:(az d).Nodup
 all:∀o x,aN o d=some x->x.cn=o/\Kn H f τ N x
variable {d:Db} {p:Pm}
theorem PO.off{a:cC}(h:PO H f τ N d p)(ha:Kn H f τ N a)(hd:Ge d a.cn a.seq):PO H f τ N d (dD a p):=⟨vq h.nd,λo x hx=>by
 rcases rM a p o with e|⟨rfl,e,_⟩
 ·rw[e]at hx;exact h.all o x hx
 ·rw[e]at hx;cases hx;exact⟨rfl,ha,We _,hd⟩⟩
theorem PO.Dc{a}(h:PO H f τ N d p):PO H f τ N d (gi a p):=⟨Dn h.nd,λo x hx=>by
 rcases AH a h.nd o with e|⟨rfl,e,_⟩
 ·rw[e]at hx;exact h.all o x hx
 ·rw[e]at hx;cases hx⟩
theorem PO.own{a}(h:PO H f τ N d p):PO H f τ N d (o7 a p):=⟨Er h.nd,λo x hx=>by
 rcases Cf a h.nd o with e|⟨rfl,e,_⟩
 ·rw[e]at hx;exact h.all o x hx
 ·rw[e]at hx;cases hx⟩
theorem PO.db{a}(h:PO H f τ N d p)(hd:∀o q,Ge d o q->Ge a o q):PO H f τ N a p:=⟨h.nd,λo x hx=>by
 obtain⟨h1,h2,b,c⟩:=h.all o x hx;exact⟨h1,h2,b,hd _ _ c⟩⟩
theorem PO.mono{H':Nat->Nat->Bool×List gG}{f':Nat->Nat}{a:Nat}(h:PO H f τ N d p)(e:∀o,f o<=f' o)(hH:∀o q,q<=f o->H' o q=H o q)(g:τ<=a):PO H' f' a N d p:=⟨h.nd,λo x hx=>by
 obtain⟨h1,h2,b,c⟩:=h.all o x hx;exact⟨h1,h2.mono e hH g,b,c⟩⟩
theorem DO.mono{H':Nat->Nat->Bool×List gG}{f':Nat->Nat}{a:Nat}(h:DO H f τ N d)(b:∀o,f o<=f' o)(hH:∀o q,q<=f o->H' o q=H o q)(c:τ<=a):DO H' f' a N d:=⟨h.nd,λo x hx=>⟨(h.all o x hx).1,(h.all o x hx).2.mono b hH c⟩⟩
theorem PO.empty:PO H f τ N d []:=⟨YZ,λo x hx=>by cases hx⟩
theorem lx(a:cC)(d:Db)(o:Nat):aN o (ke a d)=if o=a.cn then some a else aN o d:=by unfold ke;rw[fI]
theorem DO.put{a}(h:DO H f τ N d)(ha:Kn H f τ N a):DO H f τ N (ke a d):=⟨pN h.nd,λo x hx=>by
 rw[lx]at hx;split at hx
 ·rename_i e;cases hx;exact⟨e.symm,ha⟩
 ·exact h.all o x hx⟩
theorem Ko{a:cC}(h:∀x,aN a.cn d=some x->x.seq<=a.seq)(o q:Nat)(hg:Ge d o q):Ge (ke a d) o q:=by
 obtain⟨y,h1,h2⟩:=hg;unfold Ge;rw[lx];by_cases e:o=a.cn
 ·subst e;rw[Vn rfl];exact⟨a,rfl,VL h2 (h y h1)⟩
 ·rw[Vk e];exact⟨y,h1,h2⟩
theorem xu(a:cC)(d:Db):(gm a d=(ke a d,1)/\∀x,aN a.cn d=some x->x.seq<a.seq)\/(∃x,aN a.cn d=some x/\gm a d=(d,2)/\x.seq=a.seq)\/(∃x,aN a.cn d=some x/\gm a d=(d,3)/\a.seq<x.seq):=by
 unfold gm;cases h:aN a.cn d with
 |none=>exact .inl ⟨rfl,λx hx=>by cases hx⟩
 |some x=>
  simp only;split
  ·rename_i h1;exact .inl ⟨rfl,λy hy=>by cases hy;exact h1⟩
  ·split
   ·rename_i h1;exact .inr (.inl ⟨x,rfl,rfl,h1.symm⟩)
   ·exact .inr (.inr ⟨x,rfl,rfl,by omega⟩)
theorem ru(a:cC)(ex:Int)(nb:Nb)(lk:Nat):aN lk (iT a ex nb)=(aN lk nb).map (s7 a ex lk):=by
 unfold iT;induction nb with
 |nil=>rfl
 |cons x l ih=>
  obtain⟨k,p⟩:=x;simp only[VX,aN];by_cases h:lk=k
  ·subst h;simp
  ·rw[Vk h,Vk h];exact ih
theorem FB(lk k:Nat)(g:Pm->Pm)(nb:Nb):aN k (Az lk g nb)=if k=lk then(aN k nb).map g else aN k nb:=by
 unfold Az;cases h:aN lk nb with
 |none=>
  simp only;by_cases e:k=lk
  ·subst e;rw[Vn rfl,h];rfl
  ·rw[Vk e]
 |some p=>
  simp only;rw[fI];by_cases e:k=lk
  ·subst e;rw[Vn rfl,Vn rfl,h];rfl
  ·rw[Vk e,Vk e]
theorem FE(lk:Nat)(g:Pm->Pm)(nb:Nb):az (Az lk g nb)=az nb:=by
 unfold Az;cases h:aN lk nb with
 |none=>rfl
 |some p=>exact nD (ij h)
theorem xk:∀(l:List cC) (p0:Pm) (o:Nat),(∀a∈l,∀b∈l,a.cn=b.cn->a=b)->l.Nodup->(∀a∈l,aN a.cn p0=none)->aN o (l.foldl (λp a=>dD a p) p0)=match l.find? (λa=>a.cn=o)with|some a=>some (a,0)|none=>aN o p0
 | [],p0,o,_,_,_=>rfl
 |a::l,p0,o,hu,hn,h0=>by
  obtain⟨ha,j⟩:=Wv.1 hn;have g:∀b∈l,b.cn≠a.cn:=λb hb e=>ha (by rw[<-hu b (VB _ hb) a (VC ..) e];exact hb);have i:dD a p0=bS a.cn (a,0) p0:=by unfold dD;rw[h0 a (VC ..)]
  have c:∀k,aN k (dD a p0)=if k=a.cn then some (a,0) else aN k p0:=λk=>by rw[i,fI]
  rw[Xn,xk l (dD a p0) o (λx hx y hy=>hu x (VB _ hx) y (VB _ hy)) j (λb hb=>by rw[c,Vk (g b hb)];exact h0 b (VB _ hb))];by_cases e:a.cn=o
  ·have m:l.find? (λa=>a.cn=o)=none:=Zh.2 λb hb=>by
    have:=g b hb;simp;omega
   rw[m,List.find?_cons_of_pos (by simpa using e)];simp only;rw[c,Vn e.symm]
  ·rw[List.find?_cons_of_neg (by simpa using e)];cases l.find? (λa=>a.cn=o)with
   |some b=>rfl
   |none=>simp only;rw[c,Vk (λh=>e h.symm)]
theorem o5{d a}:a∈gE d↔∃o,o∈az d/\aN o d=some a:=by
 unfold gE;rw[XZ];exact⟨λ⟨o,h1,h2⟩=>⟨o,eN.1 h1,h2⟩,λ⟨o,h1,h2⟩=>⟨o,eN.2 h1,h2⟩⟩
theorem uJ(h:DO H f τ N d):(gE d).map (·.cn)=bT (az d):=by
 unfold gE;have hm:∀o∈bT (az d),∃x,aN o d=some x/\x.cn=o:=λo ho=>by
  obtain⟨x,hx⟩:=fC (eN.1 ho);exact⟨x,hx,(h.all o x hx).1⟩
 generalize bT (az d)=l at hm;induction l with
 |nil=>rfl
 |cons o l ih=>
  obtain⟨x,h1,h2⟩:=hm o (VC ..);rw[List.filterMap_cons,h1];simp only[VX,h2];rw[ih λo ho=>hm o (VB _ ho)]
theorem uI(h:DO H f τ N d):((gE d).map (·.cn)).Nodup:=by rw[uJ h];exact tJ h.nd
theorem Gc(h:DO H f τ N d)(o:Nat):aN o (pw (gE d))=(aN o d).map λa=>(a,0):=by
 have hn:=uI h;have g:(gE d).Nodup:=by
  rw[WY,WO]at hn;exact hn.imp λh e=>h (by rw[e])
 have hu:∀a∈gE d,∀b∈gE d,a.cn=b.cn->a=b:=λa ha b hb e=>by
  obtain⟨o1,_,h1⟩:=o5.1 ha;obtain⟨n,_,h2⟩:=o5.1 hb;have i:=(h.all _ _ h1).1;have j:=(h.all _ _ h2).1;subst i;subst j;rw[e,h2]at h1;cases h1;rfl
 unfold pw;rw[xk _ _ _ hu g (λ_ _=>rfl)];cases c:(gE d).find? (λa=>a.cn=o)with
 |some a=>
  have h1:=List.find?_some c;obtain⟨m,_,h2⟩:=o5.1 (List.mem_of_find?_eq_some c);have k:=(h.all _ _ h2).1;have l:a.cn=o:=by simpa using h1
  subst l;subst k;rw[h2];rfl
 |none=>
  cases hg:aN o d with
  |none=>rfl
  |some a=>
   have h1:=Zh.1 c a (o5.2 ⟨o,ij hg,hg⟩);have:=(h.all _ _ hg).1;simp at h1;omega
theorem IQ(l:List cC):(az (pw l)).Nodup:=by
 unfold pw;have:∀(l:List cC) (p0:Pm),(az p0).Nodup->(az (l.foldl (λp a=>dD a p) p0)).Nodup:=λl=>by
  induction l with
  |nil=>exact λ_ h=>h
  |cons a l ih=>exact λp0 h=>ih _ (vq h)
 exact this l [] YZ
theorem PO.up(h:DO H f τ N d):PO H f τ N d (pw (gE d)):=⟨IQ _,λo x hx=>by
 rw[Gc h]at hx;simp only[Vr]at hx;obtain⟨a,ha,rfl⟩:=hx;have:=h.all o a ha;exact⟨this.1,this.2,We _,a,ha,Vh _⟩⟩
theorem yq(d:Db)(o:Nat):aN o (lY d)=(aN o d).map λa=>a.uk (a.gM+1):=gS _ _ _
theorem DO.tick(h:DO H f τ N d):DO H f (τ+1) N (lY d):=⟨by unfold lY;rw[keys_map];exact h.nd,λo x hx=>by
 rw[yq]at hx;simp only[Vr]at hx;obtain⟨a,ha,rfl⟩:=hx;obtain⟨h1,h2⟩:=h.all o a ha;exact⟨h1,h2.cn,h2.s1,h2.s2,h2.ct,Y6 h2.ag⟩⟩
theorem uf{o q:Nat}:Ge (lY d) o q↔Ge d o q:=by
 unfold Ge;rw[yq];constructor
 ·rintro⟨y,h1,h2⟩;simp only[Vr]at h1;obtain⟨a,ha,rfl⟩:=h1;exact⟨a,ha,h2⟩
 ·rintro⟨y,h1,h2⟩;exact⟨y.uk (y.gM+1),by rw[h1];rfl,h2⟩
theorem Lv(p:Pm)(o:Nat):aN o (zP 2 (hZ p))=(aN o p).map λx=>if x.2 - 1=0 then(x.1,2) else(x.1,x.2 - 1):=by
 unfold zP hZ;rw[gS,gS,Zk]
 rfl
theorem PO.tick(h:PO H f τ N d p):PO H f (τ+1) N (lY d) (zP 2 (hZ p)):=⟨by unfold zP hZ;rw[keys_map,keys_map];exact h.nd,λo x hx=>by
 rw[Lv]at hx;simp only[Vr]at hx;obtain⟨a,ha,rfl⟩:=hx;obtain⟨h1,h2,e,c⟩:=h.all o a ha;have b:=h2.mono (λ_=>Vh _) (λ_ _ _=>rfl) (XX τ);split
 ·exact⟨h1,b,Vh _,uf.2 c⟩
 ·exact⟨h1,b,VL (Nat.sub_le _ _) e,uf.2 c⟩⟩
theorem BW{lk:Nat}{p}{y:Nat×cC}:y∈sH lk p↔∃o x,aN o p=some x/\x.2=0/\y=(lk,x.1):=by
 unfold sH;rw[XZ];constructor
 ·rintro⟨o,h1,h2⟩;rw[Option.bind_eq_some_iff]at h2;obtain⟨x,hx,a⟩:=h2;split at a
  ·rename_i b;cases a;exact⟨o,x,hx,b,rfl⟩
  ·cases a
 ·rintro⟨o,x,hx,b,rfl⟩;exact⟨o,eN.2 (ij hx),by rw[hx];simp[b]⟩
theorem KW{nb}{y:Nat×cC}:y∈oz nb↔∃lk p,aN lk nb=some p/\y∈sH lk p:=by
 unfold oz;rw[Y2];constructor
 ·rintro⟨lk,h1,h2⟩;obtain⟨p,hp⟩:=fC (eN.1 h1);rw[hp]at h2;exact⟨lk,p,hp,h2⟩
 ·rintro⟨lk,p,hp,h2⟩;exact⟨lk,eN.2 (ij hp),by rw[hp];exact h2⟩
theorem JZ(lk:Nat)(p:Pm):(sH lk p).length<=p.length:=by
 unfold sH;refine VL (YL _ _) ?_;rw[ez,fj];exact Vh _
theorem JY{nb:Nb}{b:Nat}(h:∀lk p,aN lk nb=some p->p.length<=b):(oz nb).length<=nb.length*b:=by
 have h1:∀lk∈bT (az nb),(sH lk ((aN lk nb).getD [])).length<=b:=λlk hl=>by
  obtain⟨p,hp⟩:=fC (eN.1 hl);rw[hp];exact VL (JZ _ _) (h lk p hp)
 have h2:(bT (az nb)).length=nb.length:=by rw[ez,fj]
 unfold oz;rw[<-h2];generalize bT (az nb)=l at h1;clear h2;induction l with
 |nil=>simp
 |cons a l ih=>
  have:=ih λlk hl=>h1 lk (VB _ hl);have:=h1 a (VC ..);rw[Wm,Vu,VI,XL];omega
open Go.Maps Go.Sort Go.Shelf
theorem Ep(A B:List PV)(k n:Nat)(ys:List PV)(h:n=A.length+k):over (A++B) n ys=A++over B k ys:=by
 subst h;unfold over;rw[YE,V2 (by omega),XT,Xk,YF,Wi (by omega),WJ,XT,VU]
theorem pP(j:Nat)(ys:List PV)(g:gO->gO)(h:∀a l,over (jS a++dz l) j ys=jS (g a)++dz l):∀(l:List gO) (i:Nat),i<l.length->over (dz l) (i*6+j) ys=dz (l.set i (g (l.getD i cX)))
 | [],i,hi=>by cases hi
 |a::l,0,_=>by
  have:=h a l;simpa[dz]using this
 |a::l,i+1,hi=>by
  have ih:=pP j ys g h l i (by simpa using hi);show over (jS a++dz l) _ _=_;rw[Ep (jS a) (dz l) (i*6+j) _ ys (by simp[jS];omega),ih];simp[dz]
theorem zR(l:List gO)(i:Nat)(hi:i<l.length)(a b:Nat):over (dz l) (i*6+3) [num a,num b]=dz (l.set i {l.getD i cX with ph:=a,lf:=b}):=pP 3 _ (λp=> {p with ph:=a,lf:=b}) (λp l=>by simp[over,jS]) l i hi
theorem zQ(l:List gO)(i:Nat)(hi:i<l.length)(b:Nat):over (dz l) (i*6+5) [num b]=dz (l.set i {l.getD i cX with bt:=b}):=pP 5 _ (λp=> {p with bt:=b}) (λp l=>by simp[over,jS]) l i hi
theorem OV(l:List gO)(i:Nat)(hi:i<l.length)(b:Nat):over (dz l) (i*6+2) [num b]=dz (l.set i {l.getD i cX with co:=b}):=pP 2 _ (λp=> {p with co:=b}) (λp l=>by simp[over,jS]) l i hi
theorem ef(l:List gO)(i:Nat)(hi:i<l.length)(p:gO):(l.set i p).getD i cX=p:=by simp[Qo,hi]
theorem IL(p l:Nat)(h:HS p l)(hl:p=0\/2<=l):Can prog 61 [p9 p l] (· = .tuple [p9 p (if p=0 then 0 else l - 1),num 0,num 0]):=by
 have a:=Hp p l h hl;refine aR func61 I ntmps61 I<|aK<|bW (dv I I I) I<|av 3 I<|aF [1,2] I ?_;refine aK<|av 1 I<|fW I (a) I<|av 6 I<|aF [2,3,4] I ?_;exact aA<|jF I ((aQ.pure:aQ _ (.tuple [p9 p (if p=0 then 0 else l - 1),num 0,num 0]) (.tuple [p9 p (if p=0 then 0 else l - 1),num 0,num 0]))) rfl
theorem jV{T}{s:Nd}{l:List gO}{X xs}(hl:l.length=s.au.length)(h:xs=dz l):(aW T s++X).set 1 (some (.row 84 6 s.au.length xs))=aW T {s with au:=l}++X:=by
 subst h;unfold aW EP;rw[hl]
 rfl
theorem Bq(T:aw)(s:Nd)(i:Nat)(k:s.Fit)(hi:i<s.au.length)(h:HS (s.au.getD i cX).ph (s.au.getD i cX).lf)(hl:(s.au.getD i cX).ph=0\/2<=(s.au.getD i cX).lf):aD prog 60 [.ptr 0 0,.ptr 1 (i*6),.func 61 []] (aW T s) (λr σ'=>r=num 0/\σ'=aW T {s with au:=s.au.set i (cZ (s.au.getD i cX))}):=by
 have h8:=k.h8;have j:=IL _ _ h hl;have hd:=kP s.au i hi;have e:=zR s.au i hi (s.au.getD i cX).ph (if(s.au.getD i cX).ph=0 then 0 else(s.au.getD i cX).lf - 1);have b:=zQ (s.au.set i {s.au.getD i cX with ph:=(s.au.getD i cX).ph,lf:=(if(s.au.getD i cX).ph=0 then 0 else(s.au.getD i cX).lf - 1)}) i (by simpa using hi) 0;rw[ef _ _ hi,Zx]at b;have m:=jT s.au;generalize s.au.getD i cX=p at h hl j hd e b ⊢;have g:((dz s.au).drop (i*6+3)).take 2=[num p.ph,num p.lf]:=by
  have:=V1 (λl=>(l.drop 3).take 2) hd;simp only[YY,X4,XU]at this;exact this
 refine Xa<|aV func60 I ntmps60 I<|aj (.a 1 I<|.k [0,1,2] I)<|aK<|av 4 I<|aZ (gr I (g) I) I<|fW I (j) I<|av 8 I<|aF [0,1,7,8,9] I ?_;refine an<|aj (.a 2 I<|.k [0,1,7,8,21] I)<|ak I (λhc=>?_) (λhc=>?_)
 ·cases hc
 ·refine ao<|aK<|av 4 I<|bw (YD (jr (ys:=[num p.ph,num (if p.ph=0 then 0 else p.lf - 1:Nat)]) I (VJ I) I I I I I (by show i*6+3+2<=(dz s.au).length;omega)) (jV (by simp) e)) I I<|aF [0,1,7,8] I ?_;refine an<|aj (.a 3 I<|.k [0,1,8,28] I)<|ak I (λhc=>?_) (λhc=>?_)
  ·have c:p.ph=0:=by have:=Vg hc;omega
   have a:({p with ph:=p.ph,lf:=(if p.ph=0 then 0 else p.lf - 1),bt:=0}:gO)=cZ p:=by unfold cZ;simp[c]
   rw[a]at b;refine bp<|av 3 I<|bw (YD (eh I (VJ I) I I I (by show i*6+5<(dz _).length;rw[jT,VK];omega)) (jV (by simp) b)) I I<|aF [0,1,8] I ?_;refine an<|aj (.a 1 I<|.k [0,1,8,32] I)<|ay<|aj (.a 2 I<|.k [0,1,8,32,33] I)<|ak I (λhc=>?_) (λhc=>?_)
   ·cases hc
   ·refine aj (.a 2 I<|.k [0,1,8,49] I)<|ak I (λhc=>?_) (λhc=>?_)
    ·cases hc
    ·exact ao<|aj (.a 2 I<|.k [6] I)<|aA<|⟨_,V5 I,aW T {s with au:=s.au.set i (cZ p)},_,rfl,Vh _,bU T _ h8,Ren.pure,rfl,rfl⟩
  ·have c:¬p.ph=0:=by have:=Vj hc;omega
   have a:({p with ph:=p.ph,lf:=(if p.ph=0 then 0 else p.lf - 1)}:gO)=cZ p:=by unfold cZ;simp[c]
   rw[a];refine ao<|an<|aj (.a 1 I<|.k [0,1,8,32] I)<|ay<|aj (.a 2 I<|.k [0,1,8,32,33] I)<|ak I (λhc=>?_) (λhc=>?_)
   ·cases hc
   ·refine aj (.a 2 I<|.k [0,1,8,49] I)<|ak I (λhc=>?_) (λhc=>?_)
    ·cases hc
    ·exact ao<|aj (.a 2 I<|.k [6] I)<|aA<|⟨_,V5 I,aW T {s with au:=s.au.set i (cZ p)},_,rfl,Vh _,bU T _ h8,Ren.pure,rfl,rfl⟩
def ql(b lk N:Nat)(nb:Nb):List (Int×PV):=nb.map λx=>((x.1:Int),.own (if x.1=lk then N else x.1+b))
def wF(lk:Nat)(nb:Nb)(k:Nat):Option cj:=if k=lk then none else fT nb k
def wG(lk:Nat)(nb:Nb):bH:=[wF lk nb 0,wF lk nb 1,wF lk nb 2,wF lk nb 3,wF lk nb 4,wF lk nb 5,wF lk nb 6,wF lk nb 7]
def CS(T:aw)(s:Nd)(lk N:Nat):bH:=[some (.cells 76 (IC T s)),some (.row 84 6 s.au.length (dz s.au)),Dz s.db,some (.cells 158 [.own 2]),some (.mp (bD c7 (ql 7 lk N s.nb))),some (.cells 190 [num 2,.own 4]),fm s.og]
def iu(T:aw)(s:Nd)(lk N:Nat):bH:=CS T s lk N++wG lk s.nb
def tS(lk N:Nat):List Nat:=(List.range 15).set (lk+7) N
theorem DQ{lk N:Nat}(a:lk<8):(tS lk N)[lk+7]? =some N:=by unfold tS;rw[WC (by simp;omega)]
theorem ve{lk N k:Nat}(hk:k<15)(h:k≠lk+7):(tS lk N)[k]? =some k:=by unfold tS;rw[VY (λe=>h e.symm),cV hk]
theorem QR{lk N n:Nat}(a:lk<8):bk (tS lk N) n (lk+7)=N:=by
 unfold bk;rw[Vn (by simp[tS];omega),Qo,DQ a];rfl
theorem Jy{lk N n k:Nat}(hk:k<15)(h:k≠lk+7):bk (tS lk N) n k=k:=by
 unfold bk;rw[Vn (by simp[tS];omega),Qo,ve hk h];rfl
theorem Ou{fs:List Nat}{lk N b b':Nat}{nb}(h8:∀x∈az nb,x<8)(hg:∀k,k<8->fs[k+b]? =some (if k=lk then N else k+b')):ax fs ((bD c7 (fS b nb)).map (·.2)) ((bD c7 (ql b' lk N nb)).map (·.2)):=⟨by simp[bD,fS,ql],λj x y h1 h2=>by
 simp only[bD,fS,ql,V7,Vt,Vr]at h1 h2;obtain⟨z,c,rfl⟩:=h1;obtain⟨e,a,rfl⟩:=h2;rw[c]at a;cases a;exact .own (hg _ (h8 z.1 (Vv.2 ⟨z,VE c,rfl⟩)))⟩
theorem Re{g:Nat->Nat}{lk N b b':Nat}{nb}(h8:∀x∈az nb,x<8)(hg:∀k,k<8->g (k+b)=if k=lk then N else k+b'):fB g ((bD c7 (fS b nb)).map (·.2)) ((bD c7 (ql b' lk N nb)).map (·.2)):=⟨by simp[bD,fS,ql],λj x y h1 h2=>by
 simp only[bD,fS,ql,V7,Vt,Vr]at h1 h2;obtain⟨z,c,rfl⟩:=h1;obtain⟨e,a,rfl⟩:=h2;rw[c]at a;cases a;exact .own (hg _ (h8 z.1 (Vv.2 ⟨z,VE c,rfl⟩)))⟩
theorem K7(b b' lk N:Nat)(nb:Nb):(bD c7 (fS b nb)).map (·.1)=(bD c7 (ql b' lk N nb)).map (·.1):=by simp[bD,fS,ql]
theorem Ck(lk:Nat)(nb:Nb){k:Nat}(h:k<8):(wG lk nb)[k]? =some (wF lk nb k):=by
 rcases(show k=0\/k=1\/k=2\/k=3\/k=4\/k=5\/k=6\/k=7 by omega)with rfl|rfl|rfl|rfl|rfl|rfl|rfl|rfl<;>rfl
theorem L9(T:aw){s:Nd}{lk:Nat}(h:lk<8)(h8:∀x∈az s.nb,x<8)(x:Option cj):eV (tS lk 16) (iu T s lk 16++[x,fT s.nb lk]) (aW T s) (tS lk 16):=by
 have a:∀k,k<7->(tS lk 16)[k]? =some k:=λk hk=>ve (by omega) (by omega);refine ZG _ _ (by simp[tS,aW,EP,mN]) λi b j h1 h2=>?_;by_cases hi:i<7
 ·rw[a i hi]at h2;cases h2;rcases(show i=0\/i=1\/i=2\/i=3\/i=4\/i=5\/i=6 by omega)with rfl|rfl|rfl|rfl|rfl|rfl|rfl<;>cases h1
  ·exact⟨_,rfl,.cells (sb T s (a 1 (by omega)) (a 3 (by omega)) (a 5 (by omega)) (a 6 (by omega)))⟩
  ·exact⟨_,rfl,.row VT⟩
  ·exact⟨_,rfl,.mp⟩
  ·exact⟨_,rfl,.cells (V0 (.own (a 2 (by omega))) Wp)⟩
  ·exact⟨_,rfl,.De (K7 ..) (Ou h8 λk hk=>by
    by_cases e:k=lk
    ·subst e;rw[Vn rfl];exact DQ h
    ·rw[Vk e];exact ve (by omega) (by omega))⟩
  ·exact⟨_,rfl,.cells (V0 Ren.pure (V0 (.own (a 4 (by omega))) Wp))⟩
  ·exact⟨_,rfl,.cells VT⟩
 ·have hl:(tS lk 16).length=15:=by simp[tS]
  have g:i<15:=by have:=(Vf.1 h2).1;omega
  obtain⟨k,rfl⟩:∃k,i=k+7:=⟨i - 7,by omega⟩;have c:fT s.nb k=some b:=by
   have:(aW T s)[k+7]? =some (fT s.nb k):=lU _ (by omega);exact XA (this.symm.trans h1)
  by_cases he:k=lk
  ·subst he;rw[DQ h]at h2;cases h2;exact⟨b,by rw[<-c];rfl,iI b c⟩
  ·rw[ve g (by omega)]at h2;cases h2;refine⟨b,?_,iI b c⟩;show(wG lk s.nb++[x,fT s.nb lk])[k]? =_;rw[Vl (show k<8 by omega),Ck _ _ (by omega),wF,Vk he,c]
theorem Sx(h i j k l m n c0 c1 a b c e g x:Option cj)(p q:Nat->Option cj){lk:Nat}(o:lk<8):
  iJ ([h,i,j,k,l,m,n]++[if 0=lk then none else p 0,if 1=lk then none else p 1,if 2=lk then none else p 2,if 3=lk then none else p 3,if 4=lk then none else p 4,if 5=lk then none else p 5,if 6=lk then none else p 6,if 7=lk then none else p 7]++[x,p lk]) (tS lk 16) ([c0,c1,a,b,c,e,g]++[q 0,q 1,q 2,q 3,q 4,q 5,q 6,q 7])=[c0,c1,a,b,c,e,g]++[if 0=lk then none else q 0,if 1=lk then none else q 1,if 2=lk then none else q 2,if 3=lk then none else q 3,if 4=lk then none else q 4,if 5=lk then none else q 5,if 6=lk then none else q 6,if 7=lk then none else q 7]++[x,q lk]:=by
 rcases(show lk=0\/lk=1\/lk=2\/lk=3\/lk=4\/lk=5\/lk=6\/lk=7 by omega)with rfl|rfl|rfl|rfl|rfl|rfl|rfl|rfl<;>simp[tS,List.range,List.range.loop,iJ]
theorem L8(T:aw){s s':Nd}{lk:Nat}(a:lk<8)(x:Option cj):iJ (iu T s lk 16++[x,fT s.nb lk]) (tS lk 16) (CS T s' lk 16++mN s'.nb)=iu T s' lk 16++[x,fT s'.nb lk]:=
 Sx _ _ _ _ _ _ _ _ _ _ _ _ _ _ x (fT s.nb) (fT s'.nb) a
theorem Hg{lk:Nat}(a:lk<8):gd (tS lk 16)=true:=by
 rcases(show lk=0\/lk=1\/lk=2\/lk=3\/lk=4\/lk=5\/lk=6\/lk=7 by omega)with rfl|rfl|rfl|rfl|rfl|rfl|rfl|rfl<;>rfl
theorem Q5{lk:Nat}(a:lk<8):((tS lk 16).all λi=>Nat.blt i 17)=true:=by
 rcases(show lk=0\/lk=1\/lk=2\/lk=3\/lk=4\/lk=5\/lk=6\/lk=7 by omega)with rfl|rfl|rfl|rfl|rfl|rfl|rfl|rfl<;>rfl
theorem ID{f b T}{s s':Nd}{lk:Nat}{z}[IsPure z](a:lk<8)(h8:∀x∈az s.nb,x<8)(c:∀x∈az s'.nb,x<8)(g:ax (tS lk 16) b b)(x:Option cj)(h:aD prog f b (aW T s) (λr σ'=>r=z/\σ'=aW T s')):aD prog f b (iu T s lk 16++[x,fT s.nb lk]) (λr σ'=>r=z/\σ'=iu T s' lk 16++[x,fT s'.nb lk]):=by
 refine Y5 (tS lk 16) (Hg a) g (L9 T a h8 x) (Q5 a) (h.mono ?_);rintro r σ' ⟨rfl,rfl⟩;have hn:∀k,k<7->bk (tS lk 16) (iu T s lk 16++[x,fT s.nb lk]).length k=k:=λk hk=>Jy (by omega) (by omega);refine⟨_,CS T s' lk 16++mN s'.nb,by simp[tS,aW,EP,mN],Mw.pure,?_,rfl,?_⟩
 ·refine .kept (.cells ?_)<|.kept (.row Ye)<|.kept (.mp rfl Ye)<|.kept (.cells (XN (.own (hn 2 (by omega))) Y9))<|.kept (.mp (K7 ..) (Re c λk hk=>?_))<|.kept (.cells (XN Mw.pure (XN (.own (hn 4 (by omega))) Y9)))<|.kept (.cells Ye) (nO _ _)
  ·exact .cons .pure<|.cons .pure<|.cons .pure<|.cons .pure<|.cons .pure<|.cons .pure<|.cons .pure<|.cons .pure<|.cons .pure<|.cons (.own (hn 1 (by omega)))<|.cons .pure<|.cons .pure<|.cons (.ptr (hn 3 (by omega)))<|.cons (.ptr (hn 5 (by omega)))<|.cons (.ptr (hn 6 (by omega))) .nil
  ·by_cases e:k=lk
   ·subst e;rw[Vn rfl];exact QR a
   ·rw[Vk e];exact Jy (by omega) (by omega)
 ·rw[L8 T a,show(CS T s' lk 16++mN s'.nb).drop (tS lk 16).length=[] from Wi (by simp[tS,CS,mN]),V6]
theorem aD.oI{P f ps}{σ:bH}{R:PV->bH->Prop}(h:aD P f ps σ (λr σ'=>∃fs B r',gd fs=true/\Dd fs σ.length=true/\eV fs σ' B fs/\Ren fs r' r/\R r' B)):aD P f ps σ R:=λF base E w vs l k=>by
 refine(h F base E w vs l k).mono ?_;rintro e w' ⟨v,r,σ',E',rfl,⟨fs,B,r',hn,hid,n,hr,k⟩,m,g,j,hv⟩;obtain⟨M,hM,a⟩:=m.oI n hn;have c:∀i,i<σ.length->fs[i]? =some i:=rA hid;refine⟨v,r',B,_,rfl,k,a,⟨?_,λi hi=>?_,λb hb hn hm=>g.M b hb hn (hM b hm),g.size,g.heap⟩,j,hr.rep hM v hv⟩
 ·show E.L<=fs.length;rw[l.len];rcases Ww fs.length σ.length with h|h
  ·have:=c fs.length h;simp at this
  ·exact h
 ·show E'.at_ (fs.getD i 0)=_;rw[Qo,c i (by rw[<-l.len];exact hi)];exact g.at_ i hi
end
end PW
end Go.Proofs.YtfcadpknnbgibaaGreatDoor
