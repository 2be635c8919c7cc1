/- Part 9. -/
import Derived.Maps.RangeRun
import Derived.Test.YtfcadpknnbgibaaGreatDoorCardWVB8
set_option maxRecDepth 100000
set_option maxHeartbeats 4000000
namespace Go.Proofs.YtfcadpknnbgibaaGreatDoor
open Go.Proofs.Tryz
namespace PW
section
open Go.RowKit Go.Maps Go.Sort Go.Shelf cm Mem Net
def jg:Option cj:=some (.cells 35 [.ptr 0 0])
def qn(h:Nat):Nat:=if decide (h=1) then 2 else 1
theorem vD(T:aw)(s:Nd)(p l n b h:Nat)(h8:∀x∈az s.nb,x<8)(g:HS p l):aD prog 115 [p9 p l,.cH (B0 (.df n b h)) 0,.ptr 15 0] (aW T s++[jg]) (λr σ'=>r= .tuple [p9 (qn h) 3,num (ts p (qn h)),num 0]/\σ'=aW T s++[jg]):=by
 have a:fF 16 (aW T s++[jg]):=fF.app (λi b hb=>((bU T s h8) i b hb).more (gs:=[15])) (.cons (.cells (V0 (gV (by omega)) .nil)) .nil);have⟨q,c⟩:=dw (decide (h=1));have hr:=Ho p l g q;have d:decide ((h:Int)=1)=q:=by rw[<-c];by_cases e:h=1<;>simp[e]<;>omega
 have f:qn h=if q then 2 else 1:=by unfold qn;rw[c]
 rw[f];refine Xa<|aV func115 I ntmps115 I<|aK<|bW (dv I I I) I<|av 3 I<|aF [1,2,3,4] I ?_;refine kT 20 1 ((aW T s++[jg]++[some (.cells 82 (xr p l)),some (.cells 82 [num 0,num 0])])::(aW T s++[jg]++[some (.cells 82 (xr p l)),some (.cells 82 (xr (if q then 2 else 1) 3))])::[]) (⟨_,none,0,0⟩::⟨_,none,0,0⟩::⟨_,none,0,0⟩::⟨_,none,0,0⟩::⟨_,none,0,0⟩::⟨_,none,0,0⟩::⟨_,none,0,0⟩::⟨flag q,none,0,0⟩::⟨_,none,0,0⟩::⟨_,none,0,0⟩::⟨_,none,0,0⟩::⟨_,none,0,0⟩::⟨_,none,0,0⟩::⟨_,none,0,0⟩::⟨_,none,0,0⟩::⟨_,none,0,0⟩::⟨_,none,0,0⟩::⟨_,some 0,0,0⟩::⟨_,none,1,1⟩::⟨_,none,1,1⟩::[]) _ mixed ?grd18 rfl rfl rfl rfl (.cons (.val [3] I I (yz (bF (aP I) b7)) I I)<|.cons (.val [1] I I (yz (bF (aP I) b7)) I I)<|.cons (.val [8] I I (yz (bF (aP I) b7)) I I)<|.cons (.val [2] I I (yz (bF (aP I) b7)) I I)<|.cons (.val [10] I I (yz (bF (aP I) b7)) I I)<|.cons (.val [11] I I (yz (bF (aP I) b7)) I I)<|.cons (.val [12] I I (yz (bF (aP I) b7)) I I)<|.cons (.val [9,13] I I (yz (bF (cT I (d)) b7)) I I)<|.cons (.val [2] I I (yz (bF (aP I) b7)) I I)<|.cons (.val [15] I I (yz (bF (aP I) b7)) I I)<|.cons (.val [16] I I (yz (bF (aP I) b7)) I I)<|.cons (.val [17] I I (yz (bF (aP I) b7)) I I)<|.cons (.val [18] I I (yz (bF (aP I) b7)) I I)<|.cons (.val [7,14,19] I I (yz (bF (dW I (hr)) b7)) I I)<|.cons (.val [20] I I (yz (bF (aP I) b7)) I I)<|.cons (.val [20] I I (yz (bF (aP I) b7)) I I)<|.cons (.val [20] I I (yz (bF (aP I) b7)) I I)<|.cons (.gT [4,21] I I I I (cG I) I)<|.cons (.val [22] I I (yz (bF (aP I) b7)) I I)<|.cons (.val [23] I I (yz (bF (aP I) b7)) I I) .nil) (aJ (ks:=[4,5,6]) I) ?_
 case grd18=>kernel_rfl
 exact aA<|⟨_,V5 I,aW T s++[jg],_,rfl,Vh _,a,(Ren.pure:Ren _ (.tuple [p9 (if q then 2 else 1) 3,num (ts p (if q then 2 else 1)),num 0]) (.tuple [p9 (if q then 2 else 1) 3,num (ts p (if q then 2 else 1)),num 0])),rfl,rfl⟩
theorem Lq{nb}{lk:Nat}(a:aN lk nb=none)(p:Pm):mN nb=wG lk (bS lk p nb):=by
 have e:∀k,fT nb k=wF lk (bS lk p nb) k:=λk=>by
  unfold wF;by_cases h:k=lk
  ·subst h;rw[Vn rfl];unfold fT;rw[a];rfl
  ·rw[Vk h,rS,Vk h]
 simp only[mN,wG,e]
theorem Rz(T:aw)(s:Nd)(lk:Nat)(l:List cC)(o:lk<8)(b:aN lk s.nb=none)(h8:∀x∈az s.nb,x<8)(x c:Option cj)(h:aD prog 99 [.ptr 1 0,num lk,oh l] (cq 2 s.nb) (λr σ'=>r=num 0/\σ'=qE 2 lk s.nb (pw l))):aD prog 99 [.ptr 5 0,num lk,oh l] (aW T s++[x,c]) (λr σ'=>r=num 0/\σ'=iu T {s with nb:=bS lk (pw l) s.nb} lk 17++[x,c,fT (bS lk (pw l) s.nb) lk]):=by
 have i:fT (bS lk (pw l) s.nb) lk=some (Lu (pw l)):=by rw[rS,Vn rfl]
 refine Y5 P5 rfl (V0 (.ptr rfl) VT) (CR T s h8 [x,c]) I (h.mono ?_);rintro r σ' ⟨rfl,rfl⟩;refine⟨_,[some (.mp (bD c7 (ql 7 lk 17 (bS lk (pw l) s.nb)))),some (.cells 190 [num 2,.own 4])]++wG lk (bS lk (pw l) s.nb)++[some (Lu (pw l))],?_,Mw.pure,.kept (.mp ?_ ?_) (.kept (.cells (XN Mw.pure (XN (.own rfl) Y9))) ?_),rfl,?_⟩
 ·simp[P5,qE,mN]
 ·rw[mU b];simp[bD,B2,fS,ql]
 ·rw[mU b];have k:(bD c7 (B2 lk s.nb)).map (·.2)=(bD c7 (fS 2 s.nb)).map (·.2)++[.own 10]:=by simp[bD,B2]
  have m:(bD c7 (ql 7 lk 17 (s.nb++[(lk,pw l)]))).map (·.2)=(bD c7 (ql 7 lk 17 s.nb)).map (·.2)++[.own 17]:=by simp[bD,ql]
  rw[k,m];refine⟨by simp[bD,fS,ql],λj y z h1 h2=>?_⟩;have e:((bD c7 (fS 2 s.nb)).map (·.2)).length=s.nb.length:=by simp[bD,fS]
  have f:((bD c7 (ql 7 lk 17 s.nb)).map (·.2)).length=s.nb.length:=by simp[bD,ql]
  by_cases hj:j<s.nb.length
  ·rw[Vl (by omega)]at h1 h2;simp only[bD,fS,ql,V7,Vt,Vr]at h1 h2;obtain⟨a,ha,rfl⟩:=h1;obtain⟨p,d,rfl⟩:=h2;rw[ha]at d;cases d;have hm:a.1∈az s.nb:=Vv.2 ⟨a,VE ha,rfl⟩;have:=h8 _ hm;have g:=zI b hm;show Mw _ (.own (a.1+2)) (.own (if a.1=lk then 17 else a.1+7));rw[Vk g];exact .own (Jv this)
  ·rw[Vq (by omega),e]at h1;rw[Vq (by omega),f]at h2;have n:j - s.nb.length<1:=(Vf.1 h1).1;rw[show j - s.nb.length=0 by omega]at h1 h2;cases h1;cases h2;exact .own rfl
 ·rw[<-Lq b];exact uF.app (nO _ _) (.kept (.mp rfl Ye) .nil)
 ·rw[i];rfl
theorem Po(T:aw)(s:Nd)(lk:Nat)(h8:∀x∈az s.nb,x<8)(c:Option cj):eV (List.range 16++[17]) (iu T s lk 17++[jg,c,fT s.nb lk]) (iu T s lk 16++[jg,fT s.nb lk]) (List.range 16++[17]):=by
 have hx:∀k c,wF lk s.nb k=some c->ji (List.range 16++[17]) c c:=λk c h=>by
  unfold wF at h;split at h
  ·cases h
  ·exact iI c h
 refine .kept rfl (.cells (sb T s rfl rfl rfl rfl))<|.kept rfl (.row VT)<|.kept rfl .mp<|.kept rfl (.cells (V0 (.own rfl) Wp))<|.kept rfl (.De (by simp[bD,ql]) ⟨by simp[bD,ql],λj y z h1 h2=>?_⟩)<|.kept rfl (.cells (V0 Ren.pure (V0 (.own rfl) Wp)))<|.kept rfl (.cells VT)<|.opt rfl (hx 0)<|.opt rfl (hx 1)<|.opt rfl (hx 2)<|.opt rfl (hx 3)<|.opt rfl (hx 4)<|.opt rfl (hx 5)<|.opt rfl (hx 6)<|.opt rfl (hx 7)<|.kept rfl (.cells (V0 (.ptr rfl) Wp))<|.opt rfl iI .nil;simp only[bD,ql,V7,Vt,Vr]at h1 h2;obtain⟨a,ha,rfl⟩:=h1;obtain⟨d,b,rfl⟩:=h2;rw[ha]at b;cases b;have:=h8 a.1 (Vv.2 ⟨a,VE ha,rfl⟩);show Ren _ (.own (if a.1=lk then 16 else a.1+7)) (.own (if a.1=lk then 17 else a.1+7));by_cases e:a.1=lk
 ·rw[Vn e,Vn e];exact .own rfl
 ·rw[Vk e,Vk e];exact(gU (n:=16) (show a.1+7<16 by omega)).more
def JK(n b h:Nat):PV:=.func 115 [.cH (B0 (.df n b h)) 0,.ptr 15 0]
def Nd.ph(s:Nd)(i h:Nat):Nd:= {s with au:=s.au.set i {s.au.getD i cX with ph:=qn h,lf:=3}}
theorem Ls(h:Nat):decide ((qn h:Int)=0)=false:=VA (by unfold qn;split<;>decide)
theorem EH(T:aw)(s:Nd)(h8:∀x∈az s.nb,x<8):fF 16 (aW T s++[jg]):=fF.app (λi b hb=>((bU T s h8) i b hb).more (gs:=[15])) (.cons (.cells (V0 (gV (by omega)) .nil)) .nil)
theorem Cp{l:List gO}{i:Nat}(hd:((dz l).drop (i*6)).take 6=jS (l.getD i cX)):((dz l).drop (i*6+3)).take 2=[num (l.getD i cX).ph,num (l.getD i cX).lf]:=by
 have:=V1 (λl=>(l.drop 3).take 2) hd;simp only[YY,X4,XU]at this;exact this
theorem zn(T:aw)(s:Nd)(i n b h:Nat)(f:s.Fit)(hi:i<s.au.length)(g:HS (s.au.getD i cX).ph (s.au.getD i cX).lf)(c:ts (s.au.getD i cX).ph (qn h)=0):aD prog 60 [.ptr 0 0,.ptr 1 (i*6),JK n b h] (aW T s++[jg]) (λr σ'=>r=num 0/\σ'=aW T (s.ph i h)++[jg]):=by
 have h8:=f.h8;have hr:=vD T s _ _ n b h h8 g;rw[c]at hr;have a:=Cp (kP s.au i hi);have e:=zR s.au i hi (qn h) 3;have j:=jT s.au;have d:=Ls h;refine Xa<|aV func60 I ntmps60 I<|aj (.a 1 I<|.k [0,1,2] I)<|aK<|av 4 I<|aZ (gr I (a) I) I<|br I I (VO (hr) (λ_ σ' h=>?_));obtain⟨rfl,rfl⟩:=h;refine av 8 I<|aF [0,1,7,8,9] I ?_;refine an<|aj (.a 2 I<|.k [0,1,7,8,21] I)<|ak I (λhc=>?_) (λhc=>?_)
 ·cases hc
 ·refine ao<|aK<|av 4 I<|bw (YD (jr (ys:=[num (qn h),num (3:Nat)]) I (VJ I) I I I I I (by show i*6+3+2<=(dz s.au).length;omega)) (jV (by simp) e)) I I<|aF [0,1,7,8] I ?_;refine an<|aj (.a 2 I<|.v (cT I (d)) I<|.k [0,1,8,28] I)<|ak I (λhc=>?_) (λhc=>?_)
  ·cases hc
  ·refine ao<|an<|aj (.a 1 I<|.k [0,1,8,32] I)<|ay<|aj (.a 2 I<|.k [0,1,8,32,33] I)<|ak I (λhc=>?_) (λhc=>?_)
   ·cases hc
   ·refine aj (.a 2 I<|.k [0,1,8,49] I)<|ak I (λhc=>?_) (λhc=>?_)
    ·cases hc
    ·exact ao<|aj (.a 2 I<|.k [6] I)<|aA<|⟨_,V5 I,aW T (s.ph i h)++[jg],_,rfl,Vh _,EH T _ h8,Ren.pure,rfl,rfl⟩
theorem zo(T:aw)(s s1 s2:Nd)(p:gO)(i n b h:Nat)(hF:s.Fit)(hi:i<s.au.length)(hp:s.au.getD i cX=p)(hh:HS p.ph p.lf)(hev:ts p.ph (qn h)=1)(hs1:s1=s.ph i h)(hs2:s2= {s1 with nb:=bS p.lk (pw (gE s.db)) s.nb})(hlk:p.lk<8)(hno:aN p.lk s.nb=none)
  (hk:∀x∈az s.db,x<1000) (hdl:s.db.length<=1000) (ha:∀o x,aN o s.db=some x->x.Ok) (hok:∀a∈gE s.db,a.Ok) (hn:((gE s.db).map (·.cn)).Nodup) (hal:(gE s.db).length<=100000):aD prog 60 [.ptr 0 0,.ptr 1 (i*6),JK n b h] (aW T s++[jg]) (λr σ'=>r=num 1/\σ'=iu T s2 p.lk 16++[jg,fT s2.nb p.lk]):=by
 have h8:=hF.h8
 have hd2:=Cp (kP s.au i hi)
 have hst:=zR s.au i hi (qn h) 3
 have hg0:(dz s1.au)[i*6+0]? =(jS {p with ph:=qn h,lf:=3})[0]? :=by
  have hlen:i<s1.au.length:=by rw[hs1];simpa[Nd.ph]using hi
  rw[eH s1.au i 0 hlen (by decide)]
  have:s1.au.getD i cX= {p with ph:=qn h,lf:=3}:=by rw[hs1,<-hp];exact ef _ _ hi _
  rw[this]
 rw[hp]at hd2 hst
 have hr:=vD T s p.ph p.lf n b h h8 hh
 rw[hev]at hr
 have hpl:=jT s.au
 have hne:=Ls h
 have hnb1:s1.nb=s.nb:=by rw[hs1];rfl
 have hdb1:s1.db=s.db:=by rw[hs1];rfl
 have hall:=A5 s.db hk hdl (λo x hx=>(ha o x hx).len)
 have hup:=NO 2 p.lk s.nb (gE s.db) hlk hno h8 hal hok hn
 have hs1': {s with au:=s.au.set i {p with ph:=qn h,lf:=3}}=s1:=by rw[hs1,<-hp];rfl
 rw[<-hdb1]at hall
 rw[<-hnb1]at hup hno h8
 have h82:∀x∈az s2.nb,x<8:=by
  rw[hs2]
  intro x hx
  rcases kE.1 hx with rfl|hx
  ·exact hlk
  ·exact h8 x (by rw[hnb1];exact hx)
 have h8s:∀x∈az s.nb,x<8:=hF.h8
 have hcan:=Rz T s1 p.lk (gE s.db) hlk hno h8 jg (some (.cells 82 (xr (qn h) 3))) hup
 have hs2': {s1 with nb:=bS p.lk (pw (gE s.db)) s1.nb}=s2:=by rw[hs2,hnb1]
 rw[hs2',show bS p.lk (pw (gE s.db)) s1.nb=s2.nb by rw[<-hs2']]at hcan
 have hall2:=kz (T:=T) (s:=s1) (d:=s1.db) [jg,some (.cells 82 (xr (qn h) 3))] hall
 rw[show gE s1.db=gE s.db by rw[hdb1]]at hall2
 refine aV func60 I ntmps60 I<|aj (.a 1 I<|.k [0,1,2] I)<|aK<|av 4 I<|aZ (gr I (hd2) I) I<|br I I (VO (hr) (λ_ σ' h=>?_))
 obtain⟨rfl,rfl⟩:=h
 refine av 8 I<|aF [0,1,7,8,9] I ?_
 refine an<|aj (.a 2 I<|.k [0,1,7,8,21] I)<|ak I (λhc=>?_) (λhc=>?_)
 ·cases hc
 ·refine ao<|aK<|av 4 I<|bw (YD (jr (ys:=[num (qn h),num (3:Nat)]) I (VJ I) I I I I I (by show i*6+3+2<=(dz s.au).length;omega)) (jV (by simp) hst)) I I<|aF [0,1,7,8] I ?_
  rw[hs1']
  refine an<|aj (.a 2 I<|.v (cT I (hne)) I<|.k [0,1,8,28] I)<|ak I (λhc=>?_) (λhc=>?_)
  ·cases hc
  ·refine ao<|an<|aj (.a 1 I<|.k [0,1,8,32] I)<|ay<|aj (.a 2 I<|.k [0,1,8,32,33] I)<|ak I (λhc=>?_) (λhc=>?_)
   ·refine gQ (aJ (ks:=[0,1,8]) I) ?_
    refine dY (σ':=aW T s1++[jg,some (.cells 82 (xr (qn h) 3))]) I ?_
    refine ti _ _ mixed (λ_ h=>h) (UD [0,1,8] [8] [13] [(0,1),(0,1),(0,1),(0,1),(0,1),(0,1),(0,1),(0,1),(0,1),(0,1),(0,1),(0,1),(0,1),(0,1)] [(0,_),(1,_),(8,_),(35,.ptr 0 0),(36,.ptr 0 0),(37,.ptr 0 13),(38,.ptr 5 0),(39,.ptr 1 (i*6)),(40,.ptr 1 (i*6)),(41,.ptr 1 (i*6)),(42,num p.lk),(43,.ptr 0 0),(44,.ptr 0 0),(45,.ptr 0 12),(46,.ptr 3 0),(47,oh (gE s.db)),(48,num 0)] [_,iu T s2 p.lk 17++[jg,some (.cells 82 (xr (qn h) 3)),fT s2.nb p.lk]] 20 (by kernel_rfl) I I I I (UG 7 I<|UK rfl (UL (UE rfl (aO I (hg0))))<|UG 4 I<|UK rfl (UL (UH rfl rfl (hall2) I))<|UN rfl (UH rfl rfl (hcan) I)<|UT rfl)) ?_
    refine dM (List.range 16++[17]) (σ':=iu T s2 p.lk 16++[jg,fT s2.nb p.lk]) (.c 8 .nil) (Po T s2 p.lk h82 _) I I ?_
    exact aj (.a 2 I<|.k [6] I)<|aA<|⟨_,V5 I,rfl,rfl⟩
   ·cases hc
theorem yY(T:aw)(s:Nd)(i n b h:Nat)(c:s.Fit)(hi:i<s.au.length)(e:HS (s.au.getD i cX).ph (s.au.getD i cX).lf)(a:ts (s.au.getD i cX).ph (qn h)=0):aD prog 114 [.ptr 0 0,.ptr 1 (i*6),JK n b h] (aW T s++[jg]) (λr σ'=>σ'=aW T (s.ph i h)++[jg]):=by
 have d:=zn T s i n b h c hi e a;refine aV func114 I ntmps114 I<|aK<|av 3 I<|br I I (VO (d) (λ_ σ' h=>?_));obtain⟨rfl,rfl⟩:=h;refine av 1 I<|aF [0,10] I ?_;refine ak I (λhc=>?_) (λhc=>?_)
 ·cases hc
 ·exact ao<|⟨_,V5 I,rfl⟩
theorem yZ(T:aw)(s s2 s3:Nd)(lk i n b h:Nat)(d:lk<8)(h8:∀x∈az s2.nb,x<8)(a:∀x∈az s3.nb,x<8)(e:aD prog 60 [.ptr 0 0,.ptr 1 (i*6),JK n b h] (aW T s++[jg]) (λr σ'=>r=num 1/\σ'=iu T s2 lk 16++[jg,fT s2.nb lk]))(ho:aD prog 23 [.ptr 0 0] (aW T s2) (λr σ'=>r= .any/\σ'=aW T s3)):aD prog 114 [.ptr 0 0,.ptr 1 (i*6),JK n b h] (aW T s++[jg]) (λr σ'=>σ'=iu T s3 lk 16++[jg,fT s3.nb lk]):=by
 have c:=ID d h8 a (V0 (.ptr (ve (by omega) (by omega))) .nil) jg ho;refine aV func114 I ntmps114 I<|aK<|av 3 I<|br I I (VO (e) (λ_ σ' h=>?_));obtain⟨rfl,rfl⟩:=h;refine av 1 I<|aF [0,10] I ?_;refine ak I (λhc=>?_) (λhc=>?_)
 ·refine bp<|av 1 I<|br I I (VO (c) (λ_ σ' h=>?_));obtain⟨rfl,rfl⟩:=h;refine aF [] I<|⟨_,V5 I,rfl⟩
 ·cases hc
def Nd.bt(s:Nd)(i:Nat):Nd:= {s with au:=s.au.set i {s.au.getD i cX with bt:=1}}
theorem yW{s:Nd}{i:Nat}(hi:i<s.au.length):(s.bt i).au.getD i cX= {s.au.getD i cX with bt:=1}:=ef _ _ hi _
theorem PU{s:Nd}{i:Nat}(hi:i<s.au.length)(h:Nat):(s.bt i).ph i h= {s with au:=s.au.set i (Ku (decide (h=1)) (s.au.getD i cX))}:=by
 unfold Nd.ph;rw[yW hi];show({s with au:=(s.au.set i _).set i _}:Nd)=_;rw[Zx]
 rfl
theorem F4(T:aw)(s:Nd)(lk:Nat)(h8:∀x∈az s.nb,x<8)(c:Option cj):eV (List.range 15++[16]) (iu T s lk 16++[c,fT s.nb lk]) (iu T s lk 15++[fT s.nb lk]) (List.range 15++[16]):=by
 have hx:∀k c,wF lk s.nb k=some c->ji (List.range 15++[16]) c c:=λk c h=>by
  unfold wF at h;split at h
  ·cases h
  ·exact iI c h
 refine .kept rfl (.cells (sb T s rfl rfl rfl rfl))<|.kept rfl (.row VT)<|.kept rfl .mp<|.kept rfl (.cells (V0 (.own rfl) Wp))<|.kept rfl (.De (by simp[bD,ql]) ⟨by simp[bD,ql],λj y z h1 h2=>?_⟩)<|.kept rfl (.cells (V0 Ren.pure (V0 (.own rfl) Wp)))<|.kept rfl (.cells VT)<|.opt rfl (hx 0)<|.opt rfl (hx 1)<|.opt rfl (hx 2)<|.opt rfl (hx 3)<|.opt rfl (hx 4)<|.opt rfl (hx 5)<|.opt rfl (hx 6)<|.opt rfl (hx 7)<|.opt rfl iI .nil;simp only[bD,ql,V7,Vt,Vr]at h1 h2;obtain⟨a,ha,rfl⟩:=h1;obtain⟨d,b,rfl⟩:=h2;rw[ha]at b;cases b;have:=h8 a.1 (Vv.2 ⟨a,VE ha,rfl⟩);show Ren _ (.own (if a.1=lk then 15 else a.1+7)) (.own (if a.1=lk then 16 else a.1+7));by_cases e:a.1=lk
 ·rw[Vn e,Vn e];exact .own rfl
 ·rw[Vk e,Vk e];exact(gU (n:=15) (show a.1+7<15 by omega)).more
theorem Cy(T:aw)(s:Nd)(i n h:Nat)(a:s.Fit)(hi:i<s.au.length)(hb:(s.au.getD i cX).ph≠0->(s.au.getD i cX).bt=1)(q:HS (s.au.getD i cX).ph (s.au.getD i cX).lf)(g:ts (s.au.getD i cX).ph (qn h)=0):aD prog 70 [.ptr 0 0,.ptr 1 (i*6),mb (.df n 1 h)] (aW T s) (λr σ'=>σ'=aW T ((s.bt i).ph i h)):=by
 have h8:=a.h8;have l:i<(s.bt i).au.length:=by simpa[Nd.bt]using hi
 have f:=yY T (s.bt i) i n 1 h ⟨a.h8,a.nn,a.nl,by simpa[Nd.bt]using a.pl⟩ l (by rw[yW hi];exact q) (by rw[yW hi];exact g);have e:=zQ s.au i hi 1;have t:=jT s.au;have j:=eH s.au i 3 hi (by decide);have p:=eH s.au i 4 hi (by decide);have k:=eH s.au i 5 hi (by decide);have⟨d,b⟩:=dw (decide (((s.au.getD i cX).ph:Int)≠0));have⟨o,c⟩:=dw (decide (((s.au.getD i cX).bt:Int)≠1));have m:(d&&o)=false:=by
  cases d with
  |false=>rfl
  |true=>
   have h1:=Vg b;have h2:=hb (by omega);rw[<-c,WB];exact VA (by omega)
 refine Xa<|aV func70 I ntmps70 I<|aK<|bW (dv (xs:=[_]) I I I) I<|bW (dv I I I) I<|aF [1,3,5] I ?_;refine uH (A:=aW T s++[jg]) (xs:=B0 (.df n 1 h)) 5 (EH T s h8) I (.c 1<|.cons 3 I (gV (show 15<16 by omega)) .nil) I<|an<|uG mixed (by kernel_rfl) 20 (.raw (.bool (d&&o))) [1,3,5] I ?_ ?_
 ·refine .a 4 I<|.v [9] (aO I (j)) I I<|.v [10] (cT I (b)) I I<|.a 1 I<|?_;cases d
  ·exact .a 8 I<|.k [20,1,3,5] I
  ·exact .a 3 I<|.v [15] (aO I (k)) I I<|.a 2 I<|.v [16,18] (cT I (c)) I I<|.a 1 I<|.k [20,1,3,5] I
 refine ak I (λhc=>?_) (λhc=>?_)
 ·rw[m]at hc;cases hc
 ·refine ao<|aK<|av 5 I<|bw (YD (eh I (VJ I) I I I (by show i*6+5<(dz _).length;omega)) (jV (by simp) e)) I I<|aF [1,3,5] I ?_;refine bp<|av 3 I<|br I I (VO (Zu f) (λ_ σ' h=>?_));obtain⟨rfl,rfl⟩:=h;refine aF [] I<|⟨_,V5 I,aW T ((s.bt i).ph i h),_,rfl,Vh _,bU T _ h8,Ren.pure,rfl⟩
theorem Cz(T:aw)(s s2 s3:Nd)(p:gO)(i n h:Nat)(c:s.Fit)(hi:i<s.au.length)(hb:(s.au.getD i cX).ph≠0->(s.au.getD i cX).bt=1)(G:HS (s.au.getD i cX).ph (s.au.getD i cX).lf)(t:ts (s.au.getD i cX).ph (qn h)=1)(hp:s.au.getD i cX=p)(D:s2= {(s.bt i).ph i h with nb:=bS p.lk (pw (gE s.db)) s.nb})(d:p.lk<8)(z:aN p.lk s.nb=none)
  (hk:∀x∈az s.db,x<1000) (q:s.db.length<=1000) (ha:∀o x,aN o s.db=some x->x.Ok) (B:∀a∈gE s.db,a.Ok) (hn:((gE s.db).map (·.cn)).Nodup) (k:(gE s.db).length<=100000) (j:∀x∈az s2.nb,x<8) (b:∀x∈az s3.nb,x<8) (ho:aD prog 23 [.ptr 0 0] (aW T s2) (λr σ'=>r= .any/\σ'=aW T s3)):aD prog 70 [.ptr 0 0,.ptr 1 (i*6),mb (.df n 1 h)] (aW T s) (λr σ'=>σ'=iu T s3 p.lk 15++[fT s3.nb p.lk]):=by
 have h8:=c.h8;have y:i<(s.bt i).au.length:=by simpa[Nd.bt]using hi
 have u:=zo T (s.bt i) ((s.bt i).ph i h) s2 {p with bt:=1} i n 1 h ⟨c.h8,c.nn,c.nl,by simpa[Nd.bt]using c.pl⟩ y (by rw[yW hi,hp]) (by rw[<-hp];exact G) (by rw[<-hp];exact t) I D d z hk q ha B hn k;have m:=yZ T (s.bt i) s2 s3 p.lk i n 1 h d j b u ho;have l:=zQ s.au i hi 1;have H:=jT s.au;have v:=eH s.au i 3 hi (by decide);have F:=eH s.au i 4 hi (by decide);have w:=eH s.au i 5 hi (by decide);have⟨g,e⟩:=dw (decide (((s.au.getD i cX).ph:Int)≠0));have⟨E,f⟩:=dw (decide (((s.au.getD i cX).bt:Int)≠1));have C:(g&&E)=false:=by
  cases g with
  |false=>rfl
  |true=>
   have h1:=Vg e;have h2:=hb (by omega);rw[<-f,WB];exact VA (by omega)
 refine aD.oI<|aV func70 I ntmps70 I<|aK<|bW (dv (xs:=[_]) I I I) I<|bW (dv I I I) I<|aF [1,3,5] I ?_;refine uH (A:=aW T s++[jg]) (xs:=B0 (.df n 1 h)) 5 (EH T s h8) I (.c 1<|.cons 3 I (gV (show 15<16 by omega)) .nil) I<|an<|uG mixed (by kernel_rfl) 20 (.raw (.bool (g&&E))) [1,3,5] I ?_ ?_
 ·refine .a 4 I<|.v [9] (aO I (v)) I I<|.v [10] (cT I (e)) I I<|.a 1 I<|?_;cases g
  ·exact .a 8 I<|.k [20,1,3,5] I
  ·exact .a 3 I<|.v [15] (aO I (w)) I I<|.a 2 I<|.v [16,18] (cT I (f)) I I<|.a 1 I<|.k [20,1,3,5] I
 refine ak I (λhc=>?_) (λhc=>?_)
 ·rw[C]at hc;cases hc
 ·refine ao<|aK<|av 5 I<|bw (YD (eh I (VJ I) I I I (by show i*6+5<(dz _).length;omega)) (jV (by simp) l)) I I<|aF [1,3,5] I ?_;refine bp<|av 3 I<|br I I (VO (Zu m) (λ_ σ' h=>?_));obtain⟨rfl,rfl⟩:=h;refine aF [] I<|⟨_,V5 I,List.range 15++[16],iu T s3 p.lk 15++[fT s3.nb p.lk],.any,rfl,rfl,F4 T s3 p.lk b _,.any,rfl⟩
def r6(l:List (Nat×km)):List PV:=l.flatMap FV
def lL(l:List (Nat×km)):PV:=.slice l.length (r6 l)
instance (l:List (Nat×km)):aM (r6 l):=Ym _ _ λ_=>inferInstance
instance (l:List (Nat×km)):IsPure (lL l):=by unfold lL;infer_instance
theorem yg(l:List (Nat×km))(a:Nat×km):r6 l++FV a=r6 (l++[a]):=by simp[r6]
def Pf:Nat×cC:=(0,Oe)
theorem Iz(l:List (Nat×cC))(i:Nat)(hi:i<l.length):((ki l).drop (i*7)).take 7=CQ (l.getD i Pf):=by
 induction l generalizing i with
 |nil=>cases hi
 |cons a l ih=>
  cases i with
  |zero=>simp[ki,CQ]
  |succ i=>
   have:=ih i (by simpa using hi);rw[show(i+1)*7=7+i*7 by omega,<-X4];show(((CQ a++ki l).drop 7).drop (i*7)).take 7=_;rw[show(CQ a++ki l).drop 7=ki l from Yb rfl,this];simp
def tT(n:Nat)(p:gO):Nat×km:=(p.lk,km.df n 1 p.bt)
def IS(x:Nat×cC):Nat×km:=(x.1,km.iU 2 1 x.2)
theorem BU{α β:Type}(f:α->β)(l:List α)(k:Nat)(d:α)(h:k<l.length):(l.take (k+1)).map f=(l.take k).map f++[f (l.getD k d)]:=by rw[cL l k d h];simp
theorem ER(T:aw)(s:Nd)(g:s.Fit)(t:s.node<64)(v:1<=s.time/\s.time<=1000000)(n:∀p∈s.au,p.bt<=1)(hp:∀lk p,aN lk s.nb=some p->p.length<=1000/\(az p).Nodup/\(∀x∈az p,x<1000)/\∀o x,aN o p=some x->x.1.cU.length<=256)(q:(oz s.nb).length<=100000)(hd:∀x∈oz s.nb,x.2.Ok):aD prog 68 [.ptr 0 0] (aW T s) (λr σ'=>r=lL (s.au.map (tT s.node)++(oz s.nb).map IS)/\σ'=aW T {s with nb:=mc 2 s.nb}):=by
 have h8:=g.h8;have u:=g.pl;have j:=Hc 2 s.nb (by omega) h8 g.nn g.nl hp;have b:=g.set (nb:=mc 2 s.nb) (keys_map _ _);generalize oz s.nb=a at q hd j ⊢;refine Xa<|aV func68 I ntmps68 I<|aj (.a 1 I<|.k [0] I)<|aj (.a 1 I<|.k [0,3] I)<|fe 3 134 2 I ?_;refine an<|ev mixed (by kernel_rfl) (.a 4 I<|.v [11] (aU I (hc:=(show(s.time:Int) - 1=((s.time - 1:Nat):Int) by omega))) I I<|.a 5 I<|.v [12,17] (l4 I I I (by decide) ((show Int.tmod ((s.time - 1:Nat):Int) 1=0 by rw[WD (by omega)];omega))) I I<|.a 1 I<|.k [0,3,19] I) ?_;refine ak I (λhc=>?_) (λhc=>?_)
 ·refine aj (.a 6 I<|.k [0,3,23,24,25] I)<|ay<|eX [0,3,23,24,25] I<|bq (λr st=>∃k,k<=s.au.length/\r=s.au.length - k/\st=⟨[(0,.ptr 0 0),(3,.own 15),(23,.own 1),(24,num s.au.length),(25,num k)],aW T s++[some (.row 134 2 k (r6 ((s.au.take k).map (tT s.node))))]⟩) s.au.length ⟨0,by omega,rfl,rfl⟩ ?_;rintro r st ⟨k,hk,rfl,rfl⟩;refine aj (.a 1 I<|.k [0,3,23,24,25,26] I)<|an<|ak I (λhc=>?_) (λhc=>?_)
  ·have hlt:k<s.au.length:=by have:=Vg hc;omega
   have c:=kP s.au k hlt;have d:=BU (tT s.node) s.au k cX hlt;have m:=n (s.au.getD k cX) (b9 hlt);generalize s.au.getD k cX=p at c d m;have f:=H5 T s p.lk s.node p.bt h8 ⟨t,by omega,by omega,by omega⟩;refine ao<|an<|ay<|aK<|aZ (aX (k*6) I) I<|aZ (gr I (c) I) I<|av 2 I<|aF [0,3,5,23,24,25] I ?_;refine dE 11 20 mixed (.late [3] I (o9 rfl rfl) inferInstance rfl rfl<|.val [0] I (aP I) I I<|.val [5] I (aP I) I I<|.val [31] I (aP I) I I<|.val [0] I (aP I) I I<|.val [33] I (aP I) I I<|.val [34] I (aP I) I I<|.val [35] I (aP I) I I<|.val [5] I (aP I) I I<|.val [37] I (aP I) I I<|.val [36,38] I (tf (gg (xs:=[_,_,_,_,_,_,_,_,_,_]) I (X8 I) I I) (fv.iV (.cons (WK _)<|.cons (WK _)<|.cons (WK _)<|.cons (WK _)<|.cons (WK _)<|.cons (WK _)<|.cons (WK _)<|.cons (WK _)<|.cons Zw<|.cons Zw .nil))) I I<|.nil) (by kernel_rfl) I I (aJ (ks:=[0,23,24,25,29,30,32,39]) I)<|br I I (VO (mW (s:=s) (s':=s) h8 h8 (V0 (gV (by omega)) VT) _ f) (λ_ σ' h=>?_));obtain⟨rfl,rfl⟩:=h;refine av 1 I<|bW (bP I (VW I) I I I I (by unfold maxLen;omega)) I<|av 1 I<|aF [0,3,23,24,25] I ?_;refine yS (A:=aW T s) (b':=.row 134 2 (k+1) (r6 ((s.au.take (k+1)).map (tT s.node)))) 2 I (bU T s h8) (.eZ rfl (by rw[d,<-yg];rfl)) (.c 0<|.cons 3 I (.own (i:=15) I)<|.c 23<|.c 24<|.c 25 .nil) I<|aL (.v (aU I) I<|.a 1 I<|.k [0,3,23,24,25] I) ?_;exact⟨s.au.length - (k+1),by omega,k+1,by omega,rfl,rfl⟩
  ·have e:k=s.au.length:=by have:=Vj hc;omega
   subst e;rw[VN];refine bh<|an<|aK<|av 4 I<|br I I (VO (mf (s:=s) (nb:=mc 2 s.nb) h8 b _ j) (λ_ σ' h=>?_));obtain⟨rfl,rfl⟩:=h;refine av 2 I<|aF [0,3,48,49,50] I ?_;refine ay<|eX [0,3,48,49,50] I<|bq (λr st=>∃k,k<=a.length/\r=a.length - k/\st=⟨[(0,.ptr 0 0),(3,.own 15),(48,FZ a),(49,num a.length),(50,num k)],aW T {s with nb:=mc 2 s.nb}++[some (.row 134 2 (s.au.length+k) (r6 (s.au.map (tT s.node)++(a.take k).map IS)))]⟩) a.length ⟨0,by omega,rfl,by simp⟩ ?_;rintro r st ⟨k,hk,rfl,rfl⟩;refine aj (.a 1 I<|.k [0,3,48,49,50,51] I)<|an<|ak I (λhc=>?_) (λhc=>?_)
   ·have hlt:k<a.length:=by have:=Vg hc;omega
    have c:=Iz a k hlt;have d:=BU IS a k Pf hlt;have l:=hd (a.getD k Pf) (b9 hlt);generalize a.getD k Pf=x at c d l;have f:=xQ T {s with nb:=mc 2 s.nb} x.1 2 x.2 b ⟨.inl rfl,by omega,by omega,l⟩;refine ao<|an<|ay<|aK<|aZ (aX (k*7) I) I<|aZ (gr I (c) I) I<|av 2 I<|aF [0,3,7,48,49,50] I ?_;refine bp<|av 7 I<|br I I (VO (mW (s:= {s with nb:=mc 2 s.nb}) (s':= {s with nb:=mc 2 s.nb}) b b (V0 (gV (by omega)) VT) _ f) (λ_ σ' h=>?_));obtain⟨rfl,rfl⟩:=h;refine av 1 I<|bW (bP I (VW I) I I I I (by unfold maxLen;omega)) I<|av 1 I<|aF [0,3,48,49,50] I ?_;refine yS (A:=aW T {s with nb:=mc 2 s.nb}) (b':=.row 134 2 (s.au.length+(k+1)) (r6 (s.au.map (tT s.node)++(a.take (k+1)).map IS))) 2 I (bU T _ b) (.eZ rfl (by rw[d,<-VU,<-yg];rfl)) (.c 0<|.cons 3 I (.own (i:=15) I)<|.c 48<|.c 49<|.c 50 .nil) I<|aL (.v (aU I) I<|.a 1 I<|.k [0,3,48,49,50] I) ?_;exact⟨a.length - (k+1),by omega,k+1,by omega,rfl,rfl⟩
   ·have e:k=a.length:=by have:=Vj hc;omega
    refine bh<|aj (.a 2 I<|.k [2] I)<|sy 2 15 I I ?_;exact aA<|⟨_,V5 I,aW T {s with nb:=mc 2 s.nb},_,rfl,Vh _,bU T _ b,Ren.pure,by rw[e,VN];simp[lL,IN],rfl⟩
 ·cases hc
theorem IE{f g T}{s s3:Nd}{lk:Nat}(h8:∀x∈az s.nb,x<8)(l:∀x∈az s3.nb,x<8)(n:ax (List.range 15) g g)(c:Option cj)(h:aD prog f g (aW T s) (λr σ'=>r= .any/\σ'=iu T s3 lk 15++[fT s3.nb lk])):aD prog f g (aW T s++[c]) (λr σ'=>r= .any/\σ'=iu T s3 lk 16++[c,fT s3.nb lk]):=by
 refine Y5 (σ0:=aW T s) (List.range 15) (nodup_range _) n ?_ rfl (h.mono ?_)
 ·exact ZG (aW T s) (List.range 15) (by simp[aW,EP,mN]) (λi b j h1 h2=>by
   have hi:i<15:=(Vf.1 h1).1;rw[cV hi]at h2;cases h2;exact⟨b,by rw[Vl (show i<(aW T s).length from hi)];exact h1,bU T s h8 i b h1⟩)
 ·rintro r σ' ⟨rfl,rfl⟩;have hx:∀k c,wF lk s3.nb k=some c->E5 (bk (List.range 15) 16) c c:=λk c h=>by
   unfold wF at h;split at h
   ·cases h
   ·exact ku c h
  refine⟨.any,iu T s3 lk 16++[fT s3.nb lk],by simp[iu,CS,wG],.any,?_,rfl,?_⟩
  ·refine .kept (.cells (F1 T s3 λk hk=>oP hk))<|.kept (.row Ye)<|.kept (.mp rfl Ye)<|.kept (.cells (XN (.own rfl) Y9))<|.kept (.mp (by simp[bD,ql]) ⟨by simp[bD,ql],λj y z h1 h2=>?_⟩)<|.kept (.cells (XN Mw.pure (XN (.own rfl) Y9)))<|.kept (.cells Ye)<|.opt (hx 0)<|.opt (hx 1)<|.opt (hx 2)<|.opt (hx 3)<|.opt (hx 4)<|.opt (hx 5)<|.opt (hx 6)<|.opt (hx 7)<|.opt ku .nil;simp only[bD,ql,V7,Vt,Vr]at h1 h2;obtain⟨a,ha,rfl⟩:=h1;obtain⟨o,d,rfl⟩:=h2;rw[ha]at d;cases d;have:=l a.1 (Vv.2 ⟨a,VE ha,rfl⟩);show Mw _ (.own (if a.1=lk then 15 else a.1+7)) (.own (if a.1=lk then 16 else a.1+7));by_cases e:a.1=lk
   ·rw[Vn e,Vn e];exact .own rfl
   ·rw[Vk e,Vk e];exact .own (oP (by omega))
  ·have e:=vy 0 (aW T s) (iu T s3 lk 16) [] [c] I I;simp only[WJ,Yf,List.map_id']at e;have m:iJ (aW T s++[c]) (List.range 15) (iu T s3 lk 16++[fT s3.nb lk])=iJ (aW T s++[c]) (List.range 15) (iu T s3 lk 16):=by
    simp[iJ,List.range,List.range.loop,iu,CS,wG]
   rw[m,show List.range 15=List.range (iu T s3 lk 16).length from rfl,e]
   rfl
theorem zY(T:aw)(s:Nd)(lk i:Nat)(n h:Nat)(hm:(km.df n 1 h).Ok)(k:(s.au.getD i cX).ot=n)(s':Nd)(f:s.Fit)(hi:i<s.au.length)(he:(s.au.getD i cX).lk=lk)(c:∀j,j<i->(s.au.getD j cX).lk≠lk)(a:∀x∈az s'.nb,x<8)(hr:aD prog 70 [.ptr 0 0,.ptr 1 (i*6),mb (.df n 1 h)] (aW T s) (λr σ'=>σ'=aW T s')):aD prog 29 [.ptr 0 0,num lk,cE (rI (.df n 1 h))] (aW T s) (λr σ'=>r= .tuple [.raw (.slice none 0 0),num 0]/\σ'=aW T s'):=by
 have h8:=f.h8;have d:=mP T s lk i f.pl hi he c;have e:=tM n 1 h hm;have b:=eH s.au i 1 hi (by decide);have g:decide ((n:Int)≠((s.au.getD i cX).ot:Int))=false:=VA (by omega);refine Xa<|aV func29 I ntmps29 I<|aj (.a 2 I<|.k [0,1,2] I)<|an<|aj (.a 2 I<|.k [0,1,2,12] I)<|ak I (λhc=>?_) (λhc=>?_)
 ·cases hc
 ·refine ao<|aK<|av 2 I<|br I I (VO (d) (λ_ σ' h=>?_));obtain⟨rfl,rfl⟩:=h;refine av 1 I<|aF [0,1,2,8] I ?_;refine an<|aj (.a 2 I<|.k [0,1,2,8,17] I)<|ak I (λhc=>?_) (λhc=>?_)
  ·cases hc
  ·refine ao<|aK<|av 1 I<|fW I (e) I<|av 6 I<|aF [0,1,8,9,10] I ?_;refine an<|aj (.a 2 I<|.k [0,1,8,9,10,24] I)<|ak I (λhc=>?_) (λhc=>?_)
   ·cases hc
   ·refine ao<|an<|aj (.a 3 I<|.k [0,1,8,9,28] I)<|ak I (λhc=>?_) (λhc=>?_)
    ·refine an<|ev mixed (by kernel_rfl) (.a 5 I<|.v [33] (aO I (b)) I I<|.v [30,34] (cT I (g)) I I<|.k [0,8,9,35] I) ?_;refine ak I (λhc=>?_) (λhc=>?_)
     ·cases hc
     ·refine ao<|aK<|av 3 I<|br I I (VO (mW (s:=s) (s':=s') h8 a (V0 (gV (by omega)) (V0 (gV (by omega)) VT)) _ (Zu hr)) (λ_ σ' h=>?_));obtain⟨rfl,rfl⟩:=h;refine aF [] I<|aj (.a 2 I<|.k [6,7] I)<|aA<|⟨_,V5 I,aW T s',_,rfl,Vh _,bU T _ a,Ren.pure,rfl,rfl⟩
    ·exact absurd hc (by decide)
theorem zZ(T:aw)(s:Nd)(lk i:Nat)(n h:Nat)(hm:(km.df n 1 h).Ok)(k:(s.au.getD i cX).ot=n)(s':Nd)(f:s.Fit)(hi:i<s.au.length)(he:(s.au.getD i cX).lk=lk)(c:∀j,j<i->(s.au.getD j cX).lk≠lk)(a:∀x∈az s'.nb,x<8)(hr:aD prog 70 [.ptr 0 0,.ptr 1 (i*6),mb (.df n 1 h)] (aW T s) (λr σ'=>σ'=iu T s' lk 15++[fT s'.nb lk])):aD prog 29 [.ptr 0 0,num lk,cE (rI (.df n 1 h))] (aW T s) (λr σ'=>r= .tuple [.raw (.slice none 0 0),num 0]/\σ'=iu T s' lk 15++[fT s'.nb lk]):=by
 have h8:=f.h8;have d:=mP T s lk i f.pl hi he c;have e:=tM n 1 h hm;have b:=eH s.au i 1 hi (by decide);have g:decide ((n:Int)≠((s.au.getD i cX).ot:Int))=false:=VA (by omega);refine aD.oI<|aV func29 I ntmps29 I<|aj (.a 2 I<|.k [0,1,2] I)<|an<|aj (.a 2 I<|.k [0,1,2,12] I)<|ak I (λhc=>?_) (λhc=>?_)
 ·cases hc
 ·refine ao<|aK<|av 2 I<|br I I (VO (d) (λ_ σ' h=>?_));obtain⟨rfl,rfl⟩:=h;refine av 1 I<|aF [0,1,2,8] I ?_;refine an<|aj (.a 2 I<|.k [0,1,2,8,17] I)<|ak I (λhc=>?_) (λhc=>?_)
  ·cases hc
  ·refine ao<|aK<|av 1 I<|fW I (e) I<|av 6 I<|aF [0,1,8,9,10] I ?_;refine an<|aj (.a 2 I<|.k [0,1,8,9,10,24] I)<|ak I (λhc=>?_) (λhc=>?_)
   ·cases hc
   ·refine ao<|an<|aj (.a 3 I<|.k [0,1,8,9,28] I)<|ak I (λhc=>?_) (λhc=>?_)
    ·refine an<|ev mixed (by kernel_rfl) (.a 5 I<|.v [33] (aO I (b)) I I<|.v [30,34] (cT I (g)) I I<|.k [0,8,9,35] I) ?_;refine ak I (λhc=>?_) (λhc=>?_)
     ·cases hc
     ·refine ao<|aK<|av 3 I<|br I I (VO (IE (s:=s) (s3:=s') h8 a (V0 (gV (by omega)) (V0 (gV (by omega)) VT)) _ (Zu hr)) (λ_ σ' h=>?_));obtain⟨rfl,rfl⟩:=h;refine aF [] I<|aj (.a 2 I<|.k [6,7] I)<|aA<|⟨_,V5 I,List.range 15++[16],iu T s' lk 15++[fT s'.nb lk],_,rfl,rfl,F4 T s' lk a _,Ren.pure,rfl,rfl⟩
    ·exact absurd hc (by decide)
theorem Cv(T:aw)(s:Nd)(lk i:Nat)(a:cC)(pm:Pm)(e:s.Fit)(hi:i<s.au.length)(he:(s.au.getD i cX).lk=lk)(l:∀j,j<i->(s.au.getD j cX).lk≠lk)(v:(s.au.getD i cX).ph=2)(u:(s.au.getD i cX).bt=1)(m:aN lk s.nb=some pm)(f:Jf s a pm)(b:∀x∈az (s.jh lk a).1.nb,x<8):aD prog 29 [.ptr 0 0,num lk,cE (rI (.iU 2 1 a))] (aW T s) (λr σ'=>r= .tuple [lL (if(s.jh lk a).2 then [(lk,.iU 3 1 a)] else []),num 0]/\σ'=aW T (s.jh lk a).1):=by
 have h8:=e.h8;have n:=mP T s lk i e.pl hi he l;have p:=tL 2 1 a ⟨.inl rfl,by omega,by omega,f.ok⟩;have c:=Ie T s i a pm e hi (by rw[he];exact m) f;rw[he]at c;have g:=eH s.au i 3 hi (by decide);have k:=eH s.au i 5 hi (by decide);have q:decide (((s.au.getD i cX).ph:Int)≠2)=false:=VA (by omega);have t:decide (((s.au.getD i cX).bt:Int)≠1)=false:=VA (by omega);have d:=xQ T (s.jh lk a).1 lk 3 a b ⟨.inr rfl,by omega,by omega,f.ok⟩;have⟨w,o⟩:=dw ((s.jh lk a).2);rw[o]at c ⊢;generalize (s.jh lk a).1=s' at b c d ⊢;refine Xa<|aV func29 I ntmps29 I<|aj (.a 2 I<|.k [0,1,2] I)<|an<|aj (.a 2 I<|.k [0,1,2,12] I)<|ak I (λhc=>?_) (λhc=>?_)
 ·cases hc
 ·refine ao<|aK<|av 2 I<|br I I (VO (n) (λ_ σ' h=>?_));obtain⟨rfl,rfl⟩:=h;refine av 1 I<|aF [0,1,2,8] I ?_;refine an<|aj (.a 2 I<|.k [0,1,2,8,17] I)<|ak I (λhc=>?_) (λhc=>?_)
  ·cases hc
  ·refine ao<|aK<|av 1 I<|fW I (p) I<|av 6 I<|aF [0,1,8,9,10] I ?_;refine an<|aj (.a 2 I<|.k [0,1,8,9,10,24] I)<|ak I (λhc=>?_) (λhc=>?_)
   ·cases hc
   ·refine ao<|an<|aj (.a 3 I<|.k [0,1,8,9,28] I)<|ak I (λhc=>?_) (λhc=>?_)
    ·exact absurd hc (by decide)
    ·refine ao<|an<|ev mixed (by kernel_rfl) (.a 4 I<|.v [43] (aO I (g)) I I<|.v [44] (cT I (q)) I I<|.a 4 I<|.v [49] (aO I (k)) I I<|.a 2 I<|.v [50,52] (cT I (t)) I I<|.a 1 I<|.k [0,1,8,9,54] I) ?_;refine ak I (λhc=>?_) (λhc=>?_)
     ·cases hc
     ·refine ao<|an<|aj (.a 2 I<|.k [0,1,8,9,56] I)<|ay<|aj (.a 2 I<|.k [0,1,8,9,56,57] I)<|ak I (λhc=>?_) (λhc=>?_)
      ·refine aK<|av 4 I<|br I I (VO (mW (s:=s) (s':=s') h8 b (V0 (gV (by omega)) (V0 (gV (by omega)) VT)) _ c) (λ_ σ' h=>?_));obtain⟨rfl,rfl⟩:=h;refine aF [0,1,9,63] I<|ak I (λhc=>?_) (λhc=>?_)
       ·subst hc;refine aK<|av 5 I<|br I I (VO (mW (s:=s') (s':=s') b b (V0 (gV (by omega)) VT) _ d) (λ_ σ' h=>?_));obtain⟨rfl,rfl⟩:=h;refine av 3 I<|aF [6,7] I ?_;exact aA<|⟨_,V5 I,aW T s',_,rfl,Vh _,bU T _ b,(Ren.pure:Ren _ (.tuple [lL [(lk,.iU 3 1 a)],num 0]) (.tuple [lL [(lk,.iU 3 1 a)],num 0])),rfl,rfl⟩
       ·subst hc;exact ao<|aj (.v (tf (aP I) Zw) I<|.a 1 I<|.k [6,7] I)<|aA<|⟨_,V5 I,aW T s',_,rfl,Vh _,bU T _ b,Ren.pure,rfl,rfl⟩
      ·exact absurd hc (by decide)
theorem Cu(T:aw)(s:Nd)(lk i:Nat)(a:cC)(pm:Pm)(o:s.Fit)(hi:i<s.au.length)(he:(s.au.getD i cX).lk=lk)(k:∀j,j<i->(s.au.getD j cX).lk≠lk)(u:(s.au.getD i cX).ph=2)(t:(s.au.getD i cX).bt=1)(b:aN lk s.nb=some pm)(ha:a.Ok)(d:wq a pm):aD prog 29 [.ptr 0 0,num lk,cE (rI (.iU 3 1 a))] (aW T s) (λr σ'=>r= .tuple [lL [],num 0]/\σ'=aW T (s.Dc lk a)):=by
 have h8:=o.h8;have l:=mP T s lk i o.pl hi he k;have n:=tL 3 1 a ⟨.inr rfl,by omega,by omega,ha⟩;have e:=Bg 2 s.nb lk pm a h8 b ha d;have c:∀x∈az (bS lk (gi a pm) s.nb),x<8:=kp h8 b;have m:s.Dc lk a= {s with nb:=bS lk (gi a pm) s.nb}:=by unfold Nd.Dc;rw[oN b]
 have f:=eH s.au i 3 hi (by decide);have g:=eH s.au i 5 hi (by decide);have p:decide (((s.au.getD i cX).ph:Int)≠2)=false:=VA (by omega);have q:decide (((s.au.getD i cX).bt:Int)≠1)=false:=VA (by omega);rw[m];refine Xa<|aV func29 I ntmps29 I<|aj (.a 2 I<|.k [0,1,2] I)<|an<|aj (.a 2 I<|.k [0,1,2,12] I)<|ak I (λhc=>?_) (λhc=>?_)
 ·cases hc
 ·refine ao<|aK<|av 2 I<|br I I (VO (l) (λ_ σ' h=>?_));obtain⟨rfl,rfl⟩:=h;refine av 1 I<|aF [0,1,2,8] I ?_;refine an<|aj (.a 2 I<|.k [0,1,2,8,17] I)<|ak I (λhc=>?_) (λhc=>?_)
  ·cases hc
  ·refine ao<|aK<|av 1 I<|fW I (n) I<|av 6 I<|aF [0,1,8,9,10] I ?_;refine an<|aj (.a 2 I<|.k [0,1,8,9,10,24] I)<|ak I (λhc=>?_) (λhc=>?_)
   ·cases hc
   ·refine ao<|an<|aj (.a 3 I<|.k [0,1,8,9,28] I)<|ak I (λhc=>?_) (λhc=>?_)
    ·exact absurd hc (by decide)
    ·refine ao<|an<|ev mixed (by kernel_rfl) (.a 4 I<|.v [43] (aO I (f)) I I<|.v [44] (cT I (p)) I I<|.a 4 I<|.v [49] (aO I (g)) I I<|.a 2 I<|.v [50,52] (cT I (q)) I I<|.a 1 I<|.k [0,1,8,9,54] I) ?_;refine ak I (λhc=>?_) (λhc=>?_)
     ·cases hc
     ·refine ao<|an<|aj (.a 2 I<|.k [0,1,8,9,56] I)<|ay<|aj (.a 2 I<|.k [0,1,8,9,56,57] I)<|ak I (λhc=>?_) (λhc=>?_)
      ·exact absurd hc (by decide)
      ·refine aj (.a 2 I<|.k [0,1,9,71] I)<|ak I (λhc=>?_) (λhc=>?_)
       ·refine dE 7 20 mixed (.val [0] I (aP I) I I<|.val [73] I (aP I) I I<|.val [74] I (aP I) I I<|.val [75] I (aP I) I I<|.val [1] I (aP I) I I<|.val [9] I (aP I) I I<|.val [78] I (aP I) I I<|.nil) (by kernel_rfl) I I (aJ (ks:=[76,77,79]) I)<|br I I (VO (mf (s:=s) (nb:=bS lk (gi a pm) s.nb) h8 c _ e) (λ_ σ' h=>?_));obtain⟨rfl,rfl⟩:=h;refine aF [] I<|aj (.v (tf (aP I) Zw) I<|.a 1 I<|.k [6,7] I)<|aA<|⟨_,V5 I,aW T {s with nb:=bS lk (gi a pm) s.nb},_,rfl,Vh _,bU T _ c,Ren.pure,rfl,rfl⟩
       ·exact absurd hc (by decide)
theorem CO(T:aw)(s s':Nd)(b:Bool)(ho:aD prog 23 [.ptr 0 0] (aW T {s with over:=b}) (λr σ'=>σ'=aW T s')):aD prog 8 [.ptr 0 0,flag b] (aW T s) (λr σ'=>r=num 0/\σ'=aW T s'):=by
 have a:=Zu ho;refine aV func8 I ntmps8 I<|aj (.a 1 I<|.k [0,1] I)<|an<|aj (.a 2 I<|.k [0,1,6] I)<|ak I (λhc=>?_) (λhc=>?_)
 ·cases hc
 ·refine ao<|aK<|av 5 I<|aF [0] I ?_;refine dY (σ':=aW T {s with over:=b}) I<|aK<|av 1 I<|br I I (VO (a) (λ_ σ' h=>?_));obtain⟨rfl,rfl⟩:=h;refine aF [] I<|aj (.a 1 I<|.k [4] I)<|aA<|⟨_,V5 I,rfl,rfl⟩
theorem CM(T:aw)(s s':Nd)(lk i c:Nat)(g:s.Fit)(hi:i<s.au.length)(he:(s.au.getD i cX).lk=lk)(d:∀j,j<i->(s.au.getD j cX).lk≠lk)(k:1<=c)(l:c<=65535)(ho:aD prog 23 [.ptr 0 0] (aW T {s with au:=s.au.set i {s.au.getD i cX with co:=c}}) (λr σ'=>σ'=aW T s')):aD prog 10 [.ptr 0 0,num lk,num c] (aW T s) (λr σ'=>r=num 0/\σ'=aW T s'):=by
 have e:=Zu ho;have f:=mP T s lk i g.pl hi he d;have b:=OV s.au i hi c;have m:=jT s.au;have a:=jV (T:=T) (s:=s) (X:=[]) (show(s.au.set i {s.au.getD i cX with co:=c}).length=s.au.length by simp) b;rw[V6,V6]at a;refine aV func10 I ntmps10 I<|aj (.a 1 I<|.k [0,1,2] I)<|an<|aj (.a 2 I<|.k [0,1,2,9] I)<|ak I (λhc=>?_) (λhc=>?_)
 ·cases hc
 ·refine ao<|aK<|av 2 I<|br I I (VO (f) (λ_ σ' h=>?_));obtain⟨rfl,rfl⟩:=h;refine av 1 I<|aF [0,2,7] I ?_;refine an<|aj (.a 2 I<|.k [0,2,7,14] I)<|ak I (λhc=>?_) (λhc=>?_)
  ·cases hc
  ·refine ao<|an<|aj (.a 1 I<|.c rfl (UC c 1 65535 (by omega) (by omega)) I<|.a 1 I<|.k [0,2,7,17] I)<|ak I (λhc=>?_) (λhc=>?_)
   ·cases hc
   ·refine ao<|aK<|av 4 I<|bw (YD (eh I (VJ I) I I I (by show i*6+2<(dz _).length;omega)) a) I I<|aF [0] I ?_;refine aK<|av 1 I<|br I I (VO (e) (λ_ σ' h=>?_));obtain⟨rfl,rfl⟩:=h;refine aF [] I<|aj (.a 1 I<|.k [6] I)<|aA<|⟨_,V5 I,rfl,rfl⟩
theorem C2(n:Nat)(hn:n<64):Can prog 56 [num n,.slice 0 []] (· =flag true):=by
 have hv:=dI ⟨n,1,0,false,[]⟩ ⟨by simpa using hn,by simp,by simp,by simp,by simp,.nil,λx h=>by cases h⟩;exact aR func56 I ntmps56 I<|aj (.a 1 I<|.k [0,1] I)<|aj (.a 2 I<|.v (tf (gg (xs:=[_,_,_,_,_,_]) I (X8 I) I I) (fv.iV (.cons (WK _)<|.cons (WK _)<|.cons (WK _)<|.cons (WK _)<|.cons Zw<|.cons (WK _) .nil))) I<|.c rfl (hv) I<|.a 1 I<|.k [4] I)<|aA<|jF I aQ.pure rfl
theorem Iv(T:aw)(s s':Nd)(hn:s.node<64)(ho:aD prog 23 [.ptr 0 0] (aW T s) (λr σ'=>σ'=aW T s')):aD prog 22 [.ptr 0 0,.slice 0 []] (aW T s) (λr σ'=>r=num 0/\σ'=aW T s'):=by
 have a:=Zu ho;have hv:=C2 s.node hn;refine aV func22 I ntmps22 I<|aj (.a 1 I<|.k [0,1] I)<|an<|aj (.a 2 I<|.k [0,1,6] I)<|ak I (λhc=>?_) (λhc=>?_)
 ·cases hc
 ·refine ao<|an<|aj (.a 5 I<|.c rfl (hv) I<|.a 1 I<|.k [0,1,13] I)<|ak I (λhc=>?_) (λhc=>?_)
  ·cases hc
  ·refine ao<|aK<|av 2 I<|fW I (nL) I<|av 3 I<|aF [0] I ?_;refine dY (σ':=aW T s) I<|aK<|av 1 I<|br I I (VO (a) (λ_ σ' h=>?_));obtain⟨rfl,rfl⟩:=h;refine aF [] I<|aj (.a 1 I<|.k [4] I)<|aA<|⟨_,V5 I,rfl,rfl⟩
theorem KA(T:aw)(s:Nd)(lk i:Nat)(e:s.Fit)(hi:i<s.au.length)(he:(s.au.getD i cX).lk=lk)(b:∀j,j<i->(s.au.getD j cX).lk≠lk)(f:(s.au.getD i cX).ph=2):aD prog 17 [.ptr 0 0,num lk] (aW T s) (λr σ'=>r=flag true/\σ'=aW T s):=by
 have c:=mP T s lk i e.pl hi he b;have a:=eH s.au i 3 hi (by decide);have d:decide (((s.au.getD i cX).ph:Int)=2)=true:=VM (by omega);refine aV func17 I ntmps17 I<|aj (.a 1 I<|.k [0,1] I)<|an<|aj (.a 2 I<|.k [0,1,7] I)<|ak I (λhc=>?_) (λhc=>?_)
 ·cases hc
 ·refine ao<|aK<|av 2 I<|br I I (VO (c) (λ_ σ' h=>?_));obtain⟨rfl,rfl⟩:=h;refine av 1 I<|aF [5] I ?_;exact aj (.a 7 I<|.v (aO I (a)) I<|.v (cT I (d)) I<|.a 2 I<|.k [4] I)<|aA<|⟨_,V5 I,rfl,rfl⟩
theorem GI(T:aw)(s:Nd)(hk:∀x∈az s.db,x<1000)(hl:s.db.length<=1000)(ha:∀o x,aN o s.db=some x->x.cU.length<=256):aD prog 18 [.ptr 0 0] (aW T s) (λr σ'=>r=oh (gE s.db)/\σ'=aW T s):=by
 have a:=kz (T:=T) (s:=s) (d:=s.db) [] (A5 s.db hk hl ha);simp only[V6]at a;refine aV func18 I ntmps18 I<|aj (.a 1 I<|.k [0] I)<|an<|aj (.a 2 I<|.k [0,4] I)<|ak I (λhc=>?_) (λhc=>?_)
 ·cases hc
 ·refine ao<|aK<|av 4 I<|br I I (VO (a) (λ_ σ' h=>?_));obtain⟨rfl,rfl⟩:=h;refine av 1 I<|aF [2] I ?_;exact aA<|⟨_,V5 I,rfl,rfl⟩
theorem wc{P σ t}{o:Oper}{s f off:Nat}{x xs p}(ho:o.op= .field s x f)(c:NJ P s f=some (off,none))(hx:aI t x=some (.agg xs))(hp:xs[off]? =some p):bE P σ t o p:=by
 obtain⟨fs,fl,h1,h2,a,b⟩:=xj c;exact PB ho ⟨fs,fl,h1,h2,a,b⟩ hx hp
theorem w7(d:Db)(n to lk j:Nat)(x:cC)(hx:aN n d=some x)(hl:x.cU.length<=256)(hj:j<x.cU.length)(h1:(x.cU.getD j dK).lk=lk)(h2:(x.cU.getD j dK).to=to)(o:∀i,i<j->(x.cU.getD i dK).lk≠lk):aD prog 75 [.ptr 1 0,num n,num to,num lk] (iW d) (λr σ'=>r= .tuple [num (x.cU.getD j dK).co,flag true]/\σ'=iW d):=by
  have m:cQ (n:Int) (ib qG d)=some (qG x):=by rw[gH,hx];rfl
  refine Xa<|aV func75 I ntmps75 I<|aj (.a 2 I<|.k [0,1,2,3] I)<|an<|aj (.a 5 I<|.v (fu eY (k:=(n:Int)) I tW PI rfl rfl rfl (cz _) (by rw[m];first|done|rfl)) I<|.v (qR (off:=0) (n:=6) I (by kernel_rfl) I I) I<|.v (wc (off:=4) I (by kernel_rfl) I I) I<|.a 2 I<|.k [2,3,19,20,21] I)<|ay<|eX [2,3,19,20,21] I<|bq (λr s=>∃k,k<=j/\r=j+1 - k/\s=⟨[(2,num to),(3,num lk),(19,eG x.cU),(20,num x.cU.length),(21,num k)],iW d⟩) (j+1) ⟨0,by omega,rfl,rfl⟩ ?_;rintro r s ⟨k,hk,rfl,rfl⟩;refine aj (.a 1 I<|.k [2,3,19,20,21,22] I)<|an<|ak I (λhc=>?_) (λhc=>?_)
  · have hlt:k<x.cU.length:=by have:=Vg hc;omega
    have hd:=i1 x.cU k hlt;have p:k=j\/k<j:=by omega
    have g:k<j->(x.cU.getD k dK).lk≠lk:=o k;have c:k=j->(x.cU.getD k dK).lk=lk/\(x.cU.getD k dK).to=to/\(x.cU.getD k dK).co=(x.cU.getD j dK).co:=λe=>by subst e;exact⟨h1,h2,rfl⟩
    generalize x.cU.getD k dK=y at hd g c;have⟨l,a⟩:=dw (decide ((y.lk:Int)=(lk:Int)));have⟨t,f⟩:=dw (decide ((y.to:Int)=(to:Int)));refine ao<|an<|ay<|aK<|aZ (aX (k*3) I) I<|aZ (gr I (hd) I) I<|av 2 I<|aF [2,3,11,19,20,21] I ?_;refine cD 34 (.raw (.bool (l&&t))) [2,3,11,19,20,21] I ?_ ?_
    · refine .a 3 I<|.v (cT I (a)) I<|.a 1 I<|?_;cases l
      · exact .a 5 I<|.k [34,2,3,11,19,20,21] I
      · exact .a 3 I<|.v (cT I (f)) I<|.a 1 I<|.k [34,2,3,11,19,20,21] I
    refine ak I (λhc=>?_) (λhc=>?_)
    · have b:k=j:=by
       rcases p with h|h
       · exact h
       · have:=g h;have q:l=true:=by revert hc;cases l<;>simp
         rw[q]at a;have:=Vg a;omega
      exact aj (.a 4 I<|.k [8,9] I)<|aA<|⟨_,V5 I,iW d,_,rfl,Vh _,ic _,Ren.pure,by rw[<-(c b).2.2];rfl,rfl⟩
    · have b:k≠j:=λe=>by
       obtain⟨u,v,_⟩:=c e;rw[VM (by omega)]at a;rw[VM (by omega)]at f;subst a;subst f;cases hc
      refine ko (A:=iW d) (ic _) (.c 2<|.c 3<|.c 19<|.c 20<|.c 21 .nil) I<|ao<|aL (.v (aU I) I<|.a 1 I<|.k [2,3,19,20,21] I) ?_;exact⟨j+1 - (k+1),by omega,k+1,by omega,rfl,rfl⟩
  · have:=Vj hc;omega
theorem Nt{g:Nat->Nat}(d:Db)(hg:∀k,k<2->g k=k):uF g (iW d) (iW d):=.kept (.mp rfl Ye)<|.kept (.cells (XN (.own (hg 0 (by omega))) Y9)) .nil
theorem Fu{f a}[aM a]{d p}[IsPure p](X:bH)(h:aD prog f (.ptr 1 0::a) (iW d) (λr σ'=>r=p/\σ'=iW d)):aD prog f (.ptr 1 0::a) (iW d++X) (λr σ'=>r=p/\σ'=iW d++X):=
 aD.low (ic d) (V0 (gV (show 1<2 by decide)) VT) h (by
  rintro r B ⟨rfl,rfl⟩;exact⟨rfl,Mw.pure,Nt d λk hk=>oP hk,rfl,rfl⟩)
def I7(x:cC)(lk to j:Nat):Prop:=j<x.cU.length/\(x.cU.getD j dK).lk=lk/\(x.cU.getD j dK).to=to/\∀i,i<j->(x.cU.getD i dK).lk≠lk
structure yR (d:Db) (T T':aw) (N:Nat) (X:Nat->cC):Prop where
 hv:aH T=true
 hN:T.nodes=(N:Int)
 UA:N<=64
 Uq:T.ah.length<=256
 o1:T.over.length<=1000
 get:∀n,n<N->aN n d=some (X n)/\(X n).cU.length<=256
 UB:T'.nodes=T.nodes
 ov:T'.over=(List.range N).map λn=>(X n).over
 ln:T'.ah.length=T.ah.length
 lk:∀i,i<T.ah.length->∃na nb ja jb:Nat,(bV T.ah i).a=(na:Int)/\(bV T.ah i).b=(nb:Int)/\na<N/\nb<N/\I7 (X na) i nb ja/\I7 (X nb) i na jb/\bV T'.ah i= {bV T.ah i with c0:=(((X na).cU.getD ja dK).co:Int),c1:=(((X nb).cU.getD jb dK).co:Int)}
theorem KN(L:List mh)(i:Nat)(hi:i<L.length)(a b:Int):over (bR L) (i*7+2) [num a,num b]=bR (L.set i {bV L i with c0:=a,c1:=b}):=by
 induction L generalizing i with
 |nil=>cases hi
 |cons x L ih=>
  cases i with
  |zero=>simp[over,bR,jt,bV]
  |succ i=>
   have c:i<L.length:=by simpa using hi
   have e:over (bR (x::L)) ((i+1)*7+2) [num a,num b]=jt x++over (bR L) (i*7+2) [num a,num b]:=by
    show over (jt x++bR L) _ _=_;have hl:(jt x).length=7:=rfl;unfold over;rw[YE,V2 (by omega),hl,show(i+1)*7+2 - 7=i*7+2 by omega,YF,Wi (by rw[hl];omega),WJ,hl,show(i+1)*7+2+[num a,num b].length - 7=i*7+2+[num a,num b].length by omega,VU]
   rw[e,ih i c];simp[bR,bV]
theorem Od(A B:List mh){k:Nat}(a:k<=A.length):bV (A.take k++B.drop k) k=bV B k:=by
 simp only[bV,Qo];rw[Vq (by simp;omega)];simp[Xe a]
theorem KM(A B:List mh){k:Nat}(a:k<A.length)(b:k<B.length):(A.take k++B.drop k).set k (bV A k)=A.take (k+1)++B.drop (k+1):=by
 have e:bV A k=A[k]:=by simp[bV,Qo,a]
 rw[Xd _ _ (by simp;omega),XJ,VU,show k - (A.take k).length=0 by simp;omega,<-List.getElem_cons_drop b,Vm a,e]
 rfl
theorem OI(X:Nat->cC){N k:Nat}(h:k<N):(((List.range N).map λn=>(X n).over).take k++List.replicate (N - k) false).set k (X k).over=((List.range N).map λn=>(X n).over).take (k+1)++List.replicate (N - (k+1)) false:=by
 have hl:(((List.range N).map λn=>(X n).over).take k).length=k:=by simp;omega
 rw[Xd _ _ (by omega),hl,YK,XJ,VU,show N - k=(N - (k+1))+1 by omega,Xs];simp[h]
theorem Uk:Sj prog 40=some (1,[.int .i64 0,.int .i64 0]):=by kernel_rfl
theorem O8{σ:bH}{e z n i off:Nat}{xs ys a}(h:over xs off ys=a):σ.set i (some ((cj.row e z n xs).tG (over (cj.row e z n xs).xs off ys)))=σ.set i (some (.row e z n a)):=by rw[<-h];rfl
theorem G1(d:Db)(T T':aw)(N:Nat)(X:Nat->cC)(h:yR d T T' N X):aD prog 30 [.ptr 1 0,bu T] (iW d) (λr σ'=>r= .tuple [bu T',aY (List.replicate (2*T.ah.length) false),num 0]/\σ'=iW d):=by
  obtain⟨hv,hN,H,hl,ho,a,t,u,A,o⟩:=h;have v:=gw T;rw[hv]at v;have P:((List.range N).map λn=>(X n).over).length=N:=by simp
  have l:=jl T (by omega);have D:aT (((List.range N).map λn=>(X n).over).take 0++List.replicate (N - 0) false)=fN [.raw (.bool false)] N:=by rw[jd];simp
  have E:aT (List.replicate (2*T.ah.length) false)=fN [.raw (.bool false)] (2*T.ah.length):=(jd _).symm;have F:T'.ah.take 0++T.ah.drop 0=T.ah:=by simp
  have G:(2*(T.ah.length:Int))=((2*T.ah.length:Nat):Int):=by omega
  refine Xa<|aV func30 I ntmps30 I<|aK<|bW (dv I I I) I<|av 3 I<|aF [0,3,4] I ?_;refine an<|aj (.a 2 I<|.k [0,3,4,17] I)<|ak I (λhc=>?_) (λhc=>?_)
  · cases hc
  · refine ao<|an<|aj (.a 1 I<|.c rfl (v) I<|.a 1 I<|.k [0,3,4,21] I)<|ak I (λhc=>?_) (λhc=>?_)
    · cases hc
    · refine ao<|aK<|av 1 I<|br I I (VO (Bu T (by omega) ho _) (λ_ σ' h=>?_));obtain⟨rfl,rfl⟩:=h;refine av 2 I<|aF [0,3,4,7] I ?_;refine aK<|av 2 I<|bW (eJ I (VW I) I I hN hN ⟨by unfold maxLen;omega,by omega⟩) I<|av 2 I<|aF [0,3,4,7] I ?_;refine an<|aj (.a 4 I<|.k [0,3,4,7,31,32] I)<|ay<|eX [0,3,4,7,31,32] I<|bq (λr s=>∃k,k<=N/\r=N - k/\s=⟨[(0,.ptr 1 0),(3,.ptr 2 0),(4,.ptr 3 0),(7,.ptr 8 0),(31,num N),(32,num k)],iW d++[some (.cells 25 (bJ T)),some (.cells 25 [num 0,.raw (.slice none 0 0),.raw (.slice none 0 0)]),some (.cells 25 [num T.nodes,.own 6,.own 7]),some (.cells 25 [num T.nodes,.own 6,.own 7]),some (.row 4 1 T.over.length (aT T.over)),some (.row 42 7 T.ah.length (bR T.ah)),some (.cells 25 [num T.nodes,.own 9,.own 7]),some (.row 4 1 N (aT (((List.range N).map λn=>(X n).over).take k++List.replicate (N - k) false)))]⟩) N ⟨0,by omega,rfl,by rw[D];rfl⟩ ?_;rintro r s ⟨k,hk,rfl,rfl⟩;refine aj (.a 1 I<|.k [0,3,4,7,31,32,33] I)<|an<|ak I (λhc=>?_) (λhc=>?_)
      · have hlt:k<N:=by have:=Vg hc;omega
        obtain⟨z,_⟩:=a k hlt;have i:cQ (k:Int) (ib qG d)=some (qG (X k)):=by rw[gH,z];rfl
        have B:=OI X hlt;refine ao<|an<|ay<|aj (.a 2 I<|.k [0,3,4,7,8,31,32] I)<|oL 20 1 ((iW d++[some (.cells 25 (bJ T)),some (.cells 25 [num 0,.raw (.slice none 0 0),.raw (.slice none 0 0)]),some (.cells 25 [num T.nodes,.own 6,.own 7]),some (.cells 25 [num T.nodes,.own 6,.own 7]),some (.row 4 1 T.over.length (aT T.over)),some (.row 42 7 T.ah.length (bR T.ah)),some (.cells 25 [num T.nodes,.own 9,.own 7]),some (.row 4 1 N (aT (((List.range N).map λn=>(X n).over).take k++List.replicate (N - k) false)))])::(iW d++[some (.cells 25 (bJ T)),some (.cells 25 [num 0,.raw (.slice none 0 0),.raw (.slice none 0 0)]),some (.cells 25 [num T.nodes,.own 6,.own 7]),some (.cells 25 [num T.nodes,.own 6,.own 7]),some (.row 4 1 T.over.length (aT T.over)),some (.row 42 7 T.ah.length (bR T.ah)),some (.cells 25 [num T.nodes,.own 9,.own 7]),some (.row 4 1 N (aT (((List.range N).map λn=>(X n).over).take (k+1)++List.replicate (N - (k+1)) false)))])::[]) (⟨_,none,0,0⟩::⟨_,none,0,0⟩::⟨_,none,0,0⟩::⟨_,none,0,0⟩::⟨_,none,0,0⟩::⟨_,none,0,0⟩::⟨_,none,0,0⟩::⟨_,none,0,0⟩::⟨qG (X k),none,0,0⟩::⟨dP (X k),none,0,0⟩::⟨flag (X k).over,none,0,0⟩::⟨_,none,0,0⟩::⟨_,some 0,0,0⟩::[]) _ mixed ?grd1 rfl rfl rfl rfl (.cons (.val [7] I I (yz (bF (aP I) b7)) I I)<|.cons (.val [35] I I (yz (bF (aP I) b7)) I I)<|.cons (.val [8] I I (yz (bF (aP I) b7)) I I)<|.cons (.val [0] I I (yz (bF (aP I) b7)) I I)<|.cons (.val [38] I I (yz (bF (aP I) b7)) I I)<|.cons (.val [39] I I (yz (bF (aP I) b7)) I I)<|.cons (.val [40] I I (yz (bF (aP I) b7)) I I)<|.cons (.val [8] I I (yz (bF (aP I) b7)) I I)<|.cons (.val [41,42] I I (yz (bF (fu eY (k:=(k:Int)) I tW PI rfl rfl rfl (cz _) (by rw[i];first|done|rfl)) b7)) I I)<|.cons (.val [43] I I (yz (bF (qR (off:=0) (n:=6) I (by kernel_rfl) I I) b7)) I I)<|.cons (.val [44] I I (yz (bF (wc (off:=3) I (by kernel_rfl) I I) b7)) I I)<|.cons (.val [36,37] I I (yz (bF (aX (k) I (by omega) (by omega)) b7)) I I)<|.cons (.gT [45,46] I I I I (YD (cP I (VJ I) I I I (by simp;omega)) (by rw[B];rfl)) I) .nil) (aJ (ks:=[0,3,4,7,31,32]) I) ?_
        case grd1=>kernel_rfl
        refine aL (.v (aU I) I<|.a 1 I<|.k [0,3,4,7,31,32] I)<|⟨N - (k+1),by omega,k+1,by omega,rfl,rfl⟩
      · have g:k=N:=by have:=Vj hc;omega
        rw[show((List.range N).map λn=>(X n).over).take k++List.replicate (N - k) false=T'.over by rw[g,u,YK,V2 (by simp)];simp];refine bh<|aK<|av 1 I<|fW I (l) I<|bW (eJ I (VW I) I I G G ⟨by unfold maxLen;omega,by omega⟩) I<|av 1 I<|aF [0,4,7,9] I ?_;refine an<|aj (.a 4 I<|.k [0,4,7,9,53,54] I)<|ay<|eX [0,4,7,9,53,54] I<|bq (λr s=>∃k,k<=T.ah.length/\r=T.ah.length - k/\s=⟨[(0,.ptr 1 0),(4,.ptr 3 0),(7,.ptr 8 0),(9,.own 10),(53,num T.ah.length),(54,num k)],iW d++[some (.cells 25 (bJ T)),some (.cells 25 [num 0,.raw (.slice none 0 0),.raw (.slice none 0 0)]),some (.cells 25 [num T.nodes,.own 6,.own 7]),some (.cells 25 [num T.nodes,.own 6,.own 7]),some (.row 4 1 T.over.length (aT T.over)),some (.row 42 7 T.ah.length (bR (T'.ah.take k++T.ah.drop k))),some (.cells 25 [num T.nodes,.own 9,.own 7]),some (.row 4 1 N (aT T'.over)),some (.row 4 1 (2*T.ah.length) (aT (List.replicate (2*T.ah.length) false)))]⟩) T.ah.length ⟨0,by omega,rfl,by rw[E,F];rfl⟩ ?_;rintro r s ⟨k,hk,rfl,rfl⟩;refine aj (.a 1 I<|.k [0,4,7,9,53,54,55] I)<|an<|ak I (λhc=>?_) (λhc=>?_)
        · have hlt:k<T.ah.length:=by have:=Vg hc;omega
          obtain⟨na,nb,ja,jb,ha,hb,p,q,⟨J,a2,a3,a4⟩,⟨K,L,M,O⟩,i⟩:=o k hlt;have e:=Od T'.ah T.ah (k:=k) (by omega);have j:k<(T'.ah.take k++T.ah.drop k).length:=by simp;omega
          have b:=eM (T'.ah.take k++T.ah.drop k) k 0 j (by decide);have c:=eM (T'.ah.take k++T.ah.drop k) k 1 j (by decide);rw[e]at b c;simp only[jt,ha,hb]at b c;have f:=KN (T'.ah.take k++T.ah.drop k) k j ((X na).cU.getD ja dK).co ((X nb).cU.getD jb dK).co;rw[e,<-i,KM T'.ah T.ah (by omega) hlt]at f;have w:=w7 d na nb k ja (X na) (a na p).1 (a na p).2 J a2 a3 a4;have x:=w7 d nb na k jb (X nb) (a nb q).1 (a nb q).2 K L M O;refine ao<|an<|ay<|aj (.a 2 I<|.k [0,4,7,9,10,53,54] I)<|aj (.a 3 I<|.v (aX (k*7) I (by omega) (by omega)) I<|.a 1 I<|.k [0,4,7,9,10,11,53,54] I)<|gQ (aJ (ks:=[0,4,7,9,10,11,53,54]) I) ?_;refine eC _ _ mixed (UD [0,4,7,9,10,11,53,54] [0,4,7,9,10,11,12,13,53,54] [] [(0,1),(0,1),(0,1),(0,1),(0,1),(0,1),(0,1),(0,1),(0,1),(0,1),(0,1),(0,1),(0,1),(0,1),(0,1),(0,1)] [(0,_),(4,_),(7,_),(9,_),(10,_),(11,_),(12,num ((X na).cU.getD ja dK).co),(13,flag true),(53,_),(54,_),(61,.tuple [num ((X na).cU.getD ja dK).co,flag true]),(62,.ptr 1 0),(63,.ptr 7 (k*7)),(64,.ptr 7 (k*7)),(65,.ptr 7 (k*7+0)),(66,num na),(67,.ptr 7 (k*7)),(68,.ptr 7 (k*7)),(69,.ptr 7 (k*7+1)),(70,num nb),(71,num k),(72,.tuple [num ((X na).cU.getD ja dK).co,flag true]),(73,num ((X na).cU.getD ja dK).co),(74,flag true)] [_] 20 (by kernel_rfl) I I I I (UG 4 I<|UK rfl (UL (UE rfl (aO I (b))))<|UG 3 I<|UK rfl (UL (UE rfl (aO I (c))))<|UG 1 I<|UK rfl (UL (UH rfl rfl ((Fu _ w)) I))<|UG 5 I<|UT rfl))<|eC _ _ mixed (UD [0,4,7,9,10,11,12,13,53,54] [0,4,7,9,10,11,12,13,14,15,53,54] [] [(0,1),(0,1),(0,1),(0,1),(0,1),(0,1),(0,1),(0,1),(0,1),(0,1),(0,1),(0,1),(0,1),(0,1),(0,1),(0,1)] [(0,_),(4,_),(7,_),(9,_),(10,_),(11,_),(12,_),(13,_),(14,num ((X nb).cU.getD jb dK).co),(15,flag true),(53,_),(54,_),(75,.tuple [num ((X nb).cU.getD jb dK).co,flag true]),(76,.ptr 1 0),(77,.ptr 7 (k*7)),(78,.ptr 7 (k*7)),(79,.ptr 7 (k*7+1)),(80,num nb),(81,.ptr 7 (k*7)),(82,.ptr 7 (k*7)),(83,.ptr 7 (k*7+0)),(84,num na),(85,num k),(86,.tuple [num ((X nb).cU.getD jb dK).co,flag true]),(87,num ((X nb).cU.getD jb dK).co),(88,flag true)] [_] 20 (by kernel_rfl) I I I I (UG 4 I<|UK rfl (UL (UE rfl (aO I (c))))<|UG 3 I<|UK rfl (UL (UE rfl (aO I (b))))<|UG 1 I<|UK rfl (UL (UH rfl rfl ((Fu _ x)) I))<|UG 5 I<|UT rfl)) ?_;refine aj (.a 4 I<|.k [0,4,7,9,10,11,12,14,53,54,92] I)<|ak I (λhc=>?_) (λhc=>?_)
          · refine bp<|av 3 I<|aZ (lH I Uk rfl rfl) I<|av 2 I<|bw (YD (jr (ys:=[num ((X na).cU.getD ja dK).co,num ((X nb).cU.getD jb dK).co]) I (VJ I) I I I I I (by show k*7+2+2<=(bR _).length;rw[mG];omega)) (O8 f)) I I<|aF [0,4,7,9,53,54] I ?_;refine aL (.v (aU I) I<|.a 1 I<|.k [0,4,7,9,53,54] I)<|⟨T.ah.length - (k+1),by omega,k+1,by omega,rfl,rfl⟩
          · cases hc
        · have g:k=T.ah.length:=by have:=Vj hc;omega
          have y:MQ 10 (.row 4 1 (2*T.ah.length) (aT (List.replicate (2*T.ah.length) false))) (.own 10) (aY (List.replicate (2*T.ah.length) false)):=by
           have:aY (List.replicate (2*T.ah.length) false)= .slice (2*T.ah.length) (aT (List.replicate (2*T.ah.length) false)):=by unfold aY;rw[WX]
           rw[this];exact .own
          rw[show T'.ah.take k++T.ah.drop k=T'.ah by rw[g,Wi (Vh _),V6,V2 (by omega)]];refine mn 9 (σ':=[Dz d,some (.cells 158 [.own 0]),some (.cells 25 (bJ T)),some (.cells 25 [num 0,.raw (.slice none 0 0),.raw (.slice none 0 0)]),some (.cells 25 [num T.nodes,.own 6,.own 7]),some (.cells 25 [num T.nodes,.own 6,.own 7]),some (.row 4 1 T.over.length (aT T.over)),some (.row 42 7 T.ah.length (bR T'.ah)),some (.cells 25 [num T.nodes,PV.slice N (aT T'.over),.own 7]),none,some (.row 4 1 (2*T.ah.length) (aT (List.replicate (2*T.ah.length) false)))]) (t':=[(0,.ptr 1 0),(4,.ptr 3 0),(7,.ptr 8 0),(9,.own 10)]) (blk:=.row 4 1 N (aT T'.over)) I ⟨rfl,rfl,λm hm=>by
            match m,hm with
            |0,_=>exact .inl rfl
            |1,_=>exact .inl rfl
            |2,_=>exact .inl rfl
            |3,_=>exact .inl rfl
            |4,_=>exact .inl rfl
            |5,_=>exact .inl rfl
            |6,_=>exact .inl rfl
            |7,_=>exact .inl rfl
            |8,_=>exact .inr ⟨_,_,rfl,rfl,.cells (.cons (.same _)<|.cons .own<|.cons (.same _) .nil)⟩
            |9,h=>exact absurd rfl h
            |10,_=>exact .inl rfl
            |_+11,_=>exact .inl rfl⟩ (.cons 0 rfl (.same _)<|.cons 4 rfl (.same _)<|.cons 7 rfl (.same _)<|.cons 9 rfl (.same _) .nil) ?_
          refine mn 7 (σ':=[Dz d,some (.cells 158 [.own 0]),some (.cells 25 (bJ T)),some (.cells 25 [num 0,.raw (.slice none 0 0),.raw (.slice none 0 0)]),some (.cells 25 [num T.nodes,.own 6,PV.slice T.ah.length (bR T'.ah)]),some (.cells 25 [num T.nodes,.own 6,PV.slice T.ah.length (bR T'.ah)]),some (.row 4 1 T.over.length (aT T.over)),none,some (.cells 25 [num T.nodes,PV.slice N (aT T'.over),PV.slice T.ah.length (bR T'.ah)]),none,some (.row 4 1 (2*T.ah.length) (aT (List.replicate (2*T.ah.length) false)))]) (t':=[(0,.ptr 1 0),(4,.ptr 3 0),(7,.ptr 8 0),(9,.own 10)]) (blk:=.row 42 7 T.ah.length (bR T'.ah)) I ⟨rfl,rfl,λm hm=>by
            match m,hm with
            |0,_=>exact .inl rfl
            |1,_=>exact .inl rfl
            |2,_=>exact .inl rfl
            |3,_=>exact .inl rfl
            |4,_=>exact .inr ⟨_,_,rfl,rfl,.cells (.cons (.same _)<|.cons (.same _)<|.cons .own .nil)⟩
            |5,_=>exact .inr ⟨_,_,rfl,rfl,.cells (.cons (.same _)<|.cons (.same _)<|.cons .own .nil)⟩
            |6,_=>exact .inl rfl
            |7,h=>exact absurd rfl h
            |8,_=>exact .inr ⟨_,_,rfl,rfl,.cells (.cons (.same _)<|.cons (.same _)<|.cons .own .nil)⟩
            |9,_=>exact .inl rfl
            |10,_=>exact .inl rfl
            |_+11,_=>exact .inl rfl⟩ (.cons 0 rfl (.same _)<|.cons 4 rfl (.same _)<|.cons 7 rfl (.same _)<|.cons 9 rfl (.same _) .nil) ?_
          refine mn 10 (σ':=[Dz d,some (.cells 158 [.own 0]),some (.cells 25 (bJ T)),some (.cells 25 [num 0,.raw (.slice none 0 0),.raw (.slice none 0 0)]),some (.cells 25 [num T.nodes,.own 6,PV.slice T.ah.length (bR T'.ah)]),some (.cells 25 [num T.nodes,.own 6,PV.slice T.ah.length (bR T'.ah)]),some (.row 4 1 T.over.length (aT T.over)),none,some (.cells 25 [num T.nodes,PV.slice N (aT T'.over),PV.slice T.ah.length (bR T'.ah)]),none,none]) (t':=[(0,.ptr 1 0),(4,.ptr 3 0),(7,.ptr 8 0),(9,aY (List.replicate (2*T.ah.length) false))]) (blk:=.row 4 1 (2*T.ah.length) (aT (List.replicate (2*T.ah.length) false))) I ⟨rfl,rfl,λm hm=>by
            match m,hm with
            |0,_=>exact .inl rfl
            |1,_=>exact .inl rfl
            |2,_=>exact .inl rfl
            |3,_=>exact .inl rfl
            |4,_=>exact .inl rfl
            |5,_=>exact .inl rfl
            |6,_=>exact .inl rfl
            |7,_=>exact .inl rfl
            |8,_=>exact .inl rfl
            |9,_=>exact .inl rfl
            |10,h=>exact absurd rfl h
            |_+11,_=>exact .inl rfl⟩ (.cons 0 rfl (.same _)<|.cons 4 rfl (.same _)<|.cons 7 rfl (.same _)<|.cons 9 rfl y .nil) ?_
          refine bh<|aK<|av 5 I<|aF [4,5,6] I ?_;refine aA ?_;have C:(.agg [num T.nodes,PV.slice N (aT T'.over),PV.slice T.ah.length (bR T'.ah)]:PV)=bu T':=by
           unfold bu bJ aY;rw[t,A,u];simp
          exact⟨_,V5 I,iW d,_,rfl,Vh _,ic _,(Ren.pure:Ren _ (.tuple [.agg [num T.nodes,PV.slice N (aT T'.over),PV.slice T.ah.length (bR T'.ah)],aY (List.replicate (2*T.ah.length) false),num 0]) _),by rw[<-C];rfl,rfl⟩
def yI:Option cj:=some (.cells 25 [num 0,.raw (.slice none 0 0),.raw (.slice none 0 0)])
theorem II(T:aw)(s:Nd)(T':aw)(N:Nat)(X:Nat->cC)(h8:∀x∈az s.nb,x<8)(h:yR s.db T T' N X):aD prog 12 [.ptr 0 0] (aW T s) (λr σ'=>r= .tuple [bu T',aY (List.replicate (2*T.ah.length) false)]/\σ'=aW T s):=by
 have hd:=G1 s.db T T' N X h;refine Xa<|aV func12 I ntmps12 I<|aK<|av 2 I<|aF [0,2] I ?_;refine an<|aj (.a 2 I<|.k [0,2,8] I)<|ak I (λhc=>?_) (λhc=>?_)
 ·cases hc
 ·refine ao<|gQ (aJ (ks:=[0,2]) I) ?_;refine dY (σ':=aW T s++[yI]) I<|eC _ _ mixed (UD [0,2] [2,4,5] [13,14] [(0,2),(0,2),(0,2),(0,2),(0,2),(0,2),(0,2),(0,2),(0,2),(0,2),(0,2),(0,3),(0,3),(0,1),(1,1),(2,1),(2,1)] [(0,_),(2,_),(4,.ptr 16 0),(5,aY (List.replicate (2*T.ah.length) false)),(6,num 0),(10,.tuple [bu T',aY (List.replicate (2*T.ah.length) false),num 0]),(11,.ptr 0 0),(12,.ptr 0 0),(13,.ptr 0 12),(14,.ptr 3 0),(15,.ptr 0 0),(16,.ptr 0 0),(17,.ptr 0 0),(18,bu T),(19,.tuple [bu T',aY (List.replicate (2*T.ah.length) false),num 0]),(20,bu T'),(21,aY (List.replicate (2*T.ah.length) false)),(22,num 0)] [_,aW T s++[yI,yI],aW T s++[yI,some (.cells 25 (bJ T'))]] 20 (by kernel_rfl) I I I I (UG 8 I<|UK rfl (U7 (UH rfl rfl ((kz (s:=s) (d:=s.db) _ hd)) I)<|UL (UH rfl rfl ((kz (s:=s) (d:=s.db) _ hd)) I))<|UG 4 I<|UN rfl (UY rfl (cG I) I)<|UN rfl (UW rfl rfl rfl (cG I) I)<|UG 2 I<|UT rfl)) ?_;refine aK<|av 4 I<|aF [2,3] I ?_;exact aA<|⟨_,V5 I,aW T s,_,rfl,Vh _,bU T s h8,Ren.pure (p:=.tuple [bu T',aY (List.replicate (2*T.ah.length) false)]),rfl,rfl⟩
theorem SQ{P:Program}{σ t}{o:Oper}{ty e n i:Nat}{x q xs p}(ho:o.op= .index ty x q)(hu:P.underlying ty=some (.array n e))(hk:qU P e=some none)(hx:aI t x=some (.agg xs))(hi:aI t q=some (num i))(hn:i<n)(hp:xs[i]? =some p):bE P σ t o p:=by
 intro F base E ρ w f _ hT;have h1:=aB f hT hx;have h2:ρ q= .int .i64 i:=dt (aB f hT hi);generalize s:ρ x=z at h1;cases h1 with
 |agg cs _ hl hr=>
  obtain⟨c,h,j⟩:=bn.get (E:=E) (w:=w) (cs:=cs.toList) ⟨by simpa using hl,λi x u h1 h2=>hr i x u (by simpa using h1) h2⟩ hp;have g:∀w,(isAgg e).run P w= .ok false w:=by
   intro w;have a:=hk;unfold qU at a;split at a
   ·rename_i d i m r;split at a
    ·cases a
    ·cases a
    ·rename_i h1 h2;unfold isAgg;simp only[Sem.run_bind,run_underlying m,Result.andThen_ok]
     rfl
   ·cases a
  have b:cs[i]? =some c:=by simpa using h
  have l:=pv hk w;have k:(0:Int)<=(i:Int)/\(i:Int)<(n:Int):=by omega
  have has:(asIntOf (.int .i64 (i:Int))).run P w= .ok (.i64,(i:Int)) w:=rfl;simp only[execOp,ho,s,h2,Instr.index,Sem.run_bind,has,run_underlying hu,Result.andThen_ok,Vn k,l,Option.getD_none,Xt,Vi,Go.part,g,b,Xb,Yo,Sem.run_pure];exact bA j
def kH(T:aw)(a:Nat):gO:=⟨a / 2,(bx T a).toNat,(cr T a).toNat,0,0,0⟩
def dQ(T:aw)(n:Nat):List Nat:=(List.range (2*T.ah.length)).filter λa=>bI T a==(n:Int)
theorem xO(T:aw)(n:Nat):(dQ T n).length<=2*T.ah.length:=by
 have:=Wl (λa=>bI T a==(n:Int)) (List.range (2*T.ah.length));rwa [Yd]at this
theorem Ll{T:aw}{n k:Nat}(h:k<(dQ T n).length):(dQ T n).getD k 0<2*T.ah.length:=by
 have hm:(dQ T n).getD k 0∈dQ T n:=by rw[Qo,Vm h];exact Yl h
 exact VP.1 (Wk.1 hm).1
def sM(T:aw)(n k:Nat):Nd:=⟨n,0,((dQ T n).take k).map (kH T),cW T n,[],[],⟨false,[],n,0,false,0⟩⟩
def Rf(T:aw)(n:Nat):Nd:=⟨n,0,(dQ T n).map (kH T),cW T n,[],[],⟨false,[],n,0,false,0⟩⟩
theorem Ow(T:aw)(n:Nat):sM T n (dQ T n).length=Rf T n:=by unfold sM Rf;rw[VN]
theorem Tu:Sj prog 118=some (1,[.int .i64 0,.int .i64 0,.int .i64 0]):=by kernel_rfl
def Qk(T:aw)(s:Nd)(o:Nat):List PV:=[.raw (.int .i64 T.nodes),aY T.over,.slice T.ah.length (bR T.ah),num s.node,num 1,num 1,num 3,num 2,num s.time,.own o,flag s.over,.slice 0 [],.ptr 3 0,.ptr 5 0,.ptr 6 0]
def IB(T:aw)(s:Nd)(o:Nat)(r:Option cj):bH:=[some (.cells 76 (Qk T s o)),r,Dz [],some (.cells 158 [.own 2]),some (.mp (bD c7 [])),some (.cells 190 [num 2,.own 4]),fm ⟨false,[],s.node,0,false,0⟩]++[none,none,none,none,none,none,none,none]
theorem Pn(T:aw)(n k:Nat):aW T (sM T n k)=IB T (sM T n k) 1 (some (.row 84 6 (sM T n k).au.length (dz (sM T n k).au))):=rfl
theorem L5(T:aw)(n k m:Nat)(xs:List PV)[aM xs]:eV ((List.range 15).set 1 15) (IB T (sM T n k) 15 none++[some (.row 84 6 m xs)]) (IB T (sM T n (k+1)) 1 (some (.row 84 6 m xs))) ((List.range 15).set 1 15):=
 .kept rfl (.cells (.cons .pure<|.cons .pure<|.cons .pure<|.cons .pure<|.cons .pure<|.cons .pure<|.cons .pure<|.cons .pure<|.cons .pure<|.cons (.own rfl)<|.cons .pure<|.cons .pure<|.cons (.ptr rfl)<|.cons (.ptr rfl)<|.cons (.ptr rfl) .nil))<|.kept rfl (.row VT)<|.kept rfl .mp<|.kept rfl (.cells (V0 (.own rfl) Wp))<|.kept rfl (.De rfl Wp)<|.kept rfl (.cells (V0 Ren.pure (V0 (.own rfl) Wp)))<|.kept rfl (.cells VT)<|.gone<|.gone<|.gone<|.gone<|.gone<|.gone<|.gone<|.gone .nil
theorem H8(T:aw)(n k:Nat)(h:k<(dQ T n).length):(sM T n (k+1)).au=(sM T n k).au++[kH T ((dQ T n).getD k 0)]:=by
 unfold sM;show((dQ T n).take (k+1)).map (kH T)=_;rw[cL _ _ 0 h,Wu];rfl
theorem L4(T:aw)(n:Nat)(s':Nd)(hv:aH T=true)(hl:T.ah.length<=8)(hn:(n:Int)<T.nodes)(g:∀a,a<2*T.ah.length->0<=bx T a/\0<=cr T a)(ho:aD prog 23 [.ptr 0 0] (aW T (Rf T n)) (λr σ'=>σ'=aW T s')):aD prog 21 [bu T,num n,num 1,.agg [num 1,num 3,num 2]] [] (λr σ'=>r= .tuple [.ptr 0 0,num 0]/\σ'=aW T s'):=by
  obtain⟨w,y, -,D⟩:=fr hv;have t:=Zu ho;have o:=gw T;rw[hv]at o;have j:=jw T n;rw[show bZ T n=true from VM (by omega)]at j;have p:Can prog 49 [bu T] (· =bu T):=Can.Sr (tA T (by omega) (by omega)) (by
    rintro r σ' ⟨rfl,rfl⟩;exact⟨bu T,aQ.agg rfl (Vp aQ.pure (Vp (Yw rfl W9) (Vp (Yw rfl W9) Wg))).2,rfl⟩)
  have u:=o6 T n (by omega);have c:=ur T (by omega) n;rw[show cw T n=(dQ T n).map Int.ofNat from rfl]at c;have C:=xO T n;have B:((dQ T n).map Int.ofNat).length=(dQ T n).length:=by simp
  refine aV func21 I ntmps21 I<|aj (.a 4 I<|.k [1,2,4,7] I)<|an<|aj (.a 1 I<|.c rfl (o) I<|.a 3 I<|.c rfl (UC 1 1 1073741824 (by omega) (by omega)) I<|.a 2 I<|.k [1,2,4,7,22] I)<|ak I (λhc=>?_) (λhc=>?_)
  · cases hc
  · refine ao<|an<|aj (.a 6 I<|.v (lH I Tu rfl rfl) I<|.a 1 I<|.k [1,2,4,7,29,30] I)<|ay<|eX [1,2,4,7,29,30] I<|bq (λr s=>∃k,k<=3/\r=4 - k/\s=⟨[(1,num n),(2,num 1),(4,.cH (bJ T) 0),(7,.cH [num 1,num 3,num 2] 0),(29,.agg [num 1,num 3,num 2]),(30,num k)],[]⟩) 4 ⟨0,by omega,rfl,rfl⟩ ?_;rintro r s ⟨k,hk,rfl,rfl⟩;refine aj (.a 1 I<|.k [1,2,4,7,29,30,31] I)<|an<|ak I (λhc=>?_) (λhc=>?_)
    · have hlt:k<3:=by have:=Vg hc;omega
      obtain⟨x,hx1,hx2,v⟩:∃x:Nat,1<=x/\x<=65536/\([num 1,num 3,num 2]:List PV)[k]? =some (num x):=by
       rcases(show k=0\/k=1\/k=2 by omega)with rfl|rfl|rfl
       · exact⟨1,by omega,by omega,rfl⟩
       · exact⟨3,by omega,by omega,rfl⟩
       · exact⟨2,by omega,by omega,rfl⟩
      refine ao<|an<|ay<|aj (.v (SQ I (show prog.underlying 118=some (.array 3 3) by kernel_rfl) (VJ I) I I hlt v) I<|.a 1 I<|.k [1,2,4,7,11,29,30] I)<|aj (.a 1 I<|.c rfl (UC x 1 65536 (by omega) (by omega)) I<|.a 1 I<|.k [1,2,4,7,29,30,35] I)<|ak I (λhc=>?_) (λhc=>?_)
      · cases hc
      · refine ao<|aL (.v (aU I) I<|.a 1 I<|.k [1,2,4,7,29,30] I) ?_;exact⟨4 - (k+1),by omega,k+1,by omega,rfl,rfl⟩
    · refine bh<|an<|aj (.a 2 I<|.c rfl (j) I<|.a 1 I<|.k [1,2,4,7,40] I)<|ak I (λhc=>?_) (λhc=>?_)
      · cases hc
      · refine ao<|gQ (aJ (ks:=[1,2,4,7]) I) ?_;refine eC _ _ mixed (UD [1,2,4,7] [1,4,7,12] [8,10] [(0,1),(0,1),(0,2),(0,2),(0,2),(0,1),(0,1),(0,1),(0,1),(1,1),(1,1),(2,1)] [(1,_),(2,_),(4,_),(7,_),(12,.ptr 2 0),(41,bu T),(42,bu T),(43,num n),(44,num 1),(45,.agg [num 1,num 3,num 2]),(46,bu T),(47,num n),(48,flag (cW T n)),(49,.ptr 1 0),(50,.agg [.raw (.int .i64 T.nodes),aY T.over,.slice T.ah.length (bR T.ah),num n,num 1,num 1,num 3,num 2,num 0,.raw (.slice none 0 0),flag (cW T n),.slice 0 [],.ptr 1 0,.raw (.pointer none),.raw (.pointer none)]),(51,.ptr 2 0)] [_,[Dz [],some (.cells 158 [.own 0])],[Dz [],some (.cells 158 [.own 0]),some (.cells 76 [.raw (.int .i64 T.nodes),aY T.over,.slice T.ah.length (bR T.ah),num n,num 1,num 1,num 3,num 2,num 0,.raw (.slice none 0 0),flag (cW T n),.slice 0 [],.ptr 1 0,.raw (.pointer none),.raw (.pointer none)])]] 20 (by kernel_rfl) I I I I (UG 1 I<|UK rfl (UL (UE rfl (dW I (p))))<|UG 5 I<|UK rfl (UL (UE rfl (dW I (u))))<|UN rfl (UH rfl rfl ((j5 [])) I)<|UK rfl (UL (UE rfl (tf (gg (xs:=[_,_,_,_,_,_,_,_,_,_,_,_,_,_,_]) I (X8 I) I I) (fv.iV (.cons (WK _)<|.cons (WK _)<|.cons (WK _)<|.cons (WK _)<|.cons (WK _)<|.cons (WK _)<|.cons (WK _)<|.cons (WK _)<|.cons (WK _)<|.cons (WK _)<|.cons (WK _)<|.cons Zw<|.cons (WK _)<|.cons (WK _)<|.cons (WK _) .nil)))))<|UN rfl (UY rfl (dv I I I) I)<|UG 1 I<|UT rfl))<|aK<|av 3 I<|br I I (VO ((Kf _)) (λ_ σ' h=>?_));obtain⟨rfl,rfl⟩:=h;refine av 6 I<|aF [1,4,12] I ?_;refine aK<|av 2 I<|br I I (VO ((Lf n (by omega) _)) (λ_ σ' h=>?_));obtain⟨rfl,rfl⟩:=h;refine av 6 I<|aF [1,4,12] I ?_;refine cO 2 9 84 6 I I<|dM [2,6,0,1,3,4,5,7,8,9,10,11,12,13,14] (σ':=aW T (sM T n 0)) (.c 1<|.c 4<|.cons 12 I (.ptr (i:=0) I) .nil) (.kept rfl (.cells (.cons .pure<|.cons .pure<|.cons .pure<|.cons .pure<|.cons .pure<|.cons .pure<|.cons .pure<|.cons .pure<|.cons .pure<|.cons (.own rfl)<|.cons .pure<|.cons .pure<|.cons (.ptr rfl)<|.cons (.ptr rfl)<|.cons (.ptr rfl) .nil))<|.kept rfl (.row VT)<|.kept rfl .mp<|.kept rfl (.cells (V0 (.own rfl) Wp))<|.kept rfl (.De rfl Wp)<|.kept rfl (.cells (V0 Ren.pure (V0 (.own rfl) Wp)))<|.kept rfl (.cells VT)<|.gone<|.gone<|.gone<|.gone<|.gone<|.gone<|.gone<|.gone .nil) I I ?_;refine an<|aj (.a 2 I<|.c rfl (c) I<|.a 2 I<|.k [4,12,71,72,73] I)<|ay<|eX [4,12,71,72,73] I<|bq (λr s=>∃k,k<=(dQ T n).length/\r=(dQ T n).length - k/\s=⟨[(4,.cH (bJ T) 0),(12,.ptr 0 0),(71,fc (dQ T n)),(72,num (dQ T n).length),(73,num k)],aW T (sM T n k)⟩) (dQ T n).length ⟨0,by omega,rfl,by simp[fc,bm]⟩ ?_;rintro r s ⟨k,hk,rfl,rfl⟩;refine aj (.a 1 I<|.k [4,12,71,72,73,74] I)<|an<|ak I (λhc=>?_) (λhc=>?_)
        · have hlt:k<(dQ T n).length:=by have:=Vg hc;omega
          have f:=jv (dQ T n) k hlt;have b:=Ll hlt;have l:=H8 T n k hlt;generalize (dQ T n).getD k 0=a at f b l;have F:=(g a b).1;have z:=(g a b).2;have d:=jq T a b (by omega);have e:=mv T a b;have E:(sM T n k).au.length<=16:=by show(((dQ T n).take k).map _).length<=16;rw[Wf,V8];omega
          have A:(kH T a).lk<=16:=by show a / 2<=16;omega
          rw[show bx T a=(((kH T a).ot:Nat):Int) by show _=((bx T a).toNat:Int);omega]at d;rw[show cr T a=(((kH T a).co:Nat):Int) by show _=((cr T a).toNat:Int);omega]at e;refine ao<|an<|ay<|aj (.v (aX (k) I) I<|.v (aO I (f)) I<|.a 1 I<|.k [4,12,14,71,72,73] I)<|oL 20 2 ((aW T (sM T n k))::(IB T (sM T n k) 1 none++[some (.row 84 6 ((sM T n k).au.length+1) (dz (sM T n k).au++jS (kH T a)))])::(IB T (sM T n k) 15 none++[some (.row 84 6 ((sM T n k).au.length+1) (dz (sM T n k).au++jS (kH T a)))])::[]) (⟨_,none,0,1⟩::⟨_,none,0,0⟩::⟨_,none,0,0⟩::⟨_,none,0,0⟩::⟨_,none,0,0⟩::⟨_,none,0,0⟩::⟨_,none,0,0⟩::⟨_,none,0,0⟩::⟨_,none,0,0⟩::⟨_,none,0,0⟩::⟨_,none,0,0⟩::⟨_,none,0,0⟩::⟨_,none,0,0⟩::⟨_,none,0,0⟩::⟨_,none,0,0⟩::⟨.own 15,some 0,0,0⟩::⟨_,none,1,1⟩::⟨_,none,1,1⟩::⟨_,some 1,0,0⟩::[]) _ mixed ?grd1 rfl rfl rfl rfl (.cons (.val [12] I I (yz (bF (aP I) (bF (aP I) b7))) I I)<|.cons (.val [12] I I (yz (bF (aP I) b7)) I I)<|.cons (.val [78] I I (yz (bF (aP I) b7)) I I)<|.cons (.val [79] I I (yz (bF (aP I) b7)) I I)<|.cons (.val [80] I I (yz (bF (aP I) b7)) I I)<|.cons (.val [14] I I (yz (bF (aP I) b7)) I I)<|.cons (.val [82] I I (yz (bF (lI I I I (by decide) ((show Int.tdiv (a:Int) 2=(((kH T a).lk:Nat):Int) from rfl)) (by unfold In64;omega)) b7)) I I)<|.cons (.val [4] I I (yz (bF (aP I) b7)) I I)<|.cons (.val [14] I I (yz (bF (aP I) b7)) I I)<|.cons (.val [84,85] I I (yz (bF (dW I (d)) b7)) I I)<|.cons (.val [4] I I (yz (bF (aP I) b7)) I I)<|.cons (.val [14] I I (yz (bF (aP I) b7)) I I)<|.cons (.val [87,88] I I (yz (bF (dW I (e)) b7)) I I)<|.cons (.val [83,86,89] I I (yz (bF (aP I) b7)) I I)<|.cons (.val [90] I I (yz (bF (aP I) b7)) I I)<|.cons (.tV [81,91] I I I I (bP (i:=1) (n:=(sM T n k).au.length) (m:=1) (xs:=dz (sM T n k).au) (ys:=jS (kH T a)) I (VW I) I I I I (by unfold maxLen;omega)) I I)<|.cons (.val [77] I I (yz (bF (aP I) b7)) I I)<|.cons (.val [93] I I (yz (bF (aP I) b7)) I I)<|.cons (.gT [92,94] I I I I (YD (eh (off:=9) (blk:=.cells 76 (Qk T (sM T n k) 1)) I (VJ I) I I I (show 9<15 by decide)) I) I) .nil) (aJ (ks:=[4,12,71,72,73]) I) ?_
          case grd1=>kernel_rfl
          refine dM ((List.range 15).set 1 15) (σ':=IB T (sM T n (k+1)) 1 (some (.row 84 6 ((sM T n k).au.length+1) (dz (sM T n k).au++jS (kH T a))))) (.c 4<|.cons 12 I (.ptr (i:=0) I)<|.c 71<|.c 72<|.c 73 .nil) (L5 ..) I I<|aL (.v (aU I) I<|.a 1 I<|.k [4,12,71,72,73] I) ?_;exact⟨(dQ T n).length - (k+1),by omega,k+1,by omega,rfl,by rw[Pn,l];simp[dz]⟩
        · have q:k=(dQ T n).length:=by have:=Vj hc;omega
          subst q;rw[Ow];refine bh<|aK<|av 1 I<|br I I (VO (t) (λ_ σ' h=>?_));obtain⟨rfl,rfl⟩:=h;refine aF [12] I<|aj (.a 3 I<|.k [8,9] I)<|aA<|⟨_,V5 I,rfl,rfl⟩
def B1(g:Nat->Nat)(nb:Nb):List (Int×PV):=nb.map λx=>((x.1:Int),.own (g (x.1+7)))
def L6(T:aw)(s:Nd)(g:Nat->Nat):List PV:=[.raw (.int .i64 T.nodes),aY T.over,.slice T.ah.length (bR T.ah),num s.node,num 1,num 1,num 3,num 2,num s.time,.own (g 1),flag s.over,.slice 0 [],.ptr (g 3) 0,.ptr (g 5) 0,.ptr (g 6) 0]
def jB(T:aw)(s:Nd)(g:Nat->Nat):bH:=[some (.cells 76 (L6 T s g)),some (.row 84 6 s.au.length (dz s.au)),Dz s.db,some (.cells 158 [.own (g 2)]),some (.mp (bD c7 (B1 g s.nb))),some (.cells 190 [num 2,.own (g 4)]),fm s.og]++mN s.nb
theorem CT(T:aw)(s:Nd)(g:Nat->Nat):(jB T s g).length=15:=rfl
theorem K4(b:Nat)(g:Nat->Nat)(nb:Nb):(bD c7 (fS b nb)).map (·.1)=(bD c7 (B1 g nb)).map (·.1):=by simp[bD,fS,B1]
theorem Rb{g:Nat->Nat}(nb:Nb):fB g ((bD c7 (fS 7 nb)).map (·.2)) ((bD c7 (B1 g nb)).map (·.2)):=⟨by simp[bD,fS,B1],λj x y h1 h2=>by
 simp only[bD,fS,B1,V7,Vt,Vr]at h1 h2;obtain⟨z,b,rfl⟩:=h1;obtain⟨c,a,rfl⟩:=h2;rw[b]at a;cases a;exact .own rfl⟩
theorem On{fs:List Nat}{g:Nat->Nat}{nb}(h8:∀x∈az nb,x<8)(hg:∀k,k<15->fs[k]? =some (g k)):ax fs ((bD c7 (fS 7 nb)).map (·.2)) ((bD c7 (B1 g nb)).map (·.2)):=⟨by simp[bD,fS,B1],λj x y h1 h2=>by
 simp only[bD,fS,B1,V7,Vt,Vr]at h1 h2;obtain⟨z,b,rfl⟩:=h1;obtain⟨c,a,rfl⟩:=h2;rw[b]at a;cases a;exact .own (hg _ (by have:=h8 z.1 (Vv.2 ⟨z,VE b,rfl⟩);omega))⟩
theorem vR(T:aw)(s:Nd)(g:Nat->Nat):uF g (aW T s) (jB T s g):=
 .kept (.cells (.cons .pure<|.cons .pure<|.cons .pure<|.cons .pure<|.cons .pure<|.cons .pure<|.cons .pure<|.cons .pure<|.cons .pure<|.cons (.own rfl)<|.cons .pure<|.cons .pure<|.cons (.ptr rfl)<|.cons (.ptr rfl)<|.cons (.ptr rfl) .nil))<|.kept (.row Ye)<|.kept (.mp rfl Ye)<|.kept (.cells (XN (.own rfl) Y9))<|.kept (.mp (K4 7 g s.nb) (Rb s.nb))<|.kept (.cells (XN Mw.pure (XN (.own rfl) Y9)))<|.kept (.cells Ye) (nO g s.nb)
theorem vQ{T}{s:Nd}{g:Nat->Nat}{fs:List Nat}{σ}(h8:∀x∈az s.nb,x<8)(hl:fs.length=15)(hg:∀k,k<15->fs[k]? =some (g k))(hs:∀k b,k<15->(jB T s g)[k]? =some (some b)->σ[g k]? =some (some b)):eV fs σ (aW T s) fs:=by
 refine ZG _ _ (by rw[hl];rfl) λi b j h1 h2=>?_;have hi:i<15:=by have:=(Vf.1 h2).1;omega
 rw[hg i hi]at h2;cases h2;by_cases e:i<7
 ·rcases(show i=0\/i=1\/i=2\/i=3\/i=4\/i=5\/i=6 by omega)with rfl|rfl|rfl|rfl|rfl|rfl|rfl<;>cases h1
  ·exact⟨_,hs 0 _ (by omega) I,.cells (.cons .pure<|.cons .pure<|.cons .pure<|.cons .pure<|.cons .pure<|.cons .pure<|.cons .pure<|.cons .pure<|.cons .pure<|.cons (.own (hg 1 (by omega)))<|.cons .pure<|.cons .pure<|.cons (.ptr (hg 3 (by omega)))<|.cons (.ptr (hg 5 (by omega)))<|.cons (.ptr (hg 6 (by omega))) .nil)⟩
  ·exact⟨_,hs 1 _ (by omega) I,.row VT⟩
  ·exact⟨_,hs 2 _ (by omega) I,.mp⟩
  ·exact⟨_,hs 3 _ (by omega) I,.cells (V0 (.own (hg 2 (by omega))) Wp)⟩
  ·exact⟨_,hs 4 _ (by omega) I,.De (K4 ..) (On h8 hg)⟩
  ·exact⟨_,hs 5 _ (by omega) I,.cells (V0 Ren.pure (V0 (.own (hg 4 (by omega))) Wp))⟩
  ·exact⟨_,hs 6 _ (by omega) I,.cells VT⟩
 ·obtain⟨k,rfl⟩:∃k,i=k+7:=⟨i - 7,by omega⟩;have c:(aW T s)[k+7]? =some (fT s.nb k):=lU _ (by omega);have d:(jB T s g)[k+7]? =some (fT s.nb k):=lU _ (by omega);have a:fT s.nb k=some b:=XA (c.symm.trans h1);exact⟨b,hs (k+7) b hi (by rw[d,a]),iI b a⟩
def FH:Nd:=⟨0,0,[],false,[],[],⟨false,[],0,0,false,0⟩⟩
structure wo (T:aw) (L:List Nd) (d ρ:Nat) (g:Nat->Nat->Nat) (σ:bH):Prop where
 dd:σ[d]? =some (some (.cells 38 [.raw (.int .i64 T.nodes),aY T.over,.slice T.ah.length (bR T.ah),.own ρ]))
 rr:σ[ρ]? =some (some (.row 35 1 L.length ((List.range L.length).map λn=>.ptr (g n 0) 0)))
 dr:d≠ρ
 sp:∀n,n<L.length->∀k b,k<15->(jB T (L.getD n FH) (g n))[k]? =some (some b)->σ[g n k]? =some (some b)
 inj:∀n m,n<L.length->m<L.length->∀k j,k<15->j<15->g n k=g m j->n=m/\k=j
 bd:∀n,n<L.length->∀k,k<15->g n k<σ.length/\g n k≠d/\g n k≠ρ
 h8:∀n,n<L.length->∀x∈az (L.getD n FH).nb,x<8
def RJ(n:Nat)(d ρ:Nat)(g:Nat->Nat->Nat)(σ:bH)(X:List (Nat×cj)):Prop:=(X.map (·.1)).Nodup/\∀x∈X,σ[x.1]? =some (some x.2)/\x.1≠d/\x.1≠ρ/\∀m k,m<n->k<15->g m k≠x.1
def gD(T:aw)(L:List Nd)(d ρ:Nat)(X:List (Nat×cj))(σ:bH):Prop:=∃g,wo T L d ρ g σ/\RJ L.length d ρ g σ X
theorem wo.lt{T L}{d ρ:Nat}{g:Nat->Nat->Nat}{σ:bH}(h:wo T L d ρ g σ):d<σ.length/\ρ<σ.length:=⟨(Vf.1 h.dd).1,(Vf.1 h.rr).1⟩
theorem wo.N3{T}{L:List Nd}{d ρ:Nat}{g:Nat->Nat->Nat}{σ σ':bH}(h:wo T L d ρ g σ)(hl:σ.length<=σ'.length)(hk:∀i,i<σ.length->(i=d\/i=ρ\/∃n k,n<L.length/\k<15/\i=g n k)->σ'[i]? =σ[i]?):wo T L d ρ g σ':=by
 refine⟨?_,?_,h.dr,λn hn k b a hb=>?_,h.inj,λn hn k a=>⟨by have:=(h.bd n hn k a).1;omega,(h.bd n hn k a).2⟩,h.h8⟩
 ·rw[hk d h.lt.1 (.inl rfl)];exact h.dd
 ·rw[hk ρ h.lt.2 (.inr (.inl rfl))];exact h.rr
 ·rw[hk _ (h.bd n hn k a).1 (.inr (.inr ⟨n,k,hn,a,rfl⟩))];exact h.sp n hn k b a hb
theorem gD.app{T L}{d ρ:Nat}{X:List (Nat×cj)}{σ:bH}(h:gD T L d ρ X σ)(b:cj):gD T L d ρ ((σ.length,b)::X) (σ++[some b]):=by
 obtain⟨g,a,c⟩:=h;refine⟨g,a.N3 (by simp) λi hi _=>Vl hi,Wv.2 ⟨λhm=>?_,c.1⟩,λx hx=>?_⟩
 ·obtain⟨x,hx,e⟩:=Vv.1 hm;have:=(Vf.1 (c.2 x hx).1).1;simp only at e;omega
 rcases V9.1 hx with rfl|hx
 ·exact⟨by simp,by have:=a.lt.1;show σ.length≠d;omega,by have:=a.lt.2;show σ.length≠ρ;omega,λm k hm hk=>by have:=(a.bd m hm k hk).1;show g m k≠σ.length;omega⟩
 ·obtain⟨h1,h2⟩:=c.2 x hx;exact⟨by rw[Vl (Vf.1 h1).1];exact h1,h2⟩
theorem gD.none{T L}{d ρ q:Nat}{b}{X:List (Nat×cj)}{σ:bH}(h:gD T L d ρ ((q,b)::X) σ)(c:Option cj):gD T L d ρ X (σ.set q c):=by
 obtain⟨g,m,f⟩:=h;obtain⟨h1,h2,j,l⟩:=f.2 (q,b) (VC ..);have a:=Wv.1 f.1;have o:∀x∈X,x.1≠q:=λx hx e=>a.1 (Vv.2 ⟨x,hx,e⟩);refine⟨g,m.N3 (by simp) λi hi hc=>VY ?_,a.2,λx hx=>?_⟩
 ·rcases hc with rfl|rfl|⟨n,k,hn,hk,rfl⟩
  ·exact h2
  ·exact j
  ·exact Ne.symm (l n k hn hk)
 ·obtain⟨k1,p⟩:=f.2 x (VB _ hx);exact⟨by rw[VY (Ne.symm (o x hx))];exact k1,p⟩
theorem gD.put{T L}{d ρ q:Nat}{b}{X:List (Nat×cj)}{σ:bH}(h:gD T L d ρ ((q,b)::X) σ)(c:cj):gD T L d ρ ((q,c)::X) (σ.set q (some c)):=by
 obtain⟨g,m,a⟩:=h;obtain⟨h1,h2,j,l⟩:=a.2 (q,b) (VC ..);have f:=Wv.1 a.1;have o:∀x∈X,x.1≠q:=λx hx e=>f.1 (Vv.2 ⟨x,hx,e⟩);refine⟨g,m.N3 (by simp) λi hi hc=>VY ?_,a.1,λx hx=>?_⟩
 ·rcases hc with rfl|rfl|⟨n,k,hn,hk,rfl⟩
  ·exact h2
  ·exact j
  ·exact Ne.symm (l n k hn hk)
 ·rcases V9.1 hx with rfl|hx
  ·exact⟨WC (Vf.1 h1).1,h2,j,l⟩
  ·obtain⟨k1,p⟩:=a.2 x (VB _ hx);exact⟨by rw[VY (Ne.symm (o x hx))];exact k1,p⟩
theorem gD.sub{T L}{d ρ:Nat}{X Y:List (Nat×cj)}{σ}(h:gD T L d ρ X σ)(hs:Y.Sublist X):gD T L d ρ Y σ:=by
 obtain⟨g,b,a⟩:=h;exact⟨g,b,a.1.sublist (hs.map _),λx hx=>a.2 x (hs.subset hx)⟩
theorem gD.perm{T L}{d ρ:Nat}{X Y:List (Nat×cj)}{σ}(h:gD T L d ρ X σ)(hs:X.Perm Y):gD T L d ρ Y σ:=by
 obtain⟨g,b,a⟩:=h;exact⟨g,b,(hs.map _).nodup_iff.1 a.1,λx hx=>a.2 x (hs.mem_iff.2 hx)⟩
theorem sI(L:List Nd)(n m:Nat)(s:Nd)(hn:n<L.length):(L.set n s).getD m FH=if m=n then s else L.getD m FH:=by
 rw[Qo,VV];by_cases h:n=m
 ·subst h;rw[Vn rfl,Vn hn,Vn rfl];rfl
 ·rw[Vk h,Vk (λe=>h e.symm),Qo]
def lQ(g:Nat->Nat):List Nat:=(List.range 15).map g
theorem j3(g:Nat->Nat){k:Nat}(h:k<15):(lQ g)[k]? =some (g k):=by unfold lQ;rw[Vt,cV h];rfl
theorem pI{g:Nat->Nat}{i:Nat}(h:i∈lQ g):∃k,k<15/\g k=i:=by
 obtain⟨k,hk,rfl⟩:=Vv.1 h;exact⟨k,VP.1 hk,rfl⟩
theorem DP(g:Nat->Nat)(m:Nat){k:Nat}(h:k<15):bk (lQ g) m k=g k:=by
 unfold bk;rw[Vn (by simpa[lQ]using h),Qo,j3 g h];rfl
theorem qO(T:aw)(s:Nd){g g':Nat->Nat}(h8:∀x∈az s.nb,x<8)(h:∀k,k<15->g k=g' k):jB T s g=jB T s g':=by
 have h1:B1 g s.nb=B1 g' s.nb:=Wh λx hx=>by rw[h (x.1+7) (by have:=h8 x.1 (Vv.2 ⟨x,hx,rfl⟩);omega)]
 unfold jB L6;rw[h1,h 1 (by omega),h 2 (by omega),h 3 (by omega),h 4 (by omega),h 5 (by omega),h 6 (by omega)]
section
variable {T:aw} {L:List Nd} {d ρ:Nat} {g:Nat->Nat->Nat} {σ:bH}
theorem wo.nodup(D:wo T L d ρ g σ){n:Nat}(hn:n<L.length):(lQ (g n)).Nodup:=by
 unfold lQ;rw[WY,WO];refine X9 (λ{a b} ha hb c e=>?_) (XR (n:=15));exact c (D.inj n n hn hn a b (VP.1 ha) (VP.1 hb) e).2
theorem wo.jh(D:wo T L d ρ g σ){n:Nat}(hn:n<L.length){s':Nd}{g':Nat->Nat}{σ':bH}(o:∀x∈az s'.nb,x<8)(h0:g' 0=g n 0)(hl:σ.length<=σ'.length)
  (hg:∀k,k<15->g' k<σ'.length/\(g' k=g n k\/σ.length<=g' k)) (hj:∀k j,k<15->j<15->g' k=g' j->k=j)
  (hs:∀k b,k<15->(jB T s' g')[k]? =some (some b)->σ'[g' k]? =some (some b)) (hk:∀i,i<σ.length->(∀k,k<15->g n k≠i)->σ'[i]? =σ[i]?) (X:List (Nat×cj)) (r:RJ L.length d ρ g σ X):gD T (L.set n s') d ρ X σ':=by
 have hi:=D.inj;refine⟨λm=>if m=n then g' else g m,⟨?_,?_,D.dr,λm hm k b a hb=>?_,λm1 m2 h1 h2 k j a c e=>?_,λm hm k a=>?_,λm hm x hx=>?_⟩,r.1,λx hx=>?_⟩
 ·rw[hk d D.lt.1 λk a=>(D.bd n hn k a).2.1];exact D.dd
 ·rw[hk ρ D.lt.2 λk a=>(D.bd n hn k a).2.2,D.rr];rw[VK];congr 3;refine Wh λm _=>?_;by_cases e:m=n
  ·subst e;rw[Vn rfl,h0]
  ·rw[Vk e]
 ·rw[VK]at hm;rw[sI L n m s' hn]at hb;by_cases e:m=n
  ·subst e;rw[Vn rfl]at hb;simp only[Xr]at hb ⊢;exact hs k b a hb
  ·rw[Vk e]at hb;simp only[Vk e]at hb ⊢;rw[hk _ (D.bd m hm k a).1 λj c f=>e (hi n m hn hm j k c a f).1.symm];exact D.sp m hm k b a hb
 ·rw[VK]at h1 h2;by_cases l:m1=n
  ·by_cases f:m2=n
   ·rw[Vn l,Vn f]at e;exact⟨l.trans f.symm,hj k j a c e⟩
   ·rw[Vn l,Vk f]at e;rcases(hg k a).2 with h|h
    ·rw[h]at e;exact absurd (hi n m2 hn h2 k j a c e).1.symm f
    ·have:=(D.bd m2 h2 j c).1;omega
  ·by_cases f:m2=n
   ·rw[Vk l,Vn f]at e;rcases(hg j c).2 with h|h
    ·rw[h]at e;exact absurd (hi m1 n h1 hn k j a c e).1 l
    ·have:=(D.bd m1 h1 k a).1;omega
   ·rw[Vk l,Vk f]at e;exact hi m1 m2 h1 h2 k j a c e
 ·rw[VK]at hm;by_cases e:m=n
  ·rw[Vn e];refine⟨(hg k a).1,?_⟩;rcases(hg k a).2 with h|h
   ·rw[h];exact(D.bd n hn k a).2
   ·have:=D.lt;exact⟨by omega,by omega⟩
  ·rw[Vk e];have:=D.bd m hm k a;exact⟨by omega,this.2⟩
 ·rw[VK]at hm;rw[sI L n m s' hn]at hx;by_cases e:m=n
  ·rw[Vn e]at hx;exact o x hx
  ·rw[Vk e]at hx;exact D.h8 m hm x hx
 ·obtain⟨k1,s,t,q⟩:=r.2 x hx;have p:=(Vf.1 k1).1;refine⟨by rw[hk _ p λk a=>q n k hn a];exact k1,s,t,λm k hm a=>?_⟩;rw[VK]at hm;simp only;by_cases e:m=n
  ·rw[Vn e];rcases(hg k a).2 with h|h
   ·rw[h];exact q n k hn a
   ·omega
  ·rw[Vk e];exact q m k hm a
theorem wo.call(D:wo T L d ρ g σ){f q}[aM q]{p}[IsPure p]{n:Nat}(hn:n<L.length){s s':Nd}(he:L.getD n FH=s)(a:∀x∈az s'.nb,x<8)(h:aD prog f (.ptr 0 0::q) (aW T s) (λr σ'=>r=p/\σ'=aW T s')):
  ∃σ',aD prog f (.ptr (g n 0) 0::q) σ (λr σ''=>r=p/\σ''=σ')/\∀X,RJ L.length d ρ g σ X->gD T (L.set n s') d ρ X σ':=by
 have c:=D.nodup hn;have hlt:∀i∈lQ (g n),i<σ.length:=λi hi=>by
  obtain⟨k,hk,rfl⟩:=pI hi;exact(D.bd n hn k hk).1
 refine⟨iJ σ (lQ (g n)) (jB T s' (g n)),Y5 (lQ (g n)) (gu _ c) (V0 (.ptr (j3 _ (by omega))) VT) (vQ (D.h8 n hn) (by simp[lQ]) (λk hk=>j3 _ hk) (D.sp n hn)) (VG.2 λi hi=>Nat.blt_eq.mpr (hlt i hi)) ?_,λX t=>?_⟩
 ·rw[he];refine h.mono ?_;rintro r u ⟨rfl,rfl⟩;refine⟨_,jB T s' (bk (lQ (g n)) σ.length),by simp[lQ,aW,EP,mN],Mw.pure,vR T s' _,rfl,?_⟩;have l:=qO T s' (g:=bk (lQ (g n)) σ.length) (g':=g n) a λk hk=>DP _ _ hk;rw[l];have m:(jB T s' (g n)).drop (lQ (g n)).length=[]:=Wi (by simp[lQ,jB,mN]);rw[m,V6]
 ·refine D.jh hn a rfl (by rw[eI];exact Vh _) (λk hk=>⟨by rw[eI];exact(D.bd n hn k hk).1,.inl rfl⟩) (λk j hk hj e=>(D.inj n n hn hn k j hk hj e).2) (λk b hk hb=>?_) (λi hi o=>?_) X t
  ·rw[rT _ _ _ c hlt (by simp[lQ,jB,mN]) (j3 (g n) hk)];exact hb
  ·exact pQ _ _ _ λhm=>by
    obtain⟨k,hk,e⟩:=pI hm;exact o k hk e
theorem xU:∀(fs:List Nat) (σ τ X:bH),fs.length<=τ.length->iJ σ fs (τ++X)=iJ σ fs τ
 | [],_,_,_,_=>by simp[iJ]
 |_::_,_,[],_,h=>by simp at h
 |i::fs,σ,b::τ,X,h=>by
  simp only[Wt,iJ];exact xU fs _ τ X (by simpa using h)
theorem Ot{g:Nat->Nat}{lk:Nat}(nb:Nb):fB g ((bD c7 (ql 7 lk 15 nb)).map (·.2)) ((bD c7 (B1 (λk=>if k=lk+7 then g 15 else g k) nb)).map (·.2)):=⟨by simp[bD,ql,B1],λj x y h1 h2=>by
 simp only[bD,ql,B1,V7,Vt,Vr]at h1 h2;obtain⟨z,b,rfl⟩:=h1;obtain⟨c,a,rfl⟩:=h2;rw[b]at a;cases a;show Mw _ (.own (if z.1=lk then 15 else z.1+7)) (.own (if z.1+7=lk+7 then g 15 else g (z.1+7)));by_cases e:z.1=lk
 ·rw[Vn e,Vn (by omega)];exact .own rfl
 ·rw[Vk e,Vk (by omega)];exact .own rfl⟩
theorem Oq(lk:Nat)(g:Nat->Nat)(nb:Nb):(bD c7 (ql 7 lk 15 nb)).map (·.1)=(bD c7 (B1 g nb)).map (·.1):=by simp[bD,ql,B1]
theorem wo.R9(D:wo T L d ρ g σ){f M}[aM M]{p}[IsPure p]{n:Nat}(hn:n<L.length){s s':Nd}{lk:Nat}(H:lk<8)(he:L.getD n FH=s)(C:∀x∈az s'.nb,x<8)(h:aD prog f (.ptr 0 0::M) (aW T s) (λr σ'=>r=p/\σ'=iu T s' lk 15++[fT s'.nb lk])):
  ∃σ',aD prog f (.ptr (g n 0) 0::M) σ (λr σ''=>r=p/\σ''=σ')/\∀X,RJ L.length d ρ g σ X->gD T (L.set n s') d ρ X σ':=by
 have z:=D.nodup hn;have hlt:∀i∈lQ (g n),i<σ.length:=λi hi=>by
  obtain⟨k,hk,rfl⟩:=pI hi;exact(D.bd n hn k hk).1
 have⟨G,E⟩:=dw (bk (lQ (g n)) σ.length);have w:G 15=σ.length:=by rw[<-E];unfold bk;rw[Vk (by simp[lQ])];simp[lQ]
 have y:∀k,k<15->G k=g n k:=λk hk=>by rw[<-E];exact DP _ _ hk
 obtain⟨o,t⟩:∃o:Nat->Nat,o=λk=>if k=lk+7 then G 15 else G k:=⟨_,rfl⟩;have l:∀k,k<7->o k=G k:=λk hk=>by rw[t];exact Vk (by omega)
 have u:o (lk+7)=σ.length:=by rw[t];exact(Vn rfl).trans w
 have m:∀k,k<15->k≠lk+7->o k=g n k:=λk hk h=>by rw[t];exact(Vk h).trans (y k hk)
 obtain⟨τ,v⟩:∃τ:bH,τ=[some (.cells 76 (L6 T s' o)),some (.row 84 6 s'.au.length (dz s'.au)),Dz s'.db,some (.cells 158 [.own (o 2)]),some (.mp (bD c7 (B1 o s'.nb))),some (.cells 190 [num 2,.own (o 4)]),fm s'.og]++wG lk s'.nb:=⟨_,rfl⟩;have q:τ.length=15:=by rw[v];rfl
 have a:∀k c,wF lk s'.nb k=some c->E5 G c c:=λk c h=>by
  unfold wF at h;split at h
  ·cases h
  ·exact ku c h
 have F:(τ++[fT s'.nb lk]).drop (lQ (g n)).length=[fT s'.nb lk]:=by
  rw[show(lQ (g n)).length=τ.length by rw[q];simp[lQ]];exact Yb rfl
 have K:iJ σ (lQ (g n)) (τ++[fT s'.nb lk])=iJ σ (lQ (g n)) τ:=xU _ _ _ _ (by rw[q];simp[lQ]);refine⟨iJ σ (lQ (g n)) τ++[fT s'.nb lk],Y5 (lQ (g n)) (gu _ z) (V0 (.ptr (j3 _ (by omega))) VT) (vQ (D.h8 n hn) (by simp[lQ]) (λk hk=>j3 _ hk) (D.sp n hn)) (VG.2 λi hi=>Nat.blt_eq.mpr (hlt i hi)) ?_,λX P=>?_⟩
 ·rw[he];refine h.mono ?_;rintro r Q ⟨rfl,rfl⟩;rw[E];refine⟨_,τ++[fT s'.nb lk],by simp[lQ,iu,CS,wG],Mw.pure,?_,rfl,by rw[F,K]⟩;rw[v];refine .kept (.cells (.cons .pure<|.cons .pure<|.cons .pure<|.cons .pure<|.cons .pure<|.cons .pure<|.cons .pure<|.cons .pure<|.cons .pure<|.cons (.own (l 1 (by omega)).symm)<|.cons .pure<|.cons .pure<|.cons (.ptr (l 3 (by omega)).symm)<|.cons (.ptr (l 5 (by omega)).symm)<|.cons (.ptr (l 6 (by omega)).symm) .nil))<|.kept (.row Ye)<|.kept (.mp rfl Ye)<|.kept (.cells (XN (.own (l 2 (by omega)).symm) Y9))<|.kept (.mp (Oq ..) (by rw[t];exact Ot _))<|.kept (.cells (XN Mw.pure (XN (.own (l 4 (by omega)).symm) Y9)))<|.kept (.cells Ye)<|.opt (a 0)<|.opt (a 1)<|.opt (a 2)<|.opt (a 3)<|.opt (a 4)<|.opt (a 5)<|.opt (a 6)<|.opt (a 7)<|.opt ku .nil
 ·refine D.jh hn C ((l 0 (by omega)).trans (y 0 (by omega))) (by simp[eI]) (λk hk=>?_) (λk j hk hj e=>?_) (λk b hk hb=>?_) (λi hi J=>?_) X P
  ·by_cases e:k=lk+7
   ·subst e;rw[u];exact⟨by simp[eI],.inr (Vh _)⟩
   ·rw[m k hk e];exact⟨by have:=(D.bd n hn k hk).1;simp[eI];omega,.inl rfl⟩
  ·by_cases B:k=lk+7
   ·by_cases A:j=lk+7
    ·omega
    ·rw[B,u,m j hj A]at e;have:=(D.bd n hn j hj).1;omega
   ·by_cases A:j=lk+7
    ·rw[A,u,m k hk B]at e;have:=(D.bd n hn k hk).1;omega
    ·rw[m k hk B,m j hj A]at e;exact(D.inj n n hn hn k j hk hj e).2
  ·by_cases e:k=lk+7
   ·subst e;rw[u,Vq (by rw[eI];exact Vh _),eI,YK];have O:(jB T s' o)[lk+7]? =some (fT s'.nb lk):=lU _ H;rw[O]at hb;exact hb
   ·rw[m k hk e,Vl (by rw[eI];exact(D.bd n hn k hk).1),rT _ _ _ z hlt (by rw[q];simp[lQ]) (j3 (g n) hk)];rw[<-hb,v];by_cases R:k<7
    ·rcases(show k=0\/k=1\/k=2\/k=3\/k=4\/k=5\/k=6 by omega)with rfl|rfl|rfl|rfl|rfl|rfl|rfl<;>rfl
    ·obtain⟨j,rfl⟩:∃j,k=j+7:=⟨k - 7,by omega⟩;have h1:=Ck lk s'.nb (k:=j) (by omega);have h2:(jB T s' o)[j+7]? =some (fT s'.nb j):=lU _ (by omega);rw[h2];have N:wF lk s'.nb j=fT s'.nb j:=Vk (by omega);rw[<-N];exact h1
  ·rw[Vl (by rw[eI];exact hi)];exact pQ _ _ _ λhm=>by
    obtain⟨k,hk,e⟩:=pI hm;exact J k hk e
end
structure gh where
 to:Nat
 lk:Nat
 m:km
def rH(l:gh):List PV:=[num l.to,num l.lk,cE (rI l.m)]
def fy(w:List gh):List PV:=w.flatMap rH
instance (l:gh):aM (rH l):=by unfold rH;infer_instance
instance (l:gh):di (rH l):=by unfold rH;infer_instance
instance (l:List gh):aM (fy l):=Ym _ _ λ_=>inferInstance
instance (l:List gh):di (fy l):=di.flatMap _ _ λ_=>inferInstance
def xE(l:List gh):PV:=.slice l.length (fy l)
instance (l:List gh):IsPure (xE l):=by unfold xE;infer_instance
theorem xD(l:List gh):(fy l).length=l.length*3:=by
 induction l with
 |nil=>rfl
 |cons a l ih=>simp only[fy,Wm,Vu,VI]at*;rw[ih];simp[rH];omega
def Rw:Nat×km:=(0,.df 0 0 0)
theorem LY(l:List (Nat×km))(i:Nat)(hi:i<l.length):((r6 l).drop (i*2)).take 2=FV (l.getD i Rw):=by
 induction l generalizing i with
 |nil=>cases hi
 |cons a l ih=>
  cases i with
  |zero=>simp[r6,FV]
  |succ i=>
   have:=ih i (by simpa using hi);rw[show(i+1)*2=2+i*2 by omega,<-X4];show(((FV a++r6 l).drop 2).drop (i*2)).take 2=_;rw[show(FV a++r6 l).drop 2=r6 l from Yb rfl,this];simp
def Ca(T:aw)(lk n:Nat):Nat:=((bV T.ah lk).a+(bV T.ah lk).b - n).toNat
def ew(T:aw)(n:Nat)(l:List (Nat×km)):List gh:=l.map λx=>⟨Ca T x.1 n,x.1,x.2⟩
def A8(T:aw)(ρ:Nat):cj:=.cells 38 [.raw (.int .i64 T.nodes),aY T.over,.slice T.ah.length (bR T.ah),.own ρ]
def wI(T:aw):bH:=[some (A8 T 1),none]
theorem Cq(T:aw):fF 2 (wI T):=.cons (.cells (.cons .pure<|.cons .pure<|.cons .pure<|.cons (gU (by omega)) .nil))<|(λi b h=>by cases i with
 |zero=>cases h
 |succ i=>simp at h)
theorem Ly(T:aw)(n:Nat)(l:List (Nat×km))(k:Nat)(h:k<l.length):ew T n (l.take (k+1))=ew T n (l.take k)++[⟨Ca T (l.getD k Rw).1 n,(l.getD k Rw).1,(l.getD k Rw).2⟩]:=by
 unfold ew;rw[cL _ _ Rw h,Wu];rfl
theorem D8(l:List gh)(a:gh):fy l++rH a=fy (l++[a]):=by simp[fy]
theorem Cl(T:aw)(n:Nat)(l:List (Nat×km))(hn:n<64)(hT:∀i,i<T.ah.length->(0<=(bV T.ah i).a/\(bV T.ah i).a<64)/\(0<=(bV T.ah i).b/\(bV T.ah i).b<64))(hl:l.length<=100000)(g:∀x∈l,x.1<T.ah.length/\(n:Int)<=(bV T.ah x.1).a+(bV T.ah x.1).b)(h8:T.ah.length<=256):aD prog 27 [.ptr 0 0,num n,lL l] (wI T) (λr σ'=>r=xE (ew T n l)/\σ'=wI T):=by
 refine Xa<|aV func27 I ntmps27 I<|aj (.a 1 I<|.k [0,1,2] I)<|aj (.a 1 I<|.k [0,1,2,7] I)<|fe 7 91 3 I ?_;refine an<|aj (.a 3 I<|.k [0,1,7,10,11,12] I)<|ay<|eX [0,1,7,10,11,12] I<|bq (λr st=>∃k,k<=l.length/\r=l.length - k/\st=⟨[(0,.ptr 0 0),(1,num n),(7,.own 2),(10,lL l),(11,num l.length),(12,num k)],wI T++[some (.row 91 3 k (fy (ew T n (l.take k))))]⟩) l.length ⟨0,by omega,rfl,rfl⟩ ?_;rintro r st ⟨k,hk,rfl,rfl⟩;refine aj (.a 1 I<|.k [0,1,7,10,11,12,13] I)<|an<|ak I (λhc=>?_) (λhc=>?_)
 ·have hlt:k<l.length:=by have:=Vg hc;omega
  have b:=LY l k hlt;have c:=Ly T n l k hlt;have hx:=g (l.getD k Rw) (b9 hlt);generalize l.getD k Rw=x at b c hx;have a:=hx.1;have d:=eM T.ah x.1 0 a (by decide);have e:=eM T.ah x.1 1 a (by decide);have o:=hT x.1 a;have hx2:=hx.2;have h:(bV T.ah x.1).a+(bV T.ah x.1).b - (n:Int)=((Ca T x.1 n:Nat):Int):=by unfold Ca;omega
  have j:decide (0<=((x.1:Nat):Int))=true:=VM (by omega);have m:decide (((x.1:Nat):Int)<(T.ah.length:Int))=true:=VM (by omega);refine ao<|an<|ay<|aK<|aZ (aX (k*2) I) I<|aZ (gr I (b) I) I<|av 2 I<|aF [0,1,7,9,10,11,12] I ?_;refine ev mixed (by kernel_rfl) (.a 2 I<|.v [17] (cT I (j)) I I<|.a 9 I<|.v [21,27] (cT I (m)) I I<|.a 1 I<|.k [0,1,7,9,10,11,12,29] I)<|ak I (λhc=>?_) (λhc=>?_)
  ·refine dE 30 20 mixed (.val [7] I (aP I) I I<|.val [0] I (aP I) I I<|.val [31] I (aP I) I I<|.val [32] I (aP I) I I<|.val [33] I (aP I) I I<|.val [34] I (aP I) I I<|.val [9] I (aP I) I I<|.val [36] I (aP I) I I<|.val [35,37] I (aX (x.1*7) I) I I<|.val [38] I (aP I) I I<|.val [39] I (aO I (d)) I I<|.val [0] I (aP I) I I<|.val [41] I (aP I) I I<|.val [42] I (aP I) I I<|.val [43] I (aP I) I I<|.val [44] I (aP I) I I<|.val [9] I (aP I) I I<|.val [46] I (aP I) I I<|.val [45,47] I (aX (x.1*7) I) I I<|.val [48] I (aP I) I I<|.val [49] I (aO I (e)) I I<|.val [40,50] I (aU I) I I<|.val [1] I (aP I) I I<|.val [51,52] I (aU I (hc:=h)) I I<|.val [9] I (aP I) I I<|.val [54] I (aP I) I I<|.val [9] I (aP I) I I<|.val [56] I (aP I) I I<|.val [53,55,57] I (aP I) I I<|.val [58] I (aP I) I I<|.nil) (by kernel_rfl) I I (aJ (ks:=[0,1,10,11,12,30,59]) I)<|bW (bP I (VW I) I I I I (by unfold maxLen;omega)) I<|av 1 I<|aF [0,1,7,10,11,12] I ?_;refine yS (A:=wI T) (b':=.row 91 3 (k+1) (fy (ew T n (l.take (k+1))))) 2 I (Cq T) (.eZ rfl (by rw[c,<-D8];rfl)) (.c 0<|.c 1<|.cons 7 I (.own (i:=2) I)<|.c 10<|.c 11<|.c 12 .nil) I<|aL (.v (aU I) I<|.a 1 I<|.k [0,1,7,10,11,12] I) ?_;exact⟨l.length - (k+1),by omega,k+1,by omega,rfl,rfl⟩
  ·cases hc
 ·have f:k=l.length:=by have:=Vj hc;omega
  refine bh<|aj (.a 2 I<|.k [6] I)<|sy 6 2 I I ?_;exact aA<|⟨_,V5 I,wI T,_,rfl,Vh _,Cq T,Ren.pure,by rw[f,VN];simp[xE,IN,ew],rfl⟩
theorem wo.post{T L}{d ρ:Nat}{g:Nat->Nat->Nat}{σ}(D:wo T L d ρ g σ){n:Nat}{l:List (Nat×km)}(h:aD prog 27 [.ptr 0 0,num n,lL l] (wI T) (λr σ'=>r=xE (ew T n l)/\σ'=wI T)):aD prog 27 [.ptr d 0,num n,lL l] σ (λr σ'=>r=xE (ew T n l)/\σ'=σ):=by
 refine aD.Qr (σ0:=wI T) [d,ρ] (gu _ (by simp[D.dr])) (V0 (.ptr rfl) VT) (.kept D.dd (.cells (.cons .pure<|.cons .pure<|.cons .pure<|.cons (.own rfl) .nil))<|.gone .nil) (VG.2 λi hi=>Nat.blt_eq.mpr ?_) (h.mono ?_)
 ·have:=D.lt;simp at hi;rcases hi with rfl|rfl
  ·exact this.1
  ·exact this.2
 ·rintro r b ⟨rfl,rfl⟩;refine⟨_,σ,Mw.pure,⟨by simp[wI],λi c hi=>?_⟩,rfl,rfl⟩;have a:=(Vf.1 hi).1;by_cases e:i=d
  ·subst e;rw[D.dd]at hi;cases hi;exact .inr ⟨0,A8 T 1,rfl,.cells (.cons .pure<|.cons .pure<|.cons .pure<|.cons (.own rfl) .nil),.inl ⟨by simp,a,rfl⟩⟩
  ·refine .inl ⟨a,?_,hi⟩;show(!(Nat.beq d i)&&true)=true;have:Nat.beq d i=false:=by
    cases h:Nat.beq d i with
    |false=>rfl
    |true=>exact absurd (VF h).symm e
   rw[this];rfl
end
section
open Go.RowKit cm Mem Net
structure cF (T:aw) (N:Nat):Prop where
 hv:aH T=true
 hN:T.nodes=(N:Int)
 N7:N<=7
 l8:T.ah.length<=8
structure MZ (T:aw) (N lk:Nat) (a b:Nat):Prop where
 ea:(bV T.ah lk).a=(a:Int)
 eb:(bV T.ah lk).b=(b:Int)
 la:a<N
 lb:b<N
 ne:a≠b
 c0:1<=(bV T.ah lk).c0/\(bV T.ah lk).c0<=65535
 c1:1<=(bV T.ah lk).c1/\(bV T.ah lk).c1<=65535
variable {T:aw} {N:Nat}
theorem cF.link(h:cF T N){lk:Nat}(hl:lk<T.ah.length):∃a b:Nat,MZ T N lk a b:=by
 have h1:=nT h.hv lk hl;unfold iY at h1;simp only[Vx,WG,beq_eq_false_iff_ne]at h1;obtain⟨⟨⟨⟨⟨⟨⟨h1,h2⟩,e⟩,f⟩,g⟩,_⟩,_⟩,_⟩:=h1;have c:=Vg h2;have d:=Vg e;rw[h.hN]at c d;exact⟨(bV T.ah lk).a.toNat,(bV T.ah lk).b.toNat,by omega,by omega,by omega,by omega,by omega,kD f,kD g⟩
def gz(T:aw)(n lk m:Nat):Prop:=lk<T.ah.length/\(((bV T.ah lk).a=(n:Int)/\(bV T.ah lk).b=(m:Int))\/((bV T.ah lk).a=(m:Int)/\(bV T.ah lk).b=(n:Int)))
theorem gz.symm{n lk m:Nat}(h:gz T n lk m):gz T m lk n:=⟨h.1,h.2.symm⟩
theorem gz.fn{n lk m m':Nat}(h:gz T n lk m)(k:gz T n lk m'):m=m':=by
 obtain⟨_,h⟩:=h;obtain⟨_,k⟩:=k;omega
theorem gz.ne(hT:cF T N){n lk m:Nat}(h:gz T n lk m):n≠m/\n<N/\m<N:=by
 obtain⟨a,b,hl⟩:=hT.link h.1;obtain⟨_,h⟩:=h;have h1:=hl.ea;have h2:=hl.eb;have:=hl.la;have:=hl.lb;have:=hl.ne;omega
theorem gz.oq(hT:cF T N){n lk m:Nat}(h:gz T n lk m):Ca T lk n=m/\(n:Int)<=(bV T.ah lk).a+(bV T.ah lk).b:=by
 unfold Ca;obtain⟨_,h⟩:=h;omega
theorem cF.hT(h:cF T N):∀i,i<T.ah.length->(0<=(bV T.ah i).a/\(bV T.ah i).a<64)/\(0<=(bV T.ah i).b/\(bV T.ah i).b<64):=λi hi=>by
 obtain⟨a,b,hl⟩:=h.link hi;have:=hl.ea;have:=hl.eb;have:=hl.la;have:=hl.lb;have:=h.N7;omega
theorem cF.hc(h:cF T N)(a:Nat)(ha:a<2*T.ah.length):(0<=bx T a/\bx T a<64)/\(1<=cr T a/\cr T a<=65535):=by
 obtain⟨x,y,hl⟩:=h.link (show a / 2<T.ah.length by omega);have h1:=hl.ea;have h2:=hl.eb;have:=hl.la;have:=hl.lb;have:=h.N7;have c:=hl.c0;have d:=hl.c1;unfold bx bI cr Net.flip;have b:(a+1) / 2=a / 2\/a % 2≠0:=by omega
 by_cases e:a % 2=0
 ·rw[Vn e,Vn e,Vk (by omega),show(a+1) / 2=a / 2 by omega];omega
 ·rw[Vk e,Vk e,Vn (by omega),show(a - 1) / 2=a / 2 by omega];omega
def wL(T:aw)(n:Nat):List (Nat×Nat):=(dQ T n).map λa=>(a / 2,(bx T a).toNat)
theorem Ai(hT:cF T N){n lk m:Nat}:(lk,m)∈wL T n↔gz T n lk m:=by
 unfold wL dQ;rw[Vv];constructor
 ·rintro⟨a,ha,e⟩;obtain⟨h1,h2⟩:=Wk.1 ha;have h1:=VP.1 h1;have h2:bI T a=(n:Int):=by simpa using h2
  simp only[Xp]at e;obtain⟨rfl,rfl⟩:=e;have b:=(hT.hc a h1).1;refine⟨by omega,?_⟩;unfold bx bI Net.flip at*;by_cases e:a % 2=0
  ·rw[Vn e]at h2;rw[Vn e,Vk (by omega),show(a+1) / 2=a / 2 by omega]at b ⊢;exact .inl ⟨h2,by omega⟩
  ·rw[Vk e]at h2;rw[Vk e,Vn (by omega),show(a - 1) / 2=a / 2 by omega]at b ⊢;exact .inr ⟨by omega,h2⟩
 ·rintro⟨h1,h2⟩;rcases h2 with⟨h2,b⟩|⟨h2,b⟩
  ·refine⟨2*lk,Wk.2 ⟨VP.2 (by omega),?_⟩,?_⟩
   ·simp[bI,h2]
   ·have c:Net.flip (2*lk)=2*lk+1:=by unfold Net.flip;rw[Vn (by omega)]
    unfold bx;rw[c];unfold bI;rw[Vk (by omega),show(2*lk+1) / 2=lk by omega,b,show 2*lk / 2=lk by omega];simp
  ·refine⟨2*lk+1,Wk.2 ⟨VP.2 (by omega),?_⟩,?_⟩
   ·unfold bI;rw[Vk (by omega),show(2*lk+1) / 2=lk by omega,b];simp
   ·have c:Net.flip (2*lk+1)=2*lk:=by unfold Net.flip;rw[Vk (by omega)];omega
    unfold bx;rw[c];unfold bI;rw[Vn (by omega),show 2*lk / 2=lk by omega,h2,show(2*lk+1) / 2=lk by omega];simp
theorem Pd(hT:cF T N)(n:Nat):((wL T n).map (·.1)).Pairwise (· < ·):=by
 unfold wL;rw[V7,WO];refine X9 (λ{a b} ha hb f=>?_) (((YU (n:=2*T.ah.length)).sublist Zd):(dQ T n).Pairwise (· < ·));obtain⟨h1,h2⟩:=Wk.1 ha;obtain⟨d,c⟩:=Wk.1 hb;have h1:=VP.1 h1;have d:=VP.1 d;have h2:bI T a=(n:Int):=by simpa using h2
 have c:bI T b=(n:Int):=by simpa using c
 show a / 2<b / 2;rcases Ww (a / 2) (b / 2)with h|h
 ·exact h
 ·have e:b / 2=a / 2:=by omega
  obtain⟨x,y,hl⟩:=hT.link (show a / 2<T.ah.length by omega);have k1:=hl.ea;have g:=hl.eb;have i:=hl.ne;unfold bI at h2 c;rw[e]at c;have:a % 2=0/\b % 2=1:=by omega
  rw[Vn this.1]at h2;rw[Vk (by omega)]at c;omega
theorem Pe(T:aw)(n:Nat):(wL T n).length<=2*T.ah.length:=by unfold wL;rw[Wf];exact xO T n
structure NI (T:aw) (N:Nat) (H:Nat->Nat->Bool×List gG) (f:Nat->Nat) (τ β n:Nat) (s:Nd):Prop where
 nd:s.node=n
 on:s.og.node=n
 sh:s.au.map (λp=>(p.lk,p.ot))=wL T n
 co:∀p∈s.au,1<=p.co/\p.co<=65535
 ma:s.og.made=true
 fl:s.og.floor=f n
 f1:1<=f n
 fb:f n<=β
 cu:(s.og.over,s.og.cU)=H n (f n)
 uo:s.og.over=s.over
 ua:s.og.cU=dS s.au
 ag:s.og.gM<=τ
 tm:s.time<=τ
 dd:DO H f τ N s.db
 nn:(az s.nb).Nodup
 nk:∀lk,(∃p,aN lk s.nb=some p)↔∃q∈s.au,q.lk=lk/\q.ph=2
 pp:∀lk p,aN lk s.nb=some p->PO H f τ N s.db p
 ow:Ge s.db n (f n)
variable {H:Nat->Nat->Bool×List gG} {f:Nat->Nat} {τ β n:Nat} {s:Nd}
def Hq(l:List gO):List Nat:=l.map (·.lk)
theorem EJ{l:List gO}(h:l.map (λp=>(p.lk,p.ot))=wL T n):Hq l=(wL T n).map (·.1):=by
 unfold Hq;rw[<-h,V7];rfl
theorem qM(hT:cF T N){l:List gO}(h:l.map (λp=>(p.lk,p.ot))=wL T n):(Hq l).Pairwise (· < ·):=by rw[EJ h];exact Pd hT n
theorem me(hT:cF T N){l:List gO}(h:l.map (λp=>(p.lk,p.ot))=wL T n){q:gO}(a:q∈l):gz T n q.lk q.ot:=by
 refine(Ai hT).1 ?_;rw[<-h];exact Vv.2 ⟨q,a,rfl⟩
theorem sY(hT:cF T N){l:List gO}(h:l.map (λp=>(p.lk,p.ot))=wL T n):l.length<=16:=by
 have:=V1 List.length h;rw[Wf]at this;have:=Pe T n;have:=hT.l8;omega
theorem vh{l:List gO}(h:(Hq l).Pairwise (· < ·)){i j:Nat}(hj:j<i)(hi:i<l.length):(l.getD j cX).lk≠(l.getD i cX).lk:=by
 unfold Hq at h;rw[WO]at h;have:=W7.1 h j i (by omega) hi hj;rw[Qo,Qo,Vm hi,Vm (show j<l.length by omega)];show l[j].lk≠l[i].lk;omega
theorem tI(hT:cF T N){l:List gO}(h:l.map (λp=>(p.lk,p.ot))=wL T n){lk m:Nat}(ha:gz T n lk m):∃i,i<l.length/\(l.getD i cX).lk=lk/\(l.getD i cX).ot=m/\∀j,j<i->(l.getD j cX).lk≠lk:=by
 have hm:=(Ai hT).2 ha;rw[<-h]at hm;obtain⟨q,c,e⟩:=Vv.1 hm;obtain⟨i,hi,b⟩:=Xi c;simp only[Xp]at e;have a:l.getD i cX=q:=by rw[Qo,Vm hi];exact b
 exact⟨i,hi,by rw[a];exact e.1,by rw[a];exact e.2,λj hj=>by
  have:=vh (qM hT h) hj hi;rw[a,e.1]at this;exact this⟩
theorem BC{l}(h:(Hq l).Pairwise (· < ·)){q r:gO}(a:q∈l)(hr:r∈l)(e:q.lk=r.lk):q=r:=by
 unfold Hq at h;rw[WO]at h;obtain⟨i,hi,rfl⟩:=Xi a;obtain⟨j,hj,rfl⟩:=Xi hr;rcases Zn i j with h1|h1|h1
 ·have:=W7.1 h i j hi hj h1;omega
 ·subst h1;rfl
 ·have:=W7.1 h j i hj hi h1;omega
theorem ka{l:List gO}(h:(Hq l).Pairwise (· < ·)){i:Nat}(hi:i<l.length){p q:gO}(b:q∈l.set i p):q=p\/(q∈l/\q.lk≠(l.getD i cX).lk):=by
 obtain⟨j,hj,rfl⟩:=Xi b;rw[VK]at hj;by_cases e:i=j
 ·subst e;left;simp
 ·right;rw[List.getElem_set_ne e];refine⟨Yl hj,?_⟩;have a:l.getD j cX=l[j]:=by rw[Qo,Vm hj];rfl
  rw[<-a];rcases Ww j i with h1|h1
  ·exact vh h h1 hi
  ·exact Ne.symm (vh h (by omega) hj)
theorem dR{l:List gO}{i:Nat}(hi:i<l.length):l.getD i cX∈l:=b9 hi
theorem CP{l:List gO}{i:Nat}(hi:i<l.length)(p:gO):p∈l.set i p:=VE (i:=i) (by simp[hi])
theorem xH{l:List gO}{i:Nat}{p q:gO}(b:q∈l)(a:q.lk≠(l.getD i cX).lk):q∈l.set i p:=by
 obtain⟨j,hj,rfl⟩:=Xi b;have:i≠j:=λe=>a (by subst e;rw[Qo,Vm hj];rfl);exact VE (i:=j) (by rw[VY this,Vm hj])
theorem EK{l:List gO}{i:Nat}(hi:i<l.length){p:gO}(h1:p.lk=(l.getD i cX).lk)(h2:p.ot=(l.getD i cX).ot):(l.set i p).map (λp=>(p.lk,p.ot))=l.map (λp=>(p.lk,p.ot)):=by
 rw[Yt];refine Wz λj=>?_;rw[VV];by_cases e:i=j
 ·subst e;rw[Vn rfl,Vn (by simpa using hi),Vt];rw[Qo]at h1 h2;rw[Vm hi]at h1 h2 ⊢;simp only[WH,Wj]at h1 h2 ⊢;rw[h1,h2]
 ·rw[Vk e]
theorem Nh{l:List gO}{i:Nat}(hi:i<l.length){p:gO}(h0:p.ph=2↔(l.getD i cX).ph=2)(h1:p.lk=(l.getD i cX).lk)(h2:p.ot=(l.getD i cX).ot)(h:p.co=(l.getD i cX).co):dS (l.set i p)=dS l:=by
 unfold dS;induction l generalizing i with
 |nil=>cases hi
 |cons a l ih=>
  cases i with
  |zero=>
   have b:p.ph=2↔a.ph=2:=h0;have c:p.lk=a.lk:=h1;have d:p.ot=a.ot:=h2;have g:p.co=a.co:=h;by_cases e:a.ph=2
   ·simp[b,e,c,d,g]
   ·simp[b,e]
  |succ i=>
   have:=ih (i:=i) (by simpa using hi) h0 h1 h2 h;by_cases e:a.ph=2
   ·simp only[X0,W6,e,decide_true,Xr,VX,this]
   ·simp only[X0,W6,e,decide_false,Xb,Yo,this]
theorem Ff(hT:cF T N){l:List gO}(h:l.map (λp=>(p.lk,p.ot))=wL T n)(hc:∀p∈l,1<=p.co/\p.co<=65535)(o:Bool):QA n (o,dS l):=by
 refine⟨?_,?_,λx hx=>?_⟩
 ·have:=AL l;have:=sY hT h;show(dS l).length<=256;omega
 ·have:=qM hT h;unfold Hq at this;rw[WO]at this;show(dS l).Pairwise _;unfold dS;rw[WO];exact this.sublist Zd
 ·have hx:x∈dS l:=hx;unfold dS at hx;obtain⟨q,a,rfl⟩:=Vv.1 hx;have a:=(Wk.1 a).1;have ha:=me hT h a;have:=ha.ne hT;have:=hT.N7;have:=ha.1;have:=hT.l8;have:=hc q a;exact⟨by show q.lk<256;omega,by show q.ot≠n;omega,by show q.ot<64;omega,this.1,this.2⟩
theorem NI.jG(hT:cF T N)(h:NI T N H f τ β n s):∀x∈az s.nb,x<8:=λx hx=>by
 obtain⟨p,hp⟩:=fC hx;obtain⟨q,a,rfl,_⟩:=(h.nk x).1 ⟨p,hp⟩;have:=(me hT h.sh a).1;have:=hT.l8;omega
theorem NI.fit(hT:cF T N)(h:NI T N H f τ β n s):s.Fit:=⟨h.jG hT,h.nn,by
 have:=ik 8 _ h.nn (h.jG hT);rw[fj]at this;omega,by have:=sY hT h.sh;omega⟩
theorem NI.mono{H':Nat->Nat->Bool×List gG}{f':Nat->Nat}{b a:Nat}(h:NI T N H f τ β n s)(d:∀o,f o<=f' o)(hn:f' n=f n)(hH:∀o q,q<=f o->H' o q=H o q)(c:τ<=b)(hb:β<=a):NI T N H' f' b a n s:=
 ⟨h.nd,h.on,h.sh,h.co,h.ma,by rw[hn];exact h.fl,by rw[hn];exact h.f1,by rw[hn];exact VL h.fb hb,by rw[hn,hH _ _ (Vh _)];exact h.cu,h.uo,h.ua,VL h.ag c,VL h.tm c,h.dd.mono d hH c,h.nn,h.nk,λlk p hp=>(h.pp lk p hp).mono d hH c,by rw[hn];exact h.ow⟩
end
section
open Go.RowKit cm Mem
section
variable {P:Program}
theorem te{v:Value}{w}{base:Nat}{e}{size n:Nat}{xs}(h:QL w base e size v n xs):bg v=v.ownBlock:=by
 rcases h.2 with⟨rfl,_⟩|⟨g,off,cap,cur,rfl,_⟩<;>rfl
theorem yx{v}{w:World}{base:Nat}{e}{size n:Nat}{xs}(h:QL w base e size v n xs){g off:Nat}{k cap:Nat}(hv:v= .slice (some ⟨g,off,none⟩) k cap):∀(j:Nat) u,xs[j]? =some u->w.cell? ⟨g,off+j,none⟩=some u:=by
 subst hv;rcases h.2 with⟨h,_⟩|⟨d,c,b,cur,hv,_,hg,_,_,_,a⟩
 ·cases h
 ·cases hv;intro j u hu;rw[<-a,Wn]at hu;split at hu
  ·rw[WV]at hu;simp only[World.cell?,hg];simpa using hu
  ·cases hu
theorem sU(w:World)(t ty e:TypeId)(i:TypeInfo)(o:P.underlying t=some (.slice e))(hi:P.info? e=some i)
  (g off b d:Nat) (cur:Array Value) (hg:w.heap[g]? =some (.cells cur e (0,0)))
  (a:Addr) (m c:Nat) (news:List Value) (hl:news.length=m*i.size) (f:∀(j:Nat) u,news[j]? =some u->w.cell? (a.add j)=some u) (h1:∀u∈news,u.oneCell'=true)
  (h:b+m<=d) (k:off+b*i.size+news.length<=cur.size):
  (Builtin.append_ #[t,t] ty #[.slice (some ⟨g,off,none⟩) b d,.slice (some a) m c]).run P w=
   .ok (.slice (some ⟨g,off,none⟩) (b+m) d) (w.setRow g (cur.toList.take (off+b*i.size)++news++cur.toList.drop (off+b*i.size+news.length)).toArray):=by
 have n:=run_firstCells_some (P:=P) w i.size m a m c news hl f;have l:=run_storeCells_at P g (off+b*i.size) e news 0 cur w hg (by simpa using k) h1;simp only[Yf]at l;simp[Builtin.append_,run_underlying o,sizeOf,typeInfo,hi,Builtin.lenOf,h,n,Addr.add_lit,l]
theorem vK{w:World}(base:Nat)(t ty e:TypeId)(i:TypeInfo)(z:Value)(size bytes:Nat)(G:P.underlying t=some (.slice e))(hi:P.info? e=some i)(H:i.zero=some z)
  (p:i.size=size) (s:i.bytes=bytes) (A:z.cells.size=size) (F:0<size)
  (v:Value) (n:Nat) (xs:List Value) (b:QL w base e size v n xs)
  (a:Addr) (m c:Nat) (news:List Value) (hl:news.length=m*size) (d:∀(j:Nat) u,news[j]? =some u->w.cell? (a.add j)=some u) (h1:∀u∈news,u.oneCell'=true)
  (q:n+m<=maxLen) (h:(n+m)*bytes<=140737488355328) (o:base<=w.heap.size):
  ∃v' w',(Builtin.append_ #[t,t] ty #[v,.slice (some a) m c]).run P w= .ok v' w'/\QL w' base e size v' (n+m) (xs++news)/\w.grownBy w' v.ownBlock/\(v'.ownBlock=v.ownBlock\/v'.ownBlock=some w.heap.size):=by
 rcases b.2 with⟨rfl,rfl⟩|⟨g,off,cap,cur,rfl,C,hg,O,D,N,r⟩
 ·obtain⟨v',w',h2,K,L,M⟩:=mT (P:=P) (w:=w) base t ty e i z size bytes G hi H p s A F (.slice none 0 0) 0 xs ⟨b.1,.inl ⟨rfl,rfl⟩⟩ a m c news hl d h1 q h o;exact⟨v',w',h2,K.win,L,M⟩
 ·subst p;subst s;have B:n+m<=9223372036854775807:=by simp only[maxLen]at q;omega
  have l:(xs++news).length=(n+m)*i.size:=by rw[Vu,b.1,hl,Zq]
  by_cases f:n+m<=cap
  ·have hle:(n+m)*i.size<=cap*i.size:=XD _ f;rw[Zq]at hle;have y:off+n*i.size+news.length<=cur.size:=by rw[hl];omega
   have hr:=sU (P:=P) w t ty e i G hi g off n cap cur hg a m c news hl d h1 f y;refine⟨_,_,hr,⟨l,.inr ⟨g,off,cap,_,rfl,C,setRow_heap w g cur _ e _ hg,f,D,?_,?_⟩⟩,⟨rfl,rfl,rfl,by simp,λk _ hk=>setRow_other w g k _ (λe=>hk (by simp[Value.ownBlock,e]))⟩,.inl rfl⟩
   ·simp only[Xl,Vu,V8,XY,V3];omega
   ·have R:xs.length=n*i.size:=b.1;have J:cur.toList.take (off+n*i.size)=cur.toList.take off++xs:=by rw[List.take_add,r]
    have Q:(cur.toList.take off).length=off:=by rw[V8,V3];omega
    show(List.drop off (cur.toList.take (off+n*i.size)++news++cur.toList.drop (off+n*i.size+news.length))).take ((n+m)*i.size)=_;rw[J,VU,VU,XS (by omega),Wi (by omega),WJ,<-VU,<-l];exact List.take_left
  ·have holds:∀(j:Nat) u,xs[j]? =some u->w.cell? ((⟨g,off,none⟩:Addr).add j)=some u:=λj u hu=>by
    rw[Addr.add_lit];exact yx b rfl j u hu
   have hr:=run_append_grow (P:=P) w t ty e i z G hi H ⟨g,off,none⟩ n cap xs b.1 holds a m c news hl d (by omega) (by omega) (growslice_fits (by omega) h);have E:=grownCap_ge w (n+m) cap e;have x:grownCap w (n+m) cap e<=maxLen:=grownCap_le_maxLen w (n+m) cap e q;refine⟨_,_,hr,World.ownsRow.win ⟨l,.inr ⟨w.heap.size,_,_,rfl,o,heap_alloc_new w.drew _,E,x,?_,?_⟩⟩,⟨rfl,rfl,rfl,by simp,λk hk _=>((XH w.drew).alloc _).block k hk⟩,.inr rfl⟩
   ·simp only[Array.size_append,Xl,size_zeroCells,A,b.1,hl,<-Zq];congr 1;omega
   ·simp only[XW,VU];rw[<-VU,<-l];exact List.take_left
variable {σ:bH} {t:cd} {o:Oper}
theorem MC{ty e s n d s':Nat}{x:Operand}{m:Nat}{xs:List PV}(ho:o.op= .call {callee:=.builtin .len,args:= #[x],argTypes:= #[ty]})(he:uX P ty=some (e,s))(hx:aI t x=some (.own m))(hm:σ[m]? =some (some (.win d s' n xs))):bE P σ t o (.raw (.int .i64 n)):=by
 intro F base E ρ w b f hT;have h1:=aB b hT hx;obtain⟨hu,_⟩:=gj he;generalize j:ρ x=z at h1;cases h1 with
 |own _ i _ h _=>
  obtain⟨cs,k1,k⟩:=f.blk m _ hm;have:∃a c,z= .slice a n c:=by
   rcases k1.2 with⟨hv,h0⟩|⟨g,off,cap,cur,hv,_⟩
   ·rw[hv]at h;subst h;subst h0;exact⟨_,_,rfl⟩
   ·rw[hv]at h;subst h;exact⟨_,_,rfl⟩
  obtain⟨a,c,rfl⟩:=this;simp[execOp,ho,resolve,invoke,builtin,Builtin.len_,j,run_underlying hu,goInt];exact bA (.raw _)
theorem D2{ty e s m n i:Nat}{x lo}{xs:List PV}{k}(ho:o.op= .slice ty x (some lo) none none)(he:uX P ty=some (e,s))(hx:aI t x=some (.own i))(hi:σ[i]? =some (some (.win m s (n+1) xs)))(q:aI t lo=some (.raw (.int k 1))):
  de P σ t o (.own σ.length) (σ.set i none++[some (.win m s n (xs.drop s))]):=by
 intro F base E ρ w l p hT;have h1:=aB l hT hx;have h2:=aB l hT q;obtain⟨hu,inf,h,hs⟩:=gj he;generalize Q:ρ x=v at h1;generalize z:ρ lo=u at h2;cases h2;cases h1 with
 |own _ K _ d A=>
  obtain⟨cs,k1,R⟩:=p.blk i _ hi;rw[d]at k1;have O:bg (E.at_ i)=v.ownBlock:=by rw[d];exact te k1
  have f:=k1.1;rcases k1.2 with⟨rfl,h0⟩|⟨g,off,cap,cur,rfl,hb,hg,M,H,J,y⟩
  ·omega
  ·obtain⟨a,c,hr⟩:∃a,(a+(cap - 1)*s<=cur.size/\(n=0\/a=off+s))/\(execOp ρ o).run P w= .ok (.value (.slice (some ⟨g,a,none⟩) n (cap - 1))) w:=by
    have C:1<=cap:=by omega
    have D:(1:Int)<=(n:Int)+1:=by omega
    have L:(cap - 1)*s+s=cap*s:=by rw[<-XL];congr 1;omega
    refine⟨if cap=1 then off else off+s,⟨?_,?_⟩,?_⟩
    ·split<;>omega
    ·split<;>omega
    ·have hr:(execOp ρ o).run P w= .ok (.value (.slice (some (if cap=1 then⟨g,off,none⟩ else if s=0 then⟨g,off,none⟩ else⟨g,off+s,none⟩)) n (cap - 1))) w:=by
      by_cases hc:cap=1<;>by_cases h0:s=0<;>simp[execOp,ho,Q,z,Instr.sliceAt,run_underlying hu,Instr.slice,Instr.sliceBounds,Instr.sliceBound,asIntOf,sizeOf,typeInfo,h,Addr.add,C,D,hs,hc,h0]
     rw[hr];by_cases hc:cap=1
     ·simp[hc]
     ·by_cases h0:s=0<;>simp[hc,h0]
   have r:(n+1)*s=n*s+s:=XL n s;have j:QL w base m s (.slice (some ⟨g,a,none⟩) n (cap - 1)) n (cs.drop s):=⟨by rw[XY,f];omega,.inr ⟨g,a,cap - 1,cur,rfl,hb,hg,by omega,by omega,c.1,by
    rcases c.2 with h0|h0
    ·subst h0;have G:cs.drop s=[]:=Wi (by rw[f];omega);rw[G];simp
    ·subst h0;rw[<-y,r,YJ (n*s) s,YY,X4];congr 1;omega⟩⟩
   obtain⟨B,a2⟩:=p.swap (w':=w) (blk:=.win m s n (xs.drop s)) hi (Vh _) (λk hk N=>rfl) (v:=.slice (some ⟨g,a,none⟩) n (cap - 1)) (λb hb=>by
    rw[d];exact .inl hb) (λE' g=>⟨_,j,(R.drop s).goes g⟩)
   exact⟨_,w,_,.inl hr,B,a2,Yh _ _ _,.own σ.length (by simp[Env.push,Env.kill,p.len]) _ (by simp[Env.push,Env.kill,p.len]) I⟩
theorem BJ{ty e s q n m i:Nat}{z:List Value}{xs ys:List PV}{x y:Operand}(ho:o.op= .call {callee:=.builtin .append,args:= #[x,y],argTypes:= #[ty,ty]})(hk:Ae P ty=some (e,s,q,z))(hx:aI t x=some (.own i))(hi:σ[i]? =some (some (.win e s n xs)))
  (hy:aI t y=some (.slice m ys)) (hl:ys.length=m*s) (hn:n+m<=maxLen/\(n+m)*q<=140737488355328) [di ys]:
  de P σ t o (.own σ.length) (σ.set i none++[some (.win e s (n+m) (xs++ys))]):=by
 intro F base E ρ w D l hT;have h1:=aB D hT hx;have h2:=pj (aB D hT hy);generalize B:ρ x=v at h1;generalize C:ρ y=u at h2;obtain⟨hu,inf,Z,d,hs,H,T,U,N,A⟩:=pU hk;cases h1 with
 |own _ S _ r O=>
  obtain⟨cs,k1,V⟩:=l.blk i _ hi;rw[r]at k1;have p:bg (E.at_ i)=v.ownBlock:=by rw[r];exact te k1
  have hlt:∀k,v.ownBlock=some k->base<=k:=λk hk=>((l.blk i _ hi).lt (b:=k) (by rw[p];exact hk)).1;have key:∀v' w',(execOp ρ o).run P w= .ok (.value v') w'->∀news,bn E w news ys->QL w' base e s v' (n+m) (cs++news)->w.grownBy w' v.ownBlock->(v'.ownBlock=v.ownBlock\/v'.ownBlock=some w.heap.size)->
    ∃v w' E',((execOp ρ o).run P w= .ok (.value v) w'\/(v=undef/\(execOp ρ o).run P w= .ok .skip w'))/\Sat F base (σ.set i none++[some (.win e s (n+m) (xs++ys))]) E' w'/\c8 E w E' w'/\iE F base w w'/\dj E' w' v (.own σ.length):=by
   intro v' w' hr news L f hg hw;have M:∀b,bg v'=some b->bg (E.at_ i)=some b\/w.heap.size<=b:=λb hb=>by
    rw[te f]at hb;rcases hw with h|h
    ·rw[p,<-h];exact .inl hb
    ·rw[h]at hb;cases hb;exact .inr (Vh _)
   obtain⟨Q,a2⟩:=l.swap (w':=w') (blk:=.win e s (n+m) (xs++ys)) hi hg.size (λk hk K=>hg.block k hk (by rw[<-p];exact Ne.symm K)) M (λE' g=>⟨cs++news,f,(V.append L).goes g⟩);refine⟨v',w',_,.inl hr,Q,a2,⟨⟨hg.os,hg.tape,hg.output,hg.size,λk hk=>hg.block k (VS hk l.bl) (λe=>?_)⟩,λk hk=>hg.block k (l.fb k hk).1 (λe=>(l.fb k hk).2 i _ hi (p.trans e.symm))⟩,.own σ.length (by simp[Env.push,Env.kill,l.len]) v' (by simp[Env.push,Env.kill,l.len]) ?_⟩
   ·have:=hlt k e.symm;omega
   ·rcases f.2 with⟨rfl,_⟩|⟨R,off,cap,cur,rfl,_⟩<;>rfl
  rcases h2 with⟨rfl,rfl,rfl⟩|⟨a,c,news,rfl,hc,G⟩
  ·have hr:(execOp ρ o).run P w= .ok (.value v) w:=by
    have j:(Builtin.append_ #[ty,ty] o.type #[v,.slice none 0 0]).run P w= .ok v w:=by
     rcases k1.2 with⟨rfl,_⟩|⟨R,off,cap,cur,rfl,_,hg,J,_⟩
     ·simp[Builtin.append_,run_underlying hu,sizeOf,typeInfo,d,Builtin.lenOf,Builtin.firstCells,loadCells,loadCellsFrom]
     ·simp[Builtin.append_,run_underlying hu,sizeOf,typeInfo,d,Builtin.lenOf,Builtin.firstCells,J,storeCells]
    simp[execOp,ho,resolve,invoke,builtin,B,C,j]
   exact key v w hr [] (Yn _ _) (by simpa using k1) ⟨rfl,rfl,rfl,Vh _,λ_ _ _=>rfl⟩ (.inl rfl)
  ·obtain⟨v',w',j,W,X,Y⟩:=vK (P:=P) (w:=w) base ty o.type e inf Z s q hu d T hs H N A v n cs k1 a m c news (by rw[G.1,hl]) hc G.rN hn.1 hn.2 l.bl;have hr:(execOp ρ o).run P w= .ok (.value v') w':=by
    simp only[execOp,ho,resolve,invoke,builtin,Sem.run_bind,Sem.run_pure,Result.andThen_ok,XF,VX,Xw,B,C,j]
   exact key v' w' hr news G W X Y
end
open Go.ChangeMaps
section
variable {P:Program} {N L:Nat} {ops:Array Oper} {σ:bH} {t:cd} {o:Oper}
theorem QJ{c}{Q:Exit->St->Prop}(i:Nat){kv:List (Value×PV)}(hi:σ[i]? =some (some (.mp kv)))(h:∀bs ck,bs.length=kv.length->bs.Nodup->(∀b∈bs,b<ck)->W P N L c ⟨t,σ.set i (some (.mK kv bs ck))⟩ Q):W P N L c ⟨t,σ⟩ Q:=λF base E₀ w₀ E a w hc hs=>by
 obtain⟨r,j,ck,hr,hb,e,d,g⟩:=hs.sat.blk i _ hi;have k:bg (E.at_ i)=some r:=by rw[hr];rfl
 have f:=(MapKept.stamped_iff j ck).1 d.2;have hn:=hs.sat.ta (w':=w) (bi':=.mK kv (j.toList.map (·.born)) ck) hi k (Vh _) (λ_ _ _=>rfl) ⟨r,j,hr,hb,e,d,rfl,g⟩;refine h _ ck ?_ f.2.1 (λb hb=>?_) F base E₀ w₀ E a w hc ⟨hn.1,hs.tmp,hs.lO,hs.size⟩
 ·have:=V1 List.length d.1;simpa using this
 ·obtain⟨x,hx,rfl⟩:=Vv.1 hb;exact f.1 x hx
theorem U4{c}{Q:Exit->St->Prop}(i:Nat){kv}{bs:List Nat}{ck:Nat}(hi:σ[i]? =some (some (.mK kv bs ck)))(h:W P N L c ⟨t,σ.set i (some (.mp kv))⟩ Q):W P N L c ⟨t,σ⟩ Q:=λF base E₀ w₀ E a w hc hs=>by
 obtain⟨r,g,hr,hb,b,d,_,e⟩:=hs.sat.blk i _ hi;have f:bg (E.at_ i)=some r:=by rw[hr];rfl
 have hn:=hs.sat.ta (w':=w) (bi':=.mp kv) hi f (Vh _) (λ_ _ _=>rfl) ⟨r,g,ck,hr,hb,b,d,e⟩;exact h F base E₀ w₀ E a w hc ⟨hn.1,hs.tmp,hs.lO,hs.size⟩
theorem N9{mt kt g i ck:Nat}{x kv}{bs:List Nat}(ho:o.op= .range mt x)(hm:qd P mt=some (kt,g))(hx:aI t x=some (.own i))(hi:σ[i]? =some (some (.mK kv bs ck))):de P σ t o (.ptr σ.length 0) (σ++[some (.oB i ck #[] ck)]):=by
 intro F base E ρ w f c hT;have h1:=aB f hT hx;generalize n:ρ x=v at h1;cases h1 with
 |own _ m _ d _=>
  obtain⟨r,l,hr,hb,a,j,_,k⟩:=c.blk i _ hi;rw[d]at hr;subst hr;have e:=run_range_map (P:=P) w mt kt g r l ck (i6 hm) a;have h:Ext w (w.alloc (.mapIter (some r) ck #[] ck)):=(XH w).alloc _;have hp:=c.push h (v:=.pointer (some ⟨w.heap.size,0,none⟩)) (blk:=.oB i ck #[] ck) (λb hb=>by simp[bg]at hb;omega) ⟨w.heap.size,r,rfl,c.bl,(MapKept.heap_alloc w _).1,by show i<E.L+1;omega,by
   show(if i=E.L then _ else E.at_ i)=_;rw[Vk (by omega)];exact d⟩
  refine⟨_,_,_,.inl ?_,hp.1,hp.2,.iB h c,.ptr σ.length 0 w.heap.size (by simp[Env.push,c.len]) (.inl (by simp[Env.push,c.len]))⟩;simp only[execOp,ho,n,Sem.run_bind,e,Result.andThen_ok,Sem.run_pure]
theorem Tp{b:Array MapEntry}{kv:List (Value×PV)}{bs:List Nat}(hk:b.toList.map (·.key)=kv.map (·.1))(hb:b.toList.map (·.born)=bs){e:MapEntry}(he:e∈b.toList):∃(n:Nat) (p:PV),b.toList[n]? =some e/\bs[n]? =some e.born/\kv[n]? =some (e.key,p):=by
 obtain⟨n,hn⟩:=W8 he;have h1:=V1 (·[n]?) hk;have h2:=V1 (·[n]?) hb;simp only[Vt,hn,Wj]at h1 h2;cases a:kv[n]? with
 |none=>rw[a]at h1;cases h1
 |some x=>
  obtain⟨k,p⟩:=x;rw[a]at h1;simp only[Wj,WE]at h1;subst h1;exact⟨n,p,hn,h2.symm,a⟩
theorem M4{i j since c ck d:Nat}{x rest}{K:St->Prop}{kv}{bs:List Nat}{seen:Array Nat}(ho:o.op= .next x false)(hx:aI t x=some (.ptr j 0))(hj:σ[j]? =some (some (.oB i since seen c)))(hi:σ[i]? =some (some (.mK kv bs ck)))(Z:∀b∈bs,b<since)(ah:since<=c)(hd:o.dst=some d)(hw:eL ops t o=some true)(hN:Nat.blt d N=true)
  (h0:(∀b∈bs,b∈seen)->WR P N L ops rest ⟨(d,.tuple [.raw (.bool false)])::t,σ⟩ K)
  (h1:∀(n b:Nat) (k:Value) (p:PV),bs[n]? =some b->b∉seen->kv[n]? =some (k,p)->WR P N L ops rest ⟨(d,.tuple [.raw (.bool true),.raw k,p])::t,σ.set j (some (.oB i since (seen.push b) ck))⟩ K):WR P N L ops (o::rest) ⟨t,σ⟩ K:=by
 refine nt hw λF base E a w hs next Q hn=>?_
 have D:=hs.sat
 have U:=aB (fZ a) hs.tmp hx;generalize hz:a.eval x=v at U;obtain⟨r,C,hr,G,l,ad,M⟩:=D.blk j _ hj;obtain⟨r2,X,V,aj,z,S,g,W⟩:=D.blk i _ hi;rw[V]at M;cases M;cases U with
 |ptr _ _ b ak hb=>
  have Y:b=r:=by
   rcases hb with hb|⟨_,_,hb⟩<;>rw[hr]at hb<;>cases hb
   rfl
  subst Y;have hold:∀x∈X.toList,x.born<since:=λx hx=>Z _ (by rw[<-g];exact Vv.2 ⟨x,hx,rfl⟩);have R:bg (E.at_ j)=some b:=by rw[hr];rfl
  have ai:b<w.heap.size:=(Vs.1 l).1;rcases run_next_at (P:=P) w o.type b C since c seen X ck l z hold ah with⟨hl,q⟩|⟨e,he,A,s,q⟩
  ·have J:∀y∈bs,y∈seen:=λy hy=>by
    rw[<-g]at hy;obtain⟨x,hx,rfl⟩:=Vv.1 hy;have:=all_seen X seen hl x hx;simpa using this
   have hex:(execOp a.eval o).run P w= .ok (.value (.tuple #[.bool false])) w:=by
    simp only[execOp,ho,hz,Sem.run_bind,q,Result.andThen_ok,Sem.run_pure]
   unfold Oper.wp;rw[hex];simp only[Oper.upon,hd];refine hn _ w _ E (h0 J) (hs.put D (YN _ _) hN (.tuple #[.bool false] [.raw (.bool false)] I λn x u k1 h=>?_)) (YN _ _) (Yh _ _ _);cases n with
   |zero=>simp at k1 h;subst k1;subst h;exact .raw _
   |succ n=>simp at k1
  ·obtain⟨aa,ab⟩:=mem_left he;obtain⟨n,p,ae,af,T⟩:=Tp S.1 g aa;have ag:e.born∉seen:=by simpa using ab
   have H:A.heap=w.heap:=by rcases s with rfl|rfl<;>rfl
   have hex:(execOp a.eval o).run P w= .ok (.value (.tuple #[.bool true,e.key,e.val])) (setBlock A b (.mapIter (some C) since (seen.push e.born) ck)):=by
    simp only[execOp,ho,hz,Sem.run_bind,q,Result.andThen_ok,Sem.run_pure]
   have oq:∀k,k<w.heap.size->k≠b->(setBlock A b (.mapIter (some C) since (seen.push e.born) ck)).heap[k]? =w.heap[k]? :=λk _ hk=>by
    show(A.heap.setIfInBounds b _)[k]? =_;rw[fq,Vk (by rintro⟨rfl,_⟩;exact hk rfl),H]
   have B:w.heap.size<=(setBlock A b (.mapIter (some C) since (seen.push e.born) ck)).heap.size:=by
    show _<=(A.heap.setIfInBounds b _).size;simp[H]
   have f:=D.ta (w':=setBlock A b (.mapIter (some C) since (seen.push e.born) ck)) (bi':=.oB i since (seen.push e.born) ck) hj R B oq ⟨b,C,hr,G,by
    show(A.heap.setIfInBounds b _)[b]? =_;rw[fq,Vn ⟨rfl,by rw[H];exact ai⟩],ad,V⟩
   have O:iE F base w (setBlock A b (.mapIter (some C) since (seen.push e.born) ck)):=⟨⟨by rcases s with rfl|rfl<;>rfl,by rcases s with rfl|rfl<;>rfl,by rcases s with rfl|rfl<;>rfl,B,λk hk=>oq k (VS hk D.bl) (by omega)⟩,λk hk=>oq k (D.fb k hk).1 (λe=>(D.fb k hk).2 j _ hj (by rw[e];exact R))⟩;unfold Oper.wp;rw[hex];simp only[Oper.upon,hd];refine hn _ _ _ E (h1 n e.born e.key p af ag T) (hs.put f.1 f.2 hN (.tuple _ [.raw (.bool true),.raw e.key,p] I λm x u k1 h=>?_)) f.2 O
   match m,k1,h with
   |0,k1,h=>simp at k1 h;subst k1;subst h;exact .raw _
   |1,k1,h=>simp at k1 h;subst k1;subst h;exact .raw _
   |2,k1,h=>
    simp at k1 h;subst k1;subst h;refine(W.2 n e.val p ?_ ?_).goes f.2
    ·rw[Vt,ae];rfl
    ·rw[Vt,T];rfl
   |m+3,k1,_=>simp at k1
theorem PA{i j since ck n b:Nat}{x kv}{bs:List Nat}{seen:Array Nat}{k p}(ho:o.op= .entry x)(hx:aI t x=some (.ptr j 0))(hj:σ[j]? =some (some (.oB i since (seen.push b) ck)))(hi:σ[i]? =some (some (.mK kv bs ck)))(hb:bs[n]? =some b)(hn:bs.Nodup)(s:kv[n]? =some (k,p)):bE P σ t o (.tuple [.raw k,p]):=by
 intro F base E ρ w J K hT;have y:=aB J hT hx;generalize S:ρ x=v at y;obtain⟨r,M,hr,B,g,R,l⟩:=K.blk j _ hj;obtain⟨T,e,H,O,d,q,a,A⟩:=K.blk i _ hi;rw[H]at l;cases l;cases y with
 |ptr _ _ b' Q c=>
  have D:b'=r:=by
   rcases c with c|⟨_,_,c⟩<;>rw[hr]at c<;>cases c
   rfl
  subst D;have vf:n<e.toList.length:=by
   have:=V1 List.length a;simp only[Wf]at this;rw[this];exact(Vf.1 hb).1
  have f:e.toList[n]? =some e.toList[n]:=Vm vf;have C:e.toList[n].born=b:=by
   have:=V1 (·[n]?) a;simp only[Vt,f,Wj]at this;rw[hb]at this;exact XA this
  have G:e.toList[n].key=k:=by
   have:=V1 (·[n]?) q.1;simp only[Vt,f,s,Wj]at this;exact XA this
  have z:=run_entry_at (P:=P) w b' M since seen e ck e.toList[n] (by rw[C];exact g) d (Yl vf) (by rw[a];exact hn);simp only[execOp,ho,S,Sem.run_bind,z,Result.andThen_ok,Sem.run_pure];refine bA (.tuple _ _ rfl λm x u k1 h=>?_)
  match m,k1,h with
  |0,k1,h=>simp at k1 h;subst k1;subst h;rw[<-G];exact .raw _
  |1,k1,h=>
   simp at k1 h;subst k1;subst h;refine A.2 n _ p ?_ ?_
   ·rw[Vt,f];rfl
   ·rw[Vt,s];rfl
  |m+2,k1,_=>simp at k1
end
section
variable {P:Program} {kt:TypeId} {κ:Type} [DecidableEq κ] {enc:κ->Value} {σ:bH} {t:cd} {o:Oper}
theorem KE(M:jK P kt enc){i j mt Y ck:Nat}{x T y}{l:List (κ×PV)}{bs:List Nat}{k pk p}(ho:o.op= .mapUpdate mt x T y)(hm:qd P mt=some (kt,Y))(hx:aI t x=some (.own i))(hi:σ[i]? =some (some (.mK (bD enc l) bs ck)))(hp:aI t T=some pk)(hk:uC pk (enc k))(hy:aI t y=some p)(H:eS k (l.map (·.1)) 0=some j):
  de P σ t o (.raw undef) (σ.set i (some (.mK (bD enc (l.set j (k,p))) bs ck))):=by
 intro F base E ρ w C D hT;have h1:=aB C hT hx;have h2:=hk _ _ _ (aB C hT hp);have Z:=aB C hT hy;generalize hz:ρ x=v at h1;cases h1 with
 |own _ aa _ G _=>
  obtain⟨r,d,hr,hb,c,f,z,s⟩:=D.blk i _ hi;have u:bg (E.at_ i)=some r:=by rw[hr];rfl
  have R:r<w.heap.size:=(Vs.1 c).1;rw[G]at hr;subst hr;have a:d.toList.map (·.key)=(l.map (·.1)).map enc:=by rw[f.1];simp[bD]
  have N:=rZ M k w (l.map (·.1)) d.toList a;have S:(bD enc l).map (·.2)=l.map (·.2):=by simp[bD]
  rw[S]at s;obtain⟨_,hj⟩:=iN H;simp only[Yq]at hj;have J:j<l.length:=by have:=(Vf.1 hj).1;simpa using this
  have A:j<d.toList.length:=by have:=V1 List.length a;simp at this;rw[V3];omega
  have b:j<d.size:=by simpa using A
  have O:l[j].1=k:=by have:=Vf.1 hj;obtain⟨h,e⟩:=this;simpa using e
  have K:d[j].key=enc k:=by
   have:=V1 (·[j]?) a;simp only[Vt,Vm A,Vm J,Wj,WE,O]at this;simpa using this
  rw[H]at N;simp only[Wq,Vm A,Wj]at N;have hks:(Instr.keyThatStays ((Option.map (λx=>x.key) d[j]?).getD (enc k)) (enc k)).run P w= .ok (enc k) w:=by
   rw[XK b,Wj,WH,K];simp only[Instr.keyThatStays,M.bits,Xr,Sem.run_pure]
  have L:(Instr.mapUpdate mt (.map (some r)) (enc k) (ρ y)).run P w= .ok () {w with heap:=w.heap.setIfInBounds r (.map (d.modify j λe=> {e with key:=enc k,val:=ρ y}) ck)}:=by
   simp only[Instr.mapUpdate,Sem.run_bind,run_underlying (i6 hm),Result.andThen_ok,MapKept.run_getObj_map c,M.qv,N,hks,MapKept.run_setObj_map _ c]
  have oq:∀q,q<w.heap.size->q≠r->({w with heap:=w.heap.setIfInBounds r (.map (d.modify j λe=> {e with key:=enc k,val:=ρ y}) ck)}:World).heap[q]? =w.heap[q]? :=λq _ m=>by
   show(w.heap.setIfInBounds r _)[q]? =_;rw[fq,Vk (by rintro⟨rfl,_⟩;exact m rfl)]
  have B:w.heap.size<=({w with heap:=w.heap.setIfInBounds r (.map (d.modify j λe=> {e with key:=enc k,val:=ρ y}) ck)}:World).heap.size:=by simp
  have Q:E.M r:=(D.mm r).2 (.inr ⟨i,_,hi,u⟩);have g:c8 E w E {w with heap:=w.heap.setIfInBounds r (.map (d.modify j λe=> {e with key:=enc k,val:=ρ y}) ck)}:=⟨Vh _,λ_ _=>rfl,λ_ _ h=>h,B,λq m hM=>oq q m (λe=>hM (by rw[e];exact Q))⟩;have U:(d.modify j λe=> {e with key:=enc k,val:=ρ y}).toList.map (·.val)=(d.toList.map (·.val)).set j (ρ y):=by
   refine Wz λn=>?_;simp only[Vt,Xj,X2,VV];by_cases hn:j=n
   ·subst hn;simp[b]
   ·simp only[Vk hn]
  have V:(bD enc (l.set j (k,p))).map (·.2)=(l.map (·.2)).set j p:=by simp[bD,Yt,Yx]
  have W:(d.modify j λe=> {e with key:=enc k,val:=ρ y}).toList.map (·.key)=(bD enc (l.set j (k,p))).map (·.1):=by
   refine Wz λn=>?_;simp only[bD,V7,Vt,Xj,X2,VV];by_cases hn:j=n
   ·subst hn;simp[b,J]
   ·have:=V1 (·[n]?) a;simp only[Vt,Xj]at this;simp only[Vk hn,this,Zk]
    rfl
  have X:(d.modify j λe=> {e with key:=enc k,val:=ρ y}).toList.map (·.born)=bs:=by
   rw[<-z];refine Wz λn=>?_;simp only[Vt,Xj,X2];by_cases hn:j=n
   ·subst hn;simp[b]
   ·simp only[Vk hn]
  have hn:=D.ta (bi':=.mK (bD enc (l.set j (k,p))) bs ck) hi u B oq ⟨r,_,G,hb,by
    show(w.heap.setIfInBounds r _)[r]? =_;rw[fq,Vn ⟨rfl,R⟩],⟨W,MapKept.stamped_modify f.2 j _ (λ_ _=>rfl) λe _ he=>by
     rw[XK b]at he;cases he;exact K.symm⟩,X,by rw[U,V];exact(s.set j Z).goes g⟩
  refine⟨undef,_,E,.inr ⟨rfl,?_⟩,hn.1,hn.2,⟨⟨rfl,rfl,rfl,B,λq m=>oq q (VS m D.bl) (by omega)⟩,λq m=>oq q (D.fb q m).1 (λe=>(D.fb q m).2 i _ hi (by rw[e];exact u))⟩,.raw _⟩;simp only[execOp,ho,hz,h2,Sem.run_bind,L,Result.andThen_ok,Sem.run_pure]
end
end
section
open Go.RowKit Go.Maps Go.Sort Go.Shelf cm Mem
def u9(iv:Nat)(nb:Nb)(o:Nat)(B:Option cj):bH:=Bi iv 2 nb++[if 0=o then B else fT nb 0,if 1=o then B else fT nb 1,if 2=o then B else fT nb 2,if 3=o then B else fT nb 3,if 4=o then B else fT nb 4,if 5=o then B else fT nb 5,if 6=o then B else fT nb 6,if 7=o then B else fT nb 7]
theorem vb{iv:Nat}{nb}{o:Nat}(ho:o<8)(B:Option cj)(X:bH):(u9 iv nb o B++X)[o+2]? =some B:=by
 rcases(show o=0\/o=1\/o=2\/o=3\/o=4\/o=5\/o=6\/o=7 by omega)with rfl|rfl|rfl|rfl|rfl|rfl|rfl|rfl<;>rfl
theorem Fz{iv:Nat}{nb}{o:Nat}(ho:o<8)(B a:Option cj)(X:bH):(u9 iv nb o B++X).set (o+2) a=u9 iv nb o a++X:=by
 rcases(show o=0\/o=1\/o=2\/o=3\/o=4\/o=5\/o=6\/o=7 by omega)with rfl|rfl|rfl|rfl|rfl|rfl|rfl|rfl<;>rfl
theorem Kd{iv:Nat}{nb}{o:Nat}(ho:o<8)(B:Option cj)(X:bH):(cq iv nb++X).set (o+2) B=u9 iv nb o B++X:=by
 rcases(show o=0\/o=1\/o=2\/o=3\/o=4\/o=5\/o=6\/o=7 by omega)with rfl|rfl|rfl|rfl|rfl|rfl|rfl|rfl<;>rfl
theorem Ke{iv:Nat}{nb}{o:Nat}{p q}(ho:o<8)(hp:aN o nb=some p):u9 iv nb o (some (Lu q))=cq iv (bS o q nb):=by
 have h:=pH (q:=q) ho hp (iv:=iv) [];rw[Kd ho,V6,V6]at h;exact h
def GJ(x:cC×Nat):cC×Nat:=(x.1,x.2 - 1)
def kW(bs:List Nat)(seen:Array Nat)(p:Pm):Pm:=(p.zip bs).map λz=>(z.1.1,if z.2∈seen then GJ z.1.2 else z.1.2)
theorem JS{bs:List Nat}{p:Pm}(h:bs.length=p.length):kW bs #[] p=p:=by
 induction p generalizing bs with
 |nil=>rfl
 |cons x p ih=>
  cases bs with
  |nil=>simp at h
  |cons b bs=>
   have:=ih (bs:=bs) (by simpa using h);unfold kW at this ⊢;simp only[X3,VX,this];simp
theorem JQ{bs:List Nat}{seen:Array Nat}{p:Pm}(h:bs.length=p.length)(ha:∀b∈bs,b∈seen):kW bs seen p=hZ p:=by
 induction p generalizing bs with
 |nil=>rfl
 |cons x p ih=>
  cases bs with
  |nil=>simp at h
  |cons b bs=>
   have:=ih (bs:=bs) (by simpa using h) (λc hc=>ha c (VB _ hc));unfold kW hZ lR at this ⊢;simp only[X3,VX,this,Vn (ha b (VC ..))]
   rfl
theorem GM{bs:List Nat}{seen:Array Nat}{p:Pm}(h:bs.length=p.length):az (kW bs seen p)=az p:=by
 induction p generalizing bs with
 |nil=>rfl
 |cons x p ih=>
  cases bs with
  |nil=>simp at h
  |cons b bs=>
   have:=ih (bs:=bs) (by simpa using h);unfold az kW at this ⊢;simp only[X3,VX,this]
theorem JR{bs:List Nat}{seen:Array Nat}{p:Pm}{n b:Nat}(h:bs.length=p.length)(hb:bs[n]? =some b)(hs:b∉seen):(kW bs seen p)[n]? =p[n]? :=by
 induction p generalizing bs n with
 |nil=>cases bs with
  |nil=>rfl
  |cons=>simp at h
 |cons x p ih=>
  cases bs with
  |nil=>simp at h
  |cons c bs=>
   cases n with
   |zero=>simp at hb;subst hb;simp[kW,hs]
   |succ n=>
    have:=ih (bs:=bs) (n:=n) (by simpa using h) (by simpa using hb);unfold kW at this ⊢;simpa using this
theorem JT{bs:List Nat}{seen:Array Nat}{p:Pm}{n b y:Nat}{x:cC×Nat}(h:bs.length=p.length)(hb:bs[n]? =some b)(hn:bs.Nodup)(hp:p[n]? =some (y,x)):(kW bs seen p).set n (y,GJ x)=kW bs (seen.push b) p:=by
 induction p generalizing bs n with
 |nil=>simp at hp
 |cons z p ih=>
  cases bs with
  |nil=>simp at h
  |cons c bs=>
   simp only[Wv]at hn;cases n with
   |zero=>
    simp at hb hp;subst hb;subst hp;have e:(p.zip bs).map (λz=>(z.1.1,if z.2∈seen.push c then GJ z.1.2 else z.1.2))=(p.zip bs).map (λz=>(z.1.1,if z.2∈seen then GJ z.1.2 else z.1.2)):=Wh λa ha=>by
     have f:a.2≠c:=λe=>hn.1 (e▸(List.of_mem_zip ha).2);simp[f]
    unfold kW;simp only[X3,VX,XB,e];simp
   |succ n=>
    have d:c≠b:=λe=>hn.1 (e▸VE (by simpa using hb));have:=ih (bs:=bs) (n:=n) (by simpa using h) (by simpa using hb) hn.2 (by simpa using hp);unfold kW at this ⊢;simp only[X3,VX,X0,this];simp[d]
theorem tv{k:Int}{n:Nat}:∀ {l:List Int} {i:Nat},l.Nodup->l[n]? =some k->eS k l i=some (i+n)
 | [],_,_,h=>by simp at h
 |a::l,i,hn,h=>by
  simp only[Wv]at hn;simp only[eS];cases n with
  |zero=>simp at h;subst h;simp
  |succ n=>
   have hl:l[n]? =some k:=by simpa using h
   rw[Vk (show ¬k=a from λe=>hn.1 (by rw[<-e];exact VE hl)),tv (n:=n) (i:=i+1) hn.2 hl];congr 1;omega
def Sk(bs:List Nat)(seen:Array Nat):Nat:=(bs.filter λb=>decide (b∉seen)).length
theorem KK{bs:List Nat}{seen:Array Nat}{b:Nat}(hb:b∈bs)(hs:b∉seen):Sk bs (seen.push b)<Sk bs seen:=by
 unfold Sk;have e:bs.filter (λc=>decide (c∉seen.push b))=(bs.filter λc=>decide (c∉seen)).filter (λc=>decide (c≠b)):=by
  rw[List.filter_filter];refine Yc λc _=>?_;by_cases h1:c∈seen<;>by_cases h2:c=b<;>simp[h1,h2]
 rw[e];exact Yu.2 ⟨b,Wk.2 ⟨hb,by simpa using hs⟩,by simp⟩
theorem QI{P}{N L:Nat}{id d d2 i j ck:Nat}{on a:Oper}{x y t}{σ:bH}{Q:Exit->St->Prop}{kv}{bs:List Nat}{seen:Array Nat}(ho:on.op= .next x false)(hx:aI t x=some (.ptr j 0))(hj:σ[j]? =some (some (.oB i ck seen ck)))(hi:σ[i]? =some (some (.mK kv bs ck)))(e:∀b∈bs,b<ck)(hd:on.dst=some d)(hw:eL #[on,a] t on=some true)(hN:Nat.blt d N=true)
  (g:a.op= .extract (.tmp d) 0) (f:a.dst=some d2) (c:Nat.blt d2 N=true) (m:∀p,eL #[on,a] ((d,p)::t) a=some true)
  (h:∀q T σ',((q=false/\(∀b∈bs,b∈seen)/\σ'=σ)\/(q=true/\∃(n b:Nat) (k:Value) (p:PV),bs[n]? =some b/\b∉seen/\kv[n]? =some (k,p)/\σ'=σ.set j (some (.oB i ck (seen.push b) ck))))->W P N L y ⟨(d2,.raw (.bool q))::(d,T)::t,σ'⟩ Q):W P N L (.seq (.region id #[on,a] false) y) ⟨t,σ⟩ Q:=by
 have key:∀q σ' xs,W P N L y ⟨(d2,.raw (.bool q))::(d,.tuple (.raw (.bool q)::xs))::t,σ'⟩ Q->WR P N L #[on,a] [a] ⟨(d,.tuple (.raw (.bool q)::xs))::t,σ'⟩ (λs=>W P N L y s Q):=λq σ' xs r=>
  dA (p:=.raw (.bool q)) (yE (k:=0) g (show look d ((d,PV.tuple (.raw (.bool q)::xs))::t)=_ by unfold look;rw[Yg];rfl) I) f (m _) c (bM r)
 refine aK (l:=[on,a]) (M4 ho hx hj hi e (Vh _) hd hw hN (λha=>?_) (λn b k p h1 h2 o=>?_))
 ·exact key false σ [] (h _ _ _ (.inl ⟨rfl,ha,rfl⟩))
 ·exact key true _ [.raw k,p] (h _ _ _ (.inr ⟨rfl,n,b,k,p,h1,h2,o,rfl⟩))
theorem Jh{P}{N L:Nat}{c st}{Q:Exit->St->Prop}(h:W P N L c st (λe s=>∃fs t' σ',oy fs s.t t'/\eV fs s.σ σ' fs/\gd fs=true/\Dd fs L=true/\Q e ⟨t',σ'⟩)):W P N L c st Q:=λF base E₀ w₀ E a w hc hs=>by
 refine wp_mono (h F base E₀ w₀ E a w hc hs) ?_;rintro e i w' ⟨⟨t,σ⟩,E',⟨fs,t',σ',hT,f,hn,hi,d⟩,h1,h2,b⟩;obtain⟨M,k1,g⟩:=Aa fs hT f hn hi ⟨hc.L,h2,b⟩ h1;exact⟨⟨t',σ'⟩,_,d,g,k1.g,k1.b⟩
theorem HD{A X:bH}(a:fF A.length A):eV (List.range A.length) (A++X) A (List.range A.length):=ZG A (List.range A.length) (by simp) (λi b j h1 h2=>by
 have hi:=(Vf.1 h1).1;rw[cV hi]at h2;cases h2;exact⟨b,by rw[Vl hi];exact h1,a i b h1⟩)
theorem NH(iv:Nat)(nb:Nb)(o:Nat)(B:cj)(i s c:Nat)(seen:Array Nat)(h8:∀x∈az nb,x<8)(a:ji (List.range 11) B B)(hi:i<11):fF 11 (u9 iv nb o (some B)++[some (.oB i s seen c)]):=by
 have hx:∀k c,(if k=o then some B else fT nb k)=some c->ji (List.range 11) c c:=λk c h=>by
  split at h
  ·cases h;exact a
  ·exact nN c h
 refine .cons (.De rfl (zT 2 nb 11 h8 (by omega)))<|.cons (.cells (V0 Ren.pure (V0 (gU (by omega)) Wp)))<|.opt (hx 0)<|.opt (hx 1)<|.opt (hx 2)<|.opt (hx 3)<|.opt (hx 4)<|.opt (hx 5)<|.opt (hx 6)<|.opt (hx 7)<|.cons (.oB (cV hi)) .nil
theorem _root_.Eq.stx{kv kv':List (Int×PV)}(h:kv=kv'){σ σ':bH}(i:Nat)(bs:List Nat)(ck:Nat)(hs:σ.set i (some (.mK (bD c7 kv') bs ck))=σ'):σ.set i (some (.mK (bD c7 kv) bs ck))=σ':=by rw[h];exact hs
def wM(_:Nat)(p:Pm):Pm:=hZ p
theorem Mg(nb:Nb):bL (bT (az nb)) wM nb=er nb:=mJ (λ_ h=>eN.2 h)
theorem Hh(iv:Nat)(nb:Nb)(h8:∀x∈az nb,x<8)(hn:(az nb).Nodup)(hl:nb.length<=1000)(w:∀lk p,aN lk nb=some p->(az p).Nodup)(B:∀lk p,aN lk nb=some p->∀z∈p,z.2.2<=1000):aD prog 67 [.ptr 1 0,num 1] (cq iv nb) (λr σ'=>σ'=cq iv (er nb)):=by
  have V:=kZ iv nb h8 hl;have t:∀k,k<(bT (az nb)).length->(bT (az nb)).getD k 0∉(bT (az nb)).take k:=λk h=>lE hn h;have j:∀k,k<(bT (az nb)).length->(bT (az nb)).getD k 0∈az nb:=λk h=>kj h;have F:=Mg nb;have C:∀S,∀x∈az (bL S wM nb),x<8:=λS=>by rw[ll];exact h8
  have aa:(bT (az nb)).length=nb.length:=by rw[ez];simp[az]
  generalize bT (az nb)=S at*;have ad:(S.map Int.ofNat).length=S.length:=by simp
  refine aV func67 I ntmps67 I<|an<|aj (.a 2 I<|.k [0,1,10] I)<|ak I (λhc=>?_) (λhc=>?_)
  · cases hc
  · refine ao<|aK<|av 1 I<|br I I (VO (V) (λ_ σ' h=>?_));obtain⟨rfl,rfl⟩:=h;refine av 2 I<|aF [0,1,12,13,14] I ?_;refine ay<|eX [0,1,12,13,14] I<|bq (λr s=>∃k,k<=S.length/\r=S.length - k/\s=⟨[(0,.ptr 1 0),(1,num 1),(12,fc S),(13,num S.length),(14,num k)],cq iv (bL (S.take k) wM nb)⟩) S.length ⟨0,by omega,rfl,by simp[fc,bm,jP]⟩ ?_;rintro r s ⟨k,ab,rfl,rfl⟩;refine aj (.a 1 I<|.k [0,1,12,13,14,15] I)<|an<|ak I (λhc=>?_) (λhc=>?_)
    · have hlt:k<S.length:=by have:=Vg hc;omega
      have G:=jv S k hlt;have t:=t k hlt;have j:=j k hlt;have K:=jc S hlt;generalize S.getD k 0=o at G t j K;obtain⟨p,u⟩:=fC j;have v:aN o (bL (S.take k) wM nb)=some p:=by rw[iX,u];simp[t]
      have J:bS o (hZ p) (bL (S.take k) wM nb)=bL (S.take (k+1)) wM nb:=by rw[K];exact jQ (g:=wM) hn u
      have M:=C (S.take k);have a:=h8 o j;have U:cQ (o:Int) (fS 2 (bL (S.take k) wM nb))=some (.own (o+2)):=ju v;have w:=w o p u;have B:=B o p u;generalize bL (S.take k) wM nb=d at*;refine ao<|an<|ay<|aj (.v (aX (k) I) I<|.v (aO I (G)) I<|.a 1 I<|.k [0,1,5,12,13,14] I)<|aj (.a 5 I<|.v (fu eY (k:=(o:Int)) I j8 qj rfl rfl rfl (cz _) (by rw[U];first|done|rfl)) I<|.a 1 I<|.k [0,1,6,12,13,14] I)<|QJ (o+2) (kv:=bD c7 (ib kO p)) (by have:=gF (iv:=iv) a v [];rw[V6]at this;exact this) (λbs ck O E N=>?_);have c:bs.length=p.length:=by simpa[bD,ib]using O
      rw[show(cq iv d).set (o+2) (some (.mK (bD c7 (ib kO p)) bs ck))=u9 iv d o (some (.mK (bD c7 (ib kO p)) bs ck)) by have:=Kd (iv:=iv) (nb:=d) a (some (.mK (bD c7 (ib kO p)) bs ck)) [];rw[V6,V6]at this;exact this];refine aK<|av 1 I<|bW (N9 I jH rfl (by have:=vb (iv:=iv) (nb:=d) a (some (.mK (bD c7 (ib kO p)) bs ck)) [];rw[V6]at this;exact this)) I<|aF [0,1,6,12,13,14,25] I ?_;refine ay<|eX [0,1,6,12,13,14,25] I<|bq (λr s=>∃seen,r=Sk bs seen/\s=⟨[(0,.ptr 1 0),(1,num 1),(6,.own (o+2)),(12,fc S),(13,num S.length),(14,num k),(25,.ptr 10 0)],u9 iv d o (some (.mK (bD c7 (ib kO (kW bs seen p))) bs ck))++[some (.oB (o+2) ck seen ck)]⟩) (Sk bs #[]) ⟨#[],rfl,by rw[JS c];rfl⟩ ?_;rintro r s ⟨seen,rfl,rfl⟩;refine QI I I I (vb a _ _) N rfl rfl rfl rfl rfl rfl (λ_=>rfl) (λq T L Z=>?_);refine eX [0,1,6,12,13,14,25,27] I<|an<|ak I (λhc=>?_) (λhc=>?_)
      · subst hc;obtain⟨n,b,kk,pp,hb,H,m,rfl⟩:∃(n b:Nat) (kk:Value) (pp:PV),bs[n]? =some b/\b∉seen/\(bD c7 (ib kO (kW bs seen p)))[n]? =some (kk,pp)/\L=(u9 iv d o (some (.mK (bD c7 (ib kO (kW bs seen p))) bs ck))++[some (cj.oB (o+2) ck seen ck)]).set 10 (some (cj.oB (o+2) ck (seen.push b) ck)):=by
         rcases Z with⟨h,_⟩|⟨_,h⟩
         · cases h
         · exact h
        have Y:(kW bs seen p)[n]? =p[n]? :=JR c hb H;obtain⟨y,x,f⟩:∃y x,p[n]? =some (y,x):=by
         have:n<p.length:=by rw[<-c];exact(Vf.1 hb).1
         exact⟨_,_,Vm this⟩
        have hx2:x.2<=1000:=B _ (VE f);have R:kk=c7 (y:Int)/\pp=kO x:=by
         simp only[bD,ib,V7,Vt,Y,f,Wj,WE,Xp,Function.comp_apply]at m;exact⟨m.1.symm,m.2.symm⟩
        obtain⟨rfl,rfl⟩:=R;have P:eS (y:Int) ((ib kO (kW bs seen p)).map (·.1)) 0=some n:=by
         have h:=tv (k:=(y:Int)) (n:=n) (l:=(az p).map Int.ofNat) (i:=0) (by
           rw[WY,WO];exact w.imp λh e=>h (Int.ofNat.inj e)) (by simp[az,f])
         rw[zy,GM c,h,Ws]
        have hks:(ib kO (kW bs seen p)).set n ((y:Int),kO (GJ x))=ib kO (kW bs (seen.push b) p):=by
         rw[<-JT c hb E f];simp[ib,Yt]
        have W:=KK (VE hb) H;refine ao<|ay<|aK<|aZ (PA I I I (vb a _ _) hb E m) I<|av 5 I<|aF [0,1,6,7,8,12,13,14,25] I ?_;refine aK<|av 5 I<|aZ (wh I I I (show min (1:Int) (x.2:Int)=((min 1 x.2:Nat):Int) by omega)) I<|aZ (aU I (hc:=(show(x.2:Int) - ((min 1 x.2:Nat):Int)=((x.2 - 1:Nat):Int) by omega))) I<|av 2 I<|aF [0,1,6,7,8,12,13,14,25] I ?_;refine Jh<|bp<|av 3 I<|bw (YD (KE eY (k:=(y:Int)) I jH rfl (vb a _ _) I (cz _) I P) (hks.stx (o+2) bs ck (Fz a _ _ _))) I I<|aF [0,1,6,12,13,14,25] I ?_;refine⟨List.range 11,[(0,.ptr 1 0),(1,num 1),(6,.own (o+2)),(12,fc S),(13,num S.length),(14,num k),(25,.ptr 10 0)],_,.c 0<|.c 1<|.cons 6 I (gU (show o+2<11 by omega))<|.c 12<|.c 13<|.c 14<|.c 25 .nil,HD (A:=u9 iv d o (some (cj.mK (bD c7 (ib kO (kW bs (seen.push b) p))) bs ck))++[some (cj.oB (o+2) ck (seen.push b) ck)]) (X:=[some (cj.cells 208 (MS (GJ x)))]) (NH iv d o (cj.mK (bD c7 (ib kO (kW bs (seen.push b) p))) bs ck) (o+2) ck ck (seen.push b) M .mK (by omega)),nodup_range _,rfl,?_⟩;exact⟨_,W,seen.push b,rfl,rfl⟩
      · subst hc;obtain⟨D,rfl⟩:(∀b∈bs,b∈seen)/\L=u9 iv d o (some (.mK (bD c7 (ib kO (kW bs seen p))) bs ck))++[some (cj.oB (o+2) ck seen ck)]:=by
         rcases Z with⟨_,h⟩|⟨h,_⟩
         · exact h
         · cases h
        rw[JQ c D];refine U4 (o+2) (vb a _ _) ?_;rw[Fz a,show(cj.mp (bD c7 (ib kO (hZ p))))=Lu (hZ p) from rfl,Ke a v,J];refine ko (A:=cq iv (bL (S.take (k+1)) wM nb)) (dL iv _ (C _)) (.c 0<|.c 1<|.c 12<|.c 13<|.c 14 .nil) I<|bh<|aL (.v (aU I) I<|.a 1 I<|.k [0,1,12,13,14] I) ?_;exact⟨S.length - (k+1),by omega,k+1,by omega,rfl,rfl⟩
    · have Q:k=S.length:=by have:=Vj hc;omega
      exact bh<|⟨_,V5 I,by rw[Q,VN,F]⟩
open Net
theorem aD.nil{f ps σ}{R:bH->Prop}(h:aD prog f ps σ (λr σ'=>r= .raw (.slice none 0 0)/\R σ')):aD prog f ps σ (λr σ'=>r= .slice 0 []/\R σ'):=λF base E w vs c b=>by
 refine(h F base E w vs c b).mono ?_;rintro e w' ⟨v,r,σ',E',rfl,⟨rfl,a⟩,h⟩;exact⟨v,_,σ',E',rfl,⟨rfl,a⟩,h.1,h.2.1,h.2.2.1,Zw _ _ _ h.2.2.2⟩
theorem En(s:C9)(hm:s.made=true)(hg:s.gM<1000):aD prog 66 [.ptr 0 0,num 1] [fm s] (λr σ'=>r=flag false/\σ'=[fm {s with gM:=s.gM+1}]):=by
 obtain⟨o,l,n,f,m,g⟩:=s;cases hm;exact HY o l n f g hg
def ky(l:List gO)(k:Nat):List gO:=(l.take k).map cZ++l.drop k
theorem Co(l:List gO)(k:Nat):(ky l k).length=l.length:=by simp[ky];omega
theorem vw(l:List gO){k:Nat}(h:k<l.length):(ky l k).getD k cX=l.getD k cX:=by
 simp only[ky,Qo];rw[Vq (by simp;omega)];simp[Xe (Nat.le_of_lt h)]
theorem Lx(l:List gO){k:Nat}(h:k<l.length):(ky l k).set k (cZ (l.getD k cX))=ky l (k+1):=by
 unfold ky;rw[Xd _ _ (by simp;omega),cL l k cX h,Wu,VU];congr 1;rw[show k - ((l.take k).map cZ).length=0 by simp;omega,<-List.getElem_cons_drop h,Qo,Vm h]
 rfl
theorem xJ:∀ {n:Nat} {l:List Nat},l.Nodup->(∀x∈l,x<n)->l.length<=n
 |0,l,_,h=>by
  cases l with
  |nil=>simp
  |cons a l=>exact absurd (h a (VC ..)) (by omega)
 |n+1,l,hn,h=>by
  have h1:(l.erase n).length<=n:=xJ (hn.erase n) λx hx=>by
   have h2:=(List.Nodup.mem_erase_iff hn).1 hx;have:=h x h2.2;have:=h2.1;omega
  rw[List.length_erase]at h1;split at h1<;>omega
structure Je (s:Nd):Prop where
 fit:s.Fit
 nd:s.node<64
 time:s.time<=1000
 hs:∀p∈s.au,HS p.ph p.lf/\(p.ph=0\/2<=p.lf)/\p.bt<=1
 dn:(az s.db).Nodup
 dk:∀x∈az s.db,x<1000
 dl:s.db.length<=1000
 da:∀o x,aN o s.db=some x->x.gM+1<3600
 made:s.og.made=true
 gM:s.og.gM<1000
 pd:∀lk p,aN lk s.nb=some p->p.length<=1000/\(az p).Nodup/\(∀x∈az p,x<1000)/\∀o x,aN o p=some x->x.1.Ok
 pl:∀lk p,aN lk s.nb=some p->∀z∈p,z.2.2<=1000
 due:∀x∈oz (er s.nb),x.2.Ok
theorem yr{lk:Nat}{nb q}(h:aN lk (er nb)=some q):∃p,aN lk nb=some p/\q=hZ p:=by
 unfold er at h;rw[gS]at h;cases hg:aN lk nb with
 |none=>rw[hg]at h;cases h
 |some p=>rw[hg]at h;cases h;exact⟨p,rfl,rfl⟩
theorem ES(T:aw)(s:Nd)(h:Je s):aD prog 28 [.ptr 0 0] (aW T s) (λr σ'=>r=lL ((s.au.map cZ).map (tT s.node)++(oz (er s.nb)).map IS)/\σ'=aW T s.Md):=by
 have h8:=h.fit.h8;have g:=h.fit.pl;have G:=h.time;have b:∀x∈az (er s.nb),x<8:=h.fit.set (keys_map _ _);have m:=aD.nil (GY s.db h.dn h.dk h.dl h.da);have z:=En s.og h.made h.gM;have t:=Zu (Hh 2 s.nb h8 h.fit.nn h.fit.nl (λlk p hp=>(h.pd lk p hp).2.1) (λlk p hp=>h.pl lk p hp));obtain⟨j,a⟩:∃j:Nd,j= {s with time:=s.time+1,au:=s.au.map cZ,db:=lY s.db,og:= {s.og with gM:=s.og.gM+1},nb:=er s.nb}:=⟨_,rfl⟩;have l:j.Fit:=by
  rw[a];exact⟨b,by rw[show az (er s.nb)=az s.nb from keys_map _ _];exact h.fit.nn,by simpa[er,lR]using h.fit.nl,by simpa using g⟩
 have f:∀p:Pm,(hZ p).length=p.length:=λp=>by simp[hZ,lR]
 have B:=ER T j l (by rw[a];exact h.nd) (by rw[a];have:=h.time;exact⟨by simp,by simp;omega⟩) (by
   rw[a];intro p hp;obtain⟨p0,h0,rfl⟩:=Vv.1 hp;have:=(h.hs p0 h0).2.2;unfold cZ;simp only;split<;>omega) (by
   rw[a];intro lk q A;obtain⟨p,hp,rfl⟩:=yr A;obtain⟨h1,h2,C,D⟩:=h.pd lk p hp;have hk:az (hZ p)=az p:=keys_map _ _;refine⟨by rw[f];exact h1,by rw[hk];exact h2,by rw[hk];exact C,λo x hx=>?_⟩;unfold hZ at hx;rw[gS]at hx;cases hg:aN o p with
   |none=>rw[hg]at hx;cases hx
   |some y=>rw[hg]at hx;cases hx;exact(D o y hg).len) (by
   rw[a];refine VL (A9 (nb:=er s.nb) (λlk q A=>?_) _) ?_
   ·obtain⟨p,hp,rfl⟩:=yr A;rw[f];exact(h.pd lk p hp).1
   ·rw[ez,show az (er s.nb)=az s.nb from keys_map _ _];have:(az s.nb).length<=8:=xJ h.fit.nn h8;omega) (by rw[a];exact h.due)
 refine aV func28 I ntmps28 I<|aj (.a 1 I<|.k [0] I)<|an<|aj (.a 2 I<|.k [0,11] I)<|ak I (λhc=>?_) (λhc=>?_)
 ·cases hc
 ·refine ao<|aK<|av 4 I<|aZ (aU I (hc:=(show(s.time:Int)+1=((s.time+1:Nat):Int) by omega))) I<|av 3 I<|aF [0] I ?_;refine dY (σ':=aW T {s with time:=s.time+1,au:=ky s.au 0}) I<|aj (.a 1 I<|.k [0,3] I)<|an<|aj (.a 6 I<|.k [0,3,23,24] I)<|ay<|eX [0,3,23,24] I<|bq (λr st=>∃k,k<=s.au.length/\r=s.au.length - k/\st=⟨[(0,.ptr 0 0),(3,flag false),(23,num s.au.length),(24,num k)],aW T {s with time:=s.time+1,au:=ky s.au k}⟩) s.au.length ⟨0,by omega,rfl,rfl⟩ ?_;rintro r st ⟨k,hk,rfl,rfl⟩;refine aj (.a 1 I<|.k [0,3,23,24,25] I)<|an<|ak I (λhc=>?_) (λhc=>?_)
  ·have hlt:k<s.au.length:=by have:=Vg hc;omega
   have w:k<(ky s.au k).length:=by rw[Co];exact hlt
   obtain⟨F,v,E⟩:=h.hs (s.au.getD k cX) (b9 hlt);have n:=Bq T {s with time:=s.time+1,au:=ky s.au k} k ⟨h8,h.fit.nn,h.fit.nl,by show(ky s.au k).length<=1000;rw[Co];exact g⟩ w (by show HS ((ky s.au k).getD k cX).ph _;rw[show({s with time:=s.time+1,au:=ky s.au k}:Nd).au=ky s.au k from rfl,vw _ hlt];exact F) (by show((ky s.au k).getD k cX).ph=0\/2<=((ky s.au k).getD k cX).lf;rw[vw _ hlt];exact v);have i:(ky s.au k).set k (cZ ((ky s.au k).getD k cX))=ky s.au (k+1):=by rw[vw _ hlt];exact Lx _ hlt
   have e:aD prog 60 [.ptr 0 0,.ptr 1 (k*6),.func 61 []] (aW T {s with time:=s.time+1,au:=ky s.au k}) (λr σ'=>r=num 0/\σ'=aW T {s with time:=s.time+1,au:=ky s.au (k+1)}):=by rw[<-i];exact n
   refine ao<|an<|ay<|aj (.a 2 I<|.k [0,3,4,23,24] I)<|aK<|av 6 I<|aZ (aX (k*6) I (by omega) (by show(k:Int)<((ky s.au k).length:Int);omega)) I<|br I I (VO (e) (λ_ σ' h=>?_));obtain⟨rfl,rfl⟩:=h;refine av 1 I<|aF [0,3,5,23,24] I ?_;refine aL (.a 6 I<|.k [0,3,23,24] I)<|aL (.v (aU I) I<|.a 1 I<|.k [0,3,23,24] I) ?_;exact⟨s.au.length - (k+1),by omega,k+1,by omega,rfl,rfl⟩
  ·have u:k=s.au.length:=by have:=Vj hc;omega
   have c:ky s.au k=s.au.map cZ:=by rw[u];simp[ky]
   rw[c];refine bh<|an<|aj (.a 1 I<|.k [0,41] I)<|ak I (λhc=>?_) (λhc=>?_)
   ·cases hc
   ·refine ao<|an<|aK<|av 4 I<|br I I (VO (kz (s:= {s with time:=s.time+1,au:=s.au.map cZ}) (d:=lY s.db) [] m) (λ_ σ' h=>?_));obtain⟨rfl,rfl⟩:=h;refine av 2 I<|aF [0,48,49,50] I ?_;refine ay<|eX [0,48,49,50] I<|bq (λr st=>st=⟨[(0,.ptr 0 0),(48,.slice 0 []),(49,num 0),(50,num 0)],aW T {s with time:=s.time+1,au:=s.au.map cZ,db:=lY s.db}⟩) 0 I ?_;rintro r st rfl;refine aj (.a 1 I<|.k [0,48,49,50,51] I)<|an<|ak I (λhc=>?_) (λhc=>?_)
    ·exact absurd hc (by decide)
    ·refine bh<|an<|aK<|av 4 I<|br I I (VO (Aj (s:= {s with time:=s.time+1,au:=s.au.map cZ,db:=lY s.db}) (o:= {s.og with gM:=s.og.gM+1}) [] z) (λ_ σ' h=>?_));obtain⟨rfl,rfl⟩:=h;refine aF [0,83] I<|ak I (λhc=>?_) (λhc=>?_)
     ·cases hc
     ·refine ao<|aK<|av 4 I<|br I I (VO (mf (s:= {s with time:=s.time+1,au:=s.au.map cZ,db:=lY s.db,og:= {s.og with gM:=s.og.gM+1}}) (nb:=er s.nb) h8 b [] t) (λ_ σ' h=>?_));obtain⟨rfl,rfl⟩:=h;refine aF [0] I<|dY (σ':=aW T j) (by rw[a];rfl) ?_;refine aK<|av 1 I<|br I I (VO (B) (λ_ σ' h=>?_));obtain⟨rfl,rfl⟩:=h;refine av 1 I<|aF [2] I ?_;exact aA<|⟨_,V5 I,by rw[a];rfl,by rw[a];rfl⟩
end
end PW
end Go.Proofs.YtfcadpknnbgibaaGreatDoor
