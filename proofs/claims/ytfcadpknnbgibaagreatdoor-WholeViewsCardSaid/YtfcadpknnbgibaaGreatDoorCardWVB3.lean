/- Part 3. -/
import Derived.Laws.StructEq
import Derived.Test.YtfcadpknnbgibaaGreatDoorCardWVB2
set_option maxRecDepth 100000
set_option maxHeartbeats 4000000
namespace Go.Proofs.YtfcadpknnbgibaaGreatDoor
open Go.Proofs.Tryz
namespace PW
section
open Go.RowKit cm Mem Net Heap
theorem Oy(N:Nat)(d:Option cj)(hd:nZ d)(hN:N<=65536):
  aD prog 209 [num N] [d] (λr σ'=>r= .tuple [.ptr 1 0,num 0]/\σ'=kq false d N 0 (List.replicate N 0) (List.replicate N 0) []):=by
 refine aV func209 I ntmps209 I<|aj (.a 2 I<|.k [0] I) ?_;have⟨f,c⟩:=dw (decide ((N:Int)<0));have⟨g,e⟩:=dw (decide ((65536:Int)<(N:Int)));refine an<|cD 9 (.raw (.bool (f||g))) [0] I ?_ ?_
 ·refine .a 1 I<|.v (cT I (c)) I<|.a 1 I<|?_;cases f
  ·exact .a 1 I<|.v (cT I (e)) I<|.a 1 I<|.k [9,0] I
  ·exact .a 3 I<|.k [9,0] I
 have h1:f=false:=by rw[<-c];simp
 have h2:g=false:=by rw[<-e];simp;omega
 refine ak (b:=f||g) I (λhc=>?_) (λhc=>?_)
 ·rw[h1,h2]at hc;cases hc
 ·clear hc c e h1 h2;refine ao<|sx mixed ?_;have a:W prog 16 1 .ret ⟨[(2,.ptr 1 0),(3,num 0)],kq false d N 0 (List.replicate N 0) (List.replicate N 0) []⟩ (R4 prog Tryz.f209 (λr σ'=>r= .tuple [.ptr 1 0,num 0]/\σ'=kq false d N 0 (List.replicate N 0) (List.replicate N 0) [])):=
   aA ⟨_,.cons (.tmp rfl) (.cons (.tmp rfl) .nil),rfl,rfl⟩
  refine cI 0 [2] (by kernel_rfl)<|bQ I I (dA (qS I I) I I I (bM ?_)) ?_
  ·refine cI 1 [2] (by kernel_rfl)<|bQ I I (eu (eJ I (VW I) I I I I ⟨by unfold maxLen;omega,by omega⟩) I I I (bM ?_)) ?_
   ·refine cI 2 [] (by kernel_rfl)<|bQ I I (dA (qS I I) I I I (bM ?_)) cJ;refine cI 3 [] (by kernel_rfl)<|bQ I I (eu (eJ I (VW I) I I I I ⟨by unfold maxLen;omega,by omega⟩) I I I (bM ?_)) cJ;refine cI 4 [] (by kernel_rfl)<|bQ I I (dA (gg (xs:=[_,_,_]) I (X8 I) I I) I I I (bM ?_)) cJ;refine cI 5 [] (by kernel_rfl)<|bQ I I (eu (dv I I I) I I I (bM ?_)) cJ;refine cI 6 [] (by kernel_rfl)<|bQ I I (dA (fM I I) I I I (bM ?_)) cJ;refine cI 7 [] (by kernel_rfl)<|bQ I I (dA (fM I I) I I I (bM ?_)) cJ;refine qp (by kernel_rfl)<|cO 3 2 3 1 I I ?_;exact dM [0,3,1,2,4] (.cons 2 I (Ren.ptr (i:=1) I)<|.cons 3 I Ren.pure<|.nil) (.same hd rfl<|.kept rfl (.cells (V0 (Ren.own (i:=2) I)<|V0 (Ren.own (i:=3) I)<|V0 (Ren.own (i:=4) I) Wp))<|.kept rfl (.eZ rfl (dJ N))<|.kept rfl (.eZ rfl (dJ N))<|.kept rfl (.row VT)<|.nil) I I a
   refine bQ I I (dA (qS I I) I I I (bM ?_)) cJ;refine cI 1 [3] (by kernel_rfl)<|bQ I I (eu (eJ I (VW I) I I I I ⟨by unfold maxLen;omega,by omega⟩) I I I (bM ?_)) ?_
   ·refine cI 3 [] (by kernel_rfl)<|bQ I I (eu (eJ I (VW I) I I I I ⟨by unfold maxLen;omega,by omega⟩) I I I (bM ?_)) cJ;refine cI 4 [] (by kernel_rfl)<|bQ I I (dA (gg (xs:=[_,_,_]) I (X8 I) I I) I I I (bM ?_)) cJ;refine cI 5 [] (by kernel_rfl)<|bQ I I (eu (dv I I I) I I I (bM ?_)) cJ;refine cI 6 [] (by kernel_rfl)<|bQ I I (dA (fM I I) I I I (bM ?_)) cJ;refine cI 7 [] (by kernel_rfl)<|bQ I I (dA (fM I I) I I I (bM ?_)) cJ;refine qp (by kernel_rfl)<|cO 3 2 3 1 I I ?_;exact dM [0,3,1,2,4] (.cons 2 I (Ren.ptr (i:=1) I)<|.cons 3 I Ren.pure<|.nil) (.same hd rfl<|.kept rfl (.cells (V0 (Ren.own (i:=2) I)<|V0 (Ren.own (i:=3) I)<|V0 (Ren.own (i:=4) I) Wp))<|.kept rfl (.eZ rfl (dJ N))<|.kept rfl (.eZ rfl (dJ N))<|.kept rfl (.row VT)<|.nil) I I a
   refine bQ I I (eu (eJ I (VW I) I I I I ⟨by unfold maxLen;omega,by omega⟩) I I I (bM ?_)) cJ;refine cI 1 [] (by kernel_rfl)<|bQ I I (eu (eJ I (VW I) I I I I ⟨by unfold maxLen;omega,by omega⟩) I I I (bM ?_)) cJ;refine cI 4 [] (by kernel_rfl)<|bQ I I (dA (gg (xs:=[_,_,_]) I (X8 I) I I) I I I (bM ?_)) cJ;refine cI 5 [] (by kernel_rfl)<|bQ I I (eu (dv I I I) I I I (bM ?_)) cJ;refine cI 6 [] (by kernel_rfl)<|bQ I I (dA (fM I I) I I I (bM ?_)) cJ;refine cI 7 [] (by kernel_rfl)<|bQ I I (dA (fM I I) I I I (bM ?_)) cJ;refine qp (by kernel_rfl)<|cO 3 2 3 1 I I ?_;exact dM [0,3,2,1,4] (.cons 2 I (Ren.ptr (i:=1) I)<|.cons 3 I Ren.pure<|.nil) (.same hd rfl<|.kept rfl (.cells (V0 (Ren.own (i:=2) I)<|V0 (Ren.own (i:=3) I)<|V0 (Ren.own (i:=4) I) Wp))<|.kept rfl (.eZ rfl (dJ N))<|.kept rfl (.eZ rfl (dJ N))<|.kept rfl (.row VT)<|.nil) I I a
  refine bQ I I (dA (qS I I) I I I (bM ?_)) cJ;refine cI 0 [3] (by kernel_rfl)<|bQ I I (dA (qS I I) I I I (bM ?_)) ?_
  ·refine cI 1 [3] (by kernel_rfl)<|bQ I I (eu (eJ I (VW I) I I I I ⟨by unfold maxLen;omega,by omega⟩) I I I (bM ?_)) ?_
   ·refine cI 3 [] (by kernel_rfl)<|bQ I I (eu (eJ I (VW I) I I I I ⟨by unfold maxLen;omega,by omega⟩) I I I (bM ?_)) cJ;refine cI 4 [] (by kernel_rfl)<|bQ I I (dA (gg (xs:=[_,_,_]) I (X8 I) I I) I I I (bM ?_)) cJ;refine cI 5 [] (by kernel_rfl)<|bQ I I (eu (dv I I I) I I I (bM ?_)) cJ;refine cI 6 [] (by kernel_rfl)<|bQ I I (dA (fM I I) I I I (bM ?_)) cJ;refine cI 7 [] (by kernel_rfl)<|bQ I I (dA (fM I I) I I I (bM ?_)) cJ;refine qp (by kernel_rfl)<|cO 3 2 3 1 I I ?_;exact dM [0,3,1,2,4] (.cons 2 I (Ren.ptr (i:=1) I)<|.cons 3 I Ren.pure<|.nil) (.same hd rfl<|.kept rfl (.cells (V0 (Ren.own (i:=2) I)<|V0 (Ren.own (i:=3) I)<|V0 (Ren.own (i:=4) I) Wp))<|.kept rfl (.eZ rfl (dJ N))<|.kept rfl (.eZ rfl (dJ N))<|.kept rfl (.row VT)<|.nil) I I a
   refine bQ I I (eu (eJ I (VW I) I I I I ⟨by unfold maxLen;omega,by omega⟩) I I I (bM ?_)) cJ;refine cI 1 [] (by kernel_rfl)<|bQ I I (eu (eJ I (VW I) I I I I ⟨by unfold maxLen;omega,by omega⟩) I I I (bM ?_)) cJ;refine cI 4 [] (by kernel_rfl)<|bQ I I (dA (gg (xs:=[_,_,_]) I (X8 I) I I) I I I (bM ?_)) cJ;refine cI 5 [] (by kernel_rfl)<|bQ I I (eu (dv I I I) I I I (bM ?_)) cJ;refine cI 6 [] (by kernel_rfl)<|bQ I I (dA (fM I I) I I I (bM ?_)) cJ;refine cI 7 [] (by kernel_rfl)<|bQ I I (dA (fM I I) I I I (bM ?_)) cJ;refine qp (by kernel_rfl)<|cO 3 2 3 1 I I ?_;exact dM [0,3,2,1,4] (.cons 2 I (Ren.ptr (i:=1) I)<|.cons 3 I Ren.pure<|.nil) (.same hd rfl<|.kept rfl (.cells (V0 (Ren.own (i:=2) I)<|V0 (Ren.own (i:=3) I)<|V0 (Ren.own (i:=4) I) Wp))<|.kept rfl (.eZ rfl (dJ N))<|.kept rfl (.eZ rfl (dJ N))<|.kept rfl (.row VT)<|.nil) I I a
  refine bQ I I (eu (eJ I (VW I) I I I I ⟨by unfold maxLen;omega,by omega⟩) I I I (bM ?_)) cJ;refine cI 0 [] (by kernel_rfl)<|bQ I I (dA (qS I I) I I I (bM ?_)) cJ;refine cI 1 [] (by kernel_rfl)<|bQ I I (eu (eJ I (VW I) I I I I ⟨by unfold maxLen;omega,by omega⟩) I I I (bM ?_)) cJ;refine cI 4 [] (by kernel_rfl)<|bQ I I (dA (gg (xs:=[_,_,_]) I (X8 I) I I) I I I (bM ?_)) cJ;refine cI 5 [] (by kernel_rfl)<|bQ I I (eu (dv I I I) I I I (bM ?_)) cJ;refine cI 6 [] (by kernel_rfl)<|bQ I I (dA (fM I I) I I I (bM ?_)) cJ;refine cI 7 [] (by kernel_rfl)<|bQ I I (dA (fM I I) I I I (bM ?_)) cJ;refine qp (by kernel_rfl)<|cO 3 2 3 1 I I ?_;exact dM [0,3,2,1,4] (.cons 2 I (Ren.ptr (i:=1) I)<|.cons 3 I Ren.pure<|.nil) (.same hd rfl<|.kept rfl (.cells (V0 (Ren.own (i:=2) I)<|V0 (Ren.own (i:=3) I)<|V0 (Ren.own (i:=4) I) Wp))<|.kept rfl (.eZ rfl (dJ N))<|.kept rfl (.eZ rfl (dJ N))<|.kept rfl (.row VT)<|.nil) I I a
end
section
open Go.RowKit cm Mem
section
variable {P:Program} {N L:Nat}
theorem I1(p:PV)(n:Nat):fN [p] n=List.replicate n p:=by
 induction n with
 |zero=>rfl
 |succ n ih=>simp only[fN,ih,Xs];rfl
theorem eV.of{fs:List Nat}{σ}:∀(σ':bH) (js:List Nat),σ'.length=js.length->(∀(i:Nat) b' j,σ'[i]? =some (some b')->js[i]? =some j->∃b,σ[j]? =some (some b)/\ji fs b' b)->eV fs σ σ' js
 | [],[],_,_=>.nil
 |none::σ',j::js,hl,h=>.gone (eV.of σ' js (by simpa using hl) (λi b' k h1 h2=>h (i+1) b' k (by simpa using h1) (by simpa using h2)))
 |some b'::σ',j::js,hl,h=>by
  obtain⟨b,h1,h2⟩:=h 0 b' j rfl rfl;exact .kept h1 h2 (eV.of σ' js (by simpa using hl) (λi b' k h1 h2=>h (i+1) b' k (by simpa using h1) (by simpa using h2)))
 | [],_::_,hl,_=>by simp at hl
 |_::_,[],hl,_=>by simp at hl
abbrev ZG:=@eV.of
theorem gu:∀(l:List Nat),l.Nodup->gd l=true
 | [],_=>rfl
 |x::l,h=>by
  rw[Wv]at h;simp[gd,h.1,gu l h.2]
theorem Dk{c t}{σ:bH}{Q:Exit->St->Prop}(i k e s:Nat){e1 s1 n:Nat}{xs:List PV}(hi:σ[i]? =some (some (.row e1 s1 n xs)))(hk:xs[k]? =some (.raw (.slice none 0 0)))
  (h:W P N L c ⟨t,(σ++[some (cj.row e s 0 [])]).set i (some (.row e1 s1 n (xs.set k (.own σ.length))))⟩ Q):W P N L c ⟨t,σ⟩ Q:=λF base E₀ w₀ E a w hc hs=>by
 obtain⟨m,a2,a3⟩:=Jn hs.sat e s;have l:=(Vf.1 hi).1;have f:(σ++[some (cj.row e s 0 [])])[i]? =some (some (.row e1 s1 n xs)):=by rw[Vl l];exact hi
 obtain⟨cs,h2,p⟩:=m.blk i _ f;obtain⟨cv,d,j⟩:=p.get hk;cases j;have hb:∃b,bg ((E.push (.slice none 0 0)).at_ i)=some b:=by
  rcases h2.2 with u|⟨g,cap,cur,hv,_⟩
  ·have q:=h2.1;rw[u.2,Zf]at q;rw[Vy q]at d;simp at d
  ·exact⟨g,by rw[hv];rfl⟩
 obtain⟨b,hb⟩:=hb;obtain⟨r,o⟩:=m.ta f (b:=b) hb (Vh _) (λ_ _ _=>rfl) (bi':=.row e1 s1 n (xs.set k (.own σ.length))) ⟨cs,h2,by
  have:=p.set k a3;rw[ym d]at this;exact this⟩
 exact h F base E₀ w₀ _ a w (hc.on (a2.trans o) (Yh _ _ _)) ⟨r,(hs.tmp.goes a2).goes o,hs.lO,hs.size⟩
def iQ(n:Nat):List PV:=(List.range n).map λi=>.own (i+1)
def oF(e1 e:TypeId)(rs:List (List Int)):bH:=some (.row e1 1 rs.length (iQ rs.length))::rs.map λr=>some (.row e 1 r.length (cb r))
def sd(e1 e n k:Nat):bH:=some (.row e1 1 n (iQ k++List.replicate (n - k) (PV.raw (.slice none 0 0))))::List.replicate k (some (.row e 1 0 []))
theorem Fc{c t}{Q:Exit->St->Prop}(e1 e n:Nat)(h:W P N L c ⟨t,sd e1 e n n⟩ Q):∀m k,k+m=n->W P N L c ⟨t,sd e1 e n k⟩ Q
  | 0, k, hk => by obtain rfl : k = n := by omega
                   exact h
  |m+1,k,hk=>by
    have ih:=Fc e1 e n h m (k+1) (by omega);have a:(iQ k).length=k:=by simp[iQ]
    refine Dk 0 k e 1 (e1:=e1) (s1:=1) (n:=n) (xs:=iQ k++List.replicate (n - k) (PV.raw (.slice none 0 0))) I ?_ ?_
    · rw[Vq (by omega),a,Wx,Vn (by omega)]
    · have b:(sd e1 e n k++[some (cj.row e 1 0 [])]).set 0 (some (.row e1 1 n ((iQ k++List.replicate (n - k) (PV.raw (.slice none 0 0))).set k (.own (sd e1 e n k).length))))=sd e1 e n (k+1):=by
        unfold sd;simp only[Wt,XB,VI,WX];congr 3
        · rw[Xd _ _ (by omega),a,YK,show n - k=(n - (k+1))+1 by omega,Xs,XB];unfold iQ;rw[WM,Wu];simp
        · rw[Y7]
      rw[b];exact ih
theorem th{c t}{Q:Exit->St->Prop}(e1 e n:Nat)(h:W P N L c ⟨t,oF e1 e (List.replicate n [])⟩ Q):W P N L c ⟨t,[some (.row e1 1 n (fN [.raw (.slice none 0 0)] n))]⟩ Q:=by
 have:=Fc (P:=P) (N:=N) (L:=L) (c:=c) (t:=t) (Q:=Q) e1 e n (by
  have a:sd e1 e n n=oF e1 e (List.replicate n []):=by
   unfold sd oF;simp[cb]
  rw[a];exact h) n 0 (by omega)
 rw[I1];simpa[sd,iQ]using this
def MT(n k:Nat):List Nat:=0::(List.range n).map λi=>if i=k then n+1 else i+1
theorem ya(n k:Nat):gd (MT n k)=true:=by
 apply gu;unfold MT;rw[Wv];constructor
 ·simp only[Vv,not_exists,not_and];intro i _ h;split at h<;>omega
 ·rw[WY,WO];refine X9 ?_ (WY.1 XR);intro i j hi hj a h;have:=VP.1 hi;have:=VP.1 hj;split at h<;>split at h<;>omega
theorem Ac(n k i:Nat)(hi:i<n):(MT n k)[i+1]? =some (if i=k then n+1 else i+1):=by
 unfold MT;simp[hi]
theorem o8(n i:Nat)(hi:i<n):(iQ n)[i]? =some (.own (i+1)):=by simp[iQ,hi]
theorem pf(e1 e:TypeId)(rs:List (List Int))(k:Nat)(hk:k<rs.length):(oF e1 e rs)[k+1]? =some (some (.row e 1 (rs.getD k []).length (cb (rs.getD k [])))):=by
 unfold oF;simp[hk]
theorem CH(e1 e:TypeId)(rs:List (List Int))(k:Nat)(hk:k<rs.length)(x:Int):
  eV (MT rs.length k) (((oF e1 e rs).set (k+1) none++[some (cj.row e 1 ((rs.getD k []).length+1) (cb (rs.getD k [])++[.raw (.int .i64 x)]))]).set 0 (some (.row e1 1 rs.length (over (iQ rs.length) k [.own (oF e1 e rs).length])))) (oF e1 e (rs.set k (rs.getD k []++[x]))) (MT rs.length k):=by
 have h:(iQ rs.length).length=rs.length:=by simp[iQ]
 have c:(oF e1 e rs).length=rs.length+1:=by simp[oF]
 have g:over (iQ rs.length) k [.own (oF e1 e rs).length]=(iQ rs.length).set k (.own (rs.length+1)):=by
  unfold over;rw[c,Xc,Vn (by omega)];simp
 rw[g];apply ZG
 ·simp[oF,MT]
 ·intro i b' j h1 h2;cases i with
  |zero=>
   simp only[oF,YO,WE,VK]at h1;simp only[MT,YO,WE]at h2;subst h1;subst h2;refine⟨.row e1 1 rs.length ((iQ rs.length).set k (.own (rs.length+1))),by simp[oF],.row ⟨by simp,λi a b k1 f=>?_⟩⟩;have hi:i<rs.length:=by have:=(Vf.1 k1).1;omega
   rw[o8 _ _ hi]at k1;cases k1;rw[VV]at f;split at f
   ·rename_i d;subst d;rw[Vn (by omega)]at f;cases f;exact .own (by rw[Ac _ _ _ hi,Vn rfl])
   ·rename_i d;rw[o8 _ _ hi]at f;cases f;exact .own (by rw[Ac _ _ _ hi,Vk (Ne.symm d)])
  |succ i=>
   have hi:i<rs.length:=by
    have:=(Vf.1 h1).1;simp[oF]at this;exact this
   rw[pf _ _ _ _ (by simpa using hi)]at h1;rw[Ac _ _ _ hi]at h2;cases h1;by_cases d:i=k
   ·rw[Vn d]at h2;cases h2;subst d;refine⟨.row e 1 ((rs.getD i []).length+1) (cb (rs.getD i [])++[.raw (.int .i64 x)]),?_,?_⟩
    ·rw[VY (by omega),Vq (by simp[c])];simp[c]
    ·have hg:(rs.set i (rs.getD i []++[x])).getD i []=rs.getD i []++[x]:=by simp[Qo,hi]
     rw[hg,ed];exact .eZ (by simp) I
   ·rw[Vk d]at h2;cases h2;refine⟨.row e 1 (rs.getD i []).length (cb (rs.getD i [])),?_,?_⟩
    ·rw[VY (by omega),Vl (by simp[c];omega),VY (by omega),pf _ _ _ _ hi]
    ·have hg:(rs.set k (rs.getD k []++[x])).getD i []=rs.getD i []:=by simp[Qo,VV,Ne.symm d]
     rw[hg];exact .row VT
def mS(rs:List (List Int)):PV:=.slice rs.length (rs.map bm)
instance (rs:List (List Int)):aM (rs.map bm):=aM.map _ _ λ_=>inferInstance
instance (rs:List (List Int)):IsPure (mS rs):=by unfold mS;infer_instance
theorem CG(e1 e:TypeId)(rs:List (List Int)):aQ (oF e1 e rs) (.own 0) (mS rs):=by
 refine Yw rfl ⟨by simp[iQ],λi a b h1 h2=>?_⟩;have hi:i<rs.length:=by have:=(Vf.1 h2).1;simpa using this
 rw[o8 _ _ hi]at h1;cases h1;have:b=bm (rs.getD i []):=by simpa[hi]using h2.symm
 subst this;exact Yw (pf e1 e rs i hi) W9
def ep(f:Nat->Int)(n k:Nat):List (List Int):=(List.range n).map fun(m:Nat)=>((List.range k).filter λa=>decide (f a=(m:Int))).map Int.ofNat
theorem gv(f:Nat->Int)(n k:Nat):(ep f n k).length=n:=by simp[ep]
theorem kQ(f:Nat->Int)(n k m:Nat)(hm:m<n):(ep f n k).getD m []=((List.range k).filter λa=>decide (f a=(m:Int))).map Int.ofNat:=by simp[ep,hm]
theorem vI(f:Nat->Int)(n:Nat):ep f n 0=List.replicate n []:=by
 apply Wz;intro i;simp only[ep,List.range_zero,Ya,Xw,Vt,Wx];by_cases h:i<n<;>simp[h]
theorem vH(f:Nat->Int)(n k m:Nat)(hm:f k=(m:Int))(a:m<n):ep f n (k+1)=(ep f n k).set m ((ep f n k).getD m []++[(k:Int)]):=by
 apply Wz;intro i;rw[VV];by_cases h:i<n
 ·have hl:i<(ep f n k).length:=by rw[gv];exact h
  by_cases e:m=i
  ·subst e;rw[Vn rfl,Vn hl,kQ _ _ _ _ h];simp[ep,h,WM,WI,hm]
  ·rw[Vk e];simp[ep,h,WM,WI,hm];omega
 ·have hl:¬i<(ep f n k).length:=by rw[gv];exact h
  have:(ep f n (k+1))[i]? =none:=by simp[ep,h]
  rw[this];split
  ·rw[Vk (by omega)]
  ·simp[ep,h]
end
open Net
theorem RI{P σ t}{o:Oper}{x y ty b}{a:Nat}(ho:o.op= .binOp .xor ty x y b)(hx:aI t x=some (num a))(hy:aI t y=some (num 1))(ha:a<9223372036854775806):bE P σ t o (num (flip a:Int)):=
 jJ ho hx hy λw=>by
  have h:IntKind.i64.wrap ((BitVec.ofInt IntKind.i64.bits (a:Int) ^^^ BitVec.ofInt IntKind.i64.bits 1).toNat:Int)=(flip a:Int):=Px a ha;simp only[binOp,Op.intBits,h]
  rfl
theorem Ez(a:Nat):((a:Int)).tdiv 2=((a / 2:Nat):Int):=rfl
theorem LA(a:Nat):((a:Int)).tmod 2=((a % 2:Nat):Int):=rfl
theorem bY{T:aw}{n:Int}:bZ T n=true↔0<=n/\n<T.nodes:=by simp[bZ]
theorem dy{T:aw}(h:aH T=true):T.ah.length<=256:=(fr h).2.2.1
theorem tt{b:Prop}[Decidable b](h:decide b=true):b:=Vg h
theorem ff{b:Prop}[Decidable b](h:decide b=false):¬b:=Vj h
theorem pS{E w v}{n:Nat}{xs}(h:dj E w v (.slice n xs)):n<=maxLen:=by
 obtain⟨a,c,_,h1,h2⟩:=jy h;omega
theorem ud{P f ps}{R:PV->Prop}(h:(∃E w vs,bn E w vs ps)->Can P f ps R):Can P f ps R:=λF w vs b c a=>h ⟨_,_,_,a⟩ F w vs b c a
theorem AU{P f}{T:aw}{ps}{R:PV->Prop}(h:T.ah.length<=maxLen->T.over.length<=maxLen->Can P f (bu T::ps) R):Can P f (bu T::ps) R:=by
 refine ud λ⟨E,w,vs,a⟩=>?_;obtain⟨v,_,hv⟩:=a.get (i:=0) I;unfold bu bJ at hv;cases hv with
 |agg cs _ hl hr=>
  have hr:bn E w cs.toList _:=⟨by simpa using hl,λi x u h1 h2=>hr i x u (by simpa using h1) h2⟩;obtain⟨v1,_,h1⟩:=hr.get (i:=1) I;obtain⟨v2,_,h2⟩:=hr.get (i:=2) I;exact h (pS h2) (pS h1)
theorem jl(T:aw)(hl:T.ah.length<=4611686018427387903):Can prog 74 [bu T] (· =num (2*(T.ah.length:Int))):=by
 exact aR func74 I ntmps74 I<|aj (.a 2 I<|.k [1] I)<|aj (.a 3 I<|.v (aU I) I<|.a 1 I<|.k [2] I)<|aA<|jF I aQ.pure rfl
theorem mY(T:aw)(a:Nat)(ha:a<2*T.ah.length):Can prog 79 [bu T,num a] (· =num (bI T a)):=by
 have hi:a / 2<T.ah.length:=by omega
 refine AU λhm _=>?_;unfold maxLen at hm;refine aR func79 I ntmps79 I<|aj (.a 2 I<|.k [1,2] I)<|an<|aj (.a 1 I<|.v (l4 I I I (by decide) (LA a)) I<|.a 1 I<|.k [1,2,7] I)<|ak I (λhc=>?_) (λhc=>?_)
 ·have h2:a % 2=0:=by have:=tt hc;omega
  unfold bI;rw[Vn h2];exact aj (.a 3 I<|.v (lI I I I (by decide) (Ez a) (by unfold In64;omega)) I<|.v (aX (a / 2*7) I) I<|.a 1 I<|.v (aO I (eM T.ah (a / 2) 0 hi (by omega))) I<|.a 1 I<|.k [4] I)<|aA<|jF I aQ.pure rfl
 ·have h2:¬a % 2=0:=by have:=ff hc;omega
  unfold bI;rw[Vk h2];exact ao<|aj (.a 3 I<|.v (lI I I I (by decide) (Ez a) (by unfold In64;omega)) I<|.v (aX (a / 2*7) I) I<|.a 1 I<|.v (aO I (eM T.ah (a / 2) 1 hi (by omega))) I<|.a 1 I<|.k [4] I)<|aA<|jF I aQ.pure rfl
theorem jq(T:aw)(a:Nat)(ha:a<2*T.ah.length)(hl:T.ah.length<=4611686018427387902):Can prog 54 [bu T,num a] (· =num (bx T a)):=by
 exact aR func54 I ntmps54 I<|aj (.a 2 I<|.k [1,2] I)<|aj (.a 2 I<|.v (RI I I I (by omega)) I<|.c rfl (mY T (Net.flip a) (by unfold Net.flip;split<;>omega)) I<|.a 1 I<|.k [4] I)<|aA<|jF I aQ.pure rfl
theorem AY(T:aw)(a:Nat)(hi:a / 2<T.ah.length):(bR T.ah)[a / 2*7+2+a % 2]? =some (num (cr T a)):=by
 rw[Xk,eM T.ah (a / 2) (2+a % 2) hi (by omega)];unfold cr;rcases Nat.mod_two_eq_zero_or_one a with h|h<;>rw[h]
 ·rfl
 ·rfl
theorem mv(T:aw)(a:Nat)(ha:a<2*T.ah.length):Can prog 55 [bu T,num a] (· =num (cr T a)):=by
 have hi:a / 2<T.ah.length:=by omega
 refine AU λhm _=>?_;unfold maxLen at hm;exact aR func55 I ntmps55 I<|aj (.a 2 I<|.k [1,2] I)<|aj (.a 3 I<|.v (lI I I I (by decide) (Ez a) (by unfold In64;omega)) I<|.a 1 I<|.v (l4 I I I (by decide) (LA a)) I<|.v (aX (a / 2*7) I) I<|.a 1 I<|.v (aX (a % 2) I) I<|.v (aO I (AY T a hi)) I<|.a 1 I<|.k [4] I)<|aA<|jF I aQ.pure rfl
theorem o6(T:aw)(n:Nat)(hn:T.over.length=0\/n<T.over.length):Can prog 50 [bu T,num n] (· =flag (cW T n)):=by
 have⟨c,a⟩:=dw (decide (0<(T.over.length:Int)));have⟨d,b⟩:=dw (T.over.getD n false);have he:cW T n=(c&&d):=by
  unfold cW;cases c
  ·have:=ff a;rw[Qo,V4 (by omega)];rfl
  ·exact b
 rw[he];refine aR func50 I ntmps50 I<|aj (.a 2 I<|.k [1,2] I)<|cD 4 (.raw (.bool (c&&d))) [] I ?_ ?_
 ·refine .a 3 I<|.v (cT I (a)) I<|.a 1 I<|?_;cases c
  ·exact .a 7 I<|.k [4] I
  ·exact .a 3 I<|.v (aX (n) I (by omega) (by have:=tt a;omega)) I<|.v (aO I (show _=some (flag d) by rw[eD _ n (by have:=tt a;omega),b])) I<|.a 2 I<|.k [4] I
 exact aA<|jF I aQ.pure rfl
theorem jw(T:aw)(n:Int):Can prog 33 [bu T,num n] (· =flag (bZ T n)):=by
 have⟨c,a⟩:=dw (decide (0<=n));have⟨d,b⟩:=dw (decide (n<T.nodes));have he:bZ T n=(c&&d):=by rw[<-a,<-b];unfold bZ;exact Zb _ _
 rw[he];refine aR func33 I ntmps33 I<|aj (.a 2 I<|.k [1,2] I)<|cD 4 (.raw (.bool (c&&d))) [] I ?_ ?_
 ·refine .a 1 I<|.v (cT I (a)) I<|.a 1 I<|?_;cases c
  ·exact .a 6 I<|.k [4] I
  ·exact .a 3 I<|.v (cT I (b)) I<|.a 2 I<|.k [4] I
 exact aA<|jF I aQ.pure rfl
theorem Nj(T:aw)(hl:T.ah.length<=4611686018427387903)(a:Int):Can prog 168 [bu T,num a] (· =flag (jE T a)):=by
 have⟨d,b⟩:=dw (decide (0<=a));have⟨e,c⟩:=dw (decide (a<2*(T.ah.length:Int)));have he:jE T a=(d&&e):=by rw[<-b,<-c];unfold jE;exact Zb _ _
 rw[he];refine aR func168 I ntmps168 I<|aj (.a 2 I<|.k [1,2] I)<|cD 4 (.raw (.bool (d&&e))) [] I ?_ ?_
 ·refine .a 1 I<|.v (cT I (b)) I<|.a 1 I<|?_;cases d
  ·exact .a 6 I<|.k [4] I
  ·exact .a 2 I<|.c rfl (jl T hl) I<|.v (cT I (c)) I<|.a 2 I<|.k [4] I
 exact aA<|jF I aQ.pure rfl
theorem rn(T:aw)(D:List Bool)(hl:T.ah.length<=4611686018427387903):Can prog 32 [bu T,aY D] (· =flag (cf T D)):=by
 have⟨c,a⟩:=dw (decide ((D.length:Int)=0));have⟨d,b⟩:=dw (decide ((D.length:Int)=2*(T.ah.length:Int)));have he:cf T D=(c||d):=by rw[<-a,<-b];unfold cf;rw[<-Bool.decide_or];exact decide_eq_decide.2 (by omega)
 rw[he];refine aR func32 I ntmps32 I<|aj (.a 2 I<|.k [1,2] I)<|cD 4 (.raw (.bool (c||d))) [] I ?_ ?_
 ·refine .a 2 I<|.v (cT I (a)) I<|.a 1 I<|?_;cases c
  ·exact .a 3 I<|.c rfl (jl T hl) I<|.v (cT I (b)) I<|.a 2 I<|.k [4] I
  ·exact .a 7 I<|.k [4] I
 exact aA<|jF I aQ.pure rfl
theorem Fw{D:List Bool}{a:Nat}{p1 d}(b:decide (0<(D.length:Int))=p1)(c:D.getD a false=d):bO D a=(p1&&d):=by
 unfold bO;cases p1
 ·have:=ff b;rw[Qo,V4 (by omega)];rfl
 ·exact c
theorem my(D:List Bool)(a:Nat)(ha:D.length=0\/a<D.length):Can prog 36 [aY D,num a] (· =flag (bO D a)):=by
 have⟨d,b⟩:=dw (decide (0<(D.length:Int)));have⟨e,c⟩:=dw (D.getD a false);rw[Fw b c];refine aR func36 I ntmps36 I<|aj (.a 1 I<|.k [0,1] I)<|cD 4 (.raw (.bool (d&&e))) [] I ?_ ?_
 ·refine .a 2 I<|.v (cT I (b)) I<|.a 1 I<|?_;cases d
  ·exact .a 6 I<|.k [4] I
  ·exact .a 2 I<|.v (aX (a) I (by omega) (by have:=tt b;omega)) I<|.v (aO I (show _=some (flag e) by rw[eD _ a (by have:=tt b;omega),c])) I<|.a 2 I<|.k [4] I
 exact aA<|jF I aQ.pure rfl
theorem jX(n lo hi:Int):Can prog 76 [num n,num lo,num hi] (· =flag (cB n lo hi)):=by
 have⟨c,a⟩:=dw (decide (lo<=n));have⟨d,b⟩:=dw (decide (n<=hi));have he:cB n lo hi=(c&&d):=by rw[<-a,<-b];unfold cB;exact Zb _ _
 rw[he];refine aR func76 I ntmps76 I<|aj (.a 1 I<|.k [0,1,2] I)<|cD 6 (.raw (.bool (c&&d))) [] I ?_ ?_
 ·refine .a 2 I<|.v (cT I (a)) I<|.a 1 I<|?_;cases c
  ·exact .a 5 I<|.k [6] I
  ·exact .a 2 I<|.v (cT I (b)) I<|.a 2 I<|.k [6] I
 exact aA<|jF I aQ.pure rfl
theorem gw(T:aw):Can prog 31 [bu T] (· =flag (aH T)):=by
  have⟨p0,m⟩:=dw (cB T.nodes 1 64);have⟨F,b⟩:=dw (decide ((T.over.length:Int)≠0));have⟨J,c⟩:=dw (decide ((T.over.length:Int)≠T.nodes));have⟨K,f⟩:=dw (decide (256<(T.ah.length:Int)));have hw:Can prog 76 [num T.nodes,num 1,num 64] (· =flag p0):=by rw[<-m];exact jX _ _ _
  refine aR func31 I ntmps31 I<|aj (.a 2 I<|.k [1] I)<|an<|cD 14 (.raw (.bool ((!p0)||K))) [1] I ?_ ?_
  · refine .a 2 I<|.c rfl (hw) I<|.a 2 I<|?_;cases p0
    · exact .a 5 I<|.k [14,1] I
    · exact .a 3 I<|.v (cT I (f)) I<|.a 1 I<|.k [14,1] I
  refine ak I (λhc=>?_) (λhc=>?_)
  · have hv:aH T=false:=by
      rcases Xh.1 hc with h|h
      · exact(jW T (.inl (by rw[m];simpa using h))).symm
      · rw[h]at f;exact(jW T (.inr (.inl (by have:=tt f;omega)))).symm
    rw[hv];exact aj (.a 1 I<|.k [2] I)<|aA<|jF I aQ.pure rfl
  · obtain ⟨c1, H⟩ := Wo.1 hc;have h0:p0=true:=by simpa using c1
    rw[h0]at m;rw[H]at f;have hle:T.ah.length<=256:=by have:=ff f;omega
    clear hw hc c1;refine ao<|an<|cD 26 (.raw (.bool (F&&J))) [1] I ?_ ?_
    · refine .a 3 I<|.v (cT I (b)) I<|.a 1 I<|?_;cases F
      · exact .a 7 I<|.k [26,1] I
      · exact .a 5 I<|.v (cT I (c)) I<|.a 1 I<|.k [26,1] I
    refine ak I (λhc=>?_) (λhc=>?_)
    · have hv:aH T=false:=by
        obtain⟨G,a2⟩:=Wd.1 hc;rw[G]at b;rw[a2]at c;exact(jW T (.inr (.inr ⟨by have:=tt b;omega,tt c⟩))).symm
      rw[hv];exact aj (.a 1 I<|.k [2] I)<|aA<|jF I aQ.pure rfl
    · have B:T.over.length=0\/(T.over.length:Int)=T.nodes:=by
        rcases Xy.1 hc with h|h
        · rw[h]at b;exact .inl (by have:=ff b;omega)
        · rw[h]at c;exact .inr (by have:=ff c;omega)
      rw[v7 T m hle B];clear hc b c;refine ao<|an<|aj (.a 4 I<|.k [1,29,30] I)<|ay<|eX [1,29,30] I<|bq (λr s=>∃k,k<=T.ah.length/\r=T.ah.length - k/\(T.ah.take k).all (iY T)=true/\s=⟨[(1,.cH (bJ T) 0),(29,num T.ah.length),(30,num k)],[]⟩) T.ah.length ⟨0,by omega,by omega,by simp,rfl⟩ ?_;rintro r s ⟨k,hk,rfl,d,rfl⟩;refine aj (.a 1 I<|.k [1,29,30,31] I)<|an<|ak I (λhc=>?_) (λhc=>?_)
      · have hlt:k<T.ah.length:=by have:=tt hc;omega
        have g:∀j,j<7->(bR T.ah)[k*7+j]? =(jt (bV T.ah k))[j]? :=λj hj=>eM T.ah k j hlt hj;have⟨q1,g1⟩:=dw (decide ((bV T.ah k).a=(bV T.ah k).b));have⟨q,g2⟩:=dw (bZ T (bV T.ah k).a);have⟨w,g3⟩:=dw (bZ T (bV T.ah k).b);have⟨t,g4⟩:=dw (cB (bV T.ah k).c0 1 65535);have⟨x,g5⟩:=dw (cB (bV T.ah k).c1 1 65535);have⟨u,g6⟩:=dw (cB (bV T.ah k).cap 0 1048576);have⟨v,g7⟩:=dw (cB (bV T.ah k).fH 1 65536);have⟨y,g8⟩:=dw (cB (bV T.ah k).wC 0 64);have p:=xy (T:=T) (l:=bV T.ah k) (q1:=q1) (by rw[<-g1];exact XV.2 (by simp)) g2 g3 g4 g5 g6 g7 g8;have e:=AN (iY T) T.ah k hlt;have i:=AM (iY T) T.ah k hlt;rw[p]at e i;have C:=jw T (bV T.ah k).a;rw[g2]at C;have D:=jw T (bV T.ah k).b;rw[g3]at D;have E:=jX (bV T.ah k).c0 1 65535;rw[g4]at E;have n5:=jX (bV T.ah k).c1 1 65535;rw[g5]at n5;have n6:=jX (bV T.ah k).cap 0 1048576;rw[g6]at n6;have n7:=jX (bV T.ah k).fH 1 65536;rw[g7]at n7;have n8:=jX (bV T.ah k).wC 0 64;rw[g8]at n8;clear p g2 g3 g4 g5 g6 g7 g8;refine ao<|an<|ay<|aj (.a 2 I<|.k [1,3,29,30] I)<|aj (.a 3 I<|.v (aX (k*7) I) I<|.a 1 I<|.k [1,4,29,30] I)<|an<|uG mixed (by kernel_rfl) 63 (.raw (.bool ((q1|| !q)|| !w))) [1,4,29,30] I ?_ ?_
        · refine .a 3 I<|.v [39] (aO I (g 0 (by omega))) I I<|.a 3 I<|.v [43] (aO I (g 1 (by omega))) I I<|.v [40,44] (cT I (g1)) I I<|.a 1 I<|?_;cases q1
          · refine .a 4 I<|.v [50] (aO I (g 0 (by omega))) I I<|.v [47,51] (dW I (C)) I I<|.a 3 I<|?_;cases q
            · exact .a 8 I<|.k [63,1,4,29,30] I
            · exact .a 4 I<|.v [59] (aO I (g 1 (by omega))) I I<|.v [56,60] (dW I (D)) I I<|.a 2 I<|.k [63,1,4,29,30] I
          · exact .a 17 I<|.k [63,1,4,29,30] I
        refine ak I (λhx=>?_) (λhx=>?_)
        · have a:=i (by cases q1<;>cases q<;>cases w<;>simp_all);rw[a];exact aj (.a 1 I<|.k [2] I)<|aA<|jF I aQ.pure rfl
        · have n:q1=false:=by cases q1<;>simp_all
          have o:q=true:=by cases q<;>simp_all
          have z:w=true:=by cases w<;>simp_all
          subst n o z;clear C D hx;refine ao<|an<|cD 79 (.raw (.bool ((!t)|| !x))) [1,4,29,30] I ?_ ?_
          · refine .a 3 I<|.v (aX (0) I) I<|.v (aO I (g 2 (by omega))) I<|.c rfl (E) I<|.a 2 I<|?_;cases t
            · exact .a 8 I<|.k [79,1,4,29,30] I
            · exact .a 3 I<|.v (aX (1) I) I<|.v (aO I (g 3 (by omega))) I<|.c rfl (n5) I<|.a 2 I<|.k [79,1,4,29,30] I
          refine ak I (λhx=>?_) (λhx=>?_)
          · have a:=i (by cases t<;>cases x<;>simp_all);rw[a];exact aj (.a 1 I<|.k [2] I)<|aA<|jF I aQ.pure rfl
          · have n:t=true:=by cases t<;>simp_all
            have o:x=true:=by cases x<;>simp_all
            subst n o;clear E n5 hx;refine ao<|cD 101 (.raw (.bool (((!u)|| !v)|| !y))) [1,29,30] I ?_ ?_
            · refine .a 3 I<|.v (aO I (g 4 (by omega))) I<|.c rfl (n6) I<|.a 2 I<|?_;cases u
              · exact .a 15 I<|.k [101,1,29,30] I
              · refine .a 3 I<|.v (aO I (g 5 (by omega))) I<|.c rfl (n7) I<|.a 3 I<|?_;cases v
                · exact .a 7 I<|.k [101,1,29,30] I
                · exact .a 3 I<|.v (aO I (g 6 (by omega))) I<|.c rfl (n8) I<|.a 2 I<|.k [101,1,29,30] I
            refine ak I (λhx=>?_) (λhx=>?_)
            · have a:=i (by cases u<;>cases v<;>cases y<;>simp_all);rw[a];exact aj (.a 1 I<|.k [2] I)<|aA<|jF I aQ.pure rfl
            · have n:u=true:=by cases u<;>simp_all
              have o:v=true:=by cases v<;>simp_all
              have z:y=true:=by cases y<;>simp_all
              subst n o z;clear n6 n7 n8 hx;refine ao<|aL (.v (aU I) I<|.a 1 I<|.k [1,29,30] I) ?_;exact⟨T.ah.length - (k+1),by omega,k+1,by omega,rfl,by rw[e,d];rfl,rfl⟩
      · have A:k=T.ah.length:=by have:=ff hc;omega
        subst A;rw[VN]at d;rw[d];exact bh<|aj (.a 1 I<|.k [2] I)<|aA<|jF I aQ.pure rfl
end
section
open Go.RowKit cm Mem
section
variable {P:Program} {N L:Nat} {ops:Array Oper}
theorem WA.mono:∀ {n:Nat} {ls st} {K a:St->Prop},WA P N L ops n ls st K->(∀s,K s->a s)->WA P N L ops n ls st a
 |0,_,_,_,_,h,hk=>⟨h.1,hk _ h.2⟩
 |_+1,_,_,_,_,h,hk=>⟨h.1,λi hi=>by
   obtain⟨o,h1,h2,b⟩:=h.2 i hi;exact⟨o,h1,h2,b.mono λs hs=>WA.mono hs hk⟩⟩
theorem eC{id:Nat}{l:List Oper}{y st}{Q:Exit->St->Prop}(t':cd)(σ':bH)(hm:P.follows .mixedOrders=true)(h:WA P N L l.toArray l.length (Array.replicate l.length false) st (λs=>s.σ=σ'/\Sub s.t t'))(a:W P N L y ⟨t',σ'⟩ Q):W P N L (.seq (.region id l.toArray true) y) st Q:=
 sx hm (h.mono λs hs=>by
  obtain⟨t,σ⟩:=s;obtain⟨h1,h2⟩:=hs;subst h1;exact gQ h2 a)
theorem Sat.seal{F:Nat->Prop}{base:Nat}{σ}{E:Env}{w}(d:Sat F base σ E w){i e s n:Nat}{xs}(hi:σ[i]? =some (some (.row e s n xs))){v}(hv:dj E w v (.own i)):dj (E.kill i) w v (.slice n xs):=by
 obtain⟨_,g⟩:=d.kill i hi;cases hv with
 |own _ f _ h _=>
  obtain⟨cs,k1,a⟩:=d.blk i _ hi;rw[h]at k1;have c:=k1;rcases k1.2 with⟨rfl,h0⟩|⟨b,cap,cur,rfl,hb,hg,hn,hc,k,l⟩
  ·subst h0;have:xs=[]:=by
    have:=c.1;simp at this;subst this;exact Vy a.1.symm
   subst this;exact .cg
  ·by_cases h0:n=0
   ·subst h0;have:xs=[]:=by
     have:=c.1;simp at this;subst this;exact Vy a.1.symm
    subst this;exact .empty _ _ hc
   ·refine .slice b 0 n cap cs xs (by omega) hn hc (Vs.1 hg).1 (λhM=>hM.2 (by rw[h];rfl)) (λj x hx=>?_) a.1 (λj x u h1 h2=>(a.2 j x u h1 h2).goes g);have:=c.cells (g:=b) I j x hx;rw[Addr.add_lit]at this;exact this
theorem sy{c t}{σ:bH}{Q:Exit->St->Prop}(k i:Nat){e s n:Nat}{xs}(hk:look k t=some (.own i))(hi:σ[i]? =some (some (.row e s n xs)))(h:W P N L c ⟨(k,.slice n xs)::t,σ.set i none⟩ Q):W P N L c ⟨t,σ⟩ Q:=λF base E₀ w₀ E a w hc hs=>by
 obtain⟨b,a2⟩:=hs.sat.kill i hi;exact h F base E₀ w₀ _ a w (hc.on a2 (Yh _ _ _)) ⟨b,(hs.tmp.goes a2).OX (hs.sat.seal hi (hs.tmp k _ hk)),hs.lO,hs.size⟩
theorem kK{c t}{σ:bH}{Q:Exit->St->Prop}(k i off:Nat){ty xs}(hk:look k t=some (.ptr i off))(hi:σ[i]? =some (some (.cells ty xs)))(h:W P N L c ⟨(k,.cH xs off)::t,σ.set i none⟩ Q):W P N L c ⟨t,σ⟩ Q:=λF base E₀ w₀ E a w hc hs=>by
 obtain⟨f,a2⟩:=hs.sat.kill i hi;have hv:=hs.tmp k _ hk;obtain⟨b,cs,h1,h2,d,e⟩:=hs.sat.blk i _ hi;have hp:dj (E.kill i) w (a.eval (.tmp k)) (.cH xs off):=by
  generalize a.eval (.tmp k)=z at hv;cases hv with
  |ptr _ _ b' g h=>
   have hb:b'=b:=by
    rcases h with h|⟨n,c,h⟩<;>rw[h1]at h<;>cases h
    rfl
   subst hb;have:=dj.cH (E:=E.kill i) (w:=w) b' 0 off cs.toList xs (Vs.1 d).1 (λhM=>hM.2 (by rw[h1];rfl)) (λj x hx=>by rw[Ws];unfold World.cell?;simp only[d];simpa using hx) e.1 (λj x u k1 l=>(e.2 j x u k1 l).goes a2);rw[Ws]at this;exact this
 exact h F base E₀ w₀ _ a w (hc.on a2 (Yh _ _ _)) ⟨f,(hs.tmp.goes a2).OX hp,hs.lO,hs.size⟩
end
open Net
theorem fU(n lo hi:Int):Can prog 48 [num n,num lo,num hi] (· =flag (cB n lo hi)):=by
 have⟨c,a⟩:=dw (decide (lo<=n));have⟨d,b⟩:=dw (decide (n<=hi));have he:cB n lo hi=(c&&d):=by rw[<-a,<-b];unfold cB;exact Zb _ _
 rw[he];refine aR func48 I ntmps48 I<|aj (.a 1 I<|.k [0,1,2] I)<|cD 6 (.raw (.bool (c&&d))) [] I ?_ ?_
 ·refine .a 2 I<|.v (cT I (a)) I<|.a 1 I<|?_;cases c
  ·exact .a 5 I<|.k [6] I
  ·exact .a 2 I<|.v (cT I (b)) I<|.a 2 I<|.k [6] I
 exact aA<|jF I aQ.pure rfl
theorem lD(T:aw):Can prog 20 [bu T] (· =flag (aH T)):=by
  have⟨p0,g⟩:=dw (cB T.nodes 1 64);have⟨E,a⟩:=dw (decide ((T.over.length:Int)≠0));have⟨F,b⟩:=dw (decide ((T.over.length:Int)≠T.nodes));have⟨M,c⟩:=dw (decide (256<(T.ah.length:Int)));have hw:Can prog 48 [num T.nodes,num 1,num 64] (· =flag p0):=by rw[<-g];exact fU _ _ _
  refine aR func20 I ntmps20 I<|aj (.a 2 I<|.k [1] I)<|an<|cD 28 (.raw (.bool (((!p0)||(E&&F))||M))) [1] I ?_ ?_
  · refine .a 2 I<|.c rfl (hw) I<|.a 2 I<|?_;cases p0
    · exact .a 19 I<|.k [28,1] I
    · refine .a 3 I<|.v (cT I (a)) I<|.a 1 I<|?_;cases E
      · exact .a 12 I<|.v (cT I (c)) I<|.a 1 I<|.k [28,1] I
      · refine .a 5 I<|.v (cT I (b)) I<|.a 3 I<|?_;cases F
        · exact .a 3 I<|.v (cT I (c)) I<|.a 1 I<|.k [28,1] I
        · exact .a 5 I<|.k [28,1] I
  refine ak I (λhc=>?_) (λhc=>?_)
  · have hv:aH T=false:=by
      rcases Xh.1 hc with h|h
      · rcases Xh.1 h with h|h
        · exact(jW T (.inl (by rw[g];simpa using h))).symm
        · obtain⟨G,a2⟩:=Wd.1 h;rw[G]at a;rw[a2]at b;exact(jW T (.inr (.inr ⟨by have:=tt a;omega,tt b⟩))).symm
      · rw[h]at c;exact(jW T (.inr (.inl (by have:=tt c;omega)))).symm
    rw[hv];exact aj (.a 1 I<|.k [2] I)<|aA<|jF I aQ.pure rfl
  · obtain ⟨c1, H⟩ := Wo.1 hc;obtain⟨c1,D⟩:=Wo.1 c1;have h0:p0=true:=by simpa using c1
    rw[h0]at g;rw[H]at c;have hle:T.ah.length<=256:=by have:=ff c;omega
    have z:T.over.length=0\/(T.over.length:Int)=T.nodes:=by
      rcases Xy.1 D with h|h
      · rw[h]at a;exact .inl (by have:=ff a;omega)
      · rw[h]at b;exact .inr (by have:=ff b;omega)
    rw[v7 T g hle z];have L:=kD g;clear hw hc c1 D a b;refine ao<|an<|aj (.a 1 I<|.k [1,3] I)<|ay<|eX [1,3] I<|bq (λr s=>∃k,k<=T.ah.length/\r=T.ah.length - k/\(T.ah.take k).all (iY T)=true/\s=⟨[(1,.cH (bJ T) 0),(3,num k)],[]⟩) T.ah.length ⟨0,by omega,by omega,by simp,rfl⟩ ?_;rintro r s ⟨k,hk,rfl,d,rfl⟩;refine an<|aj (.a 5 I<|.k [1,3,33] I)<|ak I (λhc=>?_) (λhc=>?_)
    · have hlt:k<T.ah.length:=by have:=tt hc;omega
      have⟨q1,g1⟩:=dw (decide ((bV T.ah k).a=(bV T.ah k).b));have⟨m,g2⟩:=dw (bZ T (bV T.ah k).a);have⟨n,g3⟩:=dw (bZ T (bV T.ah k).b);have⟨o,g4⟩:=dw (cB (bV T.ah k).c0 1 65535);have⟨t,g5⟩:=dw (cB (bV T.ah k).c1 1 65535);have⟨p,g6⟩:=dw (cB (bV T.ah k).cap 0 1048576);have⟨q,g7⟩:=dw (cB (bV T.ah k).fH 1 65536);have⟨u,g8⟩:=dw (cB (bV T.ah k).wC 0 64);have j:=xy (T:=T) (l:=bV T.ah k) (q1:=q1) (by rw[<-g1];exact XV.2 (by simp)) g2 g3 g4 g5 g6 g7 g8;have e:=AN (iY T) T.ah k hlt;have i:=AM (iY T) T.ah k hlt;rw[j]at e i;have A:=fU (bV T.ah k).a 0 (T.nodes - 1);rw[tO,g2]at A;have B:=fU (bV T.ah k).b 0 (T.nodes - 1);rw[tO,g3]at B;have C:=fU (bV T.ah k).c0 1 65535;rw[g4]at C;have n5:=fU (bV T.ah k).c1 1 65535;rw[g5]at n5;have n6:=fU (bV T.ah k).cap 0 1048576;rw[g6]at n6;have n7:=fU (bV T.ah k).fH 1 65536;rw[g7]at n7;have n8:=fU (bV T.ah k).wC 0 64;rw[g8]at n8;clear j g2 g3 g4 g5 g6 g7 g8;refine ao<|an<|ay<|aK<|av 3 I<|aZ (aX (k*7) I) I<|aZ (gr I (BM T.ah k hlt) I) I<|av 2 I<|aF [1,3,4] I ?_;refine kK 4 0 0 I I<|dM [] (.c 1<|.c 3<|.c 4 .nil) .nil rfl rfl ?_;refine an<|cD 77 (.raw (.bool (((((!m)|| !n)||q1)|| !o)|| !t))) [1,3,4] I ?_ ?_
      · refine .a 4 I<|.v (aU I) I<|.c rfl (A) I<|.a 2 I<|?_;cases m
        · exact .a 29 I<|.k [77,1,3,4] I
        · refine .a 4 I<|.v (aU I) I<|.c rfl (B) I<|.a 3 I<|?_;cases n
          · exact .a 20 I<|.k [77,1,3,4] I
          · refine .a 4 I<|.v (cT I (g1)) I<|.a 2 I<|?_;cases q1
            · refine .a 1 I<|.v (aX (0) I) I<|.a 1 I<|.c rfl (C) I<|.a 3 I<|?_;cases o
              · exact .a 6 I<|.k [77,1,3,4] I
              · exact .a 1 I<|.v (aX (1) I) I<|.a 1 I<|.c rfl (n5) I<|.a 2 I<|.k [77,1,3,4] I
            · exact .a 13 I<|.k [77,1,3,4] I
      refine ak I (λhx=>?_) (λhx=>?_)
      · have f:=i (by cases q1<;>cases m<;>cases n<;>cases o<;>cases t<;>simp_all);rw[f];exact aj (.a 1 I<|.k [2] I)<|aA<|jF I aQ.pure rfl
      · have v:q1=false:=by cases q1<;>simp_all
        have w:m=true:=by cases m<;>simp_all
        have x:n=true:=by cases n<;>simp_all
        have J:o=true:=by cases o<;>simp_all
        have K:t=true:=by cases t<;>simp_all
        subst v w x J K;clear A B C n5 hx;refine ao<|cD 93 (.raw (.bool (((!p)|| !q)|| !u))) [1,3] I ?_ ?_
        · refine .a 2 I<|.c rfl (n6) I<|.a 2 I<|?_;cases p
          · exact .a 11 I<|.k [93,1,3] I
          · refine .a 2 I<|.c rfl (n7) I<|.a 3 I<|?_;cases q
            · exact .a 5 I<|.k [93,1,3] I
            · exact .a 2 I<|.c rfl (n8) I<|.a 2 I<|.k [93,1,3] I
        refine ak I (λhx=>?_) (λhx=>?_)
        · have f:=i (by cases p<;>cases q<;>cases u<;>simp_all);rw[f];exact aj (.a 1 I<|.k [2] I)<|aA<|jF I aQ.pure rfl
        · have v:p=true:=by cases p<;>simp_all
          have w:q=true:=by cases q<;>simp_all
          have x:u=true:=by cases u<;>simp_all
          subst v w x;clear n6 n7 n8 hx;refine ao<|aL (.a 1 I<|.v (aU I) I<|.a 1 I<|.k [1,3] I) ?_;exact⟨T.ah.length - (k+1),by omega,k+1,by omega,rfl,by rw[e,d];rfl,rfl⟩
    · have y:k=T.ah.length:=by have:=ff hc;omega
      subst y;rw[VN]at d;rw[d];exact bh<|aj (.a 1 I<|.k [2] I)<|aA<|jF I aQ.pure rfl
theorem pR(T:aw)(hv:aH T=true):Can prog 24 [bu T] (· =num (2*(T.ah.length:Int))):=by
 have a:=dy hv;have h:=lD T;rw[hv]at h;refine aR func24 I ntmps24 I<|aj (.a 2 I<|.k [1] I)<|an<|aj (.a 1 I<|.c rfl (h) I<|.a 1 I<|.k [1,5] I)<|ak I (λhc=>?_) (λhc=>?_)
 ·cases hc
 ·exact ao<|aj (.a 3 I<|.v (aU I) I<|.a 1 I<|.k [2] I)<|aA<|jF I aQ.pure rfl
theorem vJ{T:aw}{a:Int}{p1 d}(b:decide (a<0)=p1)(c:decide (2*(T.ah.length:Int)<=a)=d)(hc:(p1||d)=true):¬(0<=a/\a<2*(T.ah.length:Int)):=by
 rcases Xh.1 hc with h|h
 ·rw[h]at b;have:=tt b;omega
 ·rw[h]at c;have:=tt c;omega
theorem sT{T:aw}{a:Int}{p1 d}(b:decide (a<0)=p1)(c:decide (2*(T.ah.length:Int)<=a)=d)(hc:(p1||d)=false):0<=a/\a<2*(T.ah.length:Int):=by
 obtain⟨h1,h2⟩:=Wo.1 hc;rw[h1]at b;rw[h2]at c;have:=ff b;have:=ff c;omega
theorem yd(T:aw)(hv:aH T=true)(a:Int):Can prog 9 [bu T,num a] (· =num (CJ T a)):=by
 have e:=dy hv;have⟨d,b⟩:=dw (decide (a<0));have⟨f,c⟩:=dw (decide (2*(T.ah.length:Int)<=a));refine aR func9 I ntmps9 I<|aj (.a 2 I<|.k [1,2] I)<|an<|ay<|cD 5 (.raw (.bool (d||f))) [1,2] I ?_ ?_
 ·refine .a 1 I<|.v (cT I (b)) I<|.a 1 I<|?_;cases d
  ·exact .a 2 I<|.c rfl (pR T hv) I<|.v (cT I (c)) I<|.a 2 I<|.k [5,1,2] I
  ·exact .a 6 I<|.k [5,1,2] I
 refine ak I (λhc=>?_) (λhc=>?_)
 ·unfold CJ;rw[Vk (vJ b c hc)];exact aj (.a 1 I<|.k [4] I)<|aA<|jF I aQ.pure rfl
 ·have hy:=sT b c hc;unfold CJ;rw[Vn hy];clear b c hc;obtain⟨a,rfl⟩:=Vo hy.1;have hi:a / 2<T.ah.length:=by omega
  unfold bI;rw[Vi];refine aj (.a 1 I<|.v (l4 I I I (by decide) (LA a)) I<|.a 2 I<|.k [1,2,14] I)<|ak I (λhc=>?_) (λhc=>?_)
  ·have h2:a % 2=0:=by have:=tt hc;omega
   rw[Vn h2];exact aj (.a 3 I<|.v (lI I I I (by decide) (Ez a) (by unfold In64;omega)) I<|.v (aX (a / 2*7) I) I<|.a 1 I<|.v (aO I (eM T.ah (a / 2) 0 hi (by omega))) I<|.a 1 I<|.k [4] I)<|aA<|jF I aQ.pure rfl
  ·have h2:¬a % 2=0:=by have:=ff hc;omega
   rw[Vk h2];exact ao<|aj (.a 3 I<|.v (lI I I I (by decide) (Ez a) (by unfold In64;omega)) I<|.v (aX (a / 2*7) I) I<|.a 1 I<|.v (aO I (eM T.ah (a / 2) 1 hi (by omega))) I<|.a 1 I<|.k [4] I)<|aA<|jF I aQ.pure rfl
theorem NK(a:Nat):(((a / 2:Nat):Int)*2+1) - ((a % 2:Nat):Int)=((Net.flip a:Nat):Int):=by unfold Net.flip;split<;>omega
theorem Ij(T:aw)(hv:aH T=true)(a:Int):Can prog 165 [bu T,num a] (· =num (Cx T a)):=by
 have f:=dy hv;have⟨e,b⟩:=dw (decide (a<0));have⟨g,c⟩:=dw (decide (2*(T.ah.length:Int)<=a));refine aR func165 I ntmps165 I<|aj (.a 2 I<|.k [1,2] I)<|an<|cD 12 (.raw (.bool (e||g))) [1,2] I ?_ ?_
 ·refine .a 1 I<|.v (cT I (b)) I<|.a 1 I<|?_;cases e
  ·exact .a 2 I<|.c rfl (pR T hv) I<|.v (cT I (c)) I<|.a 1 I<|.k [12,1,2] I
  ·exact .a 5 I<|.k [12,1,2] I
 refine ak I (λhc=>?_) (λhc=>?_)
 ·unfold Cx;rw[Vk (vJ b c hc)];exact aj (.a 1 I<|.k [4] I)<|aA<|jF I aQ.pure rfl
 ·have hy:=sT b c hc;unfold Cx;rw[Vn hy];clear b c hc;obtain⟨a,rfl⟩:=Vo hy.1;rw[Vi];have d:=yd T hv ((Net.flip a:Nat):Int);rw[ye T (Net.flip a) (by unfold Net.flip;split<;>omega)]at d;exact ao<|aj (.a 2 I<|.v (lI I I I (by decide) (Ez a) (by unfold In64;omega)) I<|.v (aU I) I<|.v (aU I) I<|.a 1 I<|.v (l4 I I I (by decide) (LA a)) I<|.v (aU I (hc:=NK a) (hn:=by unfold In64 Net.flip;split<;>omega)) I<|.c rfl (d) I<|.a 1 I<|.k [4] I)<|aA<|jF I aQ.pure rfl
theorem Ia(T:aw)(hv:aH T=true)(a:Int):Can prog 167 [bu T,num a] (· =num (Cs T a)):=by
 have e:=dy hv;have⟨d,b⟩:=dw (decide (a<0));have⟨f,c⟩:=dw (decide (2*(T.ah.length:Int)<=a));refine aR func167 I ntmps167 I<|aj (.a 2 I<|.k [1,2] I)<|an<|cD 12 (.raw (.bool (d||f))) [1,2] I ?_ ?_
 ·refine .a 1 I<|.v (cT I (b)) I<|.a 1 I<|?_;cases d
  ·exact .a 2 I<|.c rfl (pR T hv) I<|.v (cT I (c)) I<|.a 1 I<|.k [12,1,2] I
  ·exact .a 5 I<|.k [12,1,2] I
 refine ak I (λhc=>?_) (λhc=>?_)
 ·unfold Cs;rw[Vk (vJ b c hc)];exact aj (.a 1 I<|.k [4] I)<|aA<|jF I aQ.pure rfl
 ·have hy:=sT b c hc;unfold Cs;rw[Vn hy];clear b c hc;obtain⟨a,rfl⟩:=Vo hy.1;rw[Vi];exact ao<|aj (.a 3 I<|.v (lI I I I (by decide) (Ez a) (by unfold In64;omega)) I<|.a 1 I<|.v (l4 I I I (by decide) (LA a)) I<|.v (aX (a / 2*7) I) I<|.a 1 I<|.v (aX (a % 2) I) I<|.v (aO I (AY T a (by omega))) I<|.a 1 I<|.k [4] I)<|aA<|jF I aQ.pure rfl
theorem lC(T:aw)(hv:aH T=true)(a:Nat)(ha:a<2*T.ah.length):Can prog 9 [bu T,num a] (· =num (bI T a)):=by rw[<-ye T a ha];exact yd T hv a
theorem vE(T:aw)(hv:aH T=true)(a:Nat)(ha:a<2*T.ah.length):Can prog 165 [bu T,num a] (· =num (bx T a)):=by rw[<-Ik T a ha];exact Ij T hv a
theorem vz(T:aw)(hv:aH T=true)(a:Nat)(ha:a<2*T.ah.length):Can prog 167 [bu T,num a] (· =num (cr T a)):=by rw[<-Ib T a ha];exact Ia T hv a
theorem Im(T:aw)(hv:aH T=true)(n:Nat):Can prog 213 [bu T,num n] (· =flag (cW T n)):=by
 have h:=lD T;rw[hv]at h;have⟨c,a⟩:=dw (decide ((n:Int)<(T.over.length:Int)));have⟨d,b⟩:=dw (T.over.getD n false);have he:cW T n=(c&&d):=by
  unfold cW;cases c
  ·have:=ff a;rw[Qo,V4 (by omega)];rfl
  ·exact b
 rw[he];have h0:decide (0<=(n:Int))=true:=VM (by omega);refine aR func213 I ntmps213 I<|aj (.a 2 I<|.k [1,2] I)<|cD 4 (.raw (.bool (c&&d))) [] I ?_ ?_
 ·refine .a 1 I<|.c rfl (h) I<|.a 2 I<|.v (cT I h0) I<|.a 6 I<|.v (cT I (a)) I<|.a 2 I<|?_;cases c
  ·exact .a 7 I<|.k [4] I
  ·exact .a 3 I<|.v (aX (n) I (by omega) (by have:=tt a;omega)) I<|.v (aO I (show _=some (flag d) by rw[eD _ n (by have:=tt a;omega),b])) I<|.a 2 I<|.k [4] I
 exact aA<|jF I aQ.pure rfl
theorem xZ(T:aw)(D:List Bool):Can prog 37 [bu T,aY D] (· =flag (aH T&&cf T D)):=by
 have⟨p0,a⟩:=dw (aH T);have h:=lD T;rw[a]at h;have⟨d,b⟩:=dw (decide ((D.length:Int)=0));have⟨e,c⟩:=dw (decide ((D.length:Int)=2*(T.ah.length:Int)));have he:cf T D=(d||e):=by rw[<-b,<-c];unfold cf;rw[<-Bool.decide_or];exact decide_eq_decide.2 (by omega)
 rw[he,a];refine aR func37 I ntmps37 I<|aj (.a 2 I<|.k [1,2] I)<|cD 4 (.raw (.bool (p0&&(d||e)))) [] I ?_ ?_
 ·refine .a 1 I<|.c rfl (h) I<|.a 1 I<|?_;cases p0
  ·exact .a 14 I<|.k [4] I
  ·refine .a 2 I<|.v (cT I (b)) I<|.a 1 I<|?_;cases d
   ·exact .a 5 I<|.v (aU I (hn:=by have:=dy a;unfold In64;omega)) I<|.v (cT I (c)) I<|.a 3 I<|.k [4] I
   ·exact .a 10 I<|.k [4] I
 exact aA<|jF I aQ.pure rfl
theorem Ah(D:List Bool)(a:Nat)(ha:D.length=0\/a<D.length):Can prog 40 [aY D,num a] (· =flag (!bO D a)):=by
 have⟨p1,b⟩:=dw (decide ((D.length:Int)=0));have⟨d,c⟩:=dw (D.getD a false);have he:(!bO D a)=(p1|| !d):=by
  rw[Fw (p1:= !p1) (by rw[<-b];rw[<-decide_not];exact decide_eq_decide.2 (by omega)) c];cases p1<;>cases d<;>rfl
 rw[he];refine aR func40 I ntmps40 I<|aj (.a 1 I<|.k [0,1] I)<|cD 4 (.raw (.bool (p1|| !d))) [] I ?_ ?_
 ·refine .a 2 I<|.v (cT I (b)) I<|.a 1 I<|?_;cases p1
  ·exact .a 2 I<|.v (aX (a) I (by omega) (by have:=ff b;omega)) I<|.v (aO I (show _=some (flag d) by rw[eD _ a (by have:=ff b;omega),c])) I<|.a 3 I<|.k [4] I
  ·exact .a 7 I<|.k [4] I
 exact aA<|jF I aQ.pure rfl
theorem rX(T:aw)(hv:aH T=true)(n d:Nat):Can prog 166 [bu T,num n,num d] (· =flag (decide (n=d)|| !cW T n)):=by
 have⟨c,a⟩:=dw (decide ((n:Int)=(d:Int)));have⟨e,b⟩:=dw (cW T n);have he:decide (n=d)=c:=by rw[<-a];exact decide_eq_decide.2 (by omega)
 have h:=Im T hv n;rw[b]at h;rw[he,b];refine aR func166 I ntmps166 I<|aj (.a 2 I<|.k [1,2,3] I)<|cD 6 (.raw (.bool (c|| !e))) [] I ?_ ?_
 ·refine .a 2 I<|.v (cT I (a)) I<|.a 1 I<|?_;cases c
  ·exact .a 2 I<|.c rfl (h) I<|.a 3 I<|.k [6] I
  ·exact .a 6 I<|.k [6] I
 exact aA<|jF I aQ.pure rfl
theorem yc(L M:List Int):Can prog 41 [bm L,bm M] (· =flag (iC L M)):=by
 refine ud λ⟨E,w,vs,d⟩=>?_;obtain⟨v,_,hv⟩:=d.get (i:=0) I;have hm:=pS hv;unfold maxLen at hm;refine aR func41 I ntmps41 I<|aj (.a 1 I<|.k [0,1] I)<|an<|aj (.a 5 I<|.k [0,1,10] I)<|ak I (λhc=>?_) (λhc=>?_)
 ·rw[<-LX L M (by have:=tt hc;omega)];exact aj (.a 1 I<|.k [4] I)<|aA<|jF I aQ.pure rfl
 ·have b:M.length=L.length:=by have:=ff hc;omega
  refine ao<|an<|aj (.a 1 I<|.k [0,1,5] I)<|ay<|eX [0,1,5] I<|bq (λr s=>∃k,k<=L.length/\r=L.length - k/\(∀i,i<k->L.getD i 0=M.getD i 0)/\s=⟨[(0,bm L),(1,bm M),(5,num k)],[]⟩) L.length ⟨0,by omega,by omega,λi hi=>by omega,rfl⟩ ?_;rintro r s ⟨k,hk,rfl,a,rfl⟩;refine an<|aj (.a 4 I<|.k [0,1,5,14] I)<|ak I (λhc=>?_) (λhc=>?_)
  ·have hlt:k<L.length:=by have:=tt hc;omega
   refine ao<|an<|ay<|ev mixed (by kernel_rfl) (.a 2 I<|.v [17,18] (aX (k) I) I I<|.v [19] (aO I (aS L k hlt)) I I<|.a 2 I<|.v [21,22] (aX (k) I) I I<|.v [23] (aO I (aS M k (by omega))) I I<|.a 1 I<|.k [0,1,5,25] I) ?_;refine ak I (λhx=>?_) (λhx=>?_)
   ·rw[<-Pb L M k (tt hx)];exact aj (.a 1 I<|.k [4] I)<|aA<|jF I aQ.pure rfl
   ·have c:L.getD k 0=M.getD k 0:=by have:=ff hx;omega
    refine ao<|aL (.a 1 I<|.v (aU I) I<|.a 1 I<|.k [0,1,5] I) ?_;refine⟨L.length - (k+1),by omega,k+1,by omega,rfl,λi hi=>?_,rfl⟩;by_cases h:i=k
    ·rw[h];exact c
    ·exact a i (by omega)
  ·have e:k=L.length:=by have:=ff hc;omega
   rw[<-LV L M b (λi hi=>a i (by omega))];exact bh<|aj (.a 1 I<|.k [4] I)<|aA<|jF I aQ.pure rfl
end
end PW
namespace Net
def gJ(T:aw)(dir:Bool)(a:Nat):Int:=if dir then bx T a else bI T a
def dF(T:aw)(dir:Bool)(a:Nat):Int:=if dir then bI T a else bx T a
def at'(l:List Int)(x:Int):Int:=l.getD x.toNat (-1)
def Way(T:aw)(D:List Bool)(n:Nat)(dir:Bool)(out:List Int)(a:Nat):Prop:=
 bO D a=false/\0<=at' out (dF T dir a)/\(dF T dir a=(n:Int)\/cW T (dF T dir a).toNat=false)
structure kl (T:aw) (D:List Bool) (n:Nat) (dir:Bool) (out:List Int):Prop where
 len:(out.length:Int)=T.nodes
 root:at' out (n:Int)=0
 ge:∀x:Nat,(x:Int)<T.nodes-> -1<=at' out (x:Int)
 closed:∀a,a<2*T.ah.length->Way T D n dir out a->0<=at' out (gJ T dir a)/\at' out (gJ T dir a)<=at' out (dF T dir a)+cr T a
 qg:∀x:Nat,(x:Int)<T.nodes->0<=at' out (x:Int)->x=n\/∃a,a<2*T.ah.length/\gJ T dir a=(x:Int)/\Way T D n dir out a/\at' out (x:Int)=at' out (dF T dir a)+cr T a
structure Sound (T:aw):Prop where
 cost:∀a,a<2*T.ah.length->1<=cr T a/\cr T a<=65535
 tail:∀a,a<2*T.ah.length->0<=bI T a/\bI T a<T.nodes
 head:∀a,a<2*T.ah.length->0<=bx T a/\bx T a<T.nodes
 nodes:1<=T.nodes/\T.nodes<=64
theorem Sound.x{T:aw}(h:Sound T)(dir:Bool)(a:Nat)(ha:a<2*T.ah.length):0<=gJ T dir a/\gJ T dir a<T.nodes:=by
 unfold gJ;cases dir
 ·exact h.tail a ha
 ·exact h.head a ha
theorem Sound.y{T:aw}(h:Sound T)(dir:Bool)(a:Nat)(ha:a<2*T.ah.length):0<=dF T dir a/\dF T dir a<T.nodes:=by
 unfold dF;cases dir
 ·exact h.head a ha
 ·exact h.tail a ha
theorem zf{T:aw}(hT:Sound T){D}{n:Nat}{dir}{out b:List Int}(h:kl T D n dir out)(e:kl T D n dir b):
  ∀(k:Nat) (x:Nat),(x:Int)<T.nodes->at' out (x:Int)=(k:Int)->0<=at' b (x:Int)/\at' b (x:Int)<=at' out (x:Int):=by
 intro k;induction k using Nat.strongRecOn with
 |_ k ih=>
  intro x hx hk;rcases h.qg x hx (by omega)with rfl|⟨a,ha,d,⟨i,f,g⟩,he⟩
  ·rw[e.root];omega
  ·have hc:=hT.cost a ha;obtain⟨y,hy⟩:=Vo (hT.y dir a ha).1;have c:=(hT.y dir a ha).2;rw[hy]at f g he c;obtain⟨j,hj⟩:=Vo f;have hlt:j<k:=by omega
   have h1:=ih j hlt y c hj;have h2:=e.closed a ha ⟨i,by rw[hy];exact h1.1,by rw[hy];exact g⟩;rw[d,hy]at h2;exact⟨h2.1,by omega⟩
theorem Ju(out:List Int)(x:Nat)(hx:x<out.length):at' out (x:Int)=out[x]:=by
 simp[at',hx]
theorem A7{T}(hT:Sound T){D}{n:Nat}{dir}{out a:List Int}(h:kl T D n dir out)(b:kl T D n dir a):out=a:=by
 have hl:out.length=a.length:=by have:=h.len;have:=b.len;omega
 refine XG hl λx h1 h2=>?_;have hx:(x:Int)<T.nodes:=by have:=h.len;omega
 rw[<-Ju out x h1,<-Ju a x h2];have g1:=h.ge x hx;have g2:=b.ge x hx;by_cases c1:0<=at' out (x:Int)
 ·obtain⟨k,hk⟩:=Vo c1;have d:=zf hT h b k x hx hk;obtain⟨f,c⟩:=Vo d.1;have a2:=zf hT b h f x hx c;omega
 ·by_cases e:0<=at' a (x:Int)
  ·obtain⟨k,hk⟩:=Vo e;have d:=zf hT b h k x hx hk;omega
  ·omega
open Classical in
noncomputable def bN(T:aw)(D:List Bool)(n:Nat)(dir:Bool):List Int:=if h:∃out,kl T D n dir out then h.choose else []
theorem mw{T}(hT:Sound T){D}{n:Nat}{dir}{out:List Int}(h:kl T D n dir out):bN T D n dir=out:=by
 unfold bN;rw[dif_pos ⟨out,h⟩];exact A7 hT (Exists.choose_spec (⟨out,h⟩:∃out,kl T D n dir out)) h
end Net
namespace Net
section
def qk:List Int->Nat
 | []=>0
 |v::l=>(if 0<=v then 1 else 0)+qk l
theorem sE(l:List Int):qk l<=l.length:=by
 induction l with
 |nil=>exact Vh _
 |cons v l ih=>simp only[qk,VI];split<;>omega
theorem ue:∀(l:List Int) (i:Nat) (c:Int),i<l.length->0<=c->qk (l.set i c)=qk l+(if 0<=l.getD i (-1) then 0 else 1)
 | [],i,c,h,_=>by simp at h
 |v::l,0,c,_,hc=>by
  simp only[XB,qk,Zc];rw[Vn hc];by_cases h:0<=v
  ·rw[Vn h,Vn h];omega
  ·rw[Vk h,Vk h];omega
 |v::l,i+1,c,h,hc=>by
  simp only[X0,qk,YG];rw[ue l i c (by simpa using h) hc];omega
def RN(v:Int):Nat:=if v<0 then 4194241 else v.toNat
def mu:List Int->Nat
 | []=>0
 |v::l=>RN v+mu l
theorem KZ:∀(l:List Int) (i:Nat) (c:Int),i<l.length->mu (l.set i c)+RN (l.getD i (-1))=mu l+RN c
 | [],i,c,h=>by simp at h
 |v::l,0,c,_=>by simp only[XB,mu,Zc];omega
 |v::l,i+1,c,h=>by
  have:=KZ l i c (by simpa using h);simp only[X0,mu,YG];omega
structure Inv (T:aw) (D:List Bool) (n:Nat) (dir:Bool) (out:List Int):Prop where
 len:(out.length:Int)=T.nodes
 root:at' out (n:Int)=0
 ge:∀x:Nat,(x:Int)<T.nodes-> -1<=at' out (x:Int)
 R8:∀x:Nat,(x:Int)<T.nodes->at' out (x:Int)<=65535*(qk out:Int)
 qg:∀x:Nat,(x:Int)<T.nodes->0<=at' out (x:Int)->x=n\/∃a,a<2*T.ah.length/\gJ T dir a=(x:Int)/\Way T D n dir out a/\at' out (dF T dir a)+cr T a<=at' out (x:Int)
def qV(T:aw)(D:List Bool)(n:Nat)(dir:Bool)(out:List Int)(a:Nat):Prop:=
 Way T D n dir out a/\(at' out (gJ T dir a)<0\/at' out (dF T dir a)+cr T a<at' out (gJ T dir a))
def Km(T:aw)(dir:Bool)(out:List Int)(a:Nat):List Int:=out.set (gJ T dir a).toNat (at' out (dF T dir a)+cr T a)
theorem Dt(out:List Int)(x y:Nat)(c:Int)(hx:x<out.length):at' (out.set x c) (y:Int)=if y=x then c else at' out (y:Int):=by
 simp only[at',Vi,Qo,VV];by_cases h:x=y
 ·subst h;simp[hx]
 ·rw[Vk h,Vk (Ne.symm h)]
theorem Bs{T:aw}(hT:Sound T){D}{n:Nat}{dir}{out:List Int}(h:Inv T D n dir out)(a:Nat)(ha:a<2*T.ah.length)(hg:qV T D n dir out a):
  Inv T D n dir (Km T dir out a)/\mu (Km T dir out a)<mu out:=by
 obtain⟨⟨N,B,E⟩,hb⟩:=hg;have hc:=hT.cost a ha;obtain⟨x,hx⟩:=Vo (hT.x dir a ha).1;obtain⟨y,hy⟩:=Vo (hT.y dir a ha).1;have r:=(hT.x dir a ha).2;have l:=(hT.y dir a ha).2;unfold Km;rw[hx,hy,Vi];rw[hx,hy]at hb;rw[hy]at B E;rw[hx]at r;rw[hy]at l;have p:=h.len;have k:x<out.length:=by omega
 generalize K:at' out (y:Int)+cr T a=c at*;have G:=h.R8 y l;have A:x≠n:=λe=>by
  rw[e,h.root]at hb;omega
 have g:=ue out x c k (by omega);have o:out.getD x (-1)=at' out (x:Int):=by simp[at']
 rw[o]at g;have d:=λz=>Dt out x z c k;have reach:∀z:Nat,(z:Int)<T.nodes->0<=at' out (z:Int)->0<=at' (out.set x c) (z:Int):=λz _ j=>by
  rw[d z];split<;>omega
 have less:∀z:Nat,(z:Int)<T.nodes->0<=at' out (z:Int)->at' (out.set x c) (z:Int)<=at' out (z:Int):=λz _ j=>by
  rw[d z];split
  ·rename_i e;subst e;omega
  ·omega
 have C:∀b,b<2*T.ah.length->Way T D n dir out b->Way T D n dir (out.set x c) b:=λb f ⟨v1,v2,v3⟩=>by
  obtain⟨z,j⟩:=Vo (hT.y dir b f).1;have s:=(hT.y dir b f).2;refine⟨v1,?_,v3⟩;rw[j]at v2 s ⊢;exact reach z s v2
 refine⟨⟨by rw[VK];exact p,?_,λz j=>?_,λz j=>?_,λz j h0=>?_⟩,?_⟩
 ·rw[d n,Vk (Ne.symm A)];exact h.root
 ·rw[d z];split
  ·omega
  ·exact h.ge z j
 ·rw[d z];have H:=h.R8 z j;have:(qk out:Int)<=(qk (out.set x c):Int):=by rw[g];split<;>omega
  split
  ·rw[g];rename_i e;subst e;by_cases hr:0<=at' out (z:Int)
   ·rw[Vn hr];omega
   ·rw[Vk hr];omega
  ·omega
 ·by_cases e:z=x
  ·subst e;refine .inr ⟨a,ha,hx,C a ha ⟨N,by rw[hy];exact B,by rw[hy];exact E⟩,?_⟩;rw[hy,d z,Vn rfl];have:=less y l B;omega
  ·rw[d z,Vk e]at h0;rcases h.qg z j h0 with F|⟨b,f,v,m,t⟩
   ·exact .inl F
   ·refine .inr ⟨b,f,v,C b f m,?_⟩;rw[d z,Vk e];obtain⟨u,hu⟩:=Vo (hT.y dir b f).1;have q:=(hT.y dir b f).2;have i:=m.2.1;rw[hu]at q t i ⊢;have:=less u q i;omega
 ·have hm:=KZ out x c k;rw[o]at hm;have L:=sE out;have M:=hT.nodes;have J:c<=4194240:=by
   rcases hb with hb|hb
   ·have hlt:qk out<out.length:=by
     have:=sE (out.set x c);rw[VK,g,Vk (by omega)]at this;omega
    omega
   ·have:=h.R8 x r;omega
  have w:RN c=c.toNat:=by unfold RN;rw[Vk (by omega)]
  have i:RN (at' out (x:Int))=if at' out (x:Int)<0 then 4194241 else(at' out (x:Int)).toNat:=rfl;rw[w,i]at hm;rcases hb with hb|hb
  ·rw[Vn hb]at hm;omega
  ·by_cases hr:at' out (x:Int)<0
   ·rw[Vn hr]at hm;omega
   ·rw[Vk hr]at hm;omega
theorem BF{T:aw}{D}{n:Nat}{dir}{out:List Int}(h:Inv T D n dir out)(hn:∀a,a<2*T.ah.length->¬qV T D n dir out a):kl T D n dir out:=by
 have closed:∀a,a<2*T.ah.length->Way T D n dir out a->0<=at' out (gJ T dir a)/\at' out (gJ T dir a)<=at' out (dF T dir a)+cr T a:=λa ha hw=>by
  have:=hn a ha;unfold qV at this;have h2:¬(at' out (gJ T dir a)<0\/at' out (dF T dir a)+cr T a<at' out (gJ T dir a)):=λe=>this ⟨hw,e⟩;omega
 refine⟨h.len,h.root,h.ge,closed,λx hx h0=>?_⟩;rcases h.qg x hx h0 with e|⟨a,ha,b,hw,he⟩
 ·exact .inl e
 ·refine .inr ⟨a,ha,b,hw,?_⟩;have:=closed a ha hw;rw[b]at this;omega
def start(N n:Nat):List Int:=(List.replicate N (-1)).set n 0
theorem rb(N n:Nat)(hn:n<N)(x:Nat)(hx:x<N):at' (start N n) (x:Int)=if x=n then 0 else -1:=by
 unfold start;rw[Dt _ n x 0 (by simpa using hn)];split
 ·rfl
 ·simp[at',hx]
theorem s8{T:aw}{D}{N n:Nat}{dir}(hN:(N:Int)=T.nodes)(hn:n<N):Inv T D n dir (start N n):=by
 have hc:1<=qk (start N n):=by
  unfold start;rw[ue _ n 0 (by simpa using hn) (by omega)];have:(List.replicate N (-1:Int)).getD n (-1)= -1:=by simp[hn]
  rw[this];simp
 refine⟨by simp[start];exact hN,by rw[rb N n hn n hn,Vn rfl],λx hx=>?_,λx hx=>?_,λx hx h0=>?_⟩
 ·rw[rb N n hn x (by omega)];split<;>omega
 ·rw[rb N n hn x (by omega)];split<;>omega
 ·rw[rb N n hn x (by omega)]at h0;by_cases e:x=n
  ·exact .inl e
  ·rw[Vk e]at h0;omega
theorem oR{T}(hT:Sound T){D}{n:Nat}{dir}:∀(k:Nat) (out:List Int),mu out=k->Inv T D n dir out->∃b,kl T D n dir b/\Inv T D n dir b:=by
 intro k;induction k using Nat.strongRecOn with
 |_ k ih=>
  intro out hk hi;by_cases h:∃a,a<2*T.ah.length/\qV T D n dir out a
  ·obtain⟨a,ha,hg⟩:=h;obtain⟨h1,h2⟩:=Bs hT hi a ha hg;exact ih _ (by omega) _ rfl h1
  ·exact⟨out,BF hi λa ha hg=>h ⟨a,ha,hg⟩,hi⟩
theorem kX{T:aw}(hT:Sound T)(D:List Bool){n:Nat}(dir:Bool)(hn:(n:Int)<T.nodes):kl T D n dir (bN T D n dir):=by
 obtain⟨N,hN⟩:=Vo (by have:=hT.nodes.1;omega:0<=T.nodes);obtain⟨out,ho,_⟩:=oR hT _ (start N n) I (s8 (D:=D) (dir:=dir) hN.symm (by omega));rw[mw hT ho];exact ho
theorem GV{T:aw}(hT:Sound T)(D:List Bool){n:Nat}(dir:Bool)(hn:(n:Int)<T.nodes):Inv T D n dir (bN T D n dir):=by
 obtain⟨N,hN⟩:=Vo (by have:=hT.nodes.1;omega:0<=T.nodes);obtain⟨out,ho,hi⟩:=oR hT _ (start N n) I (s8 (D:=D) (dir:=dir) hN.symm (by omega));rw[mw hT ho];exact hi
theorem bz{T}(h:aH T=true):Sound T:=by
 have hb:=fr h;have lk:∀i,i<T.ah.length->(0<=(bV T.ah i).a/\(bV T.ah i).a<T.nodes)/\(0<=(bV T.ah i).b/\(bV T.ah i).b<T.nodes)/\(1<=(bV T.ah i).c0/\(bV T.ah i).c0<=65535)/\(1<=(bV T.ah i).c1/\(bV T.ah i).c1<=65535):=λi hi=>by
  have:=nT h i hi;simp only[iY,bZ,cB,Vx,VH]at this;obtain⟨⟨⟨⟨⟨⟨⟨_,h1⟩,h2⟩,c⟩,d⟩,_⟩,_⟩,_⟩:=this;exact⟨h1,h2,c,d⟩
 have fl:∀a,a<2*T.ah.length->flip a<2*T.ah.length:=λa ha=>by unfold flip;split<;>omega
 have b:∀a,a<2*T.ah.length->0<=bI T a/\bI T a<T.nodes:=λa ha=>by
  have:=lk (a / 2) (by omega);unfold bI;split
  ·exact this.1
  ·exact this.2.1
 refine⟨λa ha=>?_,b,λa ha=>b _ (fl a ha),⟨hb.1,hb.2.1⟩⟩;have:=lk (a / 2) (by omega);unfold cr;split
 ·exact this.2.2.1
 ·exact this.2.2.2
def kr(N k:Nat):List Int:=List.replicate k (-1)++List.replicate (N - k) 0
theorem BD(N k:Nat)(h:k<N):(kr N k).set k (-1)=kr N (k+1):=by
 unfold kr;rw[Xd _ _ (by simp)];rw[WX,YK,show N - k=(N - (k+1))+1 by omega,Xs,XB,Y7,VU]
 rfl
theorem DX(N n:Nat):(kr N N).set n 0=start N n:=by simp[kr,start]
theorem Inv.ub{T:aw}{D}{n:Nat}{dir}{out:List Int}(h:Inv T D n dir out)(x:Nat)(hx:(x:Int)<T.nodes)(hN:T.nodes<=64):at' out (x:Int)<=4194240:=by
 have h1:=h.R8 x hx;have h2:=sE out;have a:=h.len;omega
end
end Net
namespace PW
section
open Go.RowKit cm Mem Net
theorem zg(T:aw)(hv:aH T=true):Can prog 161 [bu T] (· =mS (ep (bx T) T.nodes.toNat (2*T.ah.length))):=by
 have e:=fr hv;have d:=bz hv;obtain⟨n,hn⟩:∃n:Nat,T.nodes=(n:Int):=⟨T.nodes.toNat,by omega⟩;rw[show T.nodes.toNat=n by omega];refine aR func161 I ntmps161 I<|aj (.a 2 I<|.k [1] I)<|aK<|av 2 I<|bW (eJ I (VW I) I I hn hn ⟨by unfold maxLen;omega,by omega⟩) I<|av 1 I<|aF [1,3] I ?_;refine th 49 3 n<|an<|aj (.a 1 I<|.c rfl (jl T (by omega)) I<|.a 1 I<|.k [1,3,10,11] I)<|ay<|eX [1,3,10,11] I<|bq (λr s=>∃k,k<=2*T.ah.length/\r=2*T.ah.length - k/\s=⟨[(1,.cH (bJ T) 0),(3,.own 0),(10,num (2*(T.ah.length:Int))),(11,num k)],oF 49 3 (ep (bx T) n k)⟩) (2*T.ah.length) ⟨0,by omega,by omega,by rw[vI];rfl⟩ ?_;rintro r s ⟨k,hk,rfl,rfl⟩;refine aj (.a 1 I<|.k [1,3,10,11,12] I)<|an<|ak I (λhc=>?_) (λhc=>?_)
 ·have hlt:k<2*T.ah.length:=by have:=Vg hc;omega
  obtain⟨b,g⟩:=d.head k hlt;obtain⟨m,hm⟩:=Vo b;have a:m<n:=by omega
  have h:=gv (bx T) n k;have f:((ep (bx T) n k).getD m []).length<=k:=by
   rw[kQ _ _ _ _ a];simp only[Wf];exact VL (Wl _ _) (by simp)
  refine ao<|an<|ay<|aj (.a 2 I<|.k [1,3,4,10,11] I)<|aj (.a 2 I<|.c rfl (hm▸jq T k hlt (by omega)) I<|.a 1 I<|.k [1,3,4,5,10,11] I)<|bp<|av 4 I<|aZ (aX (m) I) I<|aZ (aO I (o8 _ m (by omega))) I<|av 2 I<|bW (bP I (VW I) I (pf _ _ _ m (by omega)) I I ⟨by unfold maxLen;omega,by omega⟩) I<|aZ (aX (m) I) I<|bw (eh I (VJ I) I I I (by show m<(iQ _).length;simp[iQ];omega)) I I<|aF [1,3,10,11] I ?_;refine dM (MT (ep (bx T) n k).length m) (.cons 1 I Ren.pure<|.cons 3 I (Ren.own (i:=0) I)<|.cons 10 I Ren.pure<|.cons 11 I Ren.pure<|.nil) (CH 49 3 (ep (bx T) n k) m (by omega) (k:Int)) (ya _ _) I ?_;rw[<-vH (bx T) n k m hm a];refine aL (.v (aU I) I<|.a 1 I<|.k [1,3,10,11] I)<|⟨2*T.ah.length - (k+1),by omega,k+1,by omega,rfl,rfl⟩
 ·have c:k=2*T.ah.length:=by have:=Vj hc;omega
  subst c;exact bh<|aj (.a 2 I<|.k [2] I)<|aA<|jF I (CG _ _ _) rfl
end
end PW
namespace Net
section
structure C8 (T:aw) (D:List Bool) (n:Nat) (dir:Bool) (out K:List Int) (H:Nat->Prop) (S:Nat->Prop):Prop where
 len:(out.length:Int)=T.nodes
 ge:∀x:Nat,(x:Int)<T.nodes-> -1<=at' out (x:Int)
 root:at' out (n:Int)=0\/(H n/\K.getD n 0=0)
 BA:∀y,H y->(y:Int)<T.nodes/\at' out (y:Int)= -1
 mono:∀x y:Nat,(x:Int)<T.nodes->H y->at' out (x:Int)<=K.getD y 0
 tK:∀y,H y->(y=n/\K.getD y 0=0)\/∃a,a<2*T.ah.length/\gJ T dir a=(y:Int)/\Way T D n dir out a/\K.getD y 0=at' out (dF T dir a)+cr T a
 qg:∀x:Nat,(x:Int)<T.nodes->0<=at' out (x:Int)->x=n\/∃a,a<2*T.ah.length/\gJ T dir a=(x:Int)/\Way T D n dir out a/\at' out (x:Int)=at' out (dF T dir a)+cr T a
 closed:∀a,a<2*T.ah.length->¬S a->Way T D n dir out a->(0<=at' out (gJ T dir a)/\at' out (gJ T dir a)<=at' out (dF T dir a)+cr T a)\/(H (gJ T dir a).toNat/\K.getD (gJ T dir a).toNat 0<=at' out (dF T dir a)+cr T a)
 ub:∀x:Nat,(x:Int)<T.nodes->at' out (x:Int)<=65535*(qk out:Int)
 RE:∀y,H y->K.getD y 0<=65535*(qk out:Int)
theorem C8.key{T}(hT:Sound T){D}{n:Nat}{dir}{out K:List Int}{H S:Nat->Prop}(h:C8 T D n dir out K H S){y:Nat}(hy:H y):0<=K.getD y 0:=by
 rcases h.tK y hy with⟨_,h0⟩|⟨a,ha,_,hw,he⟩
 ·omega
 ·have:=hT.cost a ha;have:=hw.2.1;omega
theorem aN(L:List Int)(i j:Nat)(c:Int)(hi:i<L.length):(L.set i c).getD j 0=if j=i then c else L.getD j 0:=by
 by_cases h:j=i
 ·subst h;simp[Qo,hi]
 ·simp[Qo,VV,Ne.symm h,h]
theorem Fk(N:Nat):qk (List.replicate N (-1))=0:=by
 induction N with
 |zero=>rfl
 |succ N ih=>rw[Xs];simp[qk,ih]
theorem uL(N x:Nat):at' (List.replicate N (-1)) (x:Int)= -1:=by
 unfold at';rw[Qo,Wx];split<;>rfl
theorem GR{T:aw}{D}{N n:Nat}{dir}(hN:(N:Int)=T.nodes)(hn:n<N){K:List Int}{H:Nat->Prop}(hK:K.getD n 0=0)(hH:∀y,H y↔y=n):C8 T D n dir (List.replicate N (-1)) K H (λ_=>False) where
 len:=by simpa using hN
 ge x _:=by rw[uL];omega
 root:=.inr ⟨(hH n).2 rfl,hK⟩
 BA y hy:=by have:=(hH y).1 hy;subst this;exact⟨by omega,uL N y⟩
 mono x y _ hy:=by have:=(hH y).1 hy;subst this;rw[uL,hK];omega
 tK y hy:=by have:=(hH y).1 hy;subst this;exact .inl ⟨rfl,hK⟩
 qg x _ h:=by rw[uL]at h;omega
 closed a _ _ hw:=by
  have:=hw.2.1;have h2:at' (List.replicate N (-1)) (dF T dir a)= -1:=by
   unfold at';rw[Qo,Wx];split<;>rfl
  rw[h2]at this;omega
 ub x _:=by rw[uL,Fk];omega
 RE y hy:=by have:=(hH y).1 hy;subst this;rw[hK,Fk];omega
theorem Nx{T:aw}(hT:Sound T){D}{n:Nat}{dir}{out K:List Int}{H:Nat->Prop}(h:C8 T D n dir out K H (λ_=>False)){i:Nat}(hi:H i)(q:∀j,H j->K.getD i 0<=K.getD j 0)(t:i<K.length){H':Nat->Prop}(g:∀j,H' j↔H j/\j≠i):
  C8 T D n dir (out.set i (K.getD i 0)) (K.set i 0) H' (λa=>dF T dir a=(i:Int))/\qk (out.set i (K.getD i 0))=qk out+1/\(∀x:Nat,(x:Int)<T.nodes->at' (out.set i (K.getD i 0)) (x:Int)<=K.getD i 0)/\at' (out.set i (K.getD i 0)) (i:Int)=K.getD i 0/\0<=K.getD i 0/\K.getD i 0<=65535*(qk out:Int):=by
 obtain⟨A,c⟩:=h.BA i hi;have p:i<out.length:=by have:=h.len;omega
 have hd:=h.key hT hi;have u:=h.RE i hi;have b:=λx:Nat=>Dt out i x (K.getD i 0) p;have o:∀j,j≠i->(K.set i 0).getD j 0=K.getD j 0:=λj hj=>by rw[aN _ _ _ _ t,Vk hj]
 have hcnt:qk (out.set i (K.getD i 0))=qk out+1:=by
  rw[ue out i _ p hd,Vk];have:out.getD i (-1)=at' out (i:Int):=by simp[at']
  rw[this,c];omega
 have hy:∀a,a<2*T.ah.length->Way T D n dir out a->Way T D n dir (out.set i (K.getD i 0)) a/\at' (out.set i (K.getD i 0)) (dF T dir a)=at' out (dF T dir a):=λa ha hw=>by
  obtain⟨y,hy⟩:=Vo (hT.y dir a ha).1;have l:y≠i:=λe=>by
   have:=hw.2.1;rw[hy,e,c]at this;omega
  have m:at' (out.set i (K.getD i 0)) (dF T dir a)=at' out (dF T dir a):=by rw[hy,b y,Vk l]
  exact⟨⟨hw.1,by rw[m];exact hw.2.1,hw.2.2⟩,m⟩
 refine⟨⟨by simpa using h.len,λx hx=>?_,?_,λy d=>?_,λx y hx d=>?_,λy d=>?_,λx hx h0=>?_,λa ha hs hw=>?_,λx hx=>?_,λy d=>?_⟩,hcnt,λx hx=>?_,by rw[b i,Vn rfl],hd,u⟩
 ·rw[b x];split
  ·omega
  ·exact h.ge x hx
 ·by_cases e:n=i
  ·subst e;left;rw[b n,Vn rfl];rcases h.root with h0|⟨_,h0⟩
   ·omega
   ·exact h0
  ·rcases h.root with h0|⟨h1,h0⟩
   ·left;rw[b n,Vk e];exact h0
   ·right;exact⟨(g n).2 ⟨h1,e⟩,by rw[o n e];exact h0⟩
 ·obtain⟨h1,h2⟩:=(g y).1 d;obtain⟨k,z⟩:=h.BA y h1;exact⟨k,by rw[b y,Vk h2];exact z⟩
 ·obtain⟨h1,h2⟩:=(g y).1 d;rw[b x,o y h2];split
  ·exact q y h1
  ·exact h.mono x y hx h1
 ·obtain⟨h1,h2⟩:=(g y).1 d;rw[o y h2];rcases h.tK y h1 with k|⟨a,ha,hx,hw,he⟩
  ·exact .inl k
  ·obtain⟨k1,s⟩:=hy a ha hw;exact .inr ⟨a,ha,hx,k1,by rw[s];exact he⟩
 ·rw[b x]at h0 ⊢;by_cases e:x=i
  ·subst e;rw[Vn rfl];rcases h.tK x hi with⟨k,_⟩|⟨a,ha,hx,hw,he⟩
   ·exact .inl k
   ·obtain⟨k1,s⟩:=hy a ha hw;exact .inr ⟨a,ha,hx,k1,by rw[s];exact he⟩
  ·rw[Vk e]at h0 ⊢;rcases h.qg x hx h0 with k|⟨a,ha,hx,hw,he⟩
   ·exact .inl k
   ·obtain⟨k1,s⟩:=hy a ha hw;exact .inr ⟨a,ha,hx,k1,by rw[s];exact he⟩
 ·obtain⟨y,r⟩:=Vo (hT.y dir a ha).1;have l:y≠i:=λe=>hs (by rw[r,e]);have m:at' (out.set i (K.getD i 0)) (dF T dir a)=at' out (dF T dir a):=by rw[r,b y,Vk l]
  have v:Way T D n dir out a:=⟨hw.1,by rw[<-m];exact hw.2.1,hw.2.2⟩;obtain⟨x,w⟩:=Vo (hT.x dir a ha).1;have hc:=h.closed a ha (λf=>f) v;rw[m];rw[w]at hc ⊢;rw[Vi]at hc ⊢;rw[b x];by_cases e:x=i
  ·subst e;left;rw[Vn rfl];rcases hc with⟨h1,_⟩|⟨_,h2⟩
   ·rw[c]at h1;omega
   ·exact⟨hd,h2⟩
  ·rw[Vk e];rcases hc with h1|⟨h1,h2⟩
   ·exact .inl h1
   ·exact .inr ⟨(g x).2 ⟨h1,e⟩,by rw[o x e];exact h2⟩
 ·rw[b x,hcnt];split
  ·omega
  ·have:=h.ub x hx;omega
 ·obtain⟨h1,h2⟩:=(g y).1 d;rw[o y h2,hcnt];have:=h.RE y h1;omega
 ·rw[b x];split
  ·omega
  ·exact h.mono x i hx hi
theorem JX{T D}{n:Nat}{dir}{out K:List Int}{H:Nat->Prop}{i:Nat}(h:C8 T D n dir out K H (λa=>dF T dir a=(i:Int)))(hi:i≠n)(ho:cW T i=true):C8 T D n dir out K H (λ_=>False):=
 {h with closed:=λa ha _ hw=>h.closed a ha (λe=>by
   rcases hw.2.2 with h1|h1
   ·rw[h1]at e;exact hi (by omega)
   ·rw[e,Vi,ho]at h1;cases h1) hw}
theorem Fv{T:aw}{D}{n:Nat}{dir}{out K:List Int}{H S S':Nat->Prop}(h:C8 T D n dir out K H S){a:Nat}(d:∀b,b<2*T.ah.length->S b->S' b\/b=a)
  (hc:Way T D n dir out a->(0<=at' out (gJ T dir a)/\at' out (gJ T dir a)<=at' out (dF T dir a)+cr T a)\/(H (gJ T dir a).toNat/\K.getD (gJ T dir a).toNat 0<=at' out (dF T dir a)+cr T a)):C8 T D n dir out K H S':=
 ⟨h.len,h.ge,h.root,h.BA,h.mono,h.tK,h.qg,λb hb hs hw=>by
   by_cases e:b=a
   ·subst e;exact hc hw
   ·exact h.closed b hb (λc=>(d b hb c).elim hs e) hw,h.ub,h.RE⟩
theorem Ny{T:aw}(hT:Sound T){D}{n:Nat}{dir}{out K:List Int}{H H' S S':Nat->Prop}(h:C8 T D n dir out K H S){a m:Nat}(ha:a<2*T.ah.length)(r:∀b,b<2*T.ah.length->S b->S' b\/b=a)
  (hw:Way T D n dir out a) (hm:gJ T dir a=(m:Int)) (BA:at' out (m:Int)<0) (i:∀x:Nat,(x:Int)<T.nodes->at' out (x:Int)<=at' out (dF T dir a)) (s:at' out (dF T dir a)+65535<=65535*(qk out:Int))
  (d:¬H m\/at' out (dF T dir a)+cr T a<K.getD m 0) (l:m<K.length) (c:∀j,H' j↔H j\/j=m):
  C8 T D n dir out (K.set m (at' out (dF T dir a)+cr T a)) H' S':=by
 have hc:=hT.cost a ha;have g:(m:Int)<T.nodes:=by have:=(hT.x dir a ha).2;omega
 have f:∀j,(K.set m (at' out (dF T dir a)+cr T a)).getD j 0=if j=m then at' out (dF T dir a)+cr T a else K.getD j 0:=λj=>aN _ _ _ _ l;have t:=hw.2.1;refine⟨h.len,h.ge,?_,λy hy=>?_,λx y hx hy=>?_,λy hy=>?_,h.qg,λb hb hs o=>?_,h.ub,λy hy=>?_⟩
 ·rcases h.root with h0|⟨h1,h0⟩
  ·exact .inl h0
  ·right;refine⟨(c n).2 (.inl h1),?_⟩;rw[f n,Vk,h0];intro e;subst e;rcases d with h2|h2
   ·exact h2 h1
   ·omega
 ·rcases(c y).1 hy with h1|rfl
  ·exact h.BA y h1
  ·have:=h.ge y g;exact⟨g,by omega⟩
 ·rw[f y];have:=i x hx;split
  ·omega
  ·rename_i e;exact h.mono x y hx (((c y).1 hy).resolve_right e)
 ·rw[f y];by_cases e:y=m
  ·subst e;rw[Vn rfl];exact .inr ⟨a,ha,hm,hw,rfl⟩
  ·rw[Vk e];exact h.tK y (((c y).1 hy).resolve_right e)
 ·obtain⟨x,hx⟩:=Vo (hT.x dir b hb).1;by_cases e:b=a
  ·subst e;right;rw[hm,Vi];exact⟨(c m).2 (.inr rfl),by rw[f m,Vn rfl];exact Xg _⟩
  ·have h1:=h.closed b hb (λk=>(r b hb k).elim hs e) o;rw[hx,Vi]at h1 ⊢;rcases h1 with h1|⟨h1,h2⟩
   ·exact .inl h1
   ·right;refine⟨(c x).2 (.inl h1),?_⟩;rw[f x];split
    ·rename_i q;subst q;rcases d with p|p
     ·exact absurd h1 p
     ·omega
    ·exact h2
 ·rw[f y];split
  ·omega
  ·rename_i e;exact h.RE y (((c y).1 hy).resolve_right e)
theorem Nv{T D}{n:Nat}{dir}{out K:List Int}{H:Nat->Prop}(h:C8 T D n dir out K H (λ_=>False))(hH:∀y,¬H y):kl T D n dir out:=
 ⟨h.len,h.root.resolve_right (λk=>hH n k.1),h.ge,λa ha hw=>(h.closed a ha (λf=>f) hw).resolve_right (λk=>hH _ k.1),h.qg⟩
end
end Net
namespace PW
section
open Go.RowKit cm Mem Net Heap
theorem NW{N n:Nat}{K P O:List Int}(h:I2 N n K P O)(hN:N<=65536){i:Nat}(hi:O.getD 0 0=(i:Int))(j:Nat)(hj:fO O (j:Int)):K.getD i 0<=K.getD j 0:=by
 obtain⟨a,c,b,hH⟩:=h;obtain⟨p,hp,he⟩:=hj;have h1:=Hm hH p (by omega);unfold rk at h1;rw[hi,he]at h1;have h2:=a.item p hp;have:=LB (by omega) (by omega) h1;simpa using this
theorem NX(N:Nat):I2 N 0 (List.replicate N 0) (List.replicate N 0) []:=
 ⟨⟨by simp,λp hp=>by simp at hp,λi hi=>.inl (by simp[Qo,Wx,hi])⟩,rfl,by simp,λq _ a=>by omega⟩
theorem Dl{P}{M:Nat}{c t}{Q:Exit->St->Prop}{b d}{N n:Nat}{K a O:List Int}(hd:nZ d)(hT:oy [0,1,2,3,5] t t)(h:W P M 0 c ⟨t,kq false d N n K a O⟩ Q):W P M 0 c ⟨t,kq b d N n K a O⟩ Q:=by
 cases b
 ·exact h
 ·exact dM [0,1,2,3,5] hT (.same hd rfl<|.kept rfl (.cells (V0 (Ren.own (i:=2) I)<|V0 (Ren.own (i:=3) I)<|V0 (Ren.own (i:=4) I) Wp))<|.kept rfl (.row VT)<|.kept rfl (.row VT)<|.kept rfl (.row VT)<|.nil) I I h
theorem dY{P}{M L:Nat}{c t}{Q:Exit->St->Prop}{σ σ'}(he:σ=σ')(h:W P M L c ⟨t,σ'⟩ Q):W P M L c ⟨t,σ⟩ Q:=by subst he;exact h
theorem OU{N n:Nat}(d:Option cj)(hd:nZ d)(K P O:List Int)(h:I2 N n K P O)(hN:N<=65536):
  aD prog 211 [.ptr 1 0] (kq false d N n K P O) (λr σ'=>∃(b ok:Bool) (i n':Nat) (key:Int) (f e c:List Int),r= .tuple [num i,num key,flag ok]/\σ'=kq b d N n' f e c/\
   ((ok=false/\n=0)\/(ok=true/\i<N/\fO O (i:Int)/\(∀j:Nat,fO O (j:Int)->K.getD i 0<=K.getD j 0)/\key=K.getD i 0/\f=K.set i 0/\I2 N n' f e c/\∀j:Nat,fO c (j:Int)↔fO O (j:Int)/\j≠i))):=by
 refine(OT d hd K P O h hN).mono λr σ' hr=>?_;rcases hr with⟨h1,rfl,rfl⟩|⟨n',i,e,c,h1,h2,g,rfl,rfl,k,l⟩
 ·exact⟨false,false,0,n,0,K,P,O,rfl,rfl,.inl ⟨rfl,h1⟩⟩
 ·refine⟨true,true,i,n',K.getD i 0,K.set i 0,e,c,rfl,rfl,.inr ⟨rfl,h2,⟨0,by have:=h.2.1;omega,g⟩,NW h hN g,rfl,rfl,k,λj=>(l j).trans ?_⟩⟩;constructor<;>rintro⟨a,b⟩<;>exact⟨a,by omega⟩
def pV(T:aw)(D:List Bool)(n:Nat)(f1 f2:FuncId)(a b:List PV):List PV:=[.raw (.int .i64 T.nodes),aY T.over,.slice T.ah.length (bR T.ah),aY D,num n,.func f1 a,.func f2 b]
instance (T:aw) (D:List Bool) (n:Nat) (f1 f2:FuncId) (cap1 cap2:List PV) [aM cap1] [aM cap2]:aM (pV T D n f1 f2 cap1 cap2):=by unfold pV;infer_instance
def dH(T:aw)(dir:Bool)(i:Nat):List Int:=((List.range (2*T.ah.length)).filter λa=>decide (dF T dir a=(i:Int))).map Int.ofNat
theorem uK(T:aw)(dir:Bool)(i:Nat)(a:Nat):(a:Int)∈dH T dir i↔a<2*T.ah.length/\dF T dir a=(i:Int):=by
 unfold dH;simp only[Vv,Wk,VP,VH];constructor
 ·rintro⟨b,h,e⟩;have:b=a:=Int.ofNat.inj e;subst this;exact h
 ·intro h;exact⟨a,h,rfl⟩
theorem Dq(T:aw)(dir:Bool)(i k:Nat)(h:k<(dH T dir i).length):∃a:Nat,(dH T dir i).getD k 0=(a:Int)/\a<2*T.ah.length/\dF T dir a=(i:Int):=by
 have hm:(dH T dir i).getD k 0∈dH T dir i:=b9 h;have:∃a:Nat,(dH T dir i).getD k 0=(a:Int):=by
  unfold dH at hm ⊢;obtain⟨b,_,e⟩:=Vv.1 hm;exact⟨b,e.symm⟩
 obtain⟨a,ha⟩:=this;rw[ha]at hm;exact⟨a,ha,(uK T dir i a).1 hm⟩
theorem Dr(T:aw)(dir:Bool)(i:Nat):(dH T dir i).length<=2*T.ah.length:=by
 unfold dH;rw[Wf];exact VL (Wl _ _) (by simp)
theorem LJ(N k:Nat)(h:k<N):(List.replicate k (-1:Int)++List.replicate (N - k) 0).set k (-1)=List.replicate (k+1) (-1)++List.replicate (N - (k+1)) 0:=by
 rw[Xd _ _ (by simp),WX,YK,show N - k=(N - (k+1))+1 by omega,Xs,XB,Y7,VU]
 rfl
theorem wk(N:Nat):fN [.raw (.int .i64 0)] N=cb (List.replicate 0 (-1)++List.replicate (N - 0) 0):=by simpa using dJ N
theorem nP(n:Nat)(L:List Int):nZ (some (.row 3 1 n (cb L))):=λb h=>by
 cases h;exact inferInstanceAs (aM (cb L))
theorem Ro{σ}{K P O:List Int}(h:aQ σ (.ptr 1 0) (BB K P O))(p:Int):aE σ ([.ptr 1 0,num p]++[]) [BB K P O,num p]:=Vp h (Vp aQ.pure Wg)
theorem FU(T:aw)(D:List Bool)(n:Nat)(dir:Bool)(f1 f2:FuncId)(u v:List PV)[aM u][aM v](hv:aH T=true)(hf:cf T D=true)(hn:(n:Int)<T.nodes)(aW:enters prog f1=true)(aY:enters prog f2=true)
  (h1:∀i:Nat,(i:Int)<T.nodes->Can prog f1 ([num i]++u) (· =bm (dH T dir i))) (h2:∀a:Nat,a<2*T.ah.length->Can prog f2 ([num a]++v) (· =num (gJ T dir a))):
  Can prog 164 [.agg (pV T D n f1 f2 u v)] (· =bm (bN T D n dir)):=by
 have aV:=fr hv;have hS:=bz hv;obtain⟨N,hN⟩:∃N:Nat,T.nodes=(N:Int):=⟨T.nodes.toNat,by omega⟩;have bd:N<=64:=by have:=hS.nodes;omega
 have al:n<N:=by omega
 refine aR func164 I ntmps164 I<|aj (.a 2 I<|.k [1] I)<|aK<|av 3 I<|bW (eJ I (VW I) I I hN hN ⟨by unfold maxLen;omega,by omega⟩) I<|av 1 I<|aF [1,3] I ?_;refine an<|aj (.a 3 I<|.k [1,3,21,22] I)<|ay<|eX [1,3,21,22] I<|bq (λr s=>∃k,k<=N/\r=N - k/\s=⟨[(1,.cH (pV T D n f1 f2 u v) 0),(3,.own 0),(21,num N),(22,num k)],[some (.row 3 1 N (cb (List.replicate k (-1)++List.replicate (N - k) 0)))]⟩) N ⟨0,by omega,by omega,by rw[<-wk N];rfl⟩ ?_;rintro r s ⟨k,hk,rfl,rfl⟩;refine aj (.a 1 I<|.k [1,3,21,22,23] I)<|an<|ak I (λhc=>?_) (λhc=>?_)
 ·have hlt:k<N:=by have:=Vg hc;omega
  refine ao<|an<|ay<|aj (.a 2 I<|.k [1,3,4,21,22] I)<|bp<|av 2 I<|aZ (aX (k) I) I<|bw (cK I (VJ I) I I I (by first|omega|(simp;omega))) I I<|aF [1,3,21,22] I ?_;refine dY (σ':=[some (.row 3 1 N (cb (List.replicate (k+1) (-1)++List.replicate (N - (k+1)) 0)))]) (by rw[<-LJ N k hlt];rfl)<|aL (.v (aU I) I<|.a 1 I<|.k [1,3,21,22] I) ?_;exact⟨N - (k+1),by omega,k+1,by omega,rfl,rfl⟩
 ·have a8:k=N:=by have:=Vj hc;omega
  subst a8;refine dY (σ':=[some (.row 3 1 k (cb (List.replicate k (-1))))]) (by simp)<|bh<|aK<|av 2 I<|aZ (aO I ((show some (num T.nodes)=some (num (k:Int)) by rw[hN]))) I<|br I I (VO (Oy k (some (.row 3 1 k (cb (List.replicate k (-1))))) (nP _ _) (by omega)) (λ_ σ' h=>?_));obtain⟨rfl,rfl⟩:=h;refine av 5 I<|aF [1,3,5] I ?_;refine aK<|av 3 I<|br I I (VO (FX (some (.row 3 1 k (cb (List.replicate k (-1))))) (nP _ _) _ _ _ (NX k) (by omega) n al 0) (λ_ σ' h=>?_));obtain⟨b,n1,P1,Y,rfl,z,L⟩:=h;refine aF [1,3,5] I<|Dl (nP _ _) (.cons 1 I Ren.pure<|.cons 3 I (Ren.own (i:=0) I)<|.cons 5 I (Ren.ptr (i:=1) I)<|.nil) ?_;have aa:=GR (T:=T) (D:=D) (N:=k) (n:=n) (dir:=dir) hN.symm al (K:=(List.replicate k (0:Int)).set n 0) (H:=λy=>fO Y (y:Int)) (by rw[aN _ _ _ _ (by simpa using al),Vn rfl]) (λy=>(L y).trans ⟨λh=>h.elim (λ⟨p,hp,_⟩=>by simp at hp) (λe=>by omega),λe=>.inr (by omega)⟩);generalize (List.replicate k (0:Int)).set n 0=Z at z aa;generalize List.replicate k (-1:Int)=c at aa;clear L;refine ay<|eX [1,3,5] I<|bq (λr s=>∃out K P O q,C8 T D n dir out K (λy=>fO O (y:Int)) (λ_=>False)/\I2 k q K P O/\r=k+1 - qk out/\s=⟨[(1,.cH (pV T D n f1 f2 u v) 0),(3,.own 0),(5,.ptr 1 0)],kq false (some (.row 3 1 k (cb out))) k q K P O⟩) (k+1 - qk c) ⟨c,Z,P1,Y,n1,aa,z,rfl,rfl⟩ ?_;clear aa z c Z P1 Y n1 b;rintro r s ⟨out,K,P,O,q,hD,z,rfl,rfl⟩;refine ay<|aK<|av 1 I<|br I I (VO (OU (some (.row 3 1 k (cb out))) (nP _ _) K P O z (by omega)) (λ_ σ' h=>?_));obtain⟨b,ok,i,n1,key,Z,P1,Y,rfl,rfl,ad⟩:=h;refine av 7 I<|aF [1,3,5,7,8,9] I ?_;refine Dl (nP _ _) (.cons 1 I Ren.pure<|.cons 3 I (Ren.own (i:=0) I)<|.cons 5 I (Ren.ptr (i:=1) I)<|.cons 7 I Ren.pure<|.cons 8 I Ren.pure<|.cons 9 I Ren.pure<|.nil)<|an<|aj (.a 2 I<|.k [1,3,5,7,8,47] I)<|ak I (λhc=>?_) (λhc=>?_)
  ·have NV:ok=false:=by cases ok;rfl;cases hc
   have bj:q=0:=by
    rcases ad with⟨_,h⟩|⟨h,_⟩
    ·exact h
    ·rw[NV]at h;cases h
   have af:bN T D n dir=out:=mw hS (Nv hD (λy ⟨p,hp,_⟩=>by have:=z.2.1;omega));exact aj (.a 2 I<|.k [2] I)<|aA<|jF I (Yw rfl W9) (by rw[af];unfold bm;rw[show out.length=k by have:=hD.len;omega])
  ·have aJ:ok=true:=by cases ok;cases hc;rfl
   rcases ad with⟨h,_⟩|⟨_,a1,ar,ab,rfl,rfl,A,aq⟩
   ·rw[aJ]at h;cases h
   obtain⟨l,hcnt,B,J,aB,ba⟩:=Nx hS hD ar ab (by rw[z.2.2.1];exact a1) aq;have bb:out.length=k:=by have:=hD.len;omega
   have ax:=sE (out.set i (K.getD i 0));have a6:(i:Int)<T.nodes:=by omega
   refine ao<|aK<|av 3 I<|aZ (aX (i) I) I<|bw (cK I (VJ I) I I I (by first|omega|(simp;omega))) I I<|aF [1,3,5,7,8] I ?_;refine dY (σ':=kq false (some (.row 3 1 k (cb (out.set i (K.getD i 0))))) k n1 (K.set i 0) P1 Y) I ?_;have aG:(out.set i (K.getD i 0)).length=k:=by simpa using bb
   have o:k+1 - qk (out.set i (K.getD i 0))<k+1 - qk out:=by have:=sE (out.set i (K.getD i 0));omega
   generalize K.getD i 0=d at l hcnt B J aB ba aG ax o;generalize out.set i d=c at l hcnt B J aG ax o;generalize K.set i 0=Z at l A;refine an ?_;have⟨q1,V⟩:=dw (decide ((i:Int)≠(n:Int)));have⟨q2,W⟩:=dw (cW T i);have bc:T.over.length=0\/i<T.over.length:=by have:=aV.2.2.2;omega
   refine cD 62 (.raw (.bool (q1&&q2))) [1,3,5,7,8] I ?_ ?_
   ·refine .a 3 I<|.v (cT I (V)) I<|.a 1 I<|?_;cases q1
    ·exact .a 5 I<|.k [62,1,3,5,7,8] I
    ·exact .a 3 I<|.c rfl (W▸o6 T i bc) I<|.a 1 I<|.k [62,1,3,5,7,8] I
   refine ak I (λhc=>?_) (λhc=>?_)
   ·obtain⟨c1,c2⟩:=Wd.1 hc;rw[c1]at V;rw[c2]at W;have G:=JX l (by have:=Vg V;omega) W;refine gQ (.cons (k:=1) I<|.cons (k:=3) I<|.cons (k:=5) I<|Sub.nil _)<|bh ?_;first
     |exact⟨_,o,c,X,F,O2,q2,G,f,rfl,rfl⟩
     |exact⟨_,o,c,Z,P1,Y,n1,G,A,rfl,rfl⟩
   ·have ag:i=n\/cW T i=false:=by
     by_cases e:i=n
     ·exact .inl e
     ·right;have:q1=true:=by rw[<-V];simp;omega
      rw[this,WB]at hc;rw[W,hc]
    clear V W hc;refine ao<|aj (.a 3 I<|.v (Av I aW rfl rfl (h1 i a6)) I<|.a 2 I<|.k [1,3,5,8,66,67,68] I) ?_;have bg:=Dr T dir i;have g:C8 T D n dir c Z (λy=>fO Y (y:Int)) (λa=>dF T dir a=(i:Int)/\(a:Int)∉(dH T dir i).take 0):=⟨l.len,l.ge,l.root,l.BA,l.mono,l.tK,l.qg,λa ha hs=>l.closed a ha (λe=>hs ⟨e,by simp⟩),l.ub,l.RE⟩;refine ay<|eX [1,3,5,8,66,67,68] I<|bq (λr s=>∃j K P O q,j<=(dH T dir i).length/\C8 T D n dir c K (λy=>fO O (y:Int)) (λa=>dF T dir a=(i:Int)/\(a:Int)∉(dH T dir i).take j)/\I2 k q K P O/\r=(dH T dir i).length - j/\s=⟨[(1,.cH (pV T D n f1 f2 u v) 0),(3,.own 0),(5,.ptr 1 0),(8,num d),(66,bm (dH T dir i)),(67,num (dH T dir i).length),(68,num j)],kq false (some (.row 3 1 k (cb c))) k q K P O⟩) (dH T dir i).length ⟨0,Z,P1,Y,n1,by omega,g,A,rfl,rfl⟩ ?_;clear g A l Z P1 Y n1 aq ab ar hD z;rintro r s ⟨j,X,F,O2,q2,hj,g,f,rfl,rfl⟩;refine aj (.a 1 I<|.k [1,3,5,8,66,67,68,69] I)<|an<|ak I (λhc=>?_) (λhc=>?_)
    ·have hlt:j<(dH T dir i).length:=by have:=Vg hc;omega
     obtain⟨a,ha,C,au⟩:=Dq T dir i j hlt;obtain⟨m,hm⟩:=Vo (hS.x dir a C).1;have M:m<k:=by have:=(hS.x dir a C).2;omega
     have bf:=hS.cost a C;have aQ:D.length=0\/a<D.length:=by simp only[cf,VH]at hf;omega
     have ae:∀b,b<2*T.ah.length->(dF T dir b=(i:Int)/\(b:Int)∉(dH T dir i).take j)->(dF T dir b=(i:Int)/\(b:Int)∉(dH T dir i).take (j+1))\/b=a:=λb _ ⟨e1,e2⟩=>by
      by_cases e:b=a
      ·exact .inr e
      ·left;refine⟨e1,λaD=>?_⟩;rw[cL _ j 0 hlt,ha]at aD;rcases W5.1 aD with h|h
       ·exact e2 h
       ·simp at h;exact e (by omega)
     have t:at' c (dF T dir a)=d:=by rw[au];exact J
     have az:c.getD m 0=at' c (m:Int):=by simp[at',Qo,show m<c.length by omega]
     refine ao<|an<|ay<|aj (.v (aX (j) I) I<|.v (aO I ((aS _ j hlt).trans (by rw[ha]))) I<|.a 1 I<|.k [1,3,5,8,11,66,67,68] I)<|aj (.a 3 I<|.v (Av I aY rfl rfl (hm▸h2 a C)) I<|.a 1 I<|.k [1,3,5,8,11,12,66,67,68] I)<|an ?_;have⟨p1,E⟩:=dw (bO D a);have⟨p2,R⟩:=dw (decide (0<=c.getD m 0));refine cD 86 (.raw (.bool (p1||p2))) [1,3,5,8,11,12,66,67,68] I ?_ ?_
     ·refine .a 3 I<|.c rfl (E▸my D a aQ) I<|.a 1 I<|?_;cases p1
      ·exact .a 2 I<|.v (aX (m) I) I<|.v (aO I (aS c m (by omega))) I<|.v (cT I (R)) I<|.a 1 I<|.k [86,1,3,5,8,11,12,66,67,68] I
      ·exact .a 6 I<|.k [86,1,3,5,8,11,12,66,67,68] I
     refine ak I (λhc=>?_) (λhc=>?_)
     ·have w:=Fv (S':=λb=>dF T dir b=(i:Int)/\(b:Int)∉(dH T dir i).take (j+1)) g ae (λhw=>.inl (by
       rcases Xh.1 hc with h|h
       ·rw[hw.1]at E;rw[h]at E;cases E
       ·rw[h]at R;have h3:=Vg R;rw[az]at h3;rw[hm,t];have:=B m (by omega);exact⟨h3,by omega⟩))
      refine bh<|aL (.v (aU I) I<|.a 1 I<|.k [1,3,5,8,66,67,68] I) ?_;first
       |exact⟨(dH T dir i).length - (j+1),by omega,j+1,_,P3,O3,n3,by omega,w,Q,rfl,rfl⟩
       |exact⟨(dH T dir i).length - (j+1),by omega,j+1,X,F,O2,q2,by omega,w,f,rfl,rfl⟩
     ·obtain⟨c1,c2⟩:=Wo.1 hc;rw[c1]at E;rw[c2]at R;have ai:at' c (m:Int)<0:=by have:=Vj R;rw[az]at this;omega
      have aP:Net.Way T D n dir c a:=⟨E,by rw[t];exact aB,by rw[au,Vi];rcases ag with h|h;(exact .inl (by rw[h]));exact .inr h⟩;refine ao<|aj (.a 4 I<|.c rfl (mv T a C) I<|.v (aU I) I<|.a 1 I<|.k [1,3,5,8,12,13,66,67,68] I) ?_;have⟨p3,S⟩:=dw (!decide (F.getD m 0=0));have⟨kv,ah⟩:=dw (if F.getD m 0=0 then 0 else X.getD m 0);have aC:=N6 X F O2 f.1.len f.2.2.1 (by omega) m M;rw[S,ah]at aC;refine aj (.a 2 I<|.v (tY I (Ro (vx false _ f.2.2.1 f.1.len f.2.1) _) (aC)) I<|.a 5 I<|.k [1,3,5,8,12,13,14,15,66,67,68] I) ?_;have⟨p4,U⟩:=dw (decide (d+cr T a<kv));refine cD 105 (.raw (.bool ((!p3)||p4))) [1,3,5,8,12,13,66,67,68] I ?_ ?_
      ·refine .a 3 I<|?_;cases p3
       ·exact .a 4 I<|.k [105,1,3,5,8,12,13,66,67,68] I
       ·exact .a 2 I<|.v (cT I (U)) I<|.a 1 I<|.k [105,1,3,5,8,12,13,66,67,68] I
      refine ak I (λhc=>?_) (λhc=>?_)
      ·have aE:¬fO O2 (m:Int)\/at' c (dF T dir a)+cr T a<X.getD m 0:=by
        rw[t];by_cases e:F.getD m 0=0
        ·exact .inl ((f.1.zero M).1 e)
        ·right;have h3:p3=true:=by rw[<-S];simp only[e];rfl
         rw[h3]at hc;have h4:p4=true:=by simpa using hc
         rw[h4]at U;have:=Vg U;rw[Vk e]at ah;omega
       refine bp<|av 3 I<|br I I (VO (FX (some (.row 3 1 k (cb c))) (nP _ _) X F O2 f (by omega) m M (d+cr T a)) (λ_ σ' h=>?_));obtain⟨b3,n3,P3,O3,rfl,Q,aT⟩:=h;refine aF [1,3,5,8,66,67,68] I<|Dl (nP _ _) (.cons 1 I Ren.pure<|.cons 3 I (Ren.own (i:=0) I)<|.cons 5 I (Ren.ptr (i:=1) I)<|.cons 8 I Ren.pure<|.cons 66 I Ren.pure<|.cons 67 I Ren.pure<|.cons 68 I Ren.pure<|.nil) ?_;have w:=Ny (S':=λb=>dF T dir b=(i:Int)/\(b:Int)∉(dH T dir i).take (j+1)) (H':=λy=>fO O3 (y:Int)) hS g C ae aP hm ai (λx hx=>by rw[t];exact B x hx) (by rw[t];omega) aE (by rw[f.2.2.1];exact M) (λy=>(aT y).trans ⟨λh=>h.imp id (λe=>by omega),λh=>h.imp id (λe=>by omega)⟩);rw[t]at w;refine aL (.v (aU I) I<|.a 1 I<|.k [1,3,5,8,66,67,68] I) ?_;first
        |exact⟨(dH T dir i).length - (j+1),by omega,j+1,_,P3,O3,n3,by omega,w,Q,rfl,rfl⟩
        |exact⟨(dH T dir i).length - (j+1),by omega,j+1,X,F,O2,q2,by omega,w,f,rfl,rfl⟩
      ·obtain⟨c3,c4⟩:=Wo.1 hc;have h3:p3=true:=by cases p3;cases c3;rfl
       rw[h3]at S;rw[c4]at U;have e:F.getD m 0≠0:=λe=>by rw[e]at S;cases S
       have w:=Fv (S':=λb=>dF T dir b=(i:Int)/\(b:Int)∉(dH T dir i).take (j+1)) g ae (λhw=>.inr (by
        rw[hm,Vi,t];refine⟨VQ λhh=>e ((f.1.zero M).2 hh),?_⟩;rw[Vk e]at ah;have:=Vj U;omega))
       refine ao<|aL (.v (aU I) I<|.a 1 I<|.k [1,3,5,8,66,67,68] I) ?_;first
        |exact⟨(dH T dir i).length - (j+1),by omega,j+1,_,P3,O3,n3,by omega,w,Q,rfl,rfl⟩
        |exact⟨(dH T dir i).length - (j+1),by omega,j+1,X,F,O2,q2,by omega,w,f,rfl,rfl⟩
    ·have a7:j=(dH T dir i).length:=by have:=Vj hc;omega
     have G:C8 T D n dir c X (λy=>fO O2 (y:Int)) (λ_=>False):=⟨g.len,g.ge,g.root,g.BA,g.mono,g.tK,g.qg,λa ha _=>g.closed a ha (λ⟨e1,e2⟩=>e2 (by rw[a7,VN];exact(uK T dir i a).2 ⟨ha,e1⟩)),g.ub,g.RE⟩;refine gQ (.cons (k:=1) I<|.cons (k:=3) I<|.cons (k:=5) I<|Sub.nil _)<|bh ?_;first
      |exact⟨_,o,c,X,F,O2,q2,G,f,rfl,rfl⟩
      |exact⟨_,o,c,Z,P1,Y,n1,G,A,rfl,rfl⟩
end
section
open Go.RowKit cm Mem Net
def iR(T:aw)(D:List Bool)(L:List Int)(dn:Int)(d a:Nat):Bool:=
 !(bO D a||decide (L.getD (bx T a).toNat 0<0)||(decide (bx T a≠(d:Int))&&cW T (bx T a).toNat))&&decide (L.getD (bx T a).toNat 0+cr T a=dn)
def lT(T:aw)(D:List Bool)(L:List Int)(dn:Int)(d:Nat)(l:List Int):List Int:=l.filter λa=>iR T D L dn d a.toNat
theorem xa(T:aw)(D:List Bool)(L e:List Int)(n d:Nat)(hv:aH T=true)(W:cf T D=true)(Z:(L.length:Int)=T.nodes)(J:∀x∈L, -1<=x/\x<=4194240)(hn:(n:Int)<T.nodes)(hd:(d:Int)<T.nodes)
    (p:∀a∈e,0<=a/\a<2*(T.ah.length:Int)) (Y:e.length<=100000):
    Can prog 78 [bu T,aY D,bm L,bm e,num n,num d] (· =bm (if n=d\/L.getD n 0<0 then [] else lT T D L (L.getD n 0) d e)):=by
  have E:=fr hv;have N:=bz hv;have q:n<L.length:=by omega
  refine aR func78 I ntmps78 I<|aj (.a 2 I<|.k [1,2,3,4,5,6] I)<|aj (.a 1 I<|.k [1,2,3,4,5,6,13] I) ?_;have⟨M,g⟩:=dw (decide ((n:Int)=(d:Int)));have⟨S,j⟩:=dw (decide (L.getD n 0<0));refine an<|cD 26 (.raw (.bool (M||S))) [1,2,3,4,5,6,13] I ?_ ?_
  · refine .a 2 I<|.v (cT I (g)) I<|.a 1 I<|?_;cases M
    · exact .a 2 I<|.v (aX (n) I) I<|.v (aO I (aS L n q)) I<|.v (cT I (j)) I<|.a 1 I<|.k [26,1,2,3,4,5,6,13] I
    · exact .a 6 I<|.k [26,1,2,3,4,5,6,13] I
  refine ak (b:=M||S) I (λhc=>?_) (λhc=>?_)
  · have:n=d\/L.getD n 0<0:=by
      rcases Xh.1 hc with h|h
      · rw[h]at g;exact .inl (by have:=Vg g;omega)
      · rw[h]at j;exact .inr (Vg j)
    rw[Vn this];refine aj (.a 2 I<|.k [12] I)<|aA ⟨_,_,.cons (.tmp rfl) .nil,aQ.cg,rfl⟩
  · obtain ⟨c1, U⟩ := Wo.1 hc;rw[c1]at g;rw[U]at j;have G:¬(n=d\/L.getD n 0<0):=by
      have:=Vj g;have:=Vj j;omega
    rw[Vk G];refine ao<|an<|aj (.a 3 I<|.k [1,2,4,5,6,13,28,29,30] I)<|fe 13 3 1 I ?_;refine ay<|gQ (.cons (k:=1) I<|.cons (k:=2) I<|.cons (k:=4) I<|.cons (k:=5) I<|.cons (k:=6) I<|.cons (k:=13) I<|.cons (k:=28) I<|.cons (k:=29) I<|.cons (k:=30) I<|Sub.nil _) ?_;refine bq (λr s=>∃i,i<=e.length/\r=e.length - i/\s=⟨[(1,aY D),(2,bm L),(4,num n),(5,num d),(6,.cH (bJ T) 0),(13,.own 0),(28,bm e),(29,num e.length),(30,num i)],[some (.row 3 1 (lT T D L (L.getD n 0) d (e.take i)).length (cb (lT T D L (L.getD n 0) d (e.take i))))]⟩) e.length ⟨0,by omega,by omega,?_⟩ ?_
    · simp only[List.take_zero,lT,Ya]
      rfl
    · rintro r s ⟨i,hi,rfl,rfl⟩;refine aj (.a 1 I<|.k [1,2,4,5,6,13,28,29,30,31] I)<|an<|ak (b:=decide ((i:Int)<(e.length:Int))) I (λhc=>?_) (λhc=>?_)
      · have hlt:i<e.length:=by have:=Vg hc;omega
        refine ao ?_;obtain⟨a,ha⟩:∃a:Nat,e.getD i 0=(a:Int):=Vo (p _ (b9 hlt)).1;have l:a<2*T.ah.length:=by
          have:=(p (e.getD i 0) (b9 hlt)).2;omega
        have f:lT T D L (L.getD n 0) d (e.take (i+1))=lT T D L (L.getD n 0) d (e.take i)++(if iR T D L (L.getD n 0) d a then [(a:Int)] else []):=by
          unfold lT;rw[XJ,WI,show e[i]? =some (a:Int) by rw[<-ha,Qo];simp[hlt]];congr 1;simp only[Option.toList_some,W6,Ya,Vi]
        have P:(lT T D L (L.getD n 0) d (e.take i)).length<=100000:=VL (Wl _ _) (by rw[V8];omega);obtain⟨F,X⟩:=N.head a l;obtain⟨h,O⟩:=Vo F;have o:h<L.length:=by omega
        have Q: -1<=L.getD h 0/\L.getD h 0<=4194240:=J _ (b9 o);have V:=N.cost a l;have C:D.length=0\/a<D.length:=by simp only[cf,VH]at W;omega
        have H:T.over.length=0\/h<T.over.length:=by have:=E.2.2.2;omega
        refine an<|ay<|aj (.v (aX (i) I) I<|.v (aO I ((aS e i hlt).trans (by rw[ha]))) I<|.a 1 I<|.k [1,2,4,5,6,13,15,28,29,30] I)<|aj (.a 2 I<|.c rfl (O▸jq T a l (by omega)) I<|.a 1 I<|.k [1,2,4,5,6,13,15,16,28,29,30] I) ?_;have⟨z,t⟩:=dw (bO D a);have⟨A,u⟩:=dw (decide (L.getD h 0<0));have⟨B,v⟩:=dw (decide ((h:Int)≠(d:Int)));have⟨K,w⟩:=dw (cW T h);have⟨R,y⟩:=dw (decide (L.getD h 0+cr T a=L.getD n 0));have c:iR T D L (L.getD n 0) d a=(!((z||A)||(B&&K))&&R):=by
          unfold iR;rw[O,Vi,t,u,v,w,y]
        refine an<|cD 56 (.raw (.bool ((z||A)||(B&&K)))) [1,2,4,5,6,13,15,16,28,29,30] I ?_ ?_
        · refine .a 2 I<|.c rfl (t▸my D a C) I<|.a 1 I<|?_;cases z
          · refine .a 2 I<|.v (aX (h) I) I<|.v (aO I (aS L h o)) I<|.v (cT I (u)) I<|.a 2 I<|?_;cases A
            · refine .a 2 I<|.v (cT I (v)) I<|.a 1 I<|?_;cases B
              · exact .a 5 I<|.k [56,1,2,4,5,6,13,15,16,28,29,30] I
              · exact .a 2 I<|.c rfl (w▸o6 T h H) I<|.a 2 I<|.k [56,1,2,4,5,6,13,15,16,28,29,30] I
            · exact .a 9 I<|.k [56,1,2,4,5,6,13,15,16,28,29,30] I
          · exact .a 16 I<|.k [56,1,2,4,5,6,13,15,16,28,29,30] I
        refine ak (b:=(z||A)||(B&&K)) I (λhc=>?_) (λhc=>?_)
        · rw[hc]at c;refine bh<|aL (.v (aU I) I<|.a 1 I<|.k [1,2,4,5,6,13,28,29,30] I) ?_;refine⟨e.length - (i+1),by omega,i+1,by omega,rfl,?_⟩;rw[f,c];simp only[Bool.not_true,Bool.false_and,Xb,Yo,V6]
          rfl
        · rw[hc]at c;refine ao<|ev mixed (by kernel_rfl) (.a 2 I<|.v [57,58] (aX (h) I) I I<|.v [59] (aO I (aS L h o)) I I<|.a 2 I<|.v [61,62] (dW I (mv T a l)) I I<|.v [60,63] (aU I) I I<|.a 2 I<|.v [65,66] (aX (n) I) I I<|.v [67] (aO I (aS L n q)) I I<|.v [64,68] (cT I (y)) I I<|.k [1,2,4,5,6,13,15,28,29,30,69] I) ?_;refine ak (b:=R) I (λm=>?_) (λm=>?_)
          · rw[m]at c;refine bp<|av 3 I<|bW (bP I (VW I) I I I I (by unfold maxLen;omega)) I<|av 1 I ?_;refine ft [1] (.c 1<|.c 2<|.c 4<|.c 5<|.c 6<|.c 13<|.c 28<|.c 29<|.c 30<|.nil) (.kept rfl (.eZ rfl (ed _ _))<|.nil) I I (bM ?_);refine aL (.v (aU I) I<|.a 1 I<|.k [1,2,4,5,6,13,28,29,30] I)<|⟨e.length - (i+1),by omega,i+1,by omega,rfl,?_⟩;rw[f,c];simp only[Zi,WB,Xr,Vu,VR]
            rfl
          · rw[m]at c;refine ao<|aL (.v (aU I) I<|.a 1 I<|.k [1,2,4,5,6,13,28,29,30] I) ?_;refine⟨e.length - (i+1),by omega,i+1,by omega,rfl,?_⟩;rw[f,c];simp only[Zi,WB,Xb,Yo,V6]
            rfl
      · have:i=e.length:=by have:=Vj hc;omega
        subst this;rw[VN];exact bh<|aj (.a 2 I<|.k [12] I)<|aA ⟨_,_,.cons (.tmp rfl) .nil,Yw rfl W9,rfl⟩
open Heap
instance (T:aw):di (bJ T):=by unfold bJ;infer_instance
def dG(T:aw)(D:List Bool)(a:List Int):Int:=if aH T&&cf T D then(if a.all (bZ T) then 0 else 2) else 1
theorem sC(T:aw)(D:List Bool)(a:List Int)(n:a.length<=1000):Can prog 160 [bu T,aY D,bm a] (· =num (dG T D a)):=by
 refine aR func160 I ntmps160 I<|aj (.a 2 I<|.k [1,2,3] I)<|an ?_;have⟨k,c⟩:=dw (aH T);have⟨m,g⟩:=dw (cf T D);refine cD 17 (.raw (.bool ((!k)||(!m)))) [2,3] I ?_ ?_
 ·refine .a 1 I<|.c rfl (c▸gw T) I<|.a 2 I<|?_;cases k
  ·exact .a 5 I<|.k [17,2,3] I
  ·exact .a 2 I<|.c rfl (g▸rn T D (by have:=dy c;omega)) I<|.a 2 I<|.k [17,2,3] I
 refine ak I (λhc=>?_) (λhc=>?_)
 ·have f:dG T D a=1:=by
   unfold dG;rw[c,g,Vk];revert hc;cases k<;>cases m<;>simp
  exact aj (.a 1 I<|.k [6] I)<|aA<|jF I aQ.pure (by rw[f];rfl)
 ·have j:(aH T&&cf T D)=true:=by
   rw[c,g];revert hc;cases k<;>cases m<;>simp
  refine ao<|an<|aj (.a 3 I<|.k [3,18,19,20] I)<|ay<|eX [3,18,19,20] I<|bq (λr s=>∃i,i<=a.length/\(a.take i).all (bZ T)=true/\r=a.length - i/\s=⟨[(3,.cH (bJ T) 0),(18,bm a),(19,num a.length),(20,num i)],[]⟩) a.length ⟨0,by omega,by simp,by omega,rfl⟩ ?_;rintro r s ⟨i,hi,b,rfl,rfl⟩;refine aj (.a 1 I<|.k [3,18,19,20,21] I)<|an<|ak I (λhc=>?_) (λhc=>?_)
  ·have hlt:i<a.length:=by have:=Vg hc;omega
   refine ao<|an<|ay<|aj (.v (aX (i) I) I<|.v (aO I (aS a i hlt)) I<|.a 1 I<|.k [3,8,18,19,20] I)<|aj (.a 2 I<|.c rfl (jw T _) I<|.a 1 I<|.k [3,18,19,20,27] I)<|ak I (λhc=>?_) (λhc=>?_)
   ·have f:dG T D a=2:=by
     unfold dG;rw[Vn j,Vk];intro h;have h1:=VG.1 h _ (b9 (d:=0) hlt);rw[h1]at hc;cases hc
    exact aj (.a 1 I<|.k [6] I)<|aA<|jF I aQ.pure (by rw[f];rfl)
   ·have e:(a.take (i+1)).all (bZ T)=true:=by
     rw[cL a i 0 hlt,Zv,b];have:bZ T (a.getD i 0)=true:=by revert hc;cases bZ T (a.getD i 0)<;>simp
     simp only[List.all_cons,this,List.all_nil,Bool.and_self]
    refine ao<|aL (.v (aU I) I<|.a 1 I<|.k [3,18,19,20] I) ?_;exact⟨a.length - (i+1),by omega,i+1,by omega,e,rfl,rfl⟩
  ·have l:i=a.length:=by have:=Vj hc;omega
   refine bh<|aj (.a 1 I<|.k [6] I)<|aA<|⟨_,_,V5 I,aQ.pure,?_⟩;unfold dG;rw[Vn j,Vn (by rw[l,VN]at b;exact b)]
   rfl
theorem GS(rs:List (List Int))(i:Nat)(hi:i<rs.length):Can prog 162 ([num i]++[.cH [mS rs] 0]) (· =bm (rs.getD i [])):=by
 exact aR func162 I ntmps162 I<|aj (.a 1 I<|.k [0,1] I)<|aj (.a 2 I<|.v (aX (i) I) I<|.v (aO I ((show(rs.map bm)[i]? =some (bm (rs.getD i [])) by simp[hi]))) I<|.a 1 I<|.k [3] I)<|aA<|jF I aQ.pure rfl
theorem GU(T:aw)(a:Nat)(ha:a<2*T.ah.length):Can prog 163 ([num a]++[.cH (bJ T) 0]) (· =num (bI T a)):=by
 exact aR func163 I ntmps163 I<|aj (.a 1 I<|.k [0,1] I)<|aj (.a 2 I<|.c rfl (mY T a ha) I<|.a 1 I<|.k [3] I)<|aA<|jF I aQ.pure rfl
def fx(e:Int)(l:List Int):PV:=.tuple [bm (if e=0 then l else []),num e]
theorem uT(T:aw)(D:List Bool)(d:Int):Can prog 121 [bu T,aY D,num d] (· =fx (dG T D [d]) (bN T D d.toNat false)):=by
 refine aR func121 I ntmps121 I<|aj (.a 3 I<|.k [1,2,3] I)<|an<|aj (.a 4 I<|.c rfl (sC T D [d] (by simp)) I<|.a 1 I<|.k [1,2,3,8] I)<|aj (.a 2 I<|.k [1,2,3,8,17] I)<|ak I (λhc=>?_) (λhc=>?_)
 ·have he:dG T D [d]≠0:=Vg hc;exact aj (.a 3 I<|.k [6,7] I)<|aA<|jF I (Yi (Vp aQ.cg (Vp aQ.pure Wg))) (by unfold fx;rw[Vk he];rfl)
 ·have he:dG T D [d]=0:=by have:=Vj hc;omega
  have c:(aH T&&cf T D)=true/\bZ T d=true:=by
   unfold dG at he;split at he
   ·rename_i h1;split at he
    ·rename_i h2;exact⟨h1,by simpa using h2⟩
    ·omega
   ·omega
  obtain⟨e,b⟩:=c;obtain⟨hv,f⟩:=Wd.1 e;have hd:0<=d/\d<T.nodes:=by simpa[bZ]using b
  obtain⟨n,rfl⟩:=Vo hd.1;have g:=bz hv;refine ao<|aK<|av 1 I<|fW I (zg T hv) I<|av 2 I<|aF [1,2,3,9] I ?_;refine aK<|av 3 I<|aZ (ia I I) I<|av 4 I<|aF [10] I ?_;refine oK (.cons 10 I (ZA rfl (Vp aQ.pure<|Vp aQ.pure<|Vp aQ.pure<|Vp aQ.pure<|Vp aQ.pure<|Vp (aQ.mD (Vp (ZA rfl (Vp aQ.pure Wg)) Wg))<|Vp aQ.pure Wg)) .nil)<|aj (.a 1 I<|.c rfl (FU T D n false 162 163 [.cH [mS (ep (bx T) T.nodes.toNat (2*T.ah.length))] 0] [.cH (bJ T) 0] hv f hd.2 (by kernel_rfl) (by kernel_rfl) (λi hi=>by have h:=GS (ep (bx T) T.nodes.toNat (2*T.ah.length)) i (by rw[gv];omega);rw[kQ _ _ _ _ (by omega)]at h;exact h) (λa ha=>GU T a ha)) I<|.a 2 I<|.k [6,7] I)<|aA<|jF I aQ.pure (by unfold fx;rw[Vn he,he];rfl)
theorem ur(T:aw)(hl:T.ah.length<=256)(n:Int):Can prog 35 [bu T,num n] (· =bm (cw T n)):=by
 refine aR func35 I ntmps35 I<|aj (.a 2 I<|.k [1,2] I)<|aj (.a 1 I<|.k [1,2,5] I)<|fe 5 3 1 I ?_;refine an<|aj (.a 1 I<|.c rfl (jl T (by omega)) I<|.a 1 I<|.k [1,2,5,8,9] I)<|ay<|eX [1,2,5,8,9] I<|bq (λr s=>∃k,k<=2*T.ah.length/\r=2*T.ah.length - k/\s=⟨[(1,num n),(2,.cH (bJ T) 0),(5,.own 0),(8,num (2*(T.ah.length:Int))),(9,num k)],[some (.row 3 1 (jI T n k).length (cb (jI T n k)))]⟩) (2*T.ah.length) ⟨0,by omega,by omega,rfl⟩ ?_;rintro r s ⟨k,hk,rfl,rfl⟩;refine aj (.a 1 I<|.k [1,2,5,8,9,10] I)<|an<|ak I (λhc=>?_) (λhc=>?_)
 ·have hlt:k<2*T.ah.length:=by have:=Vg hc;omega
  have c:=fK T n k;refine ao<|an<|ay<|aj (.a 2 I<|.k [1,2,5,6,8,9] I)<|aj (.a 2 I<|.c rfl (mY T k hlt) I<|.a 2 I<|.k [1,2,5,6,8,9,16] I)<|ak I (λhc=>?_) (λhc=>?_)
  ·have a:=xN T n k (by simpa using Vg hc);refine bp<|av 3 I<|bW (bP I (VW I) I I I I (by unfold maxLen;omega)) I<|av 1 I ?_;refine ft [1] (.c 1<|.c 2<|.c 5<|.c 8<|.c 9<|.nil) (.kept rfl (.eZ rfl (ed _ _))<|.nil) I I (bM ?_);refine aL (.v (aU I) I<|.a 1 I<|.k [1,2,5,8,9] I)<|⟨2*T.ah.length - (k+1),by omega,k+1,by omega,rfl,?_⟩;rw[a];first
    |rfl
    |(simp only[Vu,VR];rfl)
  ·have a:=Cc T n k (by simpa using Vj hc);refine ao<|aL (.v (aU I) I<|.a 1 I<|.k [1,2,5,8,9] I) ?_;refine⟨2*T.ah.length - (k+1),by omega,k+1,by omega,rfl,?_⟩;rw[a];first
    |rfl
    |(simp only[Vu,VR];rfl)
 ·have b:k=2*T.ah.length:=by have:=Vj hc;omega
  subst b;exact bh<|aj (.a 2 I<|.k [4] I)<|aA<|jF I (Yw rfl W9) rfl
def c9(T:aw)(D:List Bool)(n d:Int):Int:=if dG T D [d]=0 then(if bZ T n then 0 else 2) else dG T D [d]
theorem w9(T:aw)(D:List Bool)(n d:Int):Can prog 77 [bu T,aY D,num n,num d] (· =fx (c9 T D n d) (bN T D d.toNat false)):=by
 refine aR func77 I ntmps77 I<|aj (.a 3 I<|.k [1,2,3,4] I)<|aj (.a 3 I<|.c rfl (uT T D d) I<|.a 5 I<|.k [2,4,10,11] I)<|an<|aj (.a 2 I<|.k [2,4,10,11,20] I)<|ak I (λhc=>?_) (λhc=>?_)
 ·have he:dG T D [d]≠0:=Vg hc;exact aj (.a 3 I<|.k [8,9] I)<|aA<|jF I (Yi (Vp aQ.cg (Vp aQ.pure Wg))) (by unfold fx c9;rw[Vk he,Vk he];rfl)
 ·have he:dG T D [d]=0:=by have:=Vj hc;omega
  refine ao<|an<|aj (.a 2 I<|.c rfl (jw T n) I<|.a 1 I<|.k [10,25] I)<|ak I (λhc=>?_) (λhc=>?_)
  ·have hn:bZ T n=false:=by revert hc;cases bZ T n<;>simp
   exact aj (.a 2 I<|.k [8,9] I)<|aA<|jF I (Yi (Vp aQ.cg (Vp aQ.pure Wg))) (by unfold fx c9;rw[Vn he,hn];rfl)
  ·have hn:bZ T n=true:=by revert hc;cases bZ T n<;>simp
   exact ao<|aj (.a 3 I<|.k [8,9] I)<|aA<|jF I aQ.pure (by unfold fx c9;simp only[he,hn,Xr];rfl)
theorem wY{T D}{c:List Int}(he:dG T D c=0):aH T=true/\cf T D=true/\∀n∈c,bZ T n=true:=by
 unfold dG at he;split at he
 ·rename_i h1;split at he
  ·rename_i h2;obtain⟨a,b⟩:=Wd.1 h1;exact⟨a,b,VG.1 h2⟩
  ·omega
 ·omega
theorem iZ{T D}{n d:Int}(he:c9 T D n d=0):aH T=true/\cf T D=true/\bZ T n=true/\bZ T d=true:=by
 unfold c9 at he;split at he
 ·rename_i h1;obtain⟨a,b,c⟩:=wY h1;split at he
  ·rename_i h2;exact⟨a,b,h2,c d (by simp)⟩
  ·omega
 ·omega
theorem fi{T:aw}{D}(hv:aH T=true){d:Nat}{dir}(hd:(d:Int)<T.nodes):((bN T D d dir).length:Int)=T.nodes/\∀x∈bN T D d dir, -1<=x/\x<=4194240:=by
 have c:=bz hv;have a:=GV c D dir hd;refine⟨a.len,λx hx=>?_⟩;obtain⟨i,hi,rfl⟩:=Xi hx;have b:(i:Int)<T.nodes:=by have:=a.len;omega
 have h1:=a.ge i b;have h2:=a.R8 i b;have e:=sE (bN T D d dir);have f:=c.nodes;have g:=a.len;rw[Ju _ i hi]at h1 h2;omega
noncomputable def cA(T:aw)(D:List Bool)(n d:Nat):List Int:=
 if n=d\/(bN T D d false).getD n 0<0 then [] else lT T D (bN T D d false) ((bN T D d false).getD n 0) d (cw T n)
theorem mM{T:aw}{n:Int}{a:Int}(h:a∈cw T n):0<=a/\a<2*(T.ah.length:Int):=by
 unfold cw jI at h;obtain⟨b,hb,rfl⟩:=Vv.1 h;have:=(Wk.1 hb).1;have:=VP.1 this;simp;omega
theorem B3(T:aw)(D:List Bool)(n d:Int):Can prog 34 [bu T,aY D,num n,num d] (· =fx (c9 T D n d) (cA T D n.toNat d.toNat)):=by
 refine aR func34 I ntmps34 I<|aj (.a 3 I<|.k [1,2,3,4] I)<|aj (.a 4 I<|.c rfl (w9 T D n d) I<|.a 5 I<|.k [1,2,3,4,10,11] I)<|an<|aj (.a 2 I<|.k [1,2,3,4,10,11,21] I)<|ak I (λhc=>?_) (λhc=>?_)
 ·have he:c9 T D n d≠0:=Vg hc;exact aj (.a 3 I<|.k [8,9] I)<|aA<|jF I (Yi (Vp aQ.cg (Vp aQ.pure Wg))) (by unfold fx;rw[Vk he];rfl)
 ·have he:c9 T D n d=0:=by have:=Vj hc;omega
  rw[he];obtain⟨hv,f,hn,hd⟩:=iZ he;rw[bY]at hn hd;obtain⟨n,rfl⟩:=Vo hn.1;obtain⟨d,rfl⟩:=Vo hd.1;have e:=dy hv;obtain⟨b,c⟩:=fi (D:=D) hv (dir:=false) hd.2;refine ao<|ev mixed (by kernel_rfl) (.a 5 I<|.v [26,27] (dW I (ur T e _)) I I<|.a 2 I<|.v [23,24,25,28,29,30] (dW I (xa T D (bN T D d false) (cw T n) n d hv f b c hn.2 hd.2 (λa ha=>mM ha) (VL (fK T n _) (by omega)))) I I<|.a 2 I<|.k [8,9] I) ?_;exact aA<|jF I aQ.pure rfl
end
section
open Go.RowKit cm Mem Net
structure eW where
 kind:Int
 num:Int
deriving DecidableEq
structure qT where
 ec:List Int
 rep:Bool
 push:List eW
structure oc where
 node:Int
 jN:List qT
 down:List Int
def vN(s:eW):List PV:=[num s.kind,num s.num]
def Pc(s:eW):PV:=.agg (vN s)
def jz(l:List eW):List PV:=l.flatMap vN
def kg(l:List eW):PV:=.slice l.length (jz l)
def DH(e:qT):List PV:=[bm e.ec,flag e.rep,kg e.push]
def Bd(e:qT):PV:=.agg (DH e)
def lP(l:List qT):List PV:=l.flatMap DH
def tr(l:List qT):PV:=.slice l.length (lP l)
def oG(t:oc):List PV:=[num t.node,tr t.jN,bm t.down]
def s9(t:oc):PV:=.agg (oG t)
def Qp(l:List oc):List PV:=l.flatMap oG
def yp(l:List oc):PV:=.slice l.length (Qp l)
instance (s:eW):aM (vN s):=by unfold vN;infer_instance
instance (s:eW):di (vN s):=by unfold vN;infer_instance
instance (l:List eW):aM (jz l):=Ym _ _ λ_=>inferInstance
instance (l:List eW):di (jz l):=di.flatMap _ _ λ_=>inferInstance
instance (l:List eW):IsPure (kg l):=by unfold kg;infer_instance
instance (l:List eW):gN (kg l):=by unfold kg;infer_instance
instance (e:qT):aM (DH e):=by unfold DH;infer_instance
instance (e:qT):IsPure (Bd e):=by unfold Bd;infer_instance
instance (l:List qT):aM (lP l):=Ym _ _ λ_=>inferInstance
instance (l:List qT):IsPure (tr l):=by unfold tr;infer_instance
instance (l:List qT):gN (tr l):=by unfold tr;infer_instance
instance (t:oc):aM (oG t):=by unfold oG;infer_instance
instance (t:oc):di (oG t):=by unfold oG;infer_instance
instance (t:oc):IsPure (s9 t):=by unfold s9;infer_instance
instance (l:List oc):aM (Qp l):=Ym _ _ λ_=>inferInstance
instance (l:List oc):IsPure (yp l):=by unfold yp;infer_instance
theorem qB(l:List qT)(e:qT):lP l++DH e=lP (l++[e]):=by simp[lP]
theorem pG{α:Type}(f:α->List PV)(s:Nat)(c:∀a,(f a).length=s):∀(l:List α) (i:Nat) (a:α),l[i]? =some a->((l.flatMap f).drop (i*s)).take s=f a
 | [],i,a,h=>by simp at h
 |b::l,0,a,h=>by
  simp at h;subst h;rw[Wm,Zf,List.drop_zero];exact List.take_left' (c b)
 |b::l,i+1,a,h=>by
  have:=pG f s c l i a (by simpa using h);have d:(i+1)*s=s+i*s:=by rw[XL];omega
  rw[Wm,d,<-X4,Yb (c b),this]
theorem xg(l:List qT)(i:Nat)(e:qT)(h:l[i]? =some e):((lP l).drop (i*3)).take 3=DH e:=pG DH 3 (λ_=>rfl) l i e h
theorem yj(l:List eW)(i:Nat)(e:eW)(h:l[i]? =some e):((jz l).drop (i*2)).take 2=vN e:=pG vN 2 (λ_=>rfl) l i e h
theorem tf{P σ t o p q}(h:bE P σ t o p)(hl:fv p q):bE P σ t o q:=λF base E ρ w a d hT=>by
 have:=h F base E ρ w a d hT;generalize (execOp ρ o).run P w=x at*;cases x with
 |ok n w'=>
  cases n with
  |value v=>exact⟨this.1,hl _ _ _ this.2⟩
  |skip=>exact⟨this.1,hl _ _ _ this.2⟩
  |enter f b=>exact⟨this.1,Calls.mono this.2 (λe g ⟨x,h1,h2,c⟩=>⟨x,h1,h2,hl _ _ _ c⟩)⟩
  |_=>exact this
 |halt x w'=>exact this
def Dh(xs ys:List PV):Prop:=xs.length=ys.length/\∀(i:Nat) x y,xs[i]? =some x->ys[i]? =some y->fv x y
theorem Dh.nil:Dh [] []:=⟨rfl,λi x y h=>by simp at h⟩
theorem Dh.cons{x y xs ys}(h:fv x y)(hs:Dh xs ys):Dh (x::xs) (y::ys):=⟨by simp[hs.1],λj a b h1 h2=>by
 cases j with
 |zero=>simp at h1 h2;subst h1;subst h2;exact h
 |succ j=>exact hs.2 j a b (by simpa using h1) (by simpa using h2)⟩
theorem fv.iV{xs ys}(h:Dh xs ys):fv (.agg xs) (.agg ys):=λE w v hv=>by
 cases hv with
 |agg cs _ hl hr=>exact .agg cs ys (hl.trans h.1) (λi c u h1 h2=>by
   have hi:i<xs.length:=by rw[h.1];exact(Vf.1 h2).1
   exact h.2 i xs[i] u (by simp[hi]) h2 E w c (hr i c _ h1 (by simp[hi])))
noncomputable def toL(T:aw)(D:List Bool)(n k:Nat):List qT:=(List.range k).map λd=>⟨cA T D n d,false,[]⟩
def fR(D:List Bool)(l:List Int):List Int:=l.filter λa=>bO D a.toNat
noncomputable def kJ(T:aw)(D:List Bool)(n:Nat):oc:=⟨n,toL T D n T.nodes.toNat,fR D (cw T n)⟩
noncomputable def fp(T:aw)(D:List Bool)(n:Int):oc:=if dG T D [n]=0 then kJ T D n.toNat else⟨0,[],[]⟩
theorem CX(T:aw)(D:List Bool)(n k:Nat):toL T D n (k+1)=toL T D n k++[⟨cA T D n k,false,[]⟩]:=by simp[toL,WM]
theorem F8(T:aw)(D:List Bool)(n k:Nat):(toL T D n k).length=k:=by simp[toL]
end
section
open Go.RowKit cm Mem
theorem Ji{P}{N L:Nat}{x y st}{Q:Exit->St->Prop}(t0:cd)(M:bH->Prop)(h:W P N L x st (F7 (λs=>Sub s.t t0/\M s.σ) Q))(k:∀σ,M σ->W P N L y ⟨t0,σ⟩ Q):W P N L (.seq x y) st Q:=
 an (h.mono λe s a=>by
  cases e<;>first
   |exact gQ (t:=s.t) (σ:=s.σ) a.1 (k _ a.2)
   |exact a)
theorem M9{P}{N L:Nat}{x y st}{Q:Exit->St->Prop}(M:St->Prop)(h:W P N L x st (F7 (λs=>∃a,M a/\∀ {Y} {Q':Exit->St->Prop},W P N L Y a Q'->W P N L Y s Q') Q))(k:∀s,M s->W P N L y s Q):W P N L (.seq x y) st Q:=
 an (h.mono λe s b=>by
  cases e<;>first
   |(obtain⟨a,h1,h2⟩:=b;exact h2 (k _ h1))
   |exact b)
open Net
theorem CF(T:aw)(D:List Bool)(n:Int)(dir:Bool):Can prog 122 [bu T,aY D,num n,flag dir] (· =fx (dG T D [n]) (bN T D n.toNat dir)):=by
  refine aR func122 I ntmps122 I<|aj (.a 3 I<|.k [1,2,3,4] I)<|an<|aj (.a 2 I<|.c rfl (xZ T D) I<|.a 1 I<|.k [1,2,3,4,20] I)<|ak I (λhc=>?_) (λhc=>?_)
  · have o:dG T D [n]=1:=by
      unfold dG;rw[Vk];revert hc;cases(aH T&&cf T D)<;>simp
    exact aj (.a 2 I<|.k [8,9] I)<|aA<|jF I (Yi (Vp aQ.cg (Vp aQ.pure Wg))) (by unfold fx;rw[o];rfl)
  · have M : (aH T && cf T D) = true := by revert hc; cases (aH T && cf T D) <;> simp
    refine ao<|an ?_;have⟨q1,O⟩:=dw (decide (n<0));have⟨q2,P⟩:=dw (decide (T.nodes<=n));have L:bZ T n= !(q1||q2):=by rw[<-O,<-P];unfold bZ;by_cases h1:n<0<;>by_cases h2:T.nodes<=n<;>simp[h1,h2]<;>omega
    refine cD 28 (.raw (.bool (q1||q2))) [1,2,3,4] I ?_ ?_
    · refine .a 1 I<|.v (cT I (O)) I<|.a 1 I<|?_;cases q1
      · exact .a 3 I<|.v (cT I (P)) I<|.a 1 I<|.k [28,1,2,3,4] I
      · exact .a 5 I<|.k [28,1,2,3,4] I
    refine ak I (λhc=>?_) (λhc=>?_)
    · have o:dG T D [n]=2:=by
        unfold dG;rw[Vn M,Vk];simp[L,hc]
      exact aj (.a 2 I<|.k [8,9] I)<|aA<|jF I (Yi (Vp aQ.cg (Vp aQ.pure Wg))) (by unfold fx;rw[o];rfl)
    · have F:bZ T n=true:=by rw[L,hc];rfl
      have o:dG T D [n]=0:=by
        unfold dG;rw[Vn M,Vn];simp[F]
      obtain⟨hv,hf⟩:=Wd.1 M;have hn:=bY.1 F;obtain⟨n,rfl⟩:=Vo hn.1;have E:=bz hv;have ai:=fr hv;obtain⟨N,hN⟩:∃N:Nat,T.nodes=(N:Int):=⟨T.nodes.toNat,by omega⟩;have ag:N<=64:=by have:=E.nodes;omega
      have af:n<N:=by omega
      clear hc O P L;refine ao<|aK<|av 2 I<|bW (eJ I (VW I) I I hN hN ⟨by unfold maxLen;omega,by omega⟩) I<|av 1 I<|aF [1,2,3,4,10] I ?_;refine an<|aj (.a 1 I<|.k [1,2,3,4,10,11] I)<|ay<|eX [1,2,3,4,10,11] I<|bq (λr s=>∃k,k<=N/\r=N - k/\s=⟨[(1,aY D),(2,num n),(3,flag dir),(4,.cH (bJ T) 0),(10,.own 0),(11,num k)],[some (.row 3 1 N (cb (kr N k)))]⟩) N ⟨0,by omega,by omega,by have:=dJ N;unfold kr;simp only[List.replicate_zero,WJ,Yq];rw[<-this];rfl⟩ ?_;rintro r s ⟨k,hk,rfl,rfl⟩;refine an<|aj (.a 4 I<|.k [1,2,3,4,10,11,35] I)<|ak I (λhc=>?_) (λhc=>?_)
      · have hlt:k<N:=by have:=Vg hc;omega
        have ad:(kr N k).length=N:=by simp[kr];omega
        refine ao<|an<|ay<|bp<|av 2 I<|aZ (aX (k) I) I<|bw (cK I (VJ I) I I I (by first|omega|(simp;omega))) I I<|aF [1,2,3,4,10,11] I ?_;refine dY (σ':=[some (.row 3 1 N (cb (kr N (k+1))))]) (by rw[<-BD N k hlt];rfl)<|aL (.a 1 I<|.v (aU I) I<|.a 1 I<|.k [1,2,3,4,10,11] I) ?_;exact⟨N - (k+1),by omega,k+1,by omega,rfl,rfl⟩
      · have ae:k=N:=by have:=Vj hc;omega
        subst ae;have ad:(kr k k).length=k:=by simp[kr]
        refine bh<|aK<|av 2 I<|aZ (aX (n) I) I<|bw (cK I (VJ I) I I I (by first|omega|(simp;omega))) I I<|aF [1,2,3,4,10] I ?_;refine dY (σ':=[some (.row 3 1 k (cb (Net.start k n)))]) (by rw[<-DX k n];rfl) ?_;have H:=s8 (T:=T) (D:=D) (N:=k) (n:=n) (dir:=dir) hN.symm af;generalize Net.start k n=v at H;refine an<|aj (.a 1 I<|.k [1,2,3,4,10,12] I)<|ay<|eX [1,2,3,4,10,12] I<|bq (λr s=>∃(out:List Int) (b:Bool),Inv T D n dir out/\(b=false->∀a,a<2*T.ah.length->¬qV T D n dir out a)/\r=2*mu out+b.toNat/\s=⟨[(1,aY D),(2,num n),(3,flag dir),(4,.cH (bJ T) 0),(10,.own 0),(12,flag b)],[some (.row 3 1 k (cb out))]⟩) (2*mu v+1) ⟨v,true,H,(λh=>by cases h),rfl,rfl⟩ ?_;clear H v;rintro r s ⟨out,b,hI,hb,rfl,rfl⟩;refine an<|aj (.a 1 I<|.k [1,2,3,4,10,44] I)<|ak I (λhc=>?_) (λhc=>?_)
        · subst hc;refine ao<|ay<|aj (.a 1 I<|.k [1,2,3,4,10,12] I)<|aj (.a 1 I<|.k [1,2,3,4,10,12,13] I)<|ay<|eX [1,2,3,4,10,12,13] I<|bq (λr s=>∃(S:Nat) (d:List Int) (b':Bool),S<=2*T.ah.length/\Inv T D n dir d/\(b'=false->d=out/\∀a,a<S->¬qV T D n dir out a)/\(b'=true->mu d<mu out)/\r=2*T.ah.length - S/\s=⟨[(1,aY D),(2,num n),(3,flag dir),(4,.cH (bJ T) 0),(10,.own 0),(12,flag b'),(13,num S)],[some (.row 3 1 k (cb d))]⟩) (2*T.ah.length) ⟨0,out,false,by omega,hI,(λ_=>⟨rfl,λa ha=>by omega⟩),(λh=>by cases h),by omega,rfl⟩ ?_;rintro r s ⟨a,d,b',ha,i,f,m,rfl,rfl⟩;refine an<|aj (.a 4 I<|.v (aU I (hc:=rfl)) I<|.a 1 I<|.k [1,2,3,4,10,12,13,50] I)<|ak I (λhc=>?_) (λhc=>?_)
          · have g:a<2*T.ah.length:=by have:=Vg hc;omega
            obtain⟨p,hp⟩:=Vo (E.tail a g).1;obtain⟨q,hq⟩:=Vo (E.head a g).1;have ar:p<k:=by have:=(E.tail a g).2;omega
            have au:q<k:=by have:=(E.head a g).2;omega
            have al:=E.cost a g;have aa:D.length=0\/a<D.length:=by simp only[cf,VH]at hf;omega
            have aq:d.length=k:=by have:=i.len;omega
            refine ao<|an<|ay<|ev mixed (by kernel_rfl) (.a 2 I<|.v [53,54] (dW I (hp▸lC T hv a g)) I I<|.a 2 I<|.v [56,57] (dW I (hq▸vE T hv a g)) I I<|.a 2 I<|.k [1,2,3,4,10,12,13,14,15] I) ?_;refine M9 (λs0=>∃x y:Nat,gJ T dir a=(x:Int)/\dF T dir a=(y:Int)/\x<k/\y<k/\s0=⟨[(1,aY D),(2,num n),(3,flag dir),(4,.cH (bJ T) 0),(10,.own 0),(12,flag b'),(13,num a),(14,num x),(15,num y)],[some (.row 3 1 k (cb d))]⟩) ?_ ?_
            · refine aj (.a 1 I<|.k [1,2,3,4,10,12,13,14,15,59] I)<|ak I (λj=>?_) (λj=>?_)
              · obtain⟨x,y,hx,hy,ex,Y⟩:∃x y:Nat,gJ T dir a=(x:Int)/\dF T dir a=(y:Int)/\x=q/\y=p:=⟨q,p,by rw[j];exact hq,by rw[j];exact hp,rfl,rfl⟩;subst ex;subst Y;refine aL (.a 4 I<|.k [1,2,3,4,10,12,13,14,15] I)<|⟨_,⟨x,y,hx,hy,by omega,by omega,rfl⟩,λhY=>?_⟩;exact gQ (aJ (ks:=[1,2,3,4,10,12,13,14,15]) I) hY
              · obtain⟨x,y,hx,hy,ex,Y⟩:∃x y:Nat,gJ T dir a=(x:Int)/\dF T dir a=(y:Int)/\x=p/\y=q:=⟨p,q,by rw[j];exact hp,by rw[j];exact hq,rfl,rfl⟩;subst ex;subst Y;refine ao<|⟨_,⟨x,y,hx,hy,by omega,by omega,rfl⟩,λhY=>?_⟩;exact gQ (aJ (ks:=[1,2,3,4,10,12,13,14,15]) I) hY
            · rintro s0 ⟨x,y,hx,hy,ax,az,rfl⟩;refine an ?_;have gx:d.getD x 0=at' d (x:Int):=by simp[at',Qo,show x<d.length by omega]
              have Z:d.getD y 0=at' d (y:Int):=by simp[at',Qo,show y<d.length by omega]
              have uy:=i.ub y (by omega) (by omega);have ly:=i.ge y (by omega);have⟨R,A⟩:=dw (!bO D a);have⟨p2,B⟩:=dw (decide (d.getD y 0<0));have⟨U,C⟩:=dw (decide (y=n)|| !cW T y);refine cD 79 (.raw (.bool (((!R)||p2)||(!U)))) [1,2,3,4,10,12,13,14,15] I ?_ ?_
              · refine .a 2 I<|.c rfl (A▸Ah D a aa) I<|.a 2 I<|?_;cases R
                · exact .a 13 I<|.k [79,1,2,3,4,10,12,13,14,15] I
                · refine .a 2 I<|.v (aX (y) I) I<|.v (aO I (aS d y (by omega))) I<|.v (cT I (B)) I<|.a 2 I<|?_;cases p2
                  · exact .a 3 I<|.c rfl (C▸rX T hv y n) I<|.a 2 I<|.k [79,1,2,3,4,10,12,13,14,15] I
                  · exact .a 6 I<|.k [79,1,2,3,4,10,12,13,14,15] I
              refine ak I (λhc=>?_) (λhc=>?_)
              · have z:¬qV T D n dir d a:=λhg=>by
                  obtain⟨⟨w1,w2,Q⟩,_⟩:=hg;rw[hy]at w2 Q;have W:R=true:=by rw[<-A,w1];rfl
                  have e2:p2=false:=by rw[<-B,Z];simp;omega
                  have X:U=true:=by
                    rw[<-C];rcases Q with Q|Q
                    · have:y=n:=by omega
                      simp[this]
                    · rw[Vi]at Q;simp[Q]
                  rw[W,e2,X]at hc;cases hc
                refine bh<|aL (.a 1 I<|.v (aU I) I<|.a 1 I<|.k [1,2,3,4,10,12,13] I) ?_;first
                  |exact⟨2*T.ah.length - (a+1),by omega,a+1,_,true,by omega,w,λh=>(by cases h),λ_=>(by by_cases e:b'=true;(have:=m e;omega);(have:=(f (by cases b';rfl;exact absurd rfl e)).1;rw[this]at l;rw[this];exact l)),rfl,rfl⟩
                  |exact⟨2*T.ah.length - (a+1),by omega,a+1,d,b',by omega,i,λh=>⟨(f h).1,λc J=>by by_cases e:c=a;(rw[e,<-(f h).1];exact z);exact(f h).2 c (by omega)⟩,m,rfl,rfl⟩
              · have G:Net.Way T D n dir d a:=by
                  obtain⟨c1,c3⟩:=Wo.1 hc;obtain⟨c1,V⟩:=Wo.1 c1;have W:R=true:=by cases R;cases c1;rfl
                  have X:U=true:=by cases U;cases c3;rfl
                  rw[W]at A;rw[V]at B;rw[X]at C;refine⟨by revert A;cases bO D a<;>simp,?_,?_⟩
                  · rw[hy,<-Z];have:=Vj B;omega
                  · rw[hy,Vi];rcases Xh.1 C with h|h
                    · exact .inl (by have:=Vg h;omega)
                    · exact .inr (by revert h;cases cW T y<;>simp)
                have wy:=G.2.1;rw[hy]at wy;refine ao<|ev mixed (by kernel_rfl) (.a 2 I<|.v [80,81] (aX (y) I) I I<|.v [82] (aO I ((aS d y (by omega)).trans (by rw[Z]))) I I<|.a 2 I<|.v [84,85] (dW I (vz T hv a g)) I I<|.v [83,86] (aU I) I I<|.a 1 I<|.k [1,2,3,4,10,12,13,14,16] I) ?_;have⟨p4,t⟩:=dw (decide (at' d (x:Int)<0));have⟨p5,u⟩:=dw (decide (at' d (y:Int)+cr T a<at' d (x:Int)));refine cD 100 (.raw (.bool (p4||p5))) [1,2,3,4,10,12,13,14,16] I ?_ ?_
                · refine .a 2 I<|.v (aX (x) I) I<|.v (aO I ((aS d x (by omega)).trans (by rw[gx]))) I<|.v (cT I (t)) I<|.a 1 I<|?_;cases p4
                  · exact .a 3 I<|.v (aX (x) I) I<|.v (aO I ((aS d x (by omega)).trans (by rw[gx]))) I<|.v (cT I (u)) I<|.a 1 I<|.k [100,1,2,3,4,10,12,13,14,16] I
                  · exact .a 7 I<|.k [100,1,2,3,4,10,12,13,14,16] I
                refine ak I (λhc=>?_) (λhc=>?_)
                · have hg:qV T D n dir d a:=⟨G,by
                    rw[hx,hy];rcases Xh.1 hc with h|h
                    · rw[h]at t;exact .inl (Vg t)
                    · rw[h]at u;exact .inr (Vg u)⟩
                  obtain⟨w,l⟩:=Bs E i a g hg;have ab:Km T dir d a=d.set x (at' d (y:Int)+cr T a):=by unfold Km;rw[hx,hy,Vi]
                  rw[ab]at w l;refine aK<|av 3 I<|aZ (aX (x) I) I<|bw (cK I (VJ I) I I I (by first|omega|(simp;omega))) I I<|aF [1,2,3,4,10,13] I ?_;refine aL (.a 1 I<|.k [1,2,3,4,10,12,13] I)<|aL (.a 1 I<|.v (aU I) I<|.a 1 I<|.k [1,2,3,4,10,12,13] I) ?_;first
                    |exact⟨2*T.ah.length - (a+1),by omega,a+1,_,true,by omega,w,λh=>(by cases h),λ_=>(by by_cases e:b'=true;(have:=m e;omega);(have:=(f (by cases b';rfl;exact absurd rfl e)).1;rw[this]at l;rw[this];exact l)),rfl,rfl⟩
                    |exact⟨2*T.ah.length - (a+1),by omega,a+1,d,b',by omega,i,λh=>⟨(f h).1,λc J=>by by_cases e:c=a;(rw[e,<-(f h).1];exact z);exact(f h).2 c (by omega)⟩,m,rfl,rfl⟩
                · have z:¬qV T D n dir d a:=λhg=>by
                    obtain⟨_,hg⟩:=hg;rw[hx,hy]at hg;obtain⟨c1,V⟩:=Wo.1 hc;rw[c1]at t;rw[V]at u;rcases hg with h|h
                    · exact Vj t h
                    · exact Vj u h
                  refine ao<|aL (.a 1 I<|.v (aU I) I<|.a 1 I<|.k [1,2,3,4,10,12,13] I) ?_;first
                    |exact⟨2*T.ah.length - (a+1),by omega,a+1,_,true,by omega,w,λh=>(by cases h),λ_=>(by by_cases e:b'=true;(have:=m e;omega);(have:=(f (by cases b';rfl;exact absurd rfl e)).1;rw[this]at l;rw[this];exact l)),rfl,rfl⟩
                    |exact⟨2*T.ah.length - (a+1),by omega,a+1,d,b',by omega,i,λh=>⟨(f h).1,λc J=>by by_cases e:c=a;(rw[e,<-(f h).1];exact z);exact(f h).2 c (by omega)⟩,m,rfl,rfl⟩
          · have ah:a=2*T.ah.length:=by have:=Vj hc;omega
            refine gQ (.cons (k:=1) I<|.cons (k:=2) I<|.cons (k:=3) I<|.cons (k:=4) I<|.cons (k:=10) I<|.cons (k:=12) I<|Sub.nil _)<|bh<|⟨_,?_,d,b',i,λh=>?_,rfl,rfl⟩
            · cases b'
              · rw[(f rfl).1];simp
              · have:=m rfl;simp;omega
            · rw[(f h).1];intro c J;exact(f h).2 c (by omega)
        · have K:bN T D n dir=out:=mw E (BF hI (hb hc));refine bh<|aj (.a 3 I<|.k [8,9] I)<|aA<|⟨_,_,V5 I,Yi (Vp (Yw rfl W9) (Vp aQ.pure Wg)),?_⟩;unfold fx;rw[o,Vn rfl,Vi,K];unfold bm;rw[show out.length=k by have:=hI.len;omega]
theorem Ic(T:aw)(D:List Bool)(d:Int):Can prog 80 [bu T,aY D,num d] (· =fx (dG T D [d]) (bN T D d.toNat false)):=by
 exact aR func80 I ntmps80 I<|aj (.a 3 I<|.k [1,2,3] I)<|aj (.a 3 I<|.c rfl (CF T D d false) I<|.a 4 I<|.k [6,7] I)<|aA<|jF I aQ.pure rfl
def OC(T:aw)(D:List Bool)(L:List Int)(a d:Nat):Bool:=
 ((((!bO D a)&&decide (bI T a≠(d:Int)))&&decide (0<=L.getD (bx T a).toNat 0))&&(decide ((bx T a).toNat=d)|| !cW T (bx T a).toNat))&&decide (L.getD (bI T a).toNat 0=L.getD (bx T a).toNat 0+cr T a)
theorem Rh(T:aw)(D:List Bool)(L:List Int)(a d:Nat)(hv:aH T=true)(t:cf T D=true)(u:(L.length:Int)=T.nodes)(l:∀x∈L, -1<=x/\x<=4194240)(ha:a<2*T.ah.length):
  Can prog 123 [bu T,aY D,bm L,num a,num d] (· =flag (OC T D L a d)):=by
 have c:=bz hv;obtain⟨x,hx⟩:=Vo (c.tail a ha).1;obtain⟨y,hy⟩:=Vo (c.head a ha).1;have m:x<L.length:=by have:=(c.tail a ha).2;omega
 have b:y<L.length:=by have:=(c.head a ha).2;omega
 have s:=c.cost a ha;have j:D.length=0\/a<D.length:=by simp only[cf,VH]at t;omega
 have v:=l _ (b9 (d:=0) b);have⟨n,e⟩:=dw (!bO D a);have⟨o,f⟩:=dw (decide ((x:Int)≠(d:Int)));have⟨p,g⟩:=dw (decide (0<=L.getD y 0));have⟨q,h⟩:=dw (decide (y=d)|| !cW T y);have⟨r,i⟩:=dw (decide (L.getD x 0=L.getD y 0+cr T a));have k:OC T D L a d=((((n&&o)&&p)&&q)&&r):=by
  unfold OC;rw[hx,hy,Vi,Vi,e,f,g,h,i]
 rw[k];refine aR func123 I ntmps123 I<|aj (.a 2 I<|.k [1,2,3,4,5] I)<|ev mixed (by kernel_rfl) (.a 2 I<|.v [13,14] (dW I (hx▸lC T hv a ha)) I I<|.a 2 I<|.v [16,17] (dW I (hy▸vE T hv a ha)) I I<|.a 2 I<|.k [1,2,3,4,5,11,12] I) ?_;refine uG mixed (by kernel_rfl) 10 (.raw (.bool ((((n&&o)&&p)&&q)&&r))) [] I ?_ ?_
 ·refine .a 2 I<|.v [19,20] (dW I (e▸Ah D a j)) I I<|.a 1 I<|?_;cases n
  ·exact .a 33 I<|.k [10] I
  ·refine .a 2 I<|.v [23,24] (cT I (f)) I I<|.a 2 I<|?_;cases o
   ·exact .a 28 I<|.k [10] I
   ·refine .a 2 I<|.v [28,29] (aX (y) I) I I<|.v [30] (aO I (aS L y b)) I I<|.v [31] (cT I (g)) I I<|.a 2 I<|?_;cases p
    ·exact .a 21 I<|.k [10] I
    ·refine .a 3 I<|.v [35,36,37] (dW I (h▸rX T hv y d)) I I<|.a 2 I<|?_;cases q
     ·exact .a 15 I<|.k [10] I
     ·exact .a 2 I<|.v [41,42] (aX (x) I) I I<|.v [43] (aO I (aS L x m)) I I<|.a 2 I<|.v [45,46] (aX (y) I) I I<|.v [47] (aO I (aS L y b)) I I<|.a 2 I<|.v [49,50] (dW I (vz T hv a ha)) I I<|.v [48,51] (aU I) I I<|.v [44,52] (cT I (i)) I I<|.a 2 I<|.k [10] I
 exact aA<|jF I aQ.pure rfl
def j4(T:aw)(D:List Bool)(L:List Int)(n d k:Nat):List Int:=((List.range k).filter λa=>decide (bI T a=(n:Int))&&OC T D L a d).map Int.ofNat
theorem Ad(T:aw)(D:List Bool)(L:List Int)(n d k:Nat):j4 T D L n d (k+1)=j4 T D L n d k++(if decide (bI T k=(n:Int))&&OC T D L k d then [(k:Int)] else []):=by
 unfold j4;rw[WM,WI,Wu];congr 1;simp only[W6,Ya];split<;>simp
theorem CA(T:aw)(D:List Bool)(L:List Int)(n d k:Nat):(j4 T D L n d k).length<=k:=by
 unfold j4;rw[Wf];exact VL (Wl _ _) (by simp)
theorem EC(T:aw)(D:List Bool)(L:List Int)(n d:Nat)(hv:aH T=true)(j:cf T D=true)(i:(L.length:Int)=T.nodes)(f:∀x∈L, -1<=x/\x<=4194240):
  Can prog 81 [bu T,aY D,bm L,num n,num d] (· =bm (j4 T D L n d (2*T.ah.length))):=by
 have l:=dy hv;refine aR func81 I ntmps81 I<|aj (.a 2 I<|.k [1,2,3,4,5] I)<|aj (.a 1 I<|.k [1,2,3,4,5,11] I)<|fe 11 3 1 I ?_;refine an<|aj (.a 1 I<|.k [1,2,3,4,5,11,12] I)<|ay<|eX [1,2,3,4,5,11,12] I<|bq (λr s=>∃k,k<=2*T.ah.length/\r=2*T.ah.length - k/\s=⟨[(1,aY D),(2,bm L),(3,num n),(4,num d),(5,.cH (bJ T) 0),(11,.own 0),(12,num k)],[some (.row 3 1 (j4 T D L n d k).length (cb (j4 T D L n d k)))]⟩) (2*T.ah.length) ⟨0,by omega,by omega,rfl⟩ ?_;rintro r s ⟨k,hk,rfl,rfl⟩;refine an<|aj (.a 4 I<|.v (aU I (hc:=rfl)) I<|.a 1 I<|.k [1,2,3,4,5,11,12,18] I)<|ak I (λhc=>?_) (λhc=>?_)
 ·have hlt:k<2*T.ah.length:=by have:=Vg hc;omega
  have g:=CA T D L n d k;have a:=Ad T D L n d k;refine ao<|an<|ay ?_;have⟨h,b⟩:=dw (decide (bI T k=(n:Int)));have⟨m,c⟩:=dw (OC T D L k d);refine cD 33 (.raw (.bool (h&&m))) [1,2,3,4,5,11,12] I ?_ ?_
  ·refine .a 2 I<|.c rfl (lC T hv k hlt) I<|.a 1 I<|.v (cT I (b)) I<|.a 1 I<|?_;cases h
   ·exact .a 7 I<|.k [33,1,2,3,4,5,11,12] I
   ·exact .a 5 I<|.c rfl (c▸Rh T D L k d hv j i f hlt) I<|.a 1 I<|.k [33,1,2,3,4,5,11,12] I
  refine ak I (λhc=>?_) (λhc=>?_)
  ·rw[b,c,hc,Vn rfl]at a;refine bp<|av 3 I<|bW (bP I (VW I) I I I I (by unfold maxLen;omega)) I<|av 1 I ?_;refine ft [1] (.c 1<|.c 2<|.c 3<|.c 4<|.c 5<|.c 11<|.c 12<|.nil) (.kept rfl (.eZ rfl (ed _ _))<|.nil) I I (bM ?_);refine aL (.a 1 I<|.v (aU I) I<|.a 1 I<|.k [1,2,3,4,5,11,12] I)<|⟨2*T.ah.length - (k+1),by omega,k+1,by omega,rfl,?_⟩;rw[a];first
    |rfl
    |(simp only[Vu,VR];rfl)
  ·rw[b,c,hc,Vk (by simp),V6]at a;refine ao<|aL (.a 1 I<|.v (aU I) I<|.a 1 I<|.k [1,2,3,4,5,11,12] I) ?_;refine⟨2*T.ah.length - (k+1),by omega,k+1,by omega,rfl,?_⟩;rw[a];first
    |rfl
    |(simp only[Vu,VR];rfl)
 ·have e:k=2*T.ah.length:=by have:=Vj hc;omega
  subst e;exact bh<|aj (.a 2 I<|.k [10] I)<|aA<|jF I (Yw rfl W9) rfl
theorem HL(T:aw)(D:List Bool)(n d:Nat)(hv:aH T=true)(hn:(n:Int)<T.nodes):j4 T D (bN T D d false) n d (2*T.ah.length)=cA T D n d:=by
 have e:=bz hv;unfold cA;generalize bN T D d false=L;have b:∀k,k<2*T.ah.length->(decide (bI T k=(n:Int))&&OC T D L k d)=if n=d\/L.getD n 0<0 then false else(bI T k==(n:Int))&&iR T D L (L.getD n 0) d k:=λk hk=>by
  obtain⟨y,hy⟩:=Vo (e.head k hk).1;have hc:=e.cost k hk;by_cases c:bI T k=(n:Int)
  ·simp only[c,decide_true,WB,beq_self_eq_true];unfold OC iR;rw[c,hy,Vi,Vi];generalize L.getD n 0=u;generalize L.getD y 0=v;by_cases h1:n=d
   ·simp[h1]
   ·by_cases h2:u<0
    ·rw[Vn (.inr h2)];by_cases p:0<=v
     ·have:¬u=v+cr T k:=by omega
      simp[this]
     ·simp[p]
    ·rw[Vk (by omega)];have j:decide ((n:Int)≠(d:Int))=true:=by simp;omega
     have l:decide (v<0)= !decide (0<=v):=by
      by_cases h:0<=v
      ·simp only[h,decide_true,Bool.not_true,Xm];omega
      ·simp only[h,decide_false,Zi,VH];omega
     have m:decide ((y:Int)≠(d:Int))= !decide (y=d):=by
      by_cases h:y=d
      ·simp[h]
      ·simp only[h,decide_false,Zi,VH];omega
     have o:decide (v+cr T k=u)=decide (u=v+cr T k):=by
      by_cases h:u=v+cr T k
      ·simp[h]
      ·simp only[h,decide_false,Xm];omega
     rw[j,l,m,o];generalize decide (0<=v)=f;generalize decide (y=d)=g;generalize decide (u=v+cr T k)=i;cases bO D k<;>cases f<;>cases g<;>cases i<;>cases cW T y<;>rfl
  ·simp[c]
 unfold j4;rw[show(List.range (2*T.ah.length)).filter (λa=>decide (bI T a=(n:Int))&&OC T D L a d)=(List.range (2*T.ah.length)).filter (λk=>if n=d\/L.getD n 0<0 then false else(bI T k==(n:Int))&&iR T D L (L.getD n 0) d k) from Yc λk hk=>b k (VP.1 hk)];by_cases h:n=d\/L.getD n 0<0
 ·simp only[Vn h];simp
 ·simp only[Vk h];unfold lT cw jI;rw[List.filter_map];congr 1;rw[List.filter_filter];apply Yc;intro k _;simp[Function.comp,Bool.and_comm]
theorem Il(T:aw)(D:List Bool)(n d:Int):Can prog 38 [bu T,aY D,num n,num d] (· =fx (c9 T D n d) (cA T D n.toNat d.toNat)):=by
 refine aR func38 I ntmps38 I<|aj (.a 3 I<|.k [1,2,3,4] I)<|aj (.a 3 I<|.c rfl (Ic T D d) I<|.a 5 I<|.k [1,2,3,4,10,11] I)<|an<|aj (.a 2 I<|.k [1,2,3,4,10,11,20] I)<|ak I (λhc=>?_) (λhc=>?_)
 ·have he:dG T D [d]≠0:=Vg hc;exact aj (.a 3 I<|.k [8,9] I)<|aA<|jF I (Yi (Vp aQ.cg (Vp aQ.pure Wg))) (by unfold fx c9;rw[Vk he,Vk he];rfl)
 ·have he:dG T D [d]=0:=by have:=Vj hc;omega
  rw[he];obtain⟨hv,j,hd⟩:=wY he;have hd:=bY.1 (hd d (by simp));obtain⟨d,rfl⟩:=Vo hd.1;obtain⟨f,g⟩:=fi (D:=D) hv (dir:=false) hd.2;refine ao<|an ?_;have⟨h,c⟩:=dw (decide (n<0));have⟨i,e⟩:=dw (decide (T.nodes<=n));have a:bZ T n= !(h||i):=by rw[<-c,<-e];unfold bZ;by_cases h1:n<0<;>by_cases h2:T.nodes<=n<;>simp[h1,h2]<;>omega
  refine cD 29 (.raw (.bool (h||i))) [1,2,3,4,10] I ?_ ?_
  ·refine .a 1 I<|.v (cT I (c)) I<|.a 1 I<|?_;cases h
   ·exact .a 3 I<|.v (cT I (e)) I<|.a 1 I<|.k [29,1,2,3,4,10] I
   ·exact .a 5 I<|.k [29,1,2,3,4,10] I
  refine ak I (λhc=>?_) (λhc=>?_)
  ·rw[hc]at a;exact aj (.a 2 I<|.k [8,9] I)<|aA<|jF I (Yi (Vp aQ.cg (Vp aQ.pure Wg))) (by unfold fx c9;rw[Vn he,a];rfl)
  ·rw[hc]at a;have hn:=bY.1 a;obtain⟨n,rfl⟩:=Vo hn.1;have b:=EC T D (bN T D d false) n d hv j f g;rw[HL T D n d hv hn.2]at b;exact ao<|aj (.a 5 I<|.c rfl (b) I<|.a 2 I<|.k [8,9] I)<|aA<|jF I aQ.pure (by unfold fx c9;rw[Vn he,a];rfl)
theorem LP(T:aw)(hv:aH T=true)(n:Int):Can prog 39 [bu T,num n] (· =bm (cw T n)):=by
 have d:=dy hv;refine aR func39 I ntmps39 I<|aj (.a 2 I<|.k [1,2] I)<|aj (.a 1 I<|.k [1,2,5] I)<|fe 5 3 1 I ?_;refine an<|aj (.a 1 I<|.k [1,2,5,6] I)<|ay<|eX [1,2,5,6] I<|bq (λr s=>∃k,k<=2*T.ah.length/\r=2*T.ah.length - k/\s=⟨[(1,num n),(2,.cH (bJ T) 0),(5,.own 0),(6,num k)],[some (.row 3 1 (jI T n k).length (cb (jI T n k)))]⟩) (2*T.ah.length) ⟨0,by omega,by omega,rfl⟩ ?_;rintro r s ⟨k,hk,rfl,rfl⟩;refine an<|aj (.a 2 I<|.c rfl (pR T hv) I<|.a 1 I<|.k [1,2,5,6,10] I)<|ak I (λhc=>?_) (λhc=>?_)
 ·have hlt:k<2*T.ah.length:=by have:=Vg hc;omega
  have c:=fK T n k;refine ao<|an<|ay<|aj (.a 2 I<|.c rfl (lC T hv k hlt) I<|.a 2 I<|.k [1,2,5,6,17] I)<|ak I (λhc=>?_) (λhc=>?_)
  ·have a:=xN T n k (by simpa using Vg hc);refine bp<|av 3 I<|bW (bP I (VW I) I I I I (by unfold maxLen;omega)) I<|av 1 I ?_;refine ft [1] (.c 1<|.c 2<|.c 5<|.c 6<|.nil) (.kept rfl (.eZ rfl (ed _ _))<|.nil) I I (bM ?_);refine aL (.a 1 I<|.v (aU I) I<|.a 1 I<|.k [1,2,5,6] I)<|⟨2*T.ah.length - (k+1),by omega,k+1,by omega,rfl,?_⟩;rw[a];first
    |rfl
    |(simp only[Vu,VR];rfl)
  ·have a:=Cc T n k (by simpa using Vj hc);refine ao<|aL (.a 1 I<|.v (aU I) I<|.a 1 I<|.k [1,2,5,6] I) ?_;refine⟨2*T.ah.length - (k+1),by omega,k+1,by omega,rfl,?_⟩;rw[a];first
    |rfl
    |(simp only[Vu,VR];rfl)
 ·have b:k=2*T.ah.length:=by have:=Vj hc;omega
  subst b;exact bh<|aj (.a 2 I<|.k [4] I)<|aA<|jF I (Yw rfl W9) rfl
theorem CE(T:aw)(D:List Bool)(n:Int):Can prog 14 [bu T,aY D,num n] (· = .tuple [s9 (fp T D n),num (dG T D [n])]):=by
 refine aR func14 I ntmps14 I<|aK<|av 3 I<|aF [1,2,3,6] I ?_;refine an<|aj (.a 2 I<|.c rfl (xZ T D) I<|.a 1 I<|.k [1,2,3,6,17] I)<|ak I (λhc=>?_) (λhc=>?_)
 ·have e:dG T D [n]=1:=by
   unfold dG;rw[Vk];revert hc;cases(aH T&&cf T D)<;>simp
  refine aK<|av 3 I<|aF [6,7] I ?_;exact aA<|jF I (Yi (Vp (Zr (Vp aQ.pure<|Vp aQ.cg<|Vp aQ.cg Wg)) (Vp aQ.pure Wg))) (by unfold fp;rw[e];rfl)
 ·have g:(aH T&&cf T D)=true:=by revert hc;cases(aH T&&cf T D)<;>simp
  refine ao<|an ?_;have⟨x,l⟩:=dw (decide (n<0));have⟨z,o⟩:=dw (decide (T.nodes<=n));have f:bZ T n= !(x||z):=by rw[<-l,<-o];unfold bZ;by_cases h1:n<0<;>by_cases h2:T.nodes<=n<;>simp[h1,h2]<;>omega
  refine cD 26 (.raw (.bool (x||z))) [1,2,3,6] I ?_ ?_
  ·refine .a 1 I<|.v (cT I (l)) I<|.a 1 I<|?_;cases x
   ·exact .a 3 I<|.v (cT I (o)) I<|.a 1 I<|.k [26,1,2,3,6] I
   ·exact .a 5 I<|.k [26,1,2,3,6] I
  refine ak I (λhc=>?_) (λhc=>?_)
  ·have hn:bZ T n=false:=by rw[f,hc];rfl
   have e:dG T D [n]=2:=by
    unfold dG;rw[Vn g,Vk];simp[hn]
   refine aK<|av 3 I<|aF [6,7] I ?_;exact aA<|jF I (Yi (Vp (Zr (Vp aQ.pure<|Vp aQ.cg<|Vp aQ.cg Wg)) (Vp aQ.pure Wg))) (by unfold fp;rw[e];rfl)
  ·have hn:bZ T n=true:=by rw[f,hc];rfl
   have e:dG T D [n]=0:=by
    unfold dG;rw[Vn g,Vn];simp[hn]
   obtain⟨hv,B⟩:=Wd.1 g;rw[bY]at hn;obtain⟨m,rfl⟩:=Vo hn.1;obtain⟨N,hN⟩:∃N:Nat,T.nodes=(N:Int):=⟨T.nodes.toNat,by omega⟩;have y:N<=64:=by have:=(bz hv).nodes;omega
   have C:=dy hv;clear hc l o f;refine ao<|aK<|av 4 I<|aF [1,2,3,6,8] I ?_;refine cO 1 1 102 3 I I<|cO 1 2 3 1 I I ?_;refine an<|aj (.a 1 I<|.k [1,2,3,6,8,9] I)<|ay<|eX [1,2,3,6,8,9] I<|bq (λr s=>∃j,j<=N/\r=N - j/\s=⟨[(1,aY D),(2,num m),(3,.cH (bJ T) 0),(6,.ptr 0 0),(8,.ptr 1 0),(9,num j)],[some (.cells 51 [num 0,.raw (.slice none 0 0),.raw (.slice none 0 0)]),some (.cells 51 [num m,.own 2,.own 3]),some (.row 102 3 j (lP (toL T D m j))),some (.row 3 1 0 [])]⟩) N ⟨0,by omega,by omega,rfl⟩ ?_;rintro r s ⟨j,hj,rfl,rfl⟩;refine an<|aj (.a 2 I<|.v (aO I ((show some (num T.nodes)=some (num (N:Int)) by rw[hN]))) I<|.a 1 I<|.k [1,2,3,6,8,9,33] I)<|ak I (λhc=>?_) (λhc=>?_)
   ·have hlt:j<N:=by have:=Vg hc;omega
    have v:c9 T D (m:Int) (j:Int)=0:=by
     have f:bZ T (j:Int)=true:=bY.2 ⟨by omega,by omega⟩;have p:dG T D [(j:Int)]=0:=by
      unfold dG;rw[Vn g,Vn];simp[f]
     unfold c9;rw[Vn p,Vn (bY.2 hn)]
    have w:Can prog 38 [bu T,aY D,num m,num j] (· = .tuple [bm (cA T D m j),num 0]):=by
     have h:=Il T D (m:Int) (j:Int);rw[v]at h;exact h
    refine ao<|an<|ay<|aj (.a 4 I<|.c rfl (w) I<|.a 5 I<|.k [1,2,3,6,8,9,10] I)<|bp<|av 3 I<|aZ (tf (gg (xs:=[_,_,_]) I (X8 I) I I) (fv.iV (.cons (WK _)<|.cons (WK _)<|.cons Zw .nil))) I<|av 1 I<|bW (bP I (VW I) I I I I (by unfold maxLen;omega)) I<|av 2 I ?_;refine ft [0,1,4,3] (.c 1<|.c 2<|.c 3<|.c 6<|.c 8<|.c 9<|.nil) (.kept rfl (.cells (WU<|WU<|WU<|Wp))<|.kept rfl (.cells (WU<|WU<|WU<|Wp))<|.kept rfl (.eZ rfl (show _=lP (toL T D m (j+1)) by rw[CX];exact qB _ ⟨cA T D m j,false,[]⟩))<|.kept rfl (.row VT)<|.nil) I I (bM ?_);refine aL (.a 1 I<|.v (aU I) I<|.a 1 I<|.k [1,2,3,6,8,9] I)<|⟨N - (j+1),by omega,j+1,by omega,rfl,rfl⟩
   ·have u:j=N:=by have:=Vj hc;omega
    subst u;refine bh ?_;have E:(cw T m).length<=512:=VL (fK T m _) (by omega);refine aj (.a 2 I<|.c rfl (LP T hv _) I<|.a 1 I<|.k [1,6,8,12] I)<|an<|aj (.a 1 I<|.k [1,6,8,12,13] I)<|ay<|eX [1,6,8,12,13] I<|bq (λr s=>∃i,i<=(cw T m).length/\r=(cw T m).length - i/\s=⟨[(1,aY D),(6,.ptr 0 0),(8,.ptr 1 0),(12,bm (cw T m)),(13,num i)],[some (.cells 51 [num 0,.raw (.slice none 0 0),.raw (.slice none 0 0)]),some (.cells 51 [num m,.own 2,.own 3]),some (.row 102 3 j (lP (toL T D m j))),some (.row 3 1 (fR D ((cw T m).take i)).length (cb (fR D ((cw T m).take i))))]⟩) (cw T m).length ⟨0,by omega,by omega,rfl⟩ ?_;rintro r s ⟨i,hi,rfl,rfl⟩;refine an<|aj (.a 4 I<|.k [1,6,8,12,13,57] I)<|ak I (λhc=>?_) (λhc=>?_)
    ·have hlt:i<(cw T m).length:=by have:=Vg hc;omega
     obtain⟨h0,h1⟩:=mM (b9 (d:=0) hlt);obtain⟨a,ha⟩:=Vo h0;have q:D.length=0\/a<D.length:=by simp only[cf,VH]at B;omega
     have b:fR D ((cw T m).take (i+1))=fR D ((cw T m).take i)++(if bO D a then [(a:Int)] else []):=by
      unfold fR;rw[cL _ i 0 hlt,WI,ha];simp only[W6,Ya,Vi]
     have A:(fR D ((cw T m).take i)).length<=1000:=VL (Wl _ _) (by rw[V8];omega);refine ao<|an<|ay<|aj (.a 3 I<|.v (aX (i) I) I<|.v (aO I ((aS _ i hlt).trans (by rw[ha]))) I<|.c rfl (Ah D a q) I<|.a 1 I<|.k [1,6,8,12,13,66] I)<|ak I (λk=>?_) (λk=>?_)
     ·have c:bO D a=true:=by revert k;cases bO D a<;>simp
      rw[c,Vn rfl]at b;refine dE 7 20 mixed (.val [8] I (aP I) I I<|.val [67] I (aP I) I I<|.val [12] I (aP I) I I<|.val [13] I (aP I) I I<|.val [69,70] I (aX (i) I) I I<|.val [71] I (aO I ((aS _ i hlt).trans (by rw[ha]))) I I<|.val [72] I (aP I) I I<|.nil) (by kernel_rfl) I I (aJ (ks:=[1,6,8,12,13,68,73]) I)<|bW (bP I (VW I) I I I I (by unfold maxLen;omega)) I<|av 2 I ?_;refine ft [0,1,2,4] (.c 1<|.c 6<|.c 8<|.c 12<|.c 13<|.nil) (.kept rfl (.cells (WU<|WU<|WU<|Wp))<|.kept rfl (.cells (WU<|WU<|WU<|Wp))<|.kept rfl (.row VT)<|.kept rfl (.eZ rfl (ed _ _))<|.nil) I I (bM ?_);refine aL (.a 1 I<|.v (aU I) I<|.a 1 I<|.k [1,6,8,12,13] I)<|⟨(cw T m).length - (i+1),by omega,i+1,by omega,rfl,?_⟩;rw[b];first
       |rfl
       |(simp only[Vu,VR];rfl)
     ·have c:bO D a=false:=by revert k;cases bO D a<;>simp
      rw[c,Vk (by simp),V6]at b;refine ao<|aL (.a 1 I<|.v (aU I) I<|.a 1 I<|.k [1,6,8,12,13] I) ?_;refine⟨(cw T m).length - (i+1),by omega,i+1,by omega,rfl,?_⟩;rw[b];first
       |rfl
       |(simp only[Vu,VR];rfl)
    ·have t:i=(cw T m).length:=by have:=Vj hc;omega
     subst t;refine bh<|aK<|aZ (jD (ys:=[num m,.own 2,.own 3]) I (VJ I) I I I I) I<|av 2 I<|aF [6,7] I ?_;refine aA<|⟨_,_,V5 I,Yi (Vp (Zr (Vp aQ.pure<|Vp (Yw rfl W9)<|Vp (Yw rfl W9) Wg)) (Vp aQ.pure Wg)),?_⟩;unfold fp;rw[e,Vn rfl,VN];unfold kJ s9 oG tr bm;rw[F8,show T.nodes.toNat=j by omega]
     rfl
theorem Iq(a b c d:Int)(w:World):(Op.equalIn 10000 174 (.agg #[.int .i64 a,.int .i64 b]) (.agg #[.int .i64 c,.int .i64 d])).run prog w= .ok (a==c&&b==d) w:=by
 have f:=Tryz.underlying3;have a3:=Tryz.isAgg3;have z3:=Tryz.sizeOf3;have e:prog.underlying 174=some (.struct (prog.fieldsOf 174)):=by kernel_rfl
 rw[show(10000:Nat)=9999+1 from rfl,run_equalIn_agg w 9999 174 _ _ e (by kernel_rfl)];simp only[Program.fieldsOf,Tryz.underlying174]
 go_simp
 by_cases h1:a=c<;>by_cases h2:b=d<;>simp[h1,h2]
theorem FP{E w v}{s:eW}(h:dj E w v (Pc s)):v= .agg #[.int .i64 s.kind,.int .i64 s.num]:=by
 unfold Pc vN at h;cases h with
 |agg cs _ hl hr=>
  obtain⟨l⟩:=cs
  match l,hl,hr with
  | [x,y],_,hr=>
   have h0:=dt (hr 0 x _ rfl rfl);have h1:=dt (hr 1 y _ rfl rfl);subst h0;subst h1;rfl
  | [],hl,_=>simp at hl
  | [_],hl,_=>simp at hl
  |_::_::_::_,hl,_=>simp at hl
theorem ML{σ t}{o:Oper}{x y j a b q}(ho:o.op= .binOp .neq 174 x y j)(hx:aI t x=some (Pc a))(hy:aI t y=some (Pc b))(i:decide (a≠b)=q):bE prog σ t o (.raw (.bool q)):=by
 intro F base E ρ w c _ hT;have h1:=FP (aB c hT hx);have h2:=FP (aB c hT hy);have hb:(!(a.kind==b.kind&&a.num==b.num))=q:=by
  rw[<-i];obtain⟨d,a2⟩:=a;obtain⟨e,f⟩:=b;by_cases g:d=e<;>by_cases h:a2=f<;>simp[g,h]
 simp only[execOp,ho,h1,h2,Sem.run_bind,run_eqGuard_agg w _ _ _ _ _ _ (show prog.eqGuardType prog.depth 174=false by kernel_rfl),Result.andThen_ok,run_neq_struct,Iq,Sem.run_pure,hb];exact bA (.raw _)
theorem Io(L M:List eW):Can prog 82 [kg L,kg M] (· =flag (decide (L=M))):=by
 refine ud λ⟨E,w,vs,h⟩=>?_;obtain⟨v,_,hv⟩:=h.get (i:=0) I;have hm:=pS hv;unfold maxLen at hm;refine aR func82 I ntmps82 I<|aj (.a 1 I<|.k [0,1] I)<|an<|aj (.a 5 I<|.k [0,1,10] I)<|ak I (λhc=>?_) (λhc=>?_)
 ·have d:L≠M:=λe=>by have:=Vg hc;rw[e]at this;exact this rfl
  exact aj (.a 1 I<|.k [4] I)<|aA<|jF I aQ.pure (by rw[VA d];rfl)
 ·have g:L.length=M.length:=by have:=Vj hc;omega
  refine ao<|an<|aj (.a 1 I<|.k [0,1,5] I)<|ay<|eX [0,1,5] I<|bq (λr s=>∃i,i<=L.length/\(∀j,j<i->L[j]? =M[j]?)/\r=L.length - i/\s=⟨[(0,kg L),(1,kg M),(5,num i)],[]⟩) L.length ⟨0,by omega,λj hj=>by omega,by omega,rfl⟩ ?_;rintro r s ⟨i,hi,c,rfl,rfl⟩;refine an<|aj (.a 4 I<|.k [0,1,5,14] I)<|ak I (λhc=>?_) (λhc=>?_)
  ·have hlt:i<L.length:=by have:=Vg hc;omega
   obtain⟨a,ha⟩:∃a,L[i]? =some a:=⟨L[i],by simp[hlt]⟩;obtain⟨b,hb⟩:∃b,M[i]? =some b:=⟨M[i]'(by omega),by simp[show i<M.length by omega]⟩;refine ao<|an<|ay<|ev mixed (by kernel_rfl) (.a 2 I<|.v [17,18] (aX (i*2) I) I I<|.v [19] (iA I (VJ I) I (yj L i a ha) I) I I<|.a 2 I<|.v [21,22] (aX (i*2) I) I I<|.v [23] (iA I (VJ I) I (yj M i b hb) I) I I<|.v [20,24] (ML (a:=a) (b:=b) I I I I) I I<|.k [0,1,5,25] I) ?_;refine ak I (λhc=>?_) (λhc=>?_)
   ·have d:L≠M:=λe=>by rw[e,hb]at ha;cases ha;exact Vg hc rfl
    exact aj (.a 1 I<|.k [4] I)<|aA<|jF I aQ.pure (by rw[VA d];rfl)
   ·have f:a=b:=VQ (Vj hc);refine ao<|aL (.a 1 I<|.v (aU I) I<|.a 1 I<|.k [0,1,5] I) ?_;exact⟨L.length - (i+1),by omega,i+1,by omega,λj hj=>by by_cases e:j=i;(rw[e,ha,hb,f]);exact c j (by omega),rfl,rfl⟩
  ·have k:i=L.length:=by have:=Vj hc;omega
   have heq:L=M:=Wz λj=>by
    by_cases hj:j<L.length
    ·exact c j (by omega)
    ·rw[V4 (by omega),V4 (by omega)]
   exact bh<|aj (.a 1 I<|.k [4] I)<|aA<|jF I aQ.pure (by rw[VM heq];rfl)
def J5(a b:qT):Bool:=(a.rep==b.rep)&&iC a.ec b.ec&&decide (a.push=b.push)
theorem LG(a b:qT):Can prog 42 [Bd a,Bd b] (· =flag (J5 a b)):=by
 have⟨f,c⟩:=dw (a.rep==b.rep);have⟨g,d⟩:=dw (iC a.ec b.ec);have⟨h,e⟩:=dw (decide (a.push=b.push));have he:J5 a b=((f&&g)&&h):=by unfold J5;rw[c,d,e]
 rw[he];refine aR func42 I ntmps42 I<|aj (.a 3 I<|.k [2,3] I)<|cD 4 (.raw (.bool ((f&&g)&&h))) [] I ?_ ?_
 ·refine .a 4 I<|.v (yC I (ba.bk.get I) I I c) I<|.a 1 I<|?_;cases f
  ·exact .a 14 I<|.k [4] I
  ·refine .a 4 I<|.c rfl (d▸yc a.ec b.ec) I<|.a 2 I<|?_;cases g
   ·exact .a 7 I<|.k [4] I
   ·exact .a 4 I<|.c rfl (e▸Io a.push b.push) I<|.a 2 I<|.k [4] I
 exact aA<|jF I aQ.pure rfl
deriving instance DecidableEq for qT
deriving instance DecidableEq for oc
theorem Fx(a b:qT):J5 a b=decide (a=b):=by
 obtain⟨c,a2,a3⟩:=a;obtain⟨d,e,f⟩:=b;unfold J5 iC;by_cases g:c=d<;>by_cases h:a2=e<;>by_cases i:a3=f<;>simp[g,h,i]
theorem O7{E w v}{x:oc}(h:dj E w v (s9 x)):x.jN.length<=maxLen/\x.down.length<=maxLen:=by
 unfold s9 oG at h;cases h with
 |agg cs _ hl hr=>
  have hr:bn E w cs.toList _:=⟨by simpa using hl,λi x u h1 h2=>hr i x u (by simpa using h1) h2⟩;obtain⟨v1,_,h1⟩:=hr.get (i:=1) I;obtain⟨v2,_,h2⟩:=hr.get (i:=2) I;exact⟨pS h1,pS h2⟩
theorem LQ(x y:oc):Can prog 15 [s9 x,s9 y] (· =flag (decide (x=y))):=by
 refine ud λ⟨E,w,vs,F⟩=>?_;obtain⟨v,_,hv⟩:=F.get (i:=0) I;have q:=(O7 hv).1;unfold maxLen at q;refine aR func15 I ntmps15 I<|aj (.a 3 I<|.k [2,3] I)<|an ?_;have⟨t,g⟩:=dw (decide (x.node≠y.node));have⟨u,h⟩:=dw (decide ((x.jN.length:Int)≠(y.jN.length:Int)));have⟨n,k⟩:=dw (iC x.down y.down);refine cD 27 (.raw (.bool ((t||u)||(!n)))) [2,3] I ?_ ?_
 ·refine .a 4 I<|.v (cT I (g)) I<|.a 1 I<|?_;cases t
  ·refine .a 6 I<|.v (cT I (h)) I<|.a 2 I<|?_;cases u
   ·exact .a 4 I<|.c rfl (k▸yc x.down y.down) I<|.a 2 I<|.k [27,2,3] I
   ·exact .a 7 I<|.k [27,2,3] I
  ·exact .a 16 I<|.k [27,2,3] I
 refine ak I (λhc=>?_) (λhc=>?_)
 ·have m:x≠y:=λe=>by
   subst e;have C:t=false:=by rw[<-g];simp
   have D:u=false:=by rw[<-h];simp
   have o:n=true:=by rw[<-k];simp[iC]
   rw[C,D,o]at hc;cases hc
  exact aj (.a 1 I<|.k [4] I)<|aA<|jF I aQ.pure (by rw[VA m];rfl)
 ·obtain⟨c1,B⟩:=Wo.1 hc;obtain⟨c1,A⟩:=Wo.1 c1;have o:n=true:=by cases n;cases B;rfl
  rw[c1]at g;rw[A]at h;rw[o]at k;have f:x.node=y.node:=VQ (Vj g);have z:x.jN.length=y.jN.length:=by have:=Vj h;omega
  have c:x.down=y.down:=Vg k;refine ao<|an<|aj (.a 1 I<|.k [2,3,5] I)<|ay<|eX [2,3,5] I<|bq (λr s=>∃i,i<=x.jN.length/\(∀j,j<i->x.jN[j]? =y.jN[j]?)/\r=x.jN.length - i/\s=⟨[(2,.cH (oG x) 0),(3,.cH (oG y) 0),(5,num i)],[]⟩) x.jN.length ⟨0,by omega,λj hj=>by omega,by omega,rfl⟩ ?_;rintro r s ⟨i,hi,l,rfl,rfl⟩;refine an<|aj (.a 5 I<|.k [2,3,5,32] I)<|ak I (λhc=>?_) (λhc=>?_)
  ·have hlt:i<x.jN.length:=by have:=Vg hc;omega
   obtain⟨a,ha⟩:∃a,x.jN[i]? =some a:=⟨x.jN[i],by simp[hlt]⟩;obtain⟨b,hb⟩:∃b,y.jN[i]? =some b:=⟨y.jN[i]'(by omega),by simp[show i<y.jN.length by omega]⟩;refine ao<|an<|ay<|ev mixed (by kernel_rfl) (.a 3 I<|.v [36,37] (aX (i*3) I) I I<|.v [38] (iA I (VJ I) I (xg x.jN i a ha) I) I I<|.a 3 I<|.v [41,42] (aX (i*3) I) I I<|.v [43] (iA I (VJ I) I (xg y.jN i b hb) I) I I<|.v [39,44] (dW I (LG a b)) I I<|.a 1 I<|.k [2,3,5,46] I) ?_;refine ak I (λhc=>?_) (λhc=>?_)
   ·have m:x≠y:=λe=>by
     rw[e,hb]at ha;cases ha;rw[Fx]at hc;simp at hc
    exact aj (.a 1 I<|.k [4] I)<|aA<|jF I aQ.pure (by rw[VA m];rfl)
   ·have p:a=b:=by
     rw[Fx]at hc;simpa using hc
    refine ao<|aL (.a 1 I<|.v (aU I) I<|.a 1 I<|.k [2,3,5] I) ?_;exact⟨x.jN.length - (i+1),by omega,i+1,by omega,λj hj=>by by_cases e:j=i;(rw[e,ha,hb,p]);exact l j (by omega),rfl,rfl⟩
  ·have G:i=x.jN.length:=by have:=Vj hc;omega
   have d:x.jN=y.jN:=Wz λj=>by
    by_cases hj:j<x.jN.length
    ·exact l j (by omega)
    ·rw[V4 (by omega),V4 (by omega)]
   have heq:x=y:=by
    obtain⟨H,J,K⟩:=x;obtain⟨L,M,N⟩:=y;simp only at f d c;rw[f,d,c]
   exact bh<|aj (.a 1 I<|.k [4] I)<|aA<|jF I aQ.pure (by rw[VM heq];rfl)
def It(T:aw)(s:eW):Bool:=if s.kind=1 then bZ T s.num else if s.kind=2 then jE T s.num else if s.kind=3 then cB s.num 1 64 else if s.kind=4 then cB s.num 0 65535 else false
def KH(T:aw)(n:Int)(L:List Int):Bool:=decide (∀i,i<L.length->jE T (L.getD i 0)=true/\bI T (L.getD i 0).toNat=n/\(0<i->L.getD (i - 1) 0<L.getD i 0))
def Sg(T:aw)(n d:Int)(e:qT):Bool:=KH T n e.ec&&(!(decide (d=n)&&decide (0<(e.ec.length:Int))))&&(if e.rep then decide ((e.ec.length:Int)=1)&&decide ((e.push.length:Int)<=32)&&e.push.all (It T) else decide ((e.push.length:Int)=0))
def Sf:qT:=⟨[],false,[]⟩
def Q0(T:aw)(n:Int)(l:List qT):Bool:=decide (∀d,d<l.length->Sg T n d (l.getD d Sf)=true)
def SJ(T:aw)(x:oc):Bool:=aH T&&bZ T x.node&&decide ((x.jN.length:Int)=T.nodes)&&KH T x.node x.down&&Q0 T x.node x.jN
theorem gR{T:aw}{a:Int}:jE T a=true↔0<=a/\a<2*(T.ah.length:Int):=by simp[jE]
theorem IJ(T:aw)(a:Int)(h:jE T a=true):Can prog 79 [bu T,num a] (· =num (bI T a.toNat)):=by
 obtain⟨h0,h1⟩:=gR.1 h;obtain⟨a,rfl⟩:=Vo h0;exact mY T a (by omega)
theorem Cb(T:aw)(n:Int):(cw T n).Pairwise (· < ·):=by
 unfold cw jI;refine List.Pairwise.map _ (λa b h=>?_) ((YU (n:=2*T.ah.length)).filter _);show(a:Int)<(b:Int);omega
theorem vu{T}{n:Int}{a:Int}:a∈cw T n↔jE T a=true/\bI T a.toNat=n:=by
 unfold cw jI;rw[Vv,gR];constructor
 ·rintro⟨b,hb,rfl⟩;obtain⟨h1,h2⟩:=Wk.1 hb;have:=VP.1 h1;refine⟨⟨by simp,by simp;omega⟩,by simpa using h2⟩
 ·rintro⟨⟨h0,h1⟩,h2⟩;refine⟨a.toNat,Wk.2 ⟨VP.2 (by omega),by simpa using h2⟩,by simp;omega⟩
theorem sO(T:aw)(D:List Bool)(n:Nat):cA T D n n=[]:=by unfold cA;rw[Vn (.inl rfl)]
theorem rj{T:aw}{D}(hv:aH T=true){d x:Nat}(hd:(d:Int)<T.nodes)(hx:(x:Int)<T.nodes):(bN T D d false).getD x 0=at' (bN T D d false) (x:Int):=by
 have hl:=(fi (D:=D) hv (dir:=false) hd).1;unfold at';rw[Vi,Qo,Qo,Vm (by omega)]
 rfl
structure nq (T:aw) (D:List Bool) (n d a:Nat):Prop where
 nu:a<2*T.ah.length
 tail:bI T a=(n:Int)
 up:bO D a=false
 ne:n≠d
 reach:0<=(bN T D d false).getD (bx T a).toNat 0
 pass:bx T a=(d:Int)\/cW T (bx T a).toNat=false
 sum:(bN T D d false).getD n 0=(bN T D d false).getD (bx T a).toNat 0+cr T a
theorem gW{T D}{n d:Nat}{a:Int}(h:a∈cA T D n d):∃k:Nat,a=k/\nq T D n d k:=by
 unfold cA at h;split at h
 ·simp at h
 ·rename_i b;obtain⟨h1,h2⟩:=Wk.1 h;obtain⟨f,c⟩:=vu.1 h1;obtain⟨i,j⟩:=gR.1 f;obtain⟨k,rfl⟩:=Vo i;rw[Vi]at h2 c;unfold iR at h2;simp only[Vx,WG,Wo,VH,Xm]at h2;obtain⟨⟨⟨g1,g2⟩,g3⟩,g4⟩:=h2;refine⟨k,rfl,by omega,c,g1,λe=>b (.inl e),by omega,?_,by omega⟩;rcases Xy.1 g3 with g|g
  ·exact .inl (VQ (ff g))
  ·exact .inr g
theorem nJ{T D}{n d k:Nat}(h:nq T D n d k)(hc:1<=cr T k):(k:Int)∈cA T D n d:=by
 have hs:=h.sum;have hr:=h.reach;unfold cA;rw[Vk (by rintro(e|e);exact h.ne e;omega)];refine Wk.2 ⟨vu.2 ⟨gR.2 ⟨by omega,by have:=h.nu;omega⟩,h.tail⟩,?_⟩;unfold iR;rw[Vi];simp only[Vx,WG,Wo,VH,Xm];refine⟨⟨⟨h.up,by omega⟩,?_⟩,by omega⟩;rcases h.pass with g|g
 ·rw[VA (by simpa using g)];rfl
 ·rw[g,Bool.and_false]
theorem rK{T:aw}{D}(hv:aH T=true){n d:Nat}(hn:(n:Int)<T.nodes)(hd:(d:Int)<T.nodes)(b:n≠d)(h0:0<=(bN T D d false).getD n 0):∃k,nq T D n d k:=by
 have i:=bz hv;have j:=kX i D false hd;have f:=rj (D:=D) hv hd hn;rcases j.qg n hn (by rw[<-f];exact h0)with h|⟨a,ha,hx,⟨m,c,e⟩,hs⟩
 ·exact absurd h b
 ·have l:=i.head a ha;obtain⟨y,hy⟩:=Vo l.1;have g:=rj (D:=D) hv hd (x:=y) (by omega);simp only[gJ,dF,Xb,Yo]at hx c e hs;rw[hy]at c e hs;refine⟨a,ha,hx,m,b,?_,?_,?_⟩
  ·rw[hy,Vi,g];exact c
  ·rw[hy];exact e
  ·rw[hy,Vi,f,g];exact hs
theorem GX{T:aw}{D}(hv:aH T=true){d:Nat}(hd:(d:Int)<T.nodes):(bN T D d false).getD d 0=0:=by
 rw[rj hv hd hd];exact(kX (bz hv) D false hd).root
end
end PW
end Go.Proofs.YtfcadpknnbgibaaGreatDoor
