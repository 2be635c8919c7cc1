/- Texts of the proof, part 6. -/
import Derived.Laws.StructEq
import Derived.MapKept
import Derived.Scope
import Derived.Lib.SliceRun
import Derived.ChangeKeysEq
import Derived.Test.YtnegbdpggideiaaDoorCardFAB5
set_option linter.unusedVariables false
set_option linter.unusedSimpArgs false
set_option maxRecDepth 10000
set_option maxHeartbeats 1000000
namespace Go.Proofs.YtnegbdpggideiaaDoor
namespace PW
open Go.RowKit aN Mem Net
structure bK where
 kind:Int
 num:Int
deriving DecidableEq
structure gN where
 aW:List Int
 rep:Bool
 push:List bK
structure eR where
 node:Int
 cI:List gN
 down:List Int
def iT(s:bK):List PV:=[num s.kind,num s.num]
def pS(s:bK):PV:=.agg (iT s)
def dw(l:List bK):List PV:=l.flatMap iT
def bD(l:List bK):PV:=.slice l.length (dw l)
def j8(e:gN):List PV:=[aJ e.aW,flag e.rep,bD e.push]
def uU(e:gN):PV:=.agg (j8 e)
def gA(l:List gN):List PV:=l.flatMap j8
def gu(l:List gN):PV:=.slice l.length (gA l)
def dx(t:eR):List PV:=[num t.node,gu t.cI,aJ t.down]
def ni(t:eR):PV:=.agg (dx t)
def jj(l:List eR):List PV:=l.flatMap dx
def ib(l:List eR):PV:=.slice l.length (jj l)
instance (s:bK):ao (iT s):=by unfold iT;infer_instance
instance (s:bK):ba (iT s):=by unfold iT;infer_instance
instance (s:bK):IsPure (pS s):=by unfold pS;infer_instance
instance (l:List bK):ao (dw l):=ao.flatMap _ _ fun _=>inferInstance
instance (l:List bK):ba (dw l):=ba.flatMap _ _ fun _=>inferInstance
instance (l:List bK):IsPure (bD l):=by unfold bD;infer_instance
instance (l:List bK):cN (bD l):=by unfold bD;infer_instance
instance (e:gN):ao (j8 e):=by unfold j8;infer_instance
instance (e:gN):ba (j8 e):=by unfold j8;infer_instance
instance (e:gN):IsPure (uU e):=by unfold uU;infer_instance
instance (l:List gN):ao (gA l):=ao.flatMap _ _ fun _=>inferInstance
instance (l:List gN):ba (gA l):=ba.flatMap _ _ fun _=>inferInstance
instance (l:List gN):IsPure (gu l):=by unfold gu;infer_instance
instance (l:List gN):cN (gu l):=by unfold gu;infer_instance
instance (t:eR):ao (dx t):=by unfold dx;infer_instance
instance (t:eR):ba (dx t):=by unfold dx;infer_instance
instance (t:eR):IsPure (ni t):=by unfold ni;infer_instance
instance (l:List eR):ao (jj l):=ao.flatMap _ _ fun _=>inferInstance
instance (l:List eR):ba (jj l):=ba.flatMap _ _ fun _=>inferInstance
instance (l:List eR):IsPure (ib l):=by unfold ib;infer_instance
instance (l:List eR):cN (ib l):=by unfold ib;infer_instance
theorem oR(l:List gN)(e:gN):gA l++j8 e=gA (l++[e]):=by simp[gA]
theorem pe(l:List eR)(e:eR):jj l++dx e=jj (l++[e]):=by simp[jj]
theorem flat_get{α:Type}(f:α→List PV)(s:Nat)(hf:∀a,(f a).length=s):∀(l:List α) (i j:Nat) (a:α),l[i]? =some a→j<s→(l.flatMap f)[i*s+j]? =(f a)[j]?
 | [],i,j,a,h,_=>by simp at h
 |b::l,0,j,a,h,hj=>by
  simp at h;subst h
  rw[List.flatMap_cons,Nat.zero_mul,Nat.zero_add,List.getElem?_append_left (by rw[hf];exact hj)]
 |b::l,i+1,j,a,h,hj=>by
  have:=flat_get f s hf l i j a (by simpa using h) hj
  have e1:(i+1)*s=i*s+s:=Nat.succ_mul i s
  have e2:(i+1)*s+j - s=i*s+j:=by omega
  have e3:(f b).length≤(i+1)*s+j:=by rw[hf];omega
  rw[List.flatMap_cons,List.getElem?_append_right e3,hf,e2,this]
theorem gO{α:Type}(f:α→List PV)(s:Nat)(hf:∀a,(f a).length=s):∀(l:List α) (i:Nat) (a:α),l[i]? =some a→((l.flatMap f).drop (i*s)).take s=f a
 | [],i,a,h=>by simp at h
 |b::l,0,a,h=>by
  simp at h;subst h
  rw[List.flatMap_cons,Nat.zero_mul,List.drop_zero]
  exact List.take_left' (hf b)
 |b::l,i+1,a,h=>by
  have:=gO f s hf l i a (by simpa using h)
  have e1:(i+1)*s=s+i*s:=by rw[Nat.succ_mul];omega
  rw[List.flatMap_cons,e1,←List.drop_drop,List.drop_left' (hf b),this]
theorem ou(l:List gN)(i j:Nat)(e:gN)(h:l[i]? =some e)(hj:j<3):(gA l)[i*3+j]? =(j8 e)[j]? :=flat_get j8 3 (fun _=>rfl) l i j e h hj
theorem jJ(l:List gN)(i:Nat)(e:gN)(h:l[i]? =some e):((gA l).drop (i*3)).take 3=j8 e:=gO j8 3 (fun _=>rfl) l i e h
theorem nz(l:List bK)(i j:Nat)(e:bK)(h:l[i]? =some e)(hj:j<2):(dw l)[i*2+j]? =(iT e)[j]? :=flat_get iT 2 (fun _=>rfl) l i j e h hj
theorem jQ(l:List bK)(i:Nat)(e:bK)(h:l[i]? =some e):((dw l).drop (i*2)).take 2=iT e:=gO iT 2 (fun _=>rfl) l i e h
theorem jC(l:List eR)(i:Nat)(e:eR)(h:l[i]? =some e):((jj l).drop (i*3)).take 3=dx e:=gO dx 3 (fun _=>rfl) l i e h
theorem x3{P:Program}{σ:bp}{t:a7}{o:Oper}{p q:PV}(h:aA P σ t o p)(hl:iP p q):aA P σ t o q:=fun F base E ρ w hρ hS hT=>by
 have:=h F base E ρ w hρ hS hT
 generalize (execOp ρ o).run P w=x at*
 cases x with
 |ok n w'=>
  cases n with
  |value v=>exact⟨this.1,hl _ _ _ this.2⟩
  |skip=>exact⟨this.1,hl _ _ _ this.2⟩
  |enter f args=>exact⟨this.1,Calls.mono this.2 (fun e w'' ⟨x,h1,h2,h3⟩=>⟨x,h1,h2,hl _ _ _ h3⟩)⟩
  |_=>exact this
 |halt x w'=>exact this
def r9(xs ys:List PV):Prop:=xs.length=ys.length∧∀(i:Nat) x y,xs[i]? =some x→ys[i]? =some y→iP x y
theorem r9.nil:r9 [] []:=⟨rfl,fun i x y h=>by simp at h⟩
theorem r9.cons{x y:PV}{xs ys:List PV}(h:iP x y)(hs:r9 xs ys):r9 (x::xs) (y::ys):=⟨by simp[hs.1],fun j a b h1 h2=>by
 cases j with
 |zero=>simp at h1 h2;subst h1;subst h2;exact h
 |succ j=>exact hs.2 j a b (by simpa using h1) (by simpa using h2)⟩
theorem iP.pW{xs ys:List PV}(h:r9 xs ys):iP (.agg xs) (.agg ys):=fun E w v hv=>by
 cases hv with
 |agg cs _ hl hr=>exact .agg cs ys (hl.trans h.1) (fun i c u h1 h2=>by
   have hi:i<xs.length:=by rw[h.1];exact(List.getElem?_eq_some_iff.1 h2).1
   exact h.2 i xs[i] u (by simp[hi]) h2 E w c (hr i c _ h1 (by simp[hi])))
noncomputable def oU(T:ab)(D:List Bool)(n k:Nat):List gN:=(List.range k).map fun d=>⟨bw T D n d,false,[]⟩
def iQ(D:List Bool)(l:List Int):List Int:=l.filter fun a=>bG D a.toNat
noncomputable def bS(T:ab)(D:List Bool)(n:Nat):eR:=⟨n,oU T D n T.nodes.toNat,iQ D (cY T n)⟩
noncomputable def gE(T:ab)(D:List Bool)(n:Int):eR:=if bX T D [n]=0 then bS T D n.toNat else⟨0,[],[]⟩
theorem ud(T:ab)(D:List Bool)(n k:Nat):oU T D n (k+1)=oU T D n k++[⟨bw T D n k,false,[]⟩]:=by simp[oU,List.range_succ]
theorem qI(T:ab)(D:List Bool)(n k:Nat):(oU T D n k).length=k:=by simp[oU]
end PW
end Go.Proofs.YtnegbdpggideiaaDoor
namespace Go.Proofs.YtnegbdpggideiaaDoor
namespace PW
open Go.RowKit aN Mem Net
set_option maxHeartbeats 4000000 in
theorem nQ(T:ab)(D:List Bool)(n:Int)(dir:Bool):Can Tryd.prog 29 [a6 T,bB D,num n,flag dir] (· =dO (bX T D [n]) (bI T D n.toNat dir)):=by
  refine aI Tryd.func29 rfl Tryd.ntmps29 rfl<|af (.a 3 rfl<|.k [1,2,3,4] rfl)<|ak<|af (.a 2 rfl<|.c rfl (rB T D) rfl<|.a 1 rfl<|.k [1,2,3,4,20] rfl)<|ag rfl (fun hc=>?_) (fun hc=>?_)
  · have hch:bX T D [n]=1:=by
      unfold bX
      rw[if_neg]
      revert hc
      cases(aj T&&bx T D)<;>simp
    exact af (.a 2 rfl<|.k [8,9] rfl)<|an<|⟨_,_,ax.of rfl,ay.br (al.cons ay.bZ (al.cons ay.pure al.nil)),by unfold dO;rw[hch];rfl⟩
  · have hok : (aj T && bx T D) = true := by revert hc; cases (aj T && bx T D) <;> simp
    refine ai<|ak ?_
    obtain⟨q1,hq1⟩:∃q,decide (n<0)=q:=⟨_,rfl⟩
    obtain⟨q2,hq2⟩:∃q,decide (T.nodes≤n)=q:=⟨_,rfl⟩
    have hnb:aS T n= !(q1||q2):=by rw[←hq1,←hq2];unfold aS;by_cases h1:n<0<;>by_cases h2:T.nodes≤n<;>simp[h1,h2]<;>omega
    refine aY 28 (.raw (.bool (q1||q2))) [1,2,3,4] rfl ?_ ?_
    · refine .a 1 rfl<|.v (bT rfl (hq1)) rfl<|.a 1 rfl<|?_
      cases q1
      · exact .a 3 rfl<|.v (bT rfl (hq2)) rfl<|.a 1 rfl<|.k [28,1,2,3,4] rfl
      · exact .a 5 rfl<|.k [28,1,2,3,4] rfl
    refine ag rfl (fun hc=>?_) (fun hc=>?_)
    · have hch:bX T D [n]=2:=by
        unfold bX
        rw[if_pos hok,if_neg]
        simp[hnb,hc]
      exact af (.a 2 rfl<|.k [8,9] rfl)<|an<|⟨_,_,ax.of rfl,ay.br (al.cons ay.bZ (al.cons ay.pure al.nil)),by unfold dO;rw[hch];rfl⟩
    · have hnb':aS T n=true:=by rw[hnb,hc];rfl
      have hch:bX T D [n]=0:=by
        unfold bX
        rw[if_pos hok,if_pos]
        simp[hnb']
      obtain⟨hv,hf⟩:=Bool.and_eq_true_iff.1 hok
      have hn:=aV.1 hnb'
      obtain⟨n,rfl⟩:=Int.eq_ofNat_of_zero_le hn.1
      have hS:=aC hv
      have hbd:=eL hv
      obtain⟨N,hN⟩:∃N:Nat,T.nodes=(N:Int):=⟨T.nodes.toNat,by omega⟩
      have hN64:N≤64:=by have:=hS.nodes;omega
      have hnN:n<N:=by omega
      clear hc hq1 hq2 hnb
      refine ai<|aX<|av 2 rfl<|dR (cV rfl (b9.rk.get rfl) rfl rfl hN hN ⟨by unfold maxLen;omega,by omega⟩) rfl<|av 1 rfl<|aQ [1,2,3,4,10] rfl ?_
      refine ak<|af (.a 1 rfl<|.k [1,2,3,4,10,11] rfl)<|aq<|iC [1,2,3,4,10,11] rfl<|bu (fun r s=>∃k,k≤N∧r=N - k∧s=⟨[(1,bB D),(2,num n),(3,flag dir),(4,.b6 (bY T) 0),(10,.own 0),(11,num k)],[some (.row 3 1 N (aG (eb N k)))]⟩) N ⟨0,by omega,by omega,by have:=bA N;unfold eb;simp only[List.replicate_zero,List.nil_append,Nat.sub_zero];rw[←this];rfl⟩ ?_
      rintro r s ⟨k,hk,rfl,rfl⟩
      refine ak<|af (.a 4 rfl<|.k [1,2,3,4,10,11,35] rfl)<|ag rfl (fun hc=>?_) (fun hc=>?_)
      · have hlt:k<N:=by have:=of_decide_eq_true hc;omega
        have hil:(eb N k).length=N:=by simp[eb];omega
        refine ai<|ak<|aq<|bJ<|av 2 rfl<|b5 (aR (k) rfl) rfl<|bF ((by first|exact bh rfl (b9.tk.get rfl) rfl rfl rfl (by first|omega|(simp;omega))|exact bc rfl (b9.tk.get rfl) rfl rfl rfl (by first|omega|(simp;omega)))) rfl rfl<|aQ [1,2,3,4,10,11] rfl ?_
        refine lx (σ':=[some (.row 3 1 N (aG (eb N (k+1))))]) (by rw[←nE N k hlt];rfl) ?_
        refine aF (.a 1 rfl<|.v (bf rfl) rfl<|.a 1 rfl<|.k [1,2,3,4,10,11] rfl) ?_
        exact⟨N - (k+1),by omega,k+1,by omega,rfl,rfl⟩
      · have hke:k=N:=by have:=of_decide_eq_false hc;omega
        subst hke
        have hil:(eb k k).length=k:=by simp[eb]
        refine bn<|aX<|av 2 rfl<|b5 (aR (n) rfl) rfl<|bF ((by first|exact bh rfl (b9.tk.get rfl) rfl rfl rfl (by first|omega|(simp;omega))|exact bc rfl (b9.tk.get rfl) rfl rfl rfl (by first|omega|(simp;omega)))) rfl rfl<|aQ [1,2,3,4,10] rfl ?_
        refine lx (σ':=[some (.row 3 1 k (aG (Net.start k n)))]) (by rw[←pT k n];rfl) ?_
        have hI0:=jx (T:=T) (D:=D) (N:=k) (n:=n) (dir:=dir) hN.symm hnN
        generalize Net.start k n=out0 at hI0
        refine ak<|af (.a 1 rfl<|.k [1,2,3,4,10,12] rfl)<|aq<|iC [1,2,3,4,10,12] rfl<|bu (fun r s=>∃(out:List Int) (b:Bool),Inv T D n dir out∧(b=false→∀a,a<2*T.aa.length→¬fO T D n dir out a)∧r=2*mu out+b.toNat∧s=⟨[(1,bB D),(2,num n),(3,flag dir),(4,.b6 (bY T) 0),(10,.own 0),(12,flag b)],[some (.row 3 1 k (aG out))]⟩) (2*mu out0+1) ⟨out0,true,hI0,(fun h=>by cases h),rfl,rfl⟩ ?_
        clear hI0 out0
        rintro r s ⟨out,b,hI,hb,rfl,rfl⟩
        refine ak<|af (.a 1 rfl<|.k [1,2,3,4,10,44] rfl)<|ag rfl (fun hc=>?_) (fun hc=>?_)
        · subst hc
          refine ai<|aq<|af (.a 1 rfl<|.k [1,2,3,4,10,12] rfl)<|af (.a 1 rfl<|.k [1,2,3,4,10,12,13] rfl)<|aq<|iC [1,2,3,4,10,12,13] rfl<|bu (fun r s=>∃(k':Nat) (out':List Int) (b':Bool),k'≤2*T.aa.length∧Inv T D n dir out'∧(b'=false→out'=out∧∀a,a<k'→¬fO T D n dir out a)∧(b'=true→mu out'<mu out)∧r=2*T.aa.length - k'∧s=⟨[(1,bB D),(2,num n),(3,flag dir),(4,.b6 (bY T) 0),(10,.own 0),(12,flag b'),(13,num k')],[some (.row 3 1 k (aG out'))]⟩) (2*T.aa.length) ⟨0,out,false,by omega,hI,(fun _=>⟨rfl,fun a ha=>by omega⟩),(fun h=>by cases h),by omega,rfl⟩ ?_
          rintro r s ⟨a,out',b',ha,hI',hb',ht',rfl,rfl⟩
          refine ak<|af (.a 4 rfl<|.v (bf rfl (hc:=rfl)) rfl<|.a 1 rfl<|.k [1,2,3,4,10,12,13,50] rfl)<|ag rfl (fun hc=>?_) (fun hc=>?_)
          · have ham:a<2*T.aa.length:=by have:=of_decide_eq_true hc;omega
            obtain⟨p,hp⟩:=Int.eq_ofNat_of_zero_le (hS.tail a ham).1
            obtain⟨q,hq⟩:=Int.eq_ofNat_of_zero_le (hS.head a ham).1
            have hpN:p<k:=by have:=(hS.tail a ham).2;omega
            have hqN:q<k:=by have:=(hS.head a ham).2;omega
            have hcb:=hS.cost a ham
            have hDl:D.length=0∨a<D.length:=by simp only[bx,decide_eq_true_eq]at hf;omega
            have hol:out'.length=k:=by have:=hI'.len;omega
            refine ai<|ak<|aq<|fY mixed (by kernel_rfl) (.a 2 rfl<|.v [53,54] (kb rfl (hp▸kM T hv a ham)) rfl rfl<|.a 2 rfl<|.v [56,57] (kb rfl (hq▸lD T hv a ham)) rfl rfl<|.a 2 rfl<|.k [1,2,3,4,10,12,13,14,15] rfl) ?_
            refine ak<|af (.a 1 rfl<|.k [1,2,3,4,10,12,13,14,15,59] rfl)<|ag rfl (fun hdir=>?_) (fun hdir=>?_)
            · obtain ⟨x, y, hx, hy, ex, ey⟩ : ∃ x y : Nat, cP T dir a = (x : Int) ∧ bz T dir a = (y : Int) ∧ x = q ∧ y = p := ⟨q, p, by rw [hdir]; exact hq, by rw [hdir]; exact hp, rfl, rfl⟩
              subst ex
              subst ey
              refine aF (.a 4 rfl<|.k [1,2,3,4,10,12,13,14,15] rfl) ?_
              refine ak ?_
              have gx:out'.getD x 0=at' out' (x:Int):=by simp[at',List.getD_eq_getElem?_getD,show x<out'.length by omega]
              have gy:out'.getD y 0=at' out' (y:Int):=by simp[at',List.getD_eq_getElem?_getD,show y<out'.length by omega]
              have uy:=hI'.ub y (by omega) (by omega)
              have ly:=hI'.ge y (by omega)
              obtain⟨p1,hp1⟩:∃q,(!bG D a)=q:=⟨_,rfl⟩
              obtain⟨p2,hp2⟩:∃q,decide (out'.getD y 0<0)=q:=⟨_,rfl⟩
              obtain⟨p3,hp3⟩:∃q,(decide (y=n)|| !bH T y)=q:=⟨_,rfl⟩
              refine aY 79 (.raw (.bool (((!p1)||p2)||(!p3)))) [1,2,3,4,10,12,13,14,15] rfl ?_ ?_
              · refine .a 2 rfl<|.c rfl (hp1▸qu D a hDl) rfl<|.a 2 rfl<|?_
                cases p1
                · exact .a 13 rfl<|.k [79,1,2,3,4,10,12,13,14,15] rfl
                · refine .a 2 rfl<|.v (aR (y) rfl) rfl<|.v (aO rfl (au out' y (by omega))) rfl<|.v (bT rfl (hp2)) rfl<|.a 2 rfl<|?_
                  cases p2
                  · exact .a 3 rfl<|.c rfl (hp3▸jf T hv y n) rfl<|.a 2 rfl<|.k [79,1,2,3,4,10,12,13,14,15] rfl
                  · exact .a 6 rfl<|.k [79,1,2,3,4,10,12,13,14,15] rfl
              refine ag rfl (fun hc=>?_) (fun hc=>?_)
              · have hng:¬fO T D n dir out' a:=fun hg=>by
                  obtain⟨⟨w1,w2,w3⟩,_⟩:=hg
                  rw[hy]at w2 w3
                  have e1:p1=true:=by rw[←hp1,w1];rfl
                  have e2:p2=false:=by rw[←hp2,gy];simp;omega
                  have e3:p3=true:=by
                    rw[←hp3]
                    rcases w3 with w3|w3
                    · have:y=n:=by omega
                      simp[this]
                    · rw[Int.toNat_natCast]at w3;simp[w3]
                  rw[e1,e2,e3]at hc
                  cases hc
                refine bn<|aF (.a 1 rfl<|.v (bf rfl) rfl<|.a 1 rfl<|.k [1,2,3,4,10,12,13] rfl) ?_
                first
                  |exact⟨2*T.aa.length - (a+1),by omega,a+1,_,true,by omega,hIg,fun h=>(by cases h),fun _=>(by by_cases e:b'=true;(have:=ht' e;omega);(have:=(hb' (by cases b';rfl;exact absurd rfl e)).1;rw[this]at hmg;rw[this];exact hmg)),rfl,rfl⟩
                  |exact⟨2*T.aa.length - (a+1),by omega,a+1,out',b',by omega,hI',fun h=>⟨(hb' h).1,fun c hc'=>by by_cases e:c=a;(rw[e,←(hb' h).1];exact hng);exact(hb' h).2 c (by omega)⟩,ht',rfl,rfl⟩
              · have hway:Net.Way T D n dir out' a:=by
                  obtain⟨c1,c3⟩:=Bool.or_eq_false_iff.1 hc
                  obtain⟨c1,c2⟩:=Bool.or_eq_false_iff.1 c1
                  have e1:p1=true:=by cases p1;cases c1;rfl
                  have e3:p3=true:=by cases p3;cases c3;rfl
                  rw[e1]at hp1
                  rw[c2]at hp2
                  rw[e3]at hp3
                  refine⟨by revert hp1;cases bG D a<;>simp,?_,?_⟩
                  · rw[hy,←gy];have:=of_decide_eq_false hp2;omega
                  · rw[hy,Int.toNat_natCast]
                    rcases Bool.or_eq_true_iff.1 hp3 with h|h
                    · exact .inl (by have:=of_decide_eq_true h;omega)
                    · exact .inr (by revert h;cases bH T y<;>simp)
                have wy:=hway.2.1
                rw[hy]at wy
                refine ai<|fY mixed (by kernel_rfl) (.a 2 rfl<|.v [80,81] (aR (y) rfl) rfl rfl<|.v [82] (aO rfl ((au out' y (by omega)).trans (by rw[gy]))) rfl rfl<|.a 2 rfl<|.v [84,85] (kb rfl (iy T hv a ham)) rfl rfl<|.v [83,86] (bf rfl) rfl rfl<|.a 1 rfl<|.k [1,2,3,4,10,12,13,14,16] rfl) ?_
                obtain⟨p4,hp4⟩:∃q,decide (at' out' (x:Int)<0)=q:=⟨_,rfl⟩
                obtain⟨p5,hp5⟩:∃q,decide (at' out' (y:Int)+a8 T a<at' out' (x:Int))=q:=⟨_,rfl⟩
                refine aY 100 (.raw (.bool (p4||p5))) [1,2,3,4,10,12,13,14,16] rfl ?_ ?_
                · refine .a 2 rfl<|.v (aR (x) rfl) rfl<|.v (aO rfl ((au out' x (by omega)).trans (by rw[gx]))) rfl<|.v (bT rfl (hp4)) rfl<|.a 1 rfl<|?_
                  cases p4
                  · exact .a 3 rfl<|.v (aR (x) rfl) rfl<|.v (aO rfl ((au out' x (by omega)).trans (by rw[gx]))) rfl<|.v (bT rfl (hp5)) rfl<|.a 1 rfl<|.k [100,1,2,3,4,10,12,13,14,16] rfl
                  · exact .a 7 rfl<|.k [100,1,2,3,4,10,12,13,14,16] rfl
                refine ag rfl (fun hc=>?_) (fun hc=>?_)
                · have hg:fO T D n dir out' a:=⟨hway,by
                    rw[hx,hy]
                    rcases Bool.or_eq_true_iff.1 hc with h|h
                    · rw[h]at hp4;exact .inl (of_decide_eq_true hp4)
                    · rw[h]at hp5;exact .inr (of_decide_eq_true hp5)⟩
                  obtain⟨hIg,hmg⟩:=kN hS hI' a ham hg
                  have hge:o1 T dir out' a=out'.set x (at' out' (y:Int)+a8 T a):=by unfold o1;rw[hx,hy,Int.toNat_natCast]
                  rw[hge]at hIg hmg
                  refine aX<|av 3 rfl<|b5 (aR (x) rfl) rfl<|bF ((by first|exact bh rfl (b9.tk.get rfl) rfl rfl rfl (by first|omega|(simp;omega))|exact bc rfl (b9.tk.get rfl) rfl rfl rfl (by first|omega|(simp;omega)))) rfl rfl<|aQ [1,2,3,4,10,13] rfl ?_
                  refine aF (.a 1 rfl<|.k [1,2,3,4,10,12,13] rfl) ?_
                  refine aF (.a 1 rfl<|.v (bf rfl) rfl<|.a 1 rfl<|.k [1,2,3,4,10,12,13] rfl) ?_
                  first
                    |exact⟨2*T.aa.length - (a+1),by omega,a+1,_,true,by omega,hIg,fun h=>(by cases h),fun _=>(by by_cases e:b'=true;(have:=ht' e;omega);(have:=(hb' (by cases b';rfl;exact absurd rfl e)).1;rw[this]at hmg;rw[this];exact hmg)),rfl,rfl⟩
                    |exact⟨2*T.aa.length - (a+1),by omega,a+1,out',b',by omega,hI',fun h=>⟨(hb' h).1,fun c hc'=>by by_cases e:c=a;(rw[e,←(hb' h).1];exact hng);exact(hb' h).2 c (by omega)⟩,ht',rfl,rfl⟩
                · have hng:¬fO T D n dir out' a:=fun hg=>by
                    obtain⟨_,hg⟩:=hg
                    rw[hx,hy]at hg
                    obtain⟨c1,c2⟩:=Bool.or_eq_false_iff.1 hc
                    rw[c1]at hp4
                    rw[c2]at hp5
                    rcases hg with h|h
                    · exact of_decide_eq_false hp4 h
                    · exact of_decide_eq_false hp5 h
                  refine ai<|aF (.a 1 rfl<|.v (bf rfl) rfl<|.a 1 rfl<|.k [1,2,3,4,10,12,13] rfl) ?_
                  first
                    |exact⟨2*T.aa.length - (a+1),by omega,a+1,_,true,by omega,hIg,fun h=>(by cases h),fun _=>(by by_cases e:b'=true;(have:=ht' e;omega);(have:=(hb' (by cases b';rfl;exact absurd rfl e)).1;rw[this]at hmg;rw[this];exact hmg)),rfl,rfl⟩
                    |exact⟨2*T.aa.length - (a+1),by omega,a+1,out',b',by omega,hI',fun h=>⟨(hb' h).1,fun c hc'=>by by_cases e:c=a;(rw[e,←(hb' h).1];exact hng);exact(hb' h).2 c (by omega)⟩,ht',rfl,rfl⟩
            · obtain ⟨x, y, hx, hy, ex, ey⟩ : ∃ x y : Nat, cP T dir a = (x : Int) ∧ bz T dir a = (y : Int) ∧ x = p ∧ y = q := ⟨p, q, by rw [hdir]; exact hp, by rw [hdir]; exact hq, rfl, rfl⟩
              subst ex
              subst ey
              refine ai<|ak ?_
              have gx:out'.getD x 0=at' out' (x:Int):=by simp[at',List.getD_eq_getElem?_getD,show x<out'.length by omega]
              have gy:out'.getD y 0=at' out' (y:Int):=by simp[at',List.getD_eq_getElem?_getD,show y<out'.length by omega]
              have uy:=hI'.ub y (by omega) (by omega)
              have ly:=hI'.ge y (by omega)
              obtain⟨p1,hp1⟩:∃q,(!bG D a)=q:=⟨_,rfl⟩
              obtain⟨p2,hp2⟩:∃q,decide (out'.getD y 0<0)=q:=⟨_,rfl⟩
              obtain⟨p3,hp3⟩:∃q,(decide (y=n)|| !bH T y)=q:=⟨_,rfl⟩
              refine aY 79 (.raw (.bool (((!p1)||p2)||(!p3)))) [1,2,3,4,10,12,13,14,15] rfl ?_ ?_
              · refine .a 2 rfl<|.c rfl (hp1▸qu D a hDl) rfl<|.a 2 rfl<|?_
                cases p1
                · exact .a 13 rfl<|.k [79,1,2,3,4,10,12,13,14,15] rfl
                · refine .a 2 rfl<|.v (aR (y) rfl) rfl<|.v (aO rfl (au out' y (by omega))) rfl<|.v (bT rfl (hp2)) rfl<|.a 2 rfl<|?_
                  cases p2
                  · exact .a 3 rfl<|.c rfl (hp3▸jf T hv y n) rfl<|.a 2 rfl<|.k [79,1,2,3,4,10,12,13,14,15] rfl
                  · exact .a 6 rfl<|.k [79,1,2,3,4,10,12,13,14,15] rfl
              refine ag rfl (fun hc=>?_) (fun hc=>?_)
              · have hng:¬fO T D n dir out' a:=fun hg=>by
                  obtain⟨⟨w1,w2,w3⟩,_⟩:=hg
                  rw[hy]at w2 w3
                  have e1:p1=true:=by rw[←hp1,w1];rfl
                  have e2:p2=false:=by rw[←hp2,gy];simp;omega
                  have e3:p3=true:=by
                    rw[←hp3]
                    rcases w3 with w3|w3
                    · have:y=n:=by omega
                      simp[this]
                    · rw[Int.toNat_natCast]at w3;simp[w3]
                  rw[e1,e2,e3]at hc
                  cases hc
                refine bn<|aF (.a 1 rfl<|.v (bf rfl) rfl<|.a 1 rfl<|.k [1,2,3,4,10,12,13] rfl) ?_
                first
                  |exact⟨2*T.aa.length - (a+1),by omega,a+1,_,true,by omega,hIg,fun h=>(by cases h),fun _=>(by by_cases e:b'=true;(have:=ht' e;omega);(have:=(hb' (by cases b';rfl;exact absurd rfl e)).1;rw[this]at hmg;rw[this];exact hmg)),rfl,rfl⟩
                  |exact⟨2*T.aa.length - (a+1),by omega,a+1,out',b',by omega,hI',fun h=>⟨(hb' h).1,fun c hc'=>by by_cases e:c=a;(rw[e,←(hb' h).1];exact hng);exact(hb' h).2 c (by omega)⟩,ht',rfl,rfl⟩
              · have hway:Net.Way T D n dir out' a:=by
                  obtain⟨c1,c3⟩:=Bool.or_eq_false_iff.1 hc
                  obtain⟨c1,c2⟩:=Bool.or_eq_false_iff.1 c1
                  have e1:p1=true:=by cases p1;cases c1;rfl
                  have e3:p3=true:=by cases p3;cases c3;rfl
                  rw[e1]at hp1
                  rw[c2]at hp2
                  rw[e3]at hp3
                  refine⟨by revert hp1;cases bG D a<;>simp,?_,?_⟩
                  · rw[hy,←gy];have:=of_decide_eq_false hp2;omega
                  · rw[hy,Int.toNat_natCast]
                    rcases Bool.or_eq_true_iff.1 hp3 with h|h
                    · exact .inl (by have:=of_decide_eq_true h;omega)
                    · exact .inr (by revert h;cases bH T y<;>simp)
                have wy:=hway.2.1
                rw[hy]at wy
                refine ai<|fY mixed (by kernel_rfl) (.a 2 rfl<|.v [80,81] (aR (y) rfl) rfl rfl<|.v [82] (aO rfl ((au out' y (by omega)).trans (by rw[gy]))) rfl rfl<|.a 2 rfl<|.v [84,85] (kb rfl (iy T hv a ham)) rfl rfl<|.v [83,86] (bf rfl) rfl rfl<|.a 1 rfl<|.k [1,2,3,4,10,12,13,14,16] rfl) ?_
                obtain⟨p4,hp4⟩:∃q,decide (at' out' (x:Int)<0)=q:=⟨_,rfl⟩
                obtain⟨p5,hp5⟩:∃q,decide (at' out' (y:Int)+a8 T a<at' out' (x:Int))=q:=⟨_,rfl⟩
                refine aY 100 (.raw (.bool (p4||p5))) [1,2,3,4,10,12,13,14,16] rfl ?_ ?_
                · refine .a 2 rfl<|.v (aR (x) rfl) rfl<|.v (aO rfl ((au out' x (by omega)).trans (by rw[gx]))) rfl<|.v (bT rfl (hp4)) rfl<|.a 1 rfl<|?_
                  cases p4
                  · exact .a 3 rfl<|.v (aR (x) rfl) rfl<|.v (aO rfl ((au out' x (by omega)).trans (by rw[gx]))) rfl<|.v (bT rfl (hp5)) rfl<|.a 1 rfl<|.k [100,1,2,3,4,10,12,13,14,16] rfl
                  · exact .a 7 rfl<|.k [100,1,2,3,4,10,12,13,14,16] rfl
                refine ag rfl (fun hc=>?_) (fun hc=>?_)
                · have hg:fO T D n dir out' a:=⟨hway,by
                    rw[hx,hy]
                    rcases Bool.or_eq_true_iff.1 hc with h|h
                    · rw[h]at hp4;exact .inl (of_decide_eq_true hp4)
                    · rw[h]at hp5;exact .inr (of_decide_eq_true hp5)⟩
                  obtain⟨hIg,hmg⟩:=kN hS hI' a ham hg
                  have hge:o1 T dir out' a=out'.set x (at' out' (y:Int)+a8 T a):=by unfold o1;rw[hx,hy,Int.toNat_natCast]
                  rw[hge]at hIg hmg
                  refine aX<|av 3 rfl<|b5 (aR (x) rfl) rfl<|bF ((by first|exact bh rfl (b9.tk.get rfl) rfl rfl rfl (by first|omega|(simp;omega))|exact bc rfl (b9.tk.get rfl) rfl rfl rfl (by first|omega|(simp;omega)))) rfl rfl<|aQ [1,2,3,4,10,13] rfl ?_
                  refine aF (.a 1 rfl<|.k [1,2,3,4,10,12,13] rfl) ?_
                  refine aF (.a 1 rfl<|.v (bf rfl) rfl<|.a 1 rfl<|.k [1,2,3,4,10,12,13] rfl) ?_
                  first
                    |exact⟨2*T.aa.length - (a+1),by omega,a+1,_,true,by omega,hIg,fun h=>(by cases h),fun _=>(by by_cases e:b'=true;(have:=ht' e;omega);(have:=(hb' (by cases b';rfl;exact absurd rfl e)).1;rw[this]at hmg;rw[this];exact hmg)),rfl,rfl⟩
                    |exact⟨2*T.aa.length - (a+1),by omega,a+1,out',b',by omega,hI',fun h=>⟨(hb' h).1,fun c hc'=>by by_cases e:c=a;(rw[e,←(hb' h).1];exact hng);exact(hb' h).2 c (by omega)⟩,ht',rfl,rfl⟩
                · have hng:¬fO T D n dir out' a:=fun hg=>by
                    obtain⟨_,hg⟩:=hg
                    rw[hx,hy]at hg
                    obtain⟨c1,c2⟩:=Bool.or_eq_false_iff.1 hc
                    rw[c1]at hp4
                    rw[c2]at hp5
                    rcases hg with h|h
                    · exact of_decide_eq_false hp4 h
                    · exact of_decide_eq_false hp5 h
                  refine ai<|aF (.a 1 rfl<|.v (bf rfl) rfl<|.a 1 rfl<|.k [1,2,3,4,10,12,13] rfl) ?_
                  first
                    |exact⟨2*T.aa.length - (a+1),by omega,a+1,_,true,by omega,hIg,fun h=>(by cases h),fun _=>(by by_cases e:b'=true;(have:=ht' e;omega);(have:=(hb' (by cases b';rfl;exact absurd rfl e)).1;rw[this]at hmg;rw[this];exact hmg)),rfl,rfl⟩
                    |exact⟨2*T.aa.length - (a+1),by omega,a+1,out',b',by omega,hI',fun h=>⟨(hb' h).1,fun c hc'=>by by_cases e:c=a;(rw[e,←(hb' h).1];exact hng);exact(hb' h).2 c (by omega)⟩,ht',rfl,rfl⟩
          · have hae:a=2*T.aa.length:=by have:=of_decide_eq_false hc;omega
            refine l5 (.cons (k:=1) rfl<|.cons (k:=2) rfl<|.cons (k:=3) rfl<|.cons (k:=4) rfl<|.cons (k:=10) rfl<|.cons (k:=12) rfl<|Sub.nil _) ?_
            refine bn<|⟨_,?_,out',b',hI',fun h=>?_,rfl,rfl⟩
            · cases b'
              · rw[(hb' rfl).1];simp
              · have:=ht' rfl;simp;omega
            · rw[(hb' h).1];intro c hc';exact(hb' h).2 c (by omega)
        · have hdist:bI T D n dir=out:=fZ hS (nx hI (hb hc))
          refine bn<|af (.a 3 rfl<|.k [8,9] rfl)<|an<|⟨_,_,ax.of rfl,ay.br (al.cons (ay.gZ rfl al.pure) (al.cons ay.pure al.nil)),?_⟩
          unfold dO
          rw[hch,if_pos rfl,Int.toNat_natCast,hdist]
          unfold aJ
          rw[show out.length=k by have:=hI.len;omega]
theorem rp(T:ab)(D:List Bool)(d:Int):Can Tryd.prog 12 [a6 T,bB D,num d] (· =dO (bX T D [d]) (bI T D d.toNat false)):=by
 exact aI Tryd.func12 rfl Tryd.ntmps12 rfl<|af (.a 3 rfl<|.k [1,2,3] rfl)<|af (.a 3 rfl<|.c rfl (nQ T D d false) rfl<|.a 4 rfl<|.k [6,7] rfl)<|an<|⟨_,_,ax.of rfl,ay.pure,rfl⟩
end PW
end Go.Proofs.YtnegbdpggideiaaDoor
namespace Go.Proofs.YtnegbdpggideiaaDoor
namespace PW
open Go.RowKit aN Mem Net
end PW
end Go.Proofs.YtnegbdpggideiaaDoor
namespace Go.Proofs.YtnegbdpggideiaaDoor
namespace PW
open Go.RowKit aN Mem Net
end PW
end Go.Proofs.YtnegbdpggideiaaDoor
namespace Go.Proofs.YtnegbdpggideiaaDoor
namespace PW
open Go.RowKit aN Mem Net
theorem sb(a b c d:Int)(w:World):(Op.equalIn 10000 32 (.agg #[.int .i64 a,.int .i64 b]) (.agg #[.int .i64 c,.int .i64 d])).run Tryd.prog w= .ok (a==c&&b==d) w:=by
 have u3:=Tryd.underlying3
 have a3:=Tryd.isAgg3
 have z3:=Tryd.sizeOf3
 have hS:Tryd.prog.underlying 32=some (.struct (Tryd.prog.fieldsOf 32)):=by kernel_rfl
 rw[show(10000:Nat)=9999+1 from rfl,run_equalIn_agg w 9999 32 _ _ hS (by kernel_rfl)]
 simp only[Program.fieldsOf,Tryd.underlying32]
 go_simp
 by_cases h1:a=c<;>by_cases h2:b=d<;>simp[h1,h2]
theorem qN{E:Env}{w:World}{v:Value}{s:bK}(h:bC E w v (pS s)):v= .agg #[.int .i64 s.kind,.int .i64 s.num]:=by
 unfold pS iT at h
 cases h with
 |agg cs _ hl hr=>
  obtain⟨l⟩:=cs
  match l,hl,hr with
  | [x,y],_,hr=>
   have h0:=dI (hr 0 x _ rfl rfl)
   have h1:=dI (hr 1 y _ rfl rfl)
   subst h0;subst h1;rfl
  | [],hl,_=>simp at hl
  | [_],hl,_=>simp at hl
  |_::_::_::_,hl,_=>simp at hl
theorem sJ{σ:bp}{t:a7}{o:Oper}{x y:Operand}{tz:TypeId}{a b:bK}{q:Bool}(ho:o.op= .binOp .eql 32 x y tz)(hx:ah t x=some (pS a))(hy:ah t y=some (pS b))(hq:decide (a=b)=q):aA Tryd.prog σ t o (.raw (.bool q)):=by
 intro F base E ρ w hρ _ hT
 have h1:=qN (ae hρ hT hx)
 have h2:=qN (ae hρ hT hy)
 have hb:(a.kind==b.kind&&a.num==b.num)=q:=by
  rw[←hq]
  obtain⟨a1,a2⟩:=a
  obtain⟨b1,b2⟩:=b
  by_cases e1:a1=b1<;>by_cases e2:a2=b2<;>simp[e1,e2]
 simp only[execOp,ho,h1,h2,Sem.run_bind,run_eqGuard_agg w _ _ _ _ _ _ (show Tryd.prog.eqGuardType Tryd.prog.depth 32=false by kernel_rfl),Result.andThen_ok,run_eql_struct,sb,Sem.run_pure,hb]
 exact aB (.raw _)
end PW
end Go.Proofs.YtnegbdpggideiaaDoor
namespace Go.Proofs.YtnegbdpggideiaaDoor
namespace PW
open Go.RowKit aN Mem Net
deriving instance DecidableEq for gN
deriving instance DecidableEq for eR
theorem uP{E:Env}{w:World}{v:Value}{x:eR}(h:bC E w v (ni x)):x.cI.length≤maxLen∧x.down.length≤maxLen:=by
 unfold ni dx at h
 cases h with
 |agg cs _ hl hr=>
  have hr:aw E w cs.toList _:=⟨by simpa using hl,fun i x u h1 h2=>hr i x u (by simpa using h1) h2⟩
  obtain⟨v1,_,h1⟩:=hr.get (i:=1) rfl
  obtain⟨v2,_,h2⟩:=hr.get (i:=2) rfl
  exact⟨jd h1,jd h2⟩
end PW
end Go.Proofs.YtnegbdpggideiaaDoor
namespace Go.Proofs.YtnegbdpggideiaaDoor
namespace PW
open Go.RowKit aN Mem Net
def lK(T:ab)(s:bK):Bool:=if s.kind=1 then aS T s.num else if s.kind=2 then cW T s.num else if s.kind=3 then aM s.num 1 64 else if s.kind=4 then aM s.num 0 65535 else false
def ed(T:ab)(n:Int)(L:List Int):Bool:=decide (∀i,i<L.length→cW T (L.getD i 0)=true∧bb T (L.getD i 0).toNat=n∧(0<i→L.getD (i - 1) 0<L.getD i 0))
def jo(T:ab)(n d:Int)(e:gN):Bool:=ed T n e.aW&&(!(decide (d=n)&&decide (0<(e.aW.length:Int))))&&(if e.rep then decide ((e.aW.length:Int)=1)&&decide ((e.push.length:Int)≤32)&&e.push.all (lK T) else decide ((e.push.length:Int)=0))
def xd:gN:=⟨[],false,[]⟩
def mU(T:ab)(n:Int)(l:List gN):Bool:=decide (∀d,d<l.length→jo T n d (l.getD d xd)=true)
def dc(T:ab)(x:eR):Bool:=aj T&&aS T x.node&&decide ((x.cI.length:Int)=T.nodes)&&ed T x.node x.down&&mU T x.node x.cI
theorem bR{T:ab}{a:Int}:cW T a=true↔0≤a∧a<2*(T.aa.length:Int):=by simp[cW]
theorem mr(T:ab)(a:Int)(h:cW T a=true):Can Tryd.prog 68 [a6 T,num a] (· =num (bb T a.toNat)):=by
 obtain⟨h0,h1⟩:=bR.1 h
 obtain⟨a,rfl⟩:=Int.eq_ofNat_of_zero_le h0
 exact iH T a (by omega)
theorem uB(T:ab)(hl:T.aa.length≤4611686018427387903)(s:bK):Can Tryd.prog 95 [a6 T,pS s] (· =flag (lK T s)):=by
 unfold lK
 refine aI Tryd.func95 rfl Tryd.ntmps95 rfl<|af (.a 3 rfl<|.k [2,3] rfl)<|ak<|af (.a 2 rfl<|.k [2,3,6] rfl)<|aq<|af (.a 2 rfl<|.k [2,3,6,7] rfl)<|ag rfl (fun hc=>?_) (fun hc=>?_)
 ·rw[if_pos (tt hc)]
  exact af (.a 3 rfl<|.c rfl (cJ T s.num) rfl<|.a 1 rfl<|.k [4] rfl)<|an<|⟨_,_,ax.of rfl,ay.pure,rfl⟩
 ·rw[if_neg (ff hc)]
  refine af (.a 2 rfl<|.k [2,3,6,13] rfl)<|ag rfl (fun hc=>?_) (fun hc=>?_)
  ·rw[if_pos (tt hc)]
   exact af (.a 3 rfl<|.c rfl (mV T hl s.num) rfl<|.a 1 rfl<|.k [4] rfl)<|an<|⟨_,_,ax.of rfl,ay.pure,rfl⟩
  ·rw[if_neg (ff hc)]
   refine af (.a 2 rfl<|.k [3,6,19] rfl)<|ag rfl (fun hc=>?_) (fun hc=>?_)
   ·rw[if_pos (tt hc)]
    obtain⟨p1,hp1⟩:∃q,decide (1≤s.num)=q:=⟨_,rfl⟩
    obtain⟨p2,hp2⟩:∃q,decide (s.num≤64)=q:=⟨_,rfl⟩
    have he:aM s.num 1 64=(p1&&p2):=by rw[←hp1,←hp2];unfold aM;exact Bool.decide_and _ _
    rw[he]
    refine aY 4 (.raw (.bool (p1&&p2))) [] rfl ?_ ?_
    ·refine .a 2 rfl<|.v (bT rfl (hp1)) rfl<|.a 1 rfl<|?_
     cases p1
     ·exact .a 5 rfl<|.k [4] rfl
     ·exact .a 2 rfl<|.v (bT rfl (hp2)) rfl<|.a 2 rfl<|.k [4] rfl
    exact an<|⟨_,_,ax.of rfl,ay.pure,rfl⟩
   ·rw[if_neg (ff hc)]
    refine af (.a 2 rfl<|.k [3,29] rfl)<|ag rfl (fun hc=>?_) (fun hc=>?_)
    ·rw[if_pos (tt hc)]
     obtain⟨p1,hp1⟩:∃q,decide (0≤s.num)=q:=⟨_,rfl⟩
     obtain⟨p2,hp2⟩:∃q,decide (s.num≤65535)=q:=⟨_,rfl⟩
     have he:aM s.num 0 65535=(p1&&p2):=by rw[←hp1,←hp2];unfold aM;exact Bool.decide_and _ _
     rw[he]
     refine aY 4 (.raw (.bool (p1&&p2))) [] rfl ?_ ?_
     ·refine .a 2 rfl<|.v (bT rfl (hp1)) rfl<|.a 1 rfl<|?_
      cases p1
      ·exact .a 5 rfl<|.k [4] rfl
      ·exact .a 2 rfl<|.v (bT rfl (hp2)) rfl<|.a 2 rfl<|.k [4] rfl
     exact an<|⟨_,_,ax.of rfl,ay.pure,rfl⟩
    ·rw[if_neg (ff hc)]
     exact ai<|af (.a 1 rfl<|.k [4] rfl)<|an<|⟨_,_,ax.of rfl,ay.pure,rfl⟩
def nI(T:ab)(n:Int)(L:List Int)(i:Nat):Bool:=decide (cW T (L.getD i 0)=true∧bb T (L.getD i 0).toNat=n∧(0<i→L.getD (i - 1) 0<L.getD i 0))
theorem rJ{T:ab}{n:Int}{L:List Int}(h:∀i,i<L.length→nI T n L i=true):ed T n L=true:=decide_eq_true fun i hi=>tt (h i hi)
theorem o2{T:ab}{n:Int}{L:List Int}{i:Nat}(hi:i<L.length)(h:nI T n L i=false):ed T n L=false:=decide_eq_false fun ha=>ff h (ha i hi)
theorem jk(T:ab)(hv:aj T=true)(n:Int)(L:List Int):Can Tryd.prog 81 [a6 T,num n,aJ L] (· =flag (ed T n L)):=by
 have hll:=bL hv
 refine nf fun⟨E,w,vs,hR⟩=>?_
 obtain⟨v,_,hv⟩:=hR.get (i:=2) rfl
 have hm:=jd hv
 unfold maxLen at hm
 refine aI Tryd.func81 rfl Tryd.ntmps81 rfl<|af (.a 2 rfl<|.k [1,2,3] rfl)<|ak<|af (.a 3 rfl<|.k [1,2,3,9,10,11] rfl)<|aq<|iC [1,2,3,9,10,11] rfl<|bu (fun r s=>∃k,k≤L.length∧r=L.length - k∧(∀i,i<k→nI T n L i=true)∧s=⟨[(1,num n),(2,aJ L),(3,.b6 (bY T) 0),(9,aJ L),(10,num L.length),(11,num k)],[]⟩) L.length ⟨0,by omega,by omega,fun i hi=>by omega,rfl⟩ ?_
 rintro r s ⟨k,hk,rfl,hall,rfl⟩
 refine af (.a 1 rfl<|.k [1,2,3,9,10,11,12] rfl)<|ak<|ag rfl (fun hc=>?_) (fun hc=>?_)
 ·have hlt:k<L.length:=by have:=tt hc;omega
  obtain⟨p1,hp1⟩:∃q,cW T (L.getD k 0)=q:=⟨_,rfl⟩
  obtain⟨p2,hp2⟩:∃q,decide (bb T (L.getD k 0).toNat≠n)=q:=⟨_,rfl⟩
  obtain⟨p3,hp3⟩:∃q,decide (0<(k:Int))=q:=⟨_,rfl⟩
  obtain⟨p4,hp4⟩:∃q,decide (L.getD k 0≤L.getD (k - 1) 0)=q:=⟨_,rfl⟩
  refine ai<|ak<|aq<|af (.a 1 rfl<|.v (aR (k) rfl) rfl<|.v (aO rfl (au L k hlt)) rfl<|.a 2 rfl<|.k [1,2,3,7,8,9,10,11] rfl)<|aY 39 (.raw (.bool (((!p1)||p2)||(p3&&p4)))) [1,2,3,9,10,11] rfl ?_ ?_
  ·refine .a 2 rfl<|.c rfl (hp1▸mV T (by omega) (L.getD k 0)) rfl<|.a 2 rfl<|?_
   cases p1
   ·exact .a 19 rfl<|.k [39,1,2,3,9,10,11] rfl
   ·refine .a 2 rfl<|.c rfl (mr T _ hp1) rfl<|.a 1 rfl<|.v (bT rfl (hp2)) rfl<|.a 2 rfl<|?_
    cases p2
    ·refine .a 1 rfl<|.v (bT rfl (hp3)) rfl<|.a 1 rfl<|?_
     cases p3
     ·exact .a 9 rfl<|.k [39,1,2,3,9,10,11] rfl
     ·exact .a 2 rfl<|.v (bf rfl) rfl<|.v (aR (k - 1) rfl (by have:=tt hp3;omega) (by omega)) rfl<|.v (aO rfl (au L (k - 1) (by omega))) rfl<|.a 1 rfl<|.v (bT rfl (hp4)) rfl<|.a 2 rfl<|.k [39,1,2,3,9,10,11] rfl
    ·exact .a 12 rfl<|.k [39,1,2,3,9,10,11] rfl
  refine ag rfl (fun hx=>?_) (fun hx=>?_)
  ·have hno:nI T n L k=false:=by
    refine decide_eq_false fun⟨h1,h2,h3⟩=>?_
    rw[h1]at hp1
    rw[decide_eq_false (by simpa using h2)]at hp2
    subst hp1 hp2
    simp only[Bool.not_true,Bool.false_or,Bool.and_eq_true]at hx
    rw[hx.1]at hp3
    rw[hx.2]at hp4
    have:=h3 (by have:=tt hp3;omega)
    have:=tt hp4
    omega
   rw[o2 hlt hno]
   exact af (.a 1 rfl<|.k [6] rfl)<|an<|⟨_,_,ax.of rfl,ay.pure,rfl⟩
  ·have hyes:nI T n L k=true:=by
    obtain⟨c1,c3⟩:=Bool.or_eq_false_iff.1 hx
    obtain⟨c1,c2⟩:=Bool.or_eq_false_iff.1 c1
    refine decide_eq_true ⟨?_,?_,fun h0=>?_⟩
    ·rw[hp1];simpa using c1
    ·rw[c2]at hp2;exact Classical.byContradiction (ff hp2)
    ·rw[decide_eq_true (by omega)]at hp3
     subst hp3
     rw[Bool.true_and]at c3
     rw[c3]at hp4
     have:=ff hp4
     omega
   refine ai<|aF (.v (bf rfl) rfl<|.a 1 rfl<|.k [1,2,3,9,10,11] rfl) ?_
   refine⟨L.length - (k+1),by omega,k+1,by omega,rfl,fun i hi=>?_,rfl⟩
   by_cases h:i=k
   ·rw[h];exact hyes
   ·exact hall i (by omega)
 ·have hke:k=L.length:=by have:=ff hc;omega
  subst hke
  rw[rJ hall]
  exact bn<|af (.a 1 rfl<|.k [6] rfl)<|an<|⟨_,_,ax.of rfl,ay.pure,rfl⟩
theorem yv{α:Type}(p:α→Bool)(L:List α)(k:Nat)(a:α)(h:L[k]? =some a):(L.take (k+1)).all p=((L.take k).all p&&p a):=by
 rw[List.take_add_one,h,List.all_append];simp
theorem yp{α:Type}(p:α→Bool)(L:List α)(k:Nat)(a:α)(h:L[k]? =some a)(hp:p a=false):L.all p=false:=by
 rw[Bool.eq_false_iff]
 intro ha
 have:=List.all_eq_true.1 ha a (List.mem_of_getElem? h)
 rw[hp]at this
 cases this
theorem pz(T:ab)(hv:aj T=true)(e:gN)(n d:Int):Can Tryd.prog 82 [a6 T,uU e,num n,num d] (· =flag (jo T n d e)):=by
 have hll:=bL hv
 obtain⟨p1,hp1⟩:∃q,ed T n e.aW=q:=⟨_,rfl⟩
 obtain⟨p2,hp2⟩:∃q,decide (d=n)=q:=⟨_,rfl⟩
 obtain⟨p3,hp3⟩:∃q,decide (0<(e.aW.length:Int))=q:=⟨_,rfl⟩
 unfold jo
 rw[hp1,hp2,hp3]
 refine aI Tryd.func82 rfl Tryd.ntmps82 rfl<|af (.a 3 rfl<|.k [2,3,4,5] rfl)<|ak<|aY 27 (.raw (.bool ((!p1)||(p2&&p3)))) [4,5] rfl ?_ ?_
 ·refine .a 4 rfl<|.c rfl (hp1▸jk T hv n e.aW) rfl<|.a 2 rfl<|?_
  cases p1
  ·exact .a 10 rfl<|.k [27,4,5] rfl
  ·refine .a 2 rfl<|.v (bT rfl (hp2)) rfl<|.a 1 rfl<|?_
   cases p2
   ·exact .a 6 rfl<|.k [27,4,5] rfl
   ·exact .a 3 rfl<|.v (bT rfl (hp3)) rfl<|.a 2 rfl<|.k [27,4,5] rfl
 refine ag rfl (fun hc=>?_) (fun hc=>?_)
 ·have he:(p1&& !(p2&&p3))=false:=by cases p1<;>cases p2<;>cases p3<;>first|rfl|cases hc
  rw[he,Bool.false_and]
  exact af (.a 1 rfl<|.k [8] rfl)<|an<|⟨_,_,ax.of rfl,ay.pure,rfl⟩
 ·have he:(p1&& !(p2&&p3))=true:=by cases p1<;>cases p2<;>cases p3<;>first|rfl|cases hc
  rw[he,Bool.true_and]
  refine ai<|ak<|af (.a 3 rfl<|.k [4,5,30] rfl)<|ag rfl (fun hc=>?_) (fun hc=>?_)
  ·have hr:e.rep=false:=by simpa using hc
   rw[hr,if_neg (by simp)]
   exact af (.a 5 rfl<|.k [8] rfl)<|an<|⟨_,_,ax.of rfl,ay.pure,rfl⟩
  ·have hr:e.rep=true:=by simpa using hc
   rw[hr,if_pos rfl]
   refine ai<|ak ?_
   obtain⟨p4,hp4⟩:∃q,decide ((e.aW.length:Int)≠1)=q:=⟨_,rfl⟩
   obtain⟨p5,hp5⟩:∃q,decide (32<(e.push.length:Int))=q:=⟨_,rfl⟩
   refine aY 44 (.raw (.bool (p4||p5))) [4,5] rfl ?_ ?_
   ·refine .a 3 rfl<|.v (bT rfl (hp4)) rfl<|.a 1 rfl<|?_
    cases p4
    ·exact .a 3 rfl<|.v (bT rfl (hp5)) rfl<|.a 1 rfl<|.k [44,4,5] rfl
    ·exact .a 5 rfl<|.k [44,4,5] rfl
   refine ag rfl (fun hx=>?_) (fun hx=>?_)
   ·have hf:(decide ((e.aW.length:Int)=1)&&decide ((e.push.length:Int)≤32))=false:=by
     rcases Bool.or_eq_true_iff.1 hx with h|h
     ·rw[h]at hp4;rw[decide_eq_false (tt hp4)];rfl
     ·rw[h]at hp5;rw[decide_eq_false (by have:=tt hp5;omega:¬((e.push.length:Int)≤32)),Bool.and_false]
    rw[hf,Bool.false_and]
    exact af (.a 1 rfl<|.k [8] rfl)<|an<|⟨_,_,ax.of rfl,ay.pure,rfl⟩
   ·obtain⟨c1,c2⟩:=Bool.or_eq_false_iff.1 hx
    rw[c1]at hp4
    rw[c2]at hp5
    have hlen:e.push.length≤32:=by have:=ff hp5;omega
    rw[decide_eq_true (Classical.byContradiction (ff hp4)),decide_eq_true (by omega:(e.push.length:Int)≤32),Bool.true_and,Bool.true_and]
    refine ai<|ak<|af (.a 4 rfl<|.k [4,46,47,48] rfl)<|aq<|iC [4,46,47,48] rfl<|bu (fun r s=>∃k,k≤e.push.length∧r=e.push.length - k∧(e.push.take k).all (lK T)=true∧s=⟨[(4,.b6 (bY T) 0),(46,bD e.push),(47,num e.push.length),(48,num k)],[]⟩) e.push.length ⟨0,by omega,by omega,by simp,rfl⟩ ?_
    rintro r s ⟨k,hk,rfl,hall,rfl⟩
    refine af (.a 1 rfl<|.k [4,46,47,48,49] rfl)<|ak<|ag rfl (fun hy=>?_) (fun hy=>?_)
    ·have hlt:k<e.push.length:=by have:=tt hy;omega
     obtain⟨a,ha⟩:∃a,e.push[k]? =some a:=⟨e.push[k],by simp[hlt]⟩
     refine ai<|ak<|aq<|aX<|b5 (aR (k*2) rfl) rfl<|b5 (fc rfl (jQ e.push k a ha) rfl) rfl<|av 2 rfl<|aQ [4,10,46,47,48] rfl ?_
     refine af (.a 2 rfl<|.c rfl (uB T (by omega) a) rfl<|.a 1 rfl<|.k [4,46,47,48,55] rfl)<|dQ [] (.c 4<|.c 46<|.c 47<|.c 48<|.c 55 .nil) .nil rfl rfl ?_
     refine ag rfl (fun hz=>?_) (fun hz=>?_)
     ·rw[yp _ _ k a ha (by simpa using hz)]
      exact af (.a 1 rfl<|.k [8] rfl)<|an<|⟨_,_,ax.of rfl,ay.pure,rfl⟩
     ·have hz':lK T a=true:=by simpa using hz
      refine ai<|aF (.v (bf rfl) rfl<|.a 1 rfl<|.k [4,46,47,48] rfl) ?_
      exact⟨e.push.length - (k+1),by omega,k+1,by omega,rfl,by rw[yv _ _ k a ha,hall,hz'];rfl,rfl⟩
    ·have hke:k=e.push.length:=by have:=ff hy;omega
     subst hke
     rw[List.take_length]at hall
     rw[hall]
     exact bn<|af (.a 1 rfl<|.k [8] rfl)<|an<|⟨_,_,ax.of rfl,ay.pure,rfl⟩
theorem gF(l:List gN)(k:Nat)(e:gN)(h:l[k]? =some e):l.getD k xd=e:=by rw[List.getD_eq_getElem?_getD,h];rfl
theorem nL{T:ab}{n:Int}{l:List gN}{k:Nat}{e:gN}(h:l[k]? =some e)(hf:jo T n k e=false):mU T n l=false:=decide_eq_false fun ha=>by
 have:=ha k (List.getElem?_eq_some_iff.1 h).1
 rw[gF l k e h,hf]at this
 cases this
theorem kT{T:ab}{n:Int}{l:List gN}(h:∀(k:Nat) e,l[k]? =some e→jo T n k e=true):mU T n l=true:=decide_eq_true fun d hd=>by
 have he:l[d]? =some l[d]:=by simp[hd]
 rw[gF l d _ he]
 exact h d _ he
theorem kl(T:ab)(x:eR):Can Tryd.prog 64 [a6 T,ni x] (· =flag (dc T x)):=by
 refine nf fun⟨E,w,vs,hR⟩=>?_
 obtain⟨v,_,hvv⟩:=hR.get (i:=1) rfl
 have hm:=(uP hvv).1
 unfold maxLen at hm
 obtain⟨p1,hp1⟩:∃q,aj T=q:=⟨_,rfl⟩
 obtain⟨p2,hp2⟩:∃q,aS T x.node=q:=⟨_,rfl⟩
 obtain⟨p3,hp3⟩:∃q,decide ((x.cI.length:Int)≠T.nodes)=q:=⟨_,rfl⟩
 obtain⟨p4,hp4⟩:∃q,ed T x.node x.down=q:=⟨_,rfl⟩
 have he:decide ((x.cI.length:Int)=T.nodes)= !p3 :=by rw[←hp3];simp
 unfold dc
 rw[hp1,hp2,he,hp4]
 refine aI Tryd.func64 rfl Tryd.ntmps64 rfl<|af (.a 3 rfl<|.k [2,3] rfl)<|ak<|aY 33 (.raw (.bool ((((!p1)|| !p2)||p3)|| !p4))) [2,3] rfl ?_ ?_
 ·refine .a 1 rfl<|.c rfl (hp1▸fu T) rfl<|.a 2 rfl<|?_
  cases p1
  ·exact .a 23 rfl<|.k [33,2,3] rfl
  ·refine .a 3 rfl<|.c rfl (hp2▸cJ T x.node) rfl<|.a 3 rfl<|?_
   cases p2
   ·exact .a 16 rfl<|.k [33,2,3] rfl
   ·refine .a 5 rfl<|.v (bT rfl (hp3)) rfl<|.a 2 rfl<|?_
    cases p3
    ·exact .a 5 rfl<|.c rfl (hp4▸jk T hp1 x.node x.down) rfl<|.a 2 rfl<|.k [33,2,3] rfl
    ·exact .a 8 rfl<|.k [33,2,3] rfl
 refine ag rfl (fun hc=>?_) (fun hc=>?_)
 ·have hf:(p1&&p2&& !p3 &&p4)=false:=by cases p1<;>cases p2<;>cases p3<;>cases p4<;>first|rfl|cases hc
  rw[hf,Bool.false_and]
  exact af (.a 1 rfl<|.k [4] rfl)<|an<|⟨_,_,ax.of rfl,ay.pure,rfl⟩
 ·have hf:(p1&&p2&& !p3 &&p4)=true:=by cases p1<;>cases p2<;>cases p3<;>cases p4<;>first|rfl|cases hc
  rw[hf,Bool.true_and]
  have e1:p1=true:=by cases p1<;>simp_all
  rw[e1]at hp1
  refine ai<|ak<|af (.a 4 rfl<|.k [2,3,35,36,37] rfl)<|aq<|iC [2,3,35,36,37] rfl<|bu (fun r s=>∃k,k≤x.cI.length∧r=x.cI.length - k∧(∀(i:Nat) e,i<k→x.cI[i]? =some e→jo T x.node i e=true)∧s=⟨[(2,.b6 (bY T) 0),(3,.b6 (dx x) 0),(35,gu x.cI),(36,num x.cI.length),(37,num k)],[]⟩) x.cI.length ⟨0,by omega,by omega,fun i e hi=>by omega,rfl⟩ ?_
  rintro r s ⟨k,hk,rfl,hall,rfl⟩
  refine af (.a 1 rfl<|.k [2,3,35,36,37,38] rfl)<|ak<|ag rfl (fun hy=>?_) (fun hy=>?_)
  ·have hlt:k<x.cI.length:=by have:=tt hy;omega
   obtain⟨e,hek⟩:∃a,x.cI[k]? =some a:=⟨x.cI[k],by simp[hlt]⟩
   refine ai<|ak<|aq<|aX<|av 1 rfl<|b5 (aR (k*3) rfl) rfl<|b5 (fc rfl (jJ x.cI k e hek) rfl) rfl<|av 3 rfl<|aQ [2,3,5,6,35,36,37] rfl ?_
   refine af (.a 5 rfl<|.c rfl (pz T hp1 e x.node k) rfl<|.a 1 rfl<|.k [2,3,35,36,37,48] rfl)<|dQ [] (.c 2<|.c 3<|.c 35<|.c 36<|.c 37<|.c 48 .nil) .nil rfl rfl ?_
   refine ag rfl (fun hz=>?_) (fun hz=>?_)
   ·rw[nL hek (by simpa using hz)]
    exact af (.a 1 rfl<|.k [4] rfl)<|an<|⟨_,_,ax.of rfl,ay.pure,rfl⟩
   ·have hz':jo T x.node k e=true:=by simpa using hz
    refine ai<|aF (.v (bf rfl) rfl<|.a 1 rfl<|.k [2,3,35,36,37] rfl) ?_
    refine⟨x.cI.length - (k+1),by omega,k+1,by omega,rfl,fun i e' hi he'=>?_,rfl⟩
    by_cases h:i=k
    ·subst h;rw[hek]at he';cases he';exact hz'
    ·exact hall i e' (by omega) he'
  ·have hke:k=x.cI.length:=by have:=ff hy;omega
   rw[kT fun i e hi=>hall i e (by have:=(List.getElem?_eq_some_iff.1 hi).1;omega) hi]
   exact bn<|af (.a 1 rfl<|.k [4] rfl)<|an<|⟨_,_,ax.of rfl,ay.pure,rfl⟩
end PW
end Go.Proofs.YtnegbdpggideiaaDoor
namespace Go.Proofs.YtnegbdpggideiaaDoor
namespace PW
open Go.RowKit aN Mem Net
theorem jV(T:ab)(n:Int):(cY T n).Pairwise (· < ·):=by
 unfold cY eU
 refine List.Pairwise.map _ (fun a b h=>?_) ((List.pairwise_lt_range (n:=2*T.aa.length)).filter _)
 show(a:Int)<(b:Int)
 omega
theorem kq{T:ab}{n:Int}{a:Int}:a∈cY T n↔cW T a=true∧bb T a.toNat=n:=by
 unfold cY eU
 rw[List.mem_map,bR]
 constructor
 ·rintro⟨b,hb,rfl⟩
  obtain⟨h1,h2⟩:=List.mem_filter.1 hb
  have:=List.mem_range.1 h1
  refine⟨⟨by simp,by simp;omega⟩,by simpa using h2⟩
 ·rintro⟨⟨h0,h1⟩,h2⟩
  refine⟨a.toNat,List.mem_filter.2 ⟨List.mem_range.2 (by omega),by simpa using h2⟩,by simp;omega⟩
theorem sH{T:ab}{n:Int}{L:List Int}(hs:L.Pairwise (· < ·))(hm:∀a∈L,cW T a=true∧bb T a.toNat=n):ed T n L=true:=decide_eq_true fun i hi=>by
 have h1:=hm _ (cQ (d:=0) hi)
 refine⟨h1.1,h1.2,fun h0=>?_⟩
 have:=List.pairwise_iff_getElem.1 hs (i - 1) i (by omega) hi (by omega)
 rw[List.getD_eq_getElem?_getD,List.getD_eq_getElem?_getD,List.getElem?_eq_getElem hi,List.getElem?_eq_getElem (by omega:i - 1<L.length)]
 exact this
theorem mz(T:ab)(n:Int)(p:Int→Bool):ed T n ((cY T n).filter p)=true:=sH ((jV T n).filter p) fun _ ha=>kq.1 (List.mem_filter.1 ha).1
theorem pU(T:ab)(D:List Bool)(n d:Nat):ed T n (bw T D n d)=true:=by
 unfold bw
 split
 ·exact decide_eq_true fun i hi=>by simp at hi
 ·exact mz T n _
theorem mi(T:ab)(D:List Bool)(n:Nat):bw T D n n=[]:=by unfold bw;rw[if_pos (.inl rfl)]
theorem fG{T:ab}{D:List Bool}(hv:aj T=true){n:Nat}(hn:(n:Int)<T.nodes):dc T (bS T D n)=true:=by
 unfold dc bS
 have h1:aS T (n:Int)=true:=aV.2 ⟨by omega,hn⟩
 have hN:=(aC hv).nodes
 have h2:decide (((oU T D n T.nodes.toNat).length:Int)=T.nodes)=true:=decide_eq_true (by rw[qI];omega)
 have h3:ed T n (iQ D (cY T n))=true:=mz T n _
 have h4:mU T n (oU T D n T.nodes.toNat)=true:=kT fun d e he=>by
  unfold oU at he
  rw[List.getElem?_map,Option.map_eq_some_iff]at he
  obtain⟨d',hd',rfl⟩:=he
  have hd:d'=d:=by
   have:=List.getElem?_eq_some_iff.1 hd'
   obtain⟨h,h'⟩:=this
   simpa using h'.symm
  subst hd
  unfold jo
  simp only[pU,Bool.true_and]
  by_cases hdn:d'=n
  ·subst hdn;rw[mi];simp
  ·rw[decide_eq_false (by omega)];simp
 rw[hv,h1,h2,h3,h4]
 rfl
theorem jl{T:ab}{D:List Bool}(hv:aj T=true){d x:Nat}(hd:(d:Int)<T.nodes)(hx:(x:Int)<T.nodes):(bI T D d false).getD x 0=at' (bI T D d false) (x:Int):=by
 have hl:=(eV (D:=D) hv (dir:=false) hd).1
 unfold at'
 rw[Int.toNat_natCast,List.getD_eq_getElem?_getD,List.getD_eq_getElem?_getD,List.getElem?_eq_getElem (by omega)]
 rfl
structure fJ (T:ab) (D:List Bool) (n d a:Nat):Prop where
 gh:a<2*T.aa.length
 tail:bb T a=(n:Int)
 up:bG D a=false
 ne:n≠d
 reach:0≤(bI T D d false).getD (aK T a).toNat 0
 pass:aK T a=(d:Int)∨bH T (aK T a).toNat=false
 sum:(bI T D d false).getD n 0=(bI T D d false).getD (aK T a).toNat 0+a8 T a
theorem dS{T:ab}{D:List Bool}{n d:Nat}{a:Int}(h:a∈bw T D n d):∃k:Nat,a=k∧fJ T D n d k:=by
 unfold bw at h
 split at h
 ·simp at h
 ·rename_i hne
  obtain⟨h1,h2⟩:=List.mem_filter.1 h
  obtain⟨h3,h4⟩:=kq.1 h1
  obtain⟨h5,h6⟩:=bR.1 h3
  obtain⟨k,rfl⟩:=Int.eq_ofNat_of_zero_le h5
  rw[Int.toNat_natCast]at h2 h4
  unfold lY at h2
  simp only[Bool.and_eq_true,Bool.not_eq_true',Bool.or_eq_false_iff,decide_eq_true_eq,decide_eq_false_iff_not]at h2
  obtain⟨⟨⟨g1,g2⟩,g3⟩,g4⟩:=h2
  refine⟨k,rfl,by omega,h4,g1,fun e=>hne (.inl e),by omega,?_,by omega⟩
  rcases Bool.and_eq_false_iff.1 g3 with g|g
  ·exact .inl (Classical.byContradiction (ff g))
  ·exact .inr g
theorem fB{T:ab}{D:List Bool}{n d k:Nat}(h:fJ T D n d k)(hc:1≤a8 T k):(k:Int)∈bw T D n d:=by
 have hs:=h.sum
 have hr:=h.reach
 unfold bw
 rw[if_neg (by rintro(e|e);exact h.ne e;omega)]
 refine List.mem_filter.2 ⟨kq.2 ⟨bR.2 ⟨by omega,by have:=h.gh;omega⟩,h.tail⟩,?_⟩
 unfold lY
 rw[Int.toNat_natCast]
 simp only[Bool.and_eq_true,Bool.not_eq_true',Bool.or_eq_false_iff,decide_eq_true_eq,decide_eq_false_iff_not]
 refine⟨⟨⟨h.up,by omega⟩,?_⟩,by omega⟩
 rcases h.pass with g|g
 ·rw[decide_eq_false (by simpa using g)];rfl
 ·rw[g,Bool.and_false]
theorem iL{T:ab}{D:List Bool}(hv:aj T=true){n d:Nat}(hn:(n:Int)<T.nodes)(hd:(d:Int)<T.nodes)(hne:n≠d)(h0:0≤(bI T D d false).getD n 0):∃k,fJ T D n d k:=by
 have hS:=aC hv
 have hI:=lz hS D false hd
 have e1:=jl (D:=D) hv hd hn
 rcases hI.jv n hn (by rw[←e1];exact h0)with h|⟨a,ha,hx,⟨w1,w2,w3⟩,hs⟩
 ·exact absurd h hne
 ·have hh:=hS.head a ha
  obtain⟨y,hy⟩:=Int.eq_ofNat_of_zero_le hh.1
  have e2:=jl (D:=D) hv hd (x:=y) (by omega)
  simp only[cP,bz,Bool.false_eq_true,if_false]at hx w2 w3 hs
  rw[hy]at w2 w3 hs
  refine⟨a,ha,hx,w1,hne,?_,?_,?_⟩
  ·rw[hy,Int.toNat_natCast,e2];exact w2
  ·rw[hy];exact w3
  ·rw[hy,Int.toNat_natCast,e1,e2];exact hs
theorem sw{T:ab}{D:List Bool}(hv:aj T=true){d:Nat}(hd:(d:Int)<T.nodes):(bI T D d false).getD d 0=0:=by
 rw[jl hv hd hd]
 exact(lz (aC hv) D false hd).root
end PW
end Go.Proofs.YtnegbdpggideiaaDoor
namespace Go.Proofs.YtnegbdpggideiaaDoor
namespace PW
open Go.RowKit aN Mem Net
noncomputable def dN(T:ab)(D:List Bool)(d x:Nat):Int:=(bI T D d false).getD x 0
def cz(T:ab)(p:List Int):Int:=p.foldr (fun a c=>a8 T a.toNat+c) 0
theorem eo(T:ab):cz T []=0:=rfl
theorem cU(T:ab)(a:Int)(p:List Int):cz T (a::p)=a8 T a.toNat+cz T p:=rfl
theorem cK(T:ab)(p q:List Int):cz T (p++q)=cz T p+cz T q:=by
 induction p with
 |nil=>simp[eo]
 |cons a p ih=>rw[List.cons_append,cU,cU,ih];omega
inductive SP (T:ab) (D:List Bool) (d:Nat):Nat→List Int→Prop
 |nil:SP T D d d []
 |cons {n a m:Nat} {p:List Int}:fJ T D n d a→aK T a=(m:Int)→SP T D d m p→SP T D d n ((a:Int)::p)
inductive Ch (T:ab) (D:List Bool) (d:Nat):Nat→List Int→Prop
 |nil:Ch T D d d []
 |cons {n a m:Nat} {p:List Int}:a<2*T.aa.length→bb T a=(n:Int)→bG D a=false→aK T a=(m:Int)→(p=[]∨bH T m=false)→Ch T D d m p→Ch T D d n ((a:Int)::p)
theorem kR:∀(N:Nat) (l:List Nat),l.Nodup→(∀x∈l,x<N)→l.length≤N
 |0,l,_,h=>by
  cases l with
  |nil=>simp
  |cons a l=>have:=h a (by simp);omega
 |N+1,l,hn,h=>by
  have h1:=kR N (l.erase N) (hn.erase N) (fun x hx=>by
   have h2:=(List.Nodup.mem_erase_iff hn).1 hx
   have:=h x h2.2
   have:=h2.1
   omega)
  rw[List.length_erase]at h1
  split at h1<;>omega
section
variable {T:ab} {D:List Bool} {d:Nat}
theorem cT(hv:aj T=true){a:Nat}(ha:a<2*T.aa.length):∃m:Nat,aK T a=(m:Int)∧(m:Int)<T.nodes:=by
 obtain⟨h0,h1⟩:=(aC hv).head a ha
 obtain⟨m,hm⟩:=Int.eq_ofNat_of_zero_le h0
 exact⟨m,hm,by rw[←hm];exact h1⟩
theorem gD(hv:aj T=true)(hd:(d:Int)<T.nodes):dN T D d d=0:=sw hv hd
theorem fJ.dN{n a m:Nat}(h:fJ T D n d a)(hm:aK T a=(m:Int)):0≤dN T D d m∧dN T D d n=dN T D d m+a8 T a:=by
 have h1:=h.reach
 have h2:=h.sum
 rw[hm,Int.toNat_natCast]at h1 h2
 exact⟨h1,h2⟩
theorem fJ.node(hv:aj T=true){n a:Nat}(h:fJ T D n d a):(n:Int)<T.nodes:=by rw[←h.tail];exact((aC hv).tail a h.gh).2
theorem SP.node(hv:aj T=true)(hd:(d:Int)<T.nodes){n:Nat}{p:List Int}(h:SP T D d n p):(n:Int)<T.nodes:=by
 cases h with
 |nil=>exact hd
 |cons h1 _ _=>exact h1.node hv
theorem SP.cost(hv:aj T=true)(hd:(d:Int)<T.nodes){n:Nat}{p:List Int}(h:SP T D d n p):dN T D d n=cz T p∧0≤dN T D d n:=by
 induction h with
 |nil=>rw[gD hv hd];exact⟨rfl,Int.le_refl _⟩
 |cons h1 hm _ ih=>
  obtain⟨g1,g2⟩:=h1.dN hm
  have:=(aC hv).cost _ h1.gh
  rw[cU,Int.toNat_natCast]
  omega
theorem SP.self{p:List Int}(h:SP T D d d p):p=[]:=by
 cases h with
 |nil=>rfl
 |cons h1 _ _=>exact absurd rfl h1.ne
theorem SP.len(hv:aj T=true)(hd:(d:Int)<T.nodes){n:Nat}{p:List Int}(h:SP T D d n p):(p.length:Int)≤dN T D d n:=by
 induction h with
 |nil=>rw[gD hv hd];simp
 |cons h1 hm _ ih=>
  obtain⟨g1,g2⟩:=h1.dN hm
  have:=(aC hv).cost _ h1.gh
  simp only[List.length_cons]
  omega
theorem SP.ch{n:Nat}{p:List Int}(h:SP T D d n p):Ch T D d n p:=by
 induction h with
 |nil=>exact .nil
 | @cons n a m p h1 hm hp ih=>
  refine .cons h1.gh h1.tail h1.up hm ?_ ih
  rcases h1.pass with hx|hx
  ·have:m=d:=by rw[hm]at hx;omega
   subst this
   exact .inl hp.self
  ·rw[hm,Int.toNat_natCast]at hx;exact .inr hx
theorem tI(hv:aj T=true)(hd:(d:Int)<T.nodes){n a m:Nat}(ha:a<2*T.aa.length)(ht:bb T a=(n:Int))(hu:bG D a=false)(hm:aK T a=(m:Int))(ho:m=d∨bH T m=false)(h0:0≤dN T D d m):0≤dN T D d n∧dN T D d n≤dN T D d m+a8 T a:=by
 have hS:=aC hv
 have hI:=lz hS D false hd
 have hmN:(m:Int)<T.nodes:=by rw[←hm];exact(hS.head a ha).2
 have hnN:(n:Int)<T.nodes:=by rw[←ht];exact(hS.tail a ha).2
 have e1:=jl (D:=D) hv hd hnN
 have e2:=jl (D:=D) hv hd hmN
 have:=hI.closed a ha ⟨hu,by simp only[bz,Bool.false_eq_true,if_false];rw[hm,←e2];exact h0,by
  simp only[bz,Bool.false_eq_true,if_false];rw[hm]
  rcases ho with h|h
  ·exact .inl (by rw[h])
  ·exact .inr (by simpa using h)⟩
 simp only[cP,bz,Bool.false_eq_true,if_false]at this
 rw[hm,ht,←e1,←e2]at this
 exact this
theorem Ch.node(hv:aj T=true)(hd:(d:Int)<T.nodes){n:Nat}{p:List Int}(h:Ch T D d n p):(n:Int)<T.nodes:=by
 cases h with
 |nil=>exact hd
 |cons h1 ht _ _ _ _=>rw[←ht];exact((aC hv).tail _ h1).2
theorem Ch.to{n:Nat}{p:List Int}(h:Ch T D d n p):p=[]→n=d:=by
 cases h with
 |nil=>intro _;rfl
 |cons=>intro h;cases h
theorem Ch.le(hv:aj T=true)(hd:(d:Int)<T.nodes){n:Nat}{p:List Int}(h:Ch T D d n p):0≤dN T D d n∧dN T D d n≤cz T p:=by
 induction h with
 |nil=>rw[gD hv hd];exact⟨Int.le_refl _,Int.le_refl _⟩
 | @cons n a m p ha ht hu hm ho hp ih=>
  have:=tI hv hd ha ht hu hm (by rcases ho with h|h;exact .inl (hp.to h);exact .inr h) ih.1
  rw[cU,Int.toNat_natCast]
  omega
theorem Ch.sp(hv:aj T=true)(hd:(d:Int)<T.nodes){n:Nat}{p:List Int}(h:Ch T D d n p)(hc:dN T D d n=cz T p):SP T D d n p:=by
 induction h with
 |nil=>exact .nil
 | @cons n a m p ha ht hu hm ho hp ih=>
  have ho':m=d∨bH T m=false:=by rcases ho with h|h;exact .inl (hp.to h);exact .inr h
  have h1:=hp.le hv hd
  have h2:=tI hv hd ha ht hu hm ho' h1.1
  rw[cU,Int.toNat_natCast]at hc
  have h3:=(aC hv).cost a ha
  refine .cons ⟨ha,ht,hu,?_,?_,?_,?_⟩ hm (ih (by omega))
  ·rintro rfl;rw[gD hv hd]at hc h2;omega
  ·rw[hm,Int.toNat_natCast];exact h1.1
  ·rw[hm];rcases ho' with h|h;exact .inl (by rw[h]);exact .inr (by simpa using h)
  ·rw[hm,Int.toNat_natCast];show dN T D d n=dN T D d m+a8 T a;omega
noncomputable def gg(T:ab)(D:List Bool)(d:Nat):Nat→Nat→List Int
 |0,_=>[]
 |f+1,n=>match bw T D n d with
  | []=>[]
  |a::_=>a::gg T D d f (aK T a.toNat).toNat
noncomputable def fg(T:ab)(D:List Bool)(n d:Nat):List Int:=gg T D d (dN T D d n).toNat n
theorem k9{n:Nat}(h:dN T D d n<0):bw T D n d=[]:=by unfold bw;rw[if_pos (.inr h)]
theorem oh(hv:aj T=true)(hd:(d:Int)<T.nodes):∀(f n:Nat),(n:Int)<T.nodes→0≤dN T D d n→dN T D d n≤f→SP T D d n (gg T D d f n)
 |f,n,hn,h0,hf=>by
  by_cases hne:n=d
  ·subst hne
   have:gg T D n f n=[]:=by cases f with|zero=>rfl|succ f=>simp only[gg,mi]
   rw[this];exact .nil
  ·obtain⟨k,hk⟩:=iL (D:=D) hv hn hd hne h0
   cases f with
   |zero=>
    obtain⟨m,hm,_⟩:=cT hv hk.gh
    have:=hk.dN hm
    have:=(aC hv).cost k hk.gh
    omega
   |succ f=>
    simp only[gg]
    have hmem:=fB hk ((aC hv).cost k hk.gh).1
    cases hx:bw T D n d with
    |nil=>rw[hx]at hmem;cases hmem
    |cons a l=>
     obtain⟨b,hb,hbn⟩:=dS (T:=T) (D:=D) (n:=n) (d:=d) (a:=a) (by rw[hx];simp)
     subst hb
     obtain⟨m,hm,hmN⟩:=cT hv hbn.gh
     have g:=hbn.dN hm
     have:=(aC hv).cost b hbn.gh
     simp only[Int.toNat_natCast,hm]
     exact .cons hbn hm (oh hv hd f m hmN g.1 (by omega))
theorem dK(hv:aj T=true)(hd:(d:Int)<T.nodes){n:Nat}(hn:(n:Int)<T.nodes)(h0:0≤dN T D d n):SP T D d n (fg T D n d):=oh hv hd _ n hn h0 (by omega)
noncomputable def hZ(T:ab)(D:List Bool)(d:Nat):Nat→Nat→Int
 |0,m=>if m=d then 1 else 0
 |f+1,m=>if m=d then 1 else(bw T D m d).foldl (fun c a=>min 2 (c+hZ T D d f (aK T a.toNat).toNat)) 0
noncomputable def cp(T:ab)(D:List Bool)(d m:Nat):Int:=hZ T D d (dN T D d m).toNat m
theorem foldl_congr{α β:Type}{f g:α→β→α}:∀ {l:List β} {a:α},(∀a b,b∈l→f a b=g a b)→l.foldl f a=l.foldl g a
 | [],_,_=>rfl
 |b::l,a,h=>by simp only[List.foldl_cons,h a b (by simp)];exact foldl_congr fun a c hc=>h a c (by simp[hc])
theorem gW(hv:aj T=true)(hd:(d:Int)<T.nodes):∀(K m f:Nat),(m:Int)<T.nodes→dN T D d m≤K→dN T D d m≤f→hZ T D d f m=cp T D d m
 |K,m,f,hmN,hK,hf=>by
  unfold cp
  by_cases hmd:m=d
  ·subst hmd
   cases f<;>cases(dN T D m m).toNat<;>simp[hZ]
  ·by_cases h0:dN T D d m<0
   ·have hx:=k9 h0
    rw[show(dN T D d m).toNat=0 by omega]
    cases f<;>simp[hZ,hmd,hx]
   ·obtain⟨k,hk⟩:=iL (D:=D) hv hmN hd hmd (by show 0≤dN T D d m;omega)
    have hpos:0<dN T D d m:=by
     obtain⟨m',hm',_⟩:=cT hv hk.gh
     have:=hk.dN hm'
     have:=(aC hv).cost k hk.gh
     omega
    obtain⟨g,hg⟩:∃g,(dN T D d m).toNat=g+1:=⟨(dN T D d m).toNat - 1,by omega⟩
    cases f with
    |zero=>omega
    |succ f=>
     cases K with
     |zero=>omega
     |succ K=>
      rw[hg]
      simp only[hZ,if_neg hmd]
      refine foldl_congr fun c a ha=>?_
      obtain⟨b,rfl,hbn⟩:=dS ha
      obtain⟨m',hm',hmN'⟩:=cT hv hbn.gh
      have g1:=hbn.dN hm'
      have g2:=(aC hv).cost b hbn.gh
      rw[Int.toNat_natCast,hm',Int.toNat_natCast,gW hv hd K m' f hmN' (by omega) (by omega),gW hv hd K m' g hmN' (by omega) (by omega)]
theorem kH(m:Nat):cp T D m m=1:=by unfold cp;cases(dN T D m m).toNat<;>simp[hZ]
theorem nd(hv:aj T=true)(hd:(d:Int)<T.nodes){m:Nat}(hmN:(m:Int)<T.nodes)(hmd:m≠d):cp T D d m=(bw T D m d).foldl (fun c a=>min 2 (c+cp T D d (aK T a.toNat).toNat)) 0:=by
 by_cases h0:dN T D d m<0
 ·unfold cp
  rw[k9 h0,show(dN T D d m).toNat=0 by omega]
  simp[hZ,hmd]
 ·have h1:=gW (D:=D) hv hd (dN T D d m).toNat m ((dN T D d m).toNat+1) hmN (by omega) (by omega)
  rw[←h1]
  simp only[hZ,if_neg hmd]
  refine foldl_congr fun c a ha=>?_
  obtain⟨b,rfl,hbn⟩:=dS ha
  obtain⟨m',hm',hmN'⟩:=cT hv hbn.gh
  have g1:=hbn.dN hm'
  have g2:=(aC hv).cost b hbn.gh
  rw[Int.toNat_natCast,hm',Int.toNat_natCast,gW hv hd (dN T D d m).toNat m' _ hmN' (by omega) (by omega)]
theorem qz(hv:aj T=true)(hd:(d:Int)<T.nodes){m:Nat}(hmN:(m:Int)<T.nodes)(h0:dN T D d m<0):cp T D d m=0:=by
 have hmd:m≠d:=by rintro rfl;rw[gD hv hd]at h0;omega
 rw[nd hv hd hmN hmd,k9 h0];rfl
theorem kp(g:Int→Int)(hg:∀a,0≤g a):∀(l:List Int) (c:Int),0≤c→c≤2→0≤l.foldl (fun c a=>min 2 (c+g a)) c∧l.foldl (fun c a=>min 2 (c+g a)) c≤2
 | [],c,h0,h2=>⟨h0,h2⟩
 |a::l,c,h0,h2=>by
  have:=hg a
  exact kp g hg l _ (show 0≤min 2 (c+g a) by omega) (show min 2 (c+g a)≤2 by omega)
theorem kC(g:Int→Int)(hg:∀a,0≤g a):∀(l:List Int) (c:Int),c≤2→c≤l.foldl (fun c a=>min 2 (c+g a)) c
 | [],c,_=>Int.le_refl _
 |a::l,c,h2=>by
  have:=hg a
  have:=kC g hg l (min 2 (c+g a)) (by omega)
  simp only[List.foldl_cons]
  omega
theorem lV(hv:aj T=true)(hd:(d:Int)<T.nodes):∀(f m:Nat),0≤hZ T D d f m∧hZ T D d f m≤2
 |0,m=>by simp only[hZ];split<;>omega
 |f+1,m=>by
  simp only[hZ]
  split
  ·omega
  ·exact kp (fun a=>hZ T D d f (aK T a.toNat).toNat) (fun a=>(lV hv hd f _).1) _ 0 (by omega) (by omega)
theorem ln(hv:aj T=true)(hd:(d:Int)<T.nodes)(m:Nat):0≤cp T D d m∧cp T D d m≤2:=lV hv hd _ m
theorem qh(hv:aj T=true)(hd:(d:Int)<T.nodes):∀(K m:Nat),(m:Int)<T.nodes→0≤dN T D d m→dN T D d m≤K→1≤cp T D d m
 |K,m,hmN,h0,hK=>by
  by_cases hmd:m=d
  ·subst hmd;rw[kH];omega
  ·obtain⟨k,hk⟩:=iL (D:=D) hv hmN hd hmd h0
   have hmem:=fB hk ((aC hv).cost k hk.gh).1
   obtain⟨m',hm',hmN'⟩:=cT hv hk.gh
   have g1:=hk.dN hm'
   have g2:=(aC hv).cost k hk.gh
   cases K with
   |zero=>omega
   |succ K=>
    have hp:=qh hv hd K m' hmN' g1.1 (by omega)
    rw[nd hv hd hmN hmd]
    obtain⟨l1,l2,hl⟩:=List.append_of_mem hmem
    rw[hl,List.foldl_append,List.foldl_cons]
    have hg:∀a:Int,0≤cp T D d (aK T a.toNat).toNat:=fun a=>(ln hv hd _).1
    have a1:=kp (fun a=>cp T D d (aK T a.toNat).toNat) hg l1 0 (by omega) (by omega)
    have a2:=kC (fun a=>cp T D d (aK T a.toNat).toNat) hg l2 (min 2 (l1.foldl (fun c a=>min 2 (c+cp T D d (aK T a.toNat).toNat)) 0+cp T D d (aK T (k:Int).toNat).toNat)) (by omega)
    rw[Int.toNat_natCast,hm',Int.toNat_natCast]at a2
    rw[Int.toNat_natCast,hm',Int.toNat_natCast]
    omega
theorem qO(hv:aj T=true)(hd:(d:Int)<T.nodes){m:Nat}(hmN:(m:Int)<T.nodes)(hmd:m≠d)(h:cp T D d m=1):∃a:Nat,bw T D m d=[(a:Int)]∧fJ T D m d a∧∀k:Nat,aK T a=(k:Int)→cp T D d k=1:=by
 rw[nd hv hd hmN hmd]at h
 have hg:∀a:Int,0≤cp T D d (aK T a.toNat).toNat:=fun a=>(ln hv hd _).1
 have hone:∀a∈bw T D m d,1≤cp T D d (aK T a.toNat).toNat:=fun a ha=>by
  obtain⟨b,rfl,hb⟩:=dS ha
  obtain⟨m',hm',hmN'⟩:=cT hv hb.gh
  have g1:=hb.dN hm'
  rw[Int.toNat_natCast,hm',Int.toNat_natCast]
  exact qh hv hd (dN T D d m').toNat m' hmN' g1.1 (by omega)
 cases hx:bw T D m d with
 |nil=>rw[hx]at h;simp at h
 |cons a l=>
  obtain⟨b,rfl,hb⟩:=dS (T:=T) (D:=D) (n:=m) (d:=d) (a:=a) (by rw[hx];simp)
  have h1:=hone b (by rw[hx];simp)
  rw[hx,List.foldl_cons]at h
  cases l with
  |nil=>
   refine⟨b,rfl,hb,fun k hk=>?_⟩
   simp only[List.foldl_nil,Int.toNat_natCast,hk]at h h1
   omega
  |cons a2 l=>
   have h2:=hone a2 (by rw[hx];simp)
   rw[List.foldl_cons]at h
   have:=kC (fun a=>cp T D d (aK T a.toNat).toNat) hg l (min 2 (min 2 (0+cp T D d (aK T (b:Int).toNat).toNat)+cp T D d (aK T a2.toNat).toNat)) (by omega)
   omega
theorem o7(hv:aj T=true)(hd:(d:Int)<T.nodes){m a k:Nat}(hmN:(m:Int)<T.nodes)(hmd:m≠d)(hx:bw T D m d=[(a:Int)])(hk:aK T a=(k:Int))(h:cp T D d k=1):cp T D d m=1:=by
 rw[nd hv hd hmN hmd,hx]
 simp only[List.foldl_cons,List.foldl_nil,Int.toNat_natCast,hk,h]
 omega
theorem SP.unique(hv:aj T=true)(hd:(d:Int)<T.nodes){n:Nat}{p q:List Int}(h:SP T D d n p)(hq:SP T D d n q)(hc:cp T D d n=1):p=q:=by
 induction h generalizing q with
 |nil=>exact hq.self.symm
 | @cons n a m p h1 hm hp ih=>
  cases hq with
  |nil=>exact absurd rfl h1.ne
  | @cons _ a' m' q h1' hm' hq=>
   obtain⟨b,hb,_,hb2⟩:=qO hv hd (h1.node hv) h1.ne hc
   have e1:=fB h1 ((aC hv).cost a h1.gh).1
   have e2:=fB h1' ((aC hv).cost a' h1'.gh).1
   rw[hb]at e1 e2
   simp only[List.mem_singleton]at e1 e2
   have ea:a=b:=by omega
   have ea':a'=b:=by omega
   subst ea
   subst ea'
   have em:m=m':=by rw[hm]at hm';omega
   subst em
   rw[ih hq (hb2 m hm)]
noncomputable def fP(T:ab)(D:List Bool)(n d:Int):Bool:=decide (cA T D n d=0)&&decide (cp T D d.toNat n.toNat=1)
theorem SP.wD(hv:aj T=true)(hd:(d:Int)<T.nodes){n:Nat}{p:List Int}(h:SP T D d n p):(p.length:Int)<T.nodes:=by
 have key:∃l:List Nat,l.length=p.length+1∧l.Nodup∧(∀x∈l,(x:Int)<T.nodes∧dN T D d x≤dN T D d n):=by
  induction h with
  |nil=>exact⟨[d],rfl,by simp,fun x hx=>by simp at hx;subst hx;exact⟨hd,Int.le_refl _⟩⟩
  | @cons n a m p h1 hm hp ih=>
   obtain⟨l,e1,e2,e3⟩:=ih
   have g1:=h1.dN hm
   have g2:=(aC hv).cost a h1.gh
   refine⟨n::l,by simp[e1],List.nodup_cons.2 ⟨fun hn=>by have:=(e3 n hn).2;omega,e2⟩,fun x hx=>?_⟩
   cases hx with
   |head=>exact⟨h1.node hv,Int.le_refl _⟩
   |tail _ hx=>have:=e3 x hx;exact⟨this.1,by omega⟩
 obtain⟨l,e1,e2,e3⟩:=key
 have hN:=(aC hv).nodes
 have:=kR T.nodes.toNat l e2 (fun x hx=>by have:=(e3 x hx).1;omega)
 omega
end
end PW
end Go.Proofs.YtnegbdpggideiaaDoor
namespace Go.Proofs.YtnegbdpggideiaaDoor
namespace PW
open Go.RowKit aN Mem Net
def bW(T:ab):Bool→Int→List Int→Int
 |_,_,[]=>0
 |f,n,a::l=>if cW T a=false then 2 else if bb T a.toNat≠n∨(f=false∧bH T n.toNat=true) then 4 else bW T false (aK T a.toNat) l
def eD(T:ab)(n:Int)(l:List Int):Int:=if aj T then(if aS T n then bW T true n l else 2) else 1
def bg(T:ab):Int→List Int→Int
 |n,[]=>n
 |_,a::l=>bg T (aK T a.toNat) l
def iK(T:ab)(n:Int)(l:List Int):PV:=.tuple [num (if eD T n l=0 then bg T n l else 0),num (if eD T n l=0 then cz T l else 0),num (eD T n l)]
theorem eY(T:ab):∀(n:Int) (l m:List Int),bg T n (l++m)=bg T (bg T n l) m
 |_,[],_=>rfl
 |_,a::l,m=>eY T _ l m
theorem drop_cons(l:List Int)(k:Nat)(h:k<l.length):l.drop k=l.getD k 0::l.drop (k+1):=by
 rw[List.drop_eq_getElem_cons h,List.getD_eq_getElem?_getD,List.getElem?_eq_getElem h];rfl
theorem er(T:ab)(n:Int)(l:List Int)(k:Nat)(h:k<l.length):bg T n (l.take (k+1))=aK T (l.getD k 0).toNat:=by
 rw[fv l k 0 h,eY];rfl
theorem px(T:ab)(l:List Int)(k:Nat)(h:k<l.length):cz T (l.take (k+1))=cz T (l.take k)+a8 T (l.getD k 0).toNat:=by
 rw[fv l k 0 h,cK];simp[cU,eo]
theorem ju{T:ab}{f:Bool}{n a:Int}{l:List Int}(h1:cW T a=true)(h2:bb T a.toNat=n)(h3:f=true∨bH T n.toNat=false):bW T f n (a::l)=bW T false (aK T a.toNat) l:=by
 simp only[bW]
 rw[if_neg (by rw[h1];simp),if_neg]
 rintro(h|⟨h,h'⟩)
 ·exact h h2
 ·rcases h3 with h3|h3
  ·rw[h3]at h;cases h
  ·rw[h3]at h';cases h'
theorem uh{T:ab}{f:Bool}{n a:Int}{l:List Int}(h1:cW T a=true)(h2:bb T a.toNat≠n∨(f=false∧bH T n.toNat=true)):bW T f n (a::l)=4:=by
 simp only[bW]
 rw[if_neg (by rw[h1];simp),if_pos h2]
theorem xm(T:ab)(hl:T.aa.length≤4611686018427387902)(a:Int)(h:cW T a=true):Can Tryd.prog 36 [a6 T,num a] (· =num (aK T a.toNat)):=by
 obtain⟨h0,h1⟩:=bR.1 h
 obtain⟨a,rfl⟩:=Int.eq_ofNat_of_zero_le h0
 exact iX T a (by omega) hl
theorem pF(T:ab)(hv:aj T=true)(a:Int)(h:cW T a=true):Can Tryd.prog 43 [a6 T,num a] (· =num (bb T a.toNat)):=by
 obtain⟨h0,h1⟩:=bR.1 h
 obtain⟨a,rfl⟩:=Int.eq_ofNat_of_zero_le h0
 exact kM T hv a (by omega)
theorem oQ(T:ab)(hv:aj T=true)(a:Int)(h:cW T a=true):Can Tryd.prog 46 [a6 T,num a] (· =num (aK T a.toNat)):=by
 obtain⟨h0,h1⟩:=bR.1 h
 obtain⟨a,rfl⟩:=Int.eq_ofNat_of_zero_le h0
 exact lD T hv a (by omega)
theorem pA(T:ab)(hv:aj T=true)(a:Int)(h:cW T a=true):Can Tryd.prog 45 [a6 T,num a] (· =num (a8 T a.toNat)):=by
 obtain⟨h0,h1⟩:=bR.1 h
 obtain⟨a,rfl⟩:=Int.eq_ofNat_of_zero_le h0
 exact iy T hv a (by omega)
theorem jL{T:ab}(hv:aj T=true){a:Int}(h:cW T a=true):(1≤a8 T a.toNat∧a8 T a.toNat≤65535)∧∃m:Nat,aK T a.toNat=(m:Int)∧(m:Int)<T.nodes:=by
 obtain⟨h0,h1⟩:=bR.1 h
 have hl:a.toNat<2*T.aa.length:=by omega
 exact⟨(aC hv).cost _ hl,cT hv hl⟩
theorem r5(T:ab)(n:Int)(l:List Int)(hl:l.length≤1000000):Can Tryd.prog 17 [a6 T,num n,aJ l] (· =iK T n l):=by
 obtain⟨g1,hg1⟩:∃q,decide (n<0)=q:=⟨_,rfl⟩
 obtain⟨g2,hg2⟩:∃q,decide (T.nodes≤n)=q:=⟨_,rfl⟩
 have hnb:aS T n= !(g1||g2):=by rw[←hg1,←hg2,←Bool.decide_or,←decide_not];unfold aS;exact decide_eq_decide.2 (by omega)
 refine aI Tryd.func17 rfl Tryd.ntmps17 rfl<|af (.a 4 rfl<|.k [1,2,3] rfl)<|ak<|af (.a 1 rfl<|.c rfl (eI T) rfl<|.a 1 rfl<|.k [1,2,3,13] rfl)<|ag rfl (fun hc=>?_) (fun hc=>?_)
 ·have hv:aj T=false:=by simpa using hc
  have hX:eD T n l=1:=by unfold eD;rw[hv];rfl
  unfold iK
  rw[hX]
  exact af (.a 3 rfl<|.k [6,7,8] rfl)<|an<|⟨_,_,ax.of rfl,ay.pure,rfl⟩
 ·have hv:aj T=true:=by simpa using hc
  have hll:=bL hv
  refine ai<|ak<|aY 21 (.raw (.bool (g1||g2))) [1,2,3] rfl ?_ ?_
  ·refine .a 1 rfl<|.v (bT rfl (hg1)) rfl<|.a 1 rfl<|?_
   cases g1
   ·exact .a 3 rfl<|.v (bT rfl (hg2)) rfl<|.a 1 rfl<|.k [21,1,2,3] rfl
   ·exact .a 5 rfl<|.k [21,1,2,3] rfl
  refine ag rfl (fun hc=>?_) (fun hc=>?_)
  ·have hn:aS T n=false:=by rw[hnb,hc];rfl
   have hX:eD T n l=2:=by unfold eD;rw[hv,hn];rfl
   unfold iK
   rw[hX]
   exact af (.a 3 rfl<|.k [6,7,8] rfl)<|an<|⟨_,_,ax.of rfl,ay.pure,rfl⟩
  ·have hn:aS T n=true:=by rw[hnb,hc];rfl
   have hX:eD T n l=bW T true n l:=by unfold eD;rw[hv,hn];rfl
   obtain⟨hn0,hn1⟩:=aV.1 hn
   clear hnb hg1 hg2 hc
   obtain⟨n,rfl⟩:=Int.eq_ofNat_of_zero_le hn0
   refine ai<|af (.a 1 rfl<|.k [1,2,3,9] rfl)<|ak<|af (.a 1 rfl<|.k [1,2,3,9,10] rfl)<|aq<|iC [1,2,3,9,10] rfl<|bu (fun r s=>∃(k x:Nat),k≤l.length∧r=l.length - k∧bg T n (l.take k)=(x:Int)∧(x:Int)<T.nodes∧0≤cz T (l.take k)∧cz T (l.take k)≤65535*(k:Int)∧bW T true n l=bW T (decide (k=0)) x (l.drop k)∧s=⟨[(1,num x),(2,aJ l),(3,.b6 (bY T) 0),(9,num (cz T (l.take k))),(10,num k)],[]⟩) l.length ⟨0,n,by omega,by omega,rfl,hn1,by simp[eo],by simp[eo],rfl,rfl⟩ ?_
   rintro r s ⟨k,x,hk,rfl,hx,hxN,hc0,hc1,hw,rfl⟩
   refine ak<|af (.a 4 rfl<|.k [1,2,3,9,10,25] rfl)<|ag rfl (fun hy=>?_) (fun hy=>?_)
   ·have hlt:k<l.length:=by have:=tt hy;omega
    rw[drop_cons l k hlt]at hw
    obtain⟨p1,hp1⟩:∃q,decide (l.getD k 0<0)=q:=⟨_,rfl⟩
    obtain⟨p5,hp5⟩:∃q,decide (2*(T.aa.length:Int)≤l.getD k 0)=q:=⟨_,rfl⟩
    refine ai<|ak<|aq<|ak<|lB mixed (by kernel_rfl) 41 (.raw (.bool (p1||p5))) [1,2,3,9,10] rfl ?_ ?_
    ·refine .a 2 rfl<|.v [28,29] (aR (k) rfl) rfl rfl<|.v [30] (aO rfl (au l k hlt)) rfl rfl<|.v [31] (bT rfl (hp1)) rfl rfl<|.a 1 rfl<|?_
     cases p1
     ·exact .a 2 rfl<|.v [34,35] (aR (k) rfl) rfl rfl<|.v [36] (aO rfl (au l k hlt)) rfl rfl<|.a 1 rfl<|.v [38] (kb rfl (gL T hv)) rfl rfl<|.v [37,39] (bT rfl (hp5)) rfl rfl<|.a 1 rfl<|.k [41,1,2,3,9,10] rfl
     ·exact .a 8 rfl<|.k [41,1,2,3,9,10] rfl
    refine ag rfl (fun hz=>?_) (fun hz=>?_)
    ·have hna:=iN hp1 hp5 hz
     have hw2:bW T true n l=2:=by rw[hw];simp only[bW];rw[if_pos (by unfold cW;exact decide_eq_false hna)]
     unfold iK
     rw[hX,hw2]
     exact af (.a 3 rfl<|.k [6,7,8] rfl)<|an<|⟨_,_,ax.of rfl,ay.pure,rfl⟩
    ·have hpa:cW T (l.getD k 0)=true:=bR.2 (gU hp1 hp5 hz)
     obtain⟨⟨hco0,hco1⟩,y,hyh,hyN⟩:=jL hv hpa
     have hsN:=er T n l k hlt
     have hsC:=px T l k hlt
     obtain⟨p2,hp2⟩:∃q,decide (bb T (l.getD k 0).toNat≠(x:Int))=q:=⟨_,rfl⟩
     obtain⟨p3,hp3⟩:∃q,decide (0<(k:Int))=q:=⟨_,rfl⟩
     obtain⟨p4,hp4⟩:∃q,bH T x=q:=⟨_,rfl⟩
     refine ai<|ak<|lB mixed (by kernel_rfl) 58 (.raw (.bool (p2||(p3&&p4)))) [2,3,9,10] rfl ?_ ?_
     ·refine .a 3 rfl<|.v [43,44] (aR (k) rfl) rfl rfl<|.v [45] (aO rfl (au l k hlt)) rfl rfl<|.v [42,46] (kb rfl (pF T hv _ hpa)) rfl rfl<|.a 1 rfl<|.v [47,48] (bT rfl (hp2)) rfl rfl<|.a 1 rfl<|?_
      cases p2
      ·refine .a 1 rfl<|.v [51] (bT rfl (hp3)) rfl rfl<|.a 1 rfl<|?_
       cases p3
       ·exact .a 5 rfl<|.k [58,2,3,9,10] rfl
       ·exact .a 2 rfl<|.v [54,55] (kb rfl (hp4▸mE T hv x)) rfl rfl<|.a 2 rfl<|.k [58,2,3,9,10] rfl
      ·exact .a 8 rfl<|.k [58,2,3,9,10] rfl
     refine ag rfl (fun hb=>?_) (fun hb=>?_)
     ·have hw4:bW T true n l=4:=by
       rw[hw]
       refine uh hpa ?_
       rcases Bool.or_eq_true_iff.1 hb with h|h
       ·rw[h]at hp2;exact .inl (tt hp2)
       ·obtain⟨h3,h4⟩:=Bool.and_eq_true_iff.1 h
        rw[h3]at hp3
        rw[h4]at hp4
        exact .inr ⟨decide_eq_false (by have:=tt hp3;omega),by rw[Int.toNat_natCast];exact hp4⟩
      unfold iK
      rw[hX,hw4]
      exact af (.a 3 rfl<|.k [6,7,8] rfl)<|an<|⟨_,_,ax.of rfl,ay.pure,rfl⟩
     ·obtain⟨b2,b3⟩:=Bool.or_eq_false_iff.1 hb
      rw[b2]at hp2
      have ht:bb T (l.getD k 0).toNat=(x:Int):=Classical.byContradiction (ff hp2)
      have hws:=ju (T:=T) (f:=decide (k=0)) (n:=(x:Int)) (l:=l.drop (k+1)) hpa ht (by
       rcases Bool.and_eq_false_iff.1 b3 with h|h
       ·rw[h]at hp3;exact .inl (decide_eq_true (by have:=ff hp3;omega))
       ·rw[h]at hp4;exact .inr (by rw[Int.toNat_natCast];exact hp4))
      rw[hws,hyh]at hw
      have hh:=oQ T hv _ hpa
      rw[hyh]at hh
      refine ai<|fY mixed (by kernel_rfl) (.a 4 rfl<|.v [61,62] (aR (k) rfl) rfl rfl<|.v [63] (aO rfl (au l k hlt)) rfl rfl<|.v [60,64] (kb rfl (pA T hv _ hpa)) rfl rfl<|.v [59,65] (bf rfl (hc:=hsC.symm) (hn:=by unfold In64;omega)) rfl rfl<|.a 1 rfl<|.k [2,3,9,10] rfl) ?_
      refine xw mixed (by kernel_rfl) (.a 3 rfl<|.v [68,69] (aR (k) rfl) rfl rfl<|.v [70] (aO rfl (au l k hlt)) rfl rfl<|.v [67,71] (kb rfl (hh)) rfl rfl<|.a 1 rfl<|.k [1,2,3,9,10] rfl) ?_
      refine aF (.a 1 rfl<|.v (bf rfl) rfl<|.a 1 rfl<|.k [1,2,3,9,10] rfl) ?_
      exact⟨l.length - (k+1),by omega,k+1,y,by omega,rfl,by rw[hsN,hyh],hyN,by omega,by omega,by rw[hw];rfl,rfl⟩
   ·have hke:k=l.length:=by have:=ff hy;omega
    subst hke
    rw[List.drop_length]at hw
    rw[List.take_length]at hx ⊢
    unfold iK
    rw[hX,hw]
    simp only[bW,if_true]
    rw[hx]
    exact bn<|af (.a 5 rfl<|.k [6,7,8] rfl)<|an<|⟨_,_,ax.of rfl,ay.pure,rfl⟩
end PW
end Go.Proofs.YtnegbdpggideiaaDoor
namespace Go.Proofs.YtnegbdpggideiaaDoor
namespace PW
open Go.RowKit aN Mem Net
end PW
end Go.Proofs.YtnegbdpggideiaaDoor
namespace Go.Proofs.YtnegbdpggideiaaDoor
namespace PW
open Go.RowKit aN Mem Net
noncomputable def wa(T:ab)(D:List Bool)(s d:Int):Int:=if cA T D s d=0 then(if dN T D d.toNat s.toNat<0 then 11 else 0) else cA T D s d
theorem nC(T:ab)(D:List Bool)(m d:Nat):(bw T D m d).Pairwise (· < ·):=by
 unfold bw
 split
 ·exact List.Pairwise.nil
 ·exact(jV T m).filter _
end PW
end Go.Proofs.YtnegbdpggideiaaDoor
namespace Go.Proofs.YtnegbdpggideiaaDoor
namespace PW
open Go.RowKit aN Mem Net
section
variable {P:Program} {σ:bp} {t:a7} {o:Oper}
theorem tp{src dst:TypeId}{x:Operand}{k k':IntKind}{a c:Int}{ty:TypeDesc}(ho:o.op= .convert src dst x)(hs:P.underlying src=some ty)(hd:P.underlying dst=some (.int k'))(hx:ah t x=some (.raw (.int k a)))(hc:k'.wrap a=c):aA P σ t o (.raw (.int k' c)):=by
 intro F base E ρ w hρ _ hT
 have h1:=ae hρ hT hx
 generalize hz:ρ x=z at h1
 cases h1
 have h2:(convert src dst (.int k a)).run P w= .ok (.int k' c) w:=by
  simp[convert,Sem.run_bind,run_underlying hs,run_underlying hd,Conv.intToInt,hc]
 simp only[execOp,ho,hz,Sem.run_bind,h2]
 exact aB (.raw _)
end
def gf(a b:Int):Int:=if a<b then -1 else if b<a then 1 else 0
def rG(L:List Int)(x y:Int):Prop:=L.getD y.toNat 0<L.getD x.toNat 0∨(L.getD y.toNat 0=L.getD x.toNat 0∧x≤y)
theorem sB{L:List Int}{x y z:Int}(h:rG L x y)(k:rG L y z):rG L x z:=by unfold rG at*;omega
theorem wN(L:List Int){x y:Int}(h:¬rG L x y):rG L y x:=by unfold rG at*;omega
def wK(L ys:List Int)(i j:Nat):Prop:=∀p q,p<q→q≤i→q≠j→rG L (ys.getD p 0) (ys.getD q 0)
def yP(L ys:List Int)(i:Nat):Prop:=∀p q,p<q→q<i→rG L (ys.getD p 0) (ys.getD q 0)
theorem wK.yH{L ys:List Int}{i:Nat}(h:wK L ys i 0):yP L ys (i+1):=fun p q h1 h2=>h p q h1 (by omega) (by omega)
theorem wK.done{L ys:List Int}{i j:Nat}(h:wK L ys i j)(hb:rG L (ys.getD (j - 1) 0) (ys.getD j 0)):yP L ys (i+1):=fun p q h1 h2=>by
 by_cases hq:q=j
 ·subst hq
  by_cases hp:p=q - 1
  ·rw[hp];exact hb
  ·exact sB (h p (q - 1) (by omega) (by omega) (by omega)) hb
 ·exact h p q h1 (by omega) hq
theorem wK.swap{L ys:List Int}{i j:Nat}(h:wK L ys i j)(h0:0<j)(hj:j≤i)(hi:i<ys.length)(hb:¬rG L (ys.getD (j - 1) 0) (ys.getD j 0)):wK L (Heap.cu ys j (j - 1)) i (j - 1):=fun p q h1 h2 h3=>by
 rw[Heap.b8 ys j (j - 1) p (by omega) (by omega),Heap.b8 ys j (j - 1) q (by omega) (by omega),if_neg h3]
 by_cases hq:q=j
 ·rw[if_pos hq]
  by_cases hp:p=j - 1
  ·rw[if_pos hp];exact wN L hb
  ·rw[if_neg hp,if_neg (by omega)];exact h p (j - 1) (by omega) (by omega) (by omega)
 ·rw[if_neg hq]
  by_cases hp:p=j - 1
  ·rw[if_pos hp];exact h j q (by omega) h2 hq
  ·rw[if_neg hp]
   by_cases hp2:p=j
   ·rw[if_pos hp2];exact h (j - 1) q (by omega) h2 hq
   ·rw[if_neg hp2];exact h p q h1 h2 hq
def sD(L:List Int)(i:Nat):List Int:=((List.range i).filter fun k=>decide (0≤L.getD k 0)).map Int.ofNat
theorem ur{L:List Int}{i:Nat}{x:Int}:x∈sD L i↔∃k:Nat,x=(k:Int)∧k<i∧0≤L.getD k 0:=by
 unfold sD
 simp only[List.mem_map,List.mem_filter,List.mem_range,decide_eq_true_eq]
 constructor
 ·rintro⟨k,⟨h1,h2⟩,rfl⟩;exact⟨k,rfl,h1,h2⟩
 ·rintro⟨k,rfl,h1,h2⟩;exact⟨k,⟨h1,h2⟩,rfl⟩
theorem pC(L:List Int)(i:Nat):(sD L i).Nodup:=by
 unfold sD
 have h1:(List.range i).Pairwise (· ≠ ·):=List.nodup_range
 refine List.Pairwise.map Int.ofNat (fun a b h e=>h (by cases e;rfl)) (h1.filter _)
end PW
end Go.Proofs.YtnegbdpggideiaaDoor
namespace Go.Proofs.YtnegbdpggideiaaDoor
namespace PW
open Go.RowKit aN Mem
structure ir (P:Program) (kt:TypeId) {κ:Type} [DecidableEq κ] (enc:κ→Value):Prop where
 rl:∀e a w,(Instr.checkKey e 10000 kt (enc a)).run P w= .ok () w
 eql:∀a b w,(Op.equal kt (enc a) (enc b)).run P w= .ok (decide (a=b)) w
 now:∃d,P.underlying kt=some d∧((∀a b,Instr.sameNow d (enc a) (enc b)=some (decide (a=b)))∨∀a b,Instr.sameNow d (enc a) (enc b)=none)
 bits:∀a,Instr.sameBits 10000 (enc a) (enc a)=true
section
variable {P:Program} {kt:TypeId} {κ:Type} [DecidableEq κ] {enc:κ→Value}
def da(k:κ):List κ→Nat→Option Nat
 | [],_=>none
 |a::l,i=>if k=a then some i else da k l (i+1)
theorem ez{k:κ}:∀ {l:List κ} {i j:Nat},da k l i=some j→i≤j∧l[j - i]? =some k
 | [],i,j,h=>by cases h
 |a::l,i,j,h=>by
  simp only[da]at h
  split at h
  ·rename_i he;cases h;subst he;simp
  ·obtain⟨h1,h2⟩:=ez h
   refine⟨by omega,?_⟩
   rw[show j - i=(j - (i+1))+1 by omega]
   simpa using h2
theorem oD{d:TypeDesc}(hn:∀a b,Instr.sameNow d (enc a) (enc b)=some (decide (a=b)))(k:κ):∀(ks:List κ) (es:List MapEntry) (i:Nat),es.map (·.key)=ks.map enc→
  Instr.findNow d (enc k) es i=some ((da k ks i).bind fun j=>(es[j - i]?).map fun e=>(j,e.val))
 | [],[],i,_=>rfl
 | [],_::_,i,h=>by simp at h
 |_::_,[],i,h=>by simp at h
 |a::ks,e::es,i,h=>by
  simp only[List.map_cons,List.cons.injEq]at h
  simp only[Instr.findNow,h.1,hn,da]
  by_cases hk:k=a
  ·rw[decide_eq_true hk,if_pos hk];simp
  ·rw[decide_eq_false hk,if_neg hk]
   simp only[oD hn k ks es (i+1) h.2]
   congr 1
   cases hf:da k ks (i+1)with
   |none=>rfl
   |some j=>
    obtain⟨h1,_⟩:=ez hf
    simp only[Option.bind_some]
    rw[show j - i=(j - (i+1))+1 by omega]
    simp
theorem oI(hk:ir P kt enc)(k:κ)(w:World):∀(ks:List κ) (es:List MapEntry) (i:Nat),es.map (·.key)=ks.map enc→
  (Instr.findAsking kt (enc k) es i).run P w= .ok ((da k ks i).bind fun j=>(es[j - i]?).map fun e=>(j,e.val)) w
 | [],[],i,_=>rfl
 | [],_::_,i,h=>by simp at h
 |_::_,[],i,h=>by simp at h
 |a::ks,e::es,i,h=>by
  simp only[List.map_cons,List.cons.injEq]at h
  simp only[Instr.findAsking,Sem.run_bind,h.1,hk.eql,Result.andThen_ok,da]
  by_cases hka:k=a
  ·rw[if_pos (by simpa using hka),if_pos hka];simp
  ·rw[if_neg (by simpa using hka),if_neg hka,oI hk k w ks es (i+1) h.2]
   congr 1
   cases hf:da k ks (i+1)with
   |none=>rfl
   |some j=>
    obtain⟨h1,_⟩:=ez hf
    simp only[Option.bind_some]
    rw[show j - i=(j - (i+1))+1 by omega]
    simp
theorem oA(hk:ir P kt enc)(k:κ)(w:World)(ks:List κ)(es:List MapEntry)(h:es.map (·.key)=ks.map enc):(Instr.findKey kt (enc k) es).run P w= .ok ((da k ks 0).bind fun j=>(es[j]?).map fun e=>(j,e.val)) w:=by
 obtain⟨d,hd,hn|hn⟩:=hk.now
 ·have:=oD hn k ks es 0 h
  simp only[Instr.findKey,Sem.run_bind,run_underlying hd,Result.andThen_ok,this]
  simp
 ·have ha:=oI hk k w ks es 0 h
  simp only[Instr.findKey,Sem.run_bind,run_underlying hd,Result.andThen_ok]
  cases es with
  |nil=>
   have:ks=[]:=by cases ks with|nil=>rfl|cons=>simp at h
   subst this
   rfl
  |cons e es=>
   cases ks with
   |nil=>simp at h
   |cons a ks=>
    simp only[List.map_cons,List.cons.injEq]at h
    have h0:Instr.findNow d (enc k) (e::es) 0=none:=by simp only[Instr.findNow,h.1,hn]
    rw[h0]
    simpa using ha
def cG(enc:κ→Value)(l:List (κ×PV)):List (Value×PV):=l.map fun x=>(enc x.1,x.2)
def fj(k:κ):List (κ×PV)→Option PV
 | []=>none
 |(a,p)::l=>if k=a then some p else fj k l
def fp(k:κ)(p:PV):List (κ×PV)→List (κ×PV)
 | []=>[(k,p)]
 |(a,q)::l=>if k=a then(a,p)::l else(a,q)::fp k p l
theorem oN{k:κ}{l:List (κ×PV)}:fj k l=(da k (l.map (·.1)) 0).bind fun j=>(l[j]?).map (·.2):=by
 suffices h:∀(i:Nat),fj k l=(da k (l.map (·.1)) i).bind fun j=>(l[j - i]?).map (·.2) by simpa using h 0
 induction l with
 |nil=>intro i;rfl
 |cons x l ih=>
  intro i
  obtain⟨a,p⟩:=x
  simp only[fj,List.map_cons,da]
  split
  ·simp
  ·rw[ih (i+1)]
   cases hf:da k (l.map (·.1)) (i+1)with
   |none=>rfl
   |some j=>
    obtain⟨h1,_⟩:=ez hf
    simp only[Option.bind_some]
    rw[show j - i=(j - (i+1))+1 by omega]
    simp
theorem rq{k:κ}{p:PV}{l:List (κ×PV)}:fp k p l=match da k (l.map (·.1)) 0 with|some j=>l.set j (k,p)|none=>l++[(k,p)]:=by
 suffices h:∀(i:Nat),fp k p l=match da k (l.map (·.1)) i with|some j=>l.set (j - i) (k,p)|none=>l++[(k,p)] by simpa using h 0
 induction l with
 |nil=>intro i;rfl
 |cons x l ih=>
  intro i
  obtain⟨a,q⟩:=x
  simp only[fp,List.map_cons,da]
  split
  ·rename_i he;subst he;simp
  ·rw[ih (i+1)]
   cases hf:da k (l.map (·.1)) (i+1)with
   |none=>rfl
   |some j=>
    obtain⟨h1,_⟩:=ez hf
    simp only
    rw[show j - i=(j - (i+1))+1 by omega]
    simp
theorem kW{k:κ}{p:PV}{l:List (κ×PV)}{x:κ×PV}(h:x∈fp k p l):x=(k,p)∨x∈l:=by
 induction l with
 |nil=>simpa[fp]using h
 |cons y l ih=>
  obtain⟨a,q⟩:=y
  simp only[fp]at h
  split at h
  ·rename_i he
   subst he
   cases h with
   |head=>exact .inl rfl
   |tail _ h=>exact .inr (List.mem_cons_of_mem _ h)
  ·cases h with
   |head=>exact .inr (List.mem_cons_self ..)
   |tail _ h=>
    rcases ih h with h|h
    ·exact .inl h
    ·exact .inr (List.mem_cons_of_mem _ h)
def uk(p:PV)(v:Value):Prop:=∀E w u,bC E w u p→u=v
theorem s8(v:Value):uk (.raw v) v:=fun _ _ _ h=>by cases h;rfl
def rn(P:Program)(mt:TypeId):Option (TypeId×TypeId):=match P.underlying mt with|some (.map k e)=>some (k,e)|_=>none
theorem gG{mt kt et:TypeId}(h:rn P mt=some (kt,et)):P.underlying mt=some (.map kt et):=by
 unfold rn at h
 split at h
 ·rename_i hu;cases h;exact hu
 ·cases h
def xT(P:Program)(t:TypeId):Option Value:=match P.info? t with|some i=>i.zero|none=>none
theorem th{et:TypeId}{z:Value}(h:xT P et=some z)(w:World):(zeroValue et).run P w= .ok z w:=by
 unfold xT at h
 split at h
 ·rename_i i hi;simp[zeroValue,typeInfo,hi,h]
 ·cases h
variable {σ:bp} {t:a7} {o:Oper}
theorem qV(hK:ir P kt enc){F:Nat→Prop}{base:Nat}{E:Env}{w:World}{i mt et:Nat}{l:List (κ×PV)}{v z:Value}(hS:Sat F base σ E w)(hm:rn P mt=some (kt,et))(hz:xT P et=some z)(hv:bC E w v (.own i))(hi:σ[i]? =some (some (.mp (cG enc l))))(k:κ)(ok:Bool):
  ∃u,(Instr.lookup mt v (enc k) ok).run P w= .ok (if ok then .tuple #[u,.bool (fj k l).isSome] else u) w∧bC E w u ((fj k l).getD (.raw z)):=by
 cases hv with
 |own _ hiL _ hat _=>
  obtain⟨r,es,ck,hr,hb,hheap,hkey,hval⟩:=hS.blk i _ hi
  rw[hat]at hr
  subst hr
  have hkey':es.toList.map (·.key)=(l.map (·.1)).map enc:=by rw[hkey];simp[cG]
  have hf:=oA hK k w (l.map (·.1)) es.toList hkey'
  have hvl:(cG enc l).map (·.2)=l.map (·.2):=by simp[cG]
  rw[hvl]at hval
  have hlk:=oN (k:=k) (l:=l)
  cases hfi:da k (l.map (·.1)) 0 with
  |none=>
   rw[hfi]at hf hlk
   simp only[Option.bind_none]at hf hlk
   refine⟨z,?_,by rw[hlk];exact .raw z⟩
   simp only[Instr.lookup,Sem.run_bind,run_underlying (gG hm),Result.andThen_ok,MapKept.run_getObj_map hheap,Sem.run_pure,hK.rl,hf,th hz,hlk]
   rfl
  |some j=>
   obtain⟨_,hj⟩:=ez hfi
   simp only[Nat.sub_zero]at hj
   have hjl:j<l.length:=by have:=(List.getElem?_eq_some_iff.1 hj).1;simpa using this
   have hje:j<es.toList.length:=by have:=congrArg List.length hkey';simp at this;rw[Array.length_toList];omega
   rw[hfi]at hf hlk
   simp only[Option.bind_some,List.getElem?_eq_getElem hje,List.getElem?_eq_getElem hjl,Option.map_some]at hf hlk
   refine⟨es.toList[j].val,?_,?_⟩
   ·simp only[Instr.lookup,Sem.run_bind,run_underlying (gG hm),Result.andThen_ok,MapKept.run_getObj_map hheap,Sem.run_pure,hK.rl,hf,hlk]
    rfl
   ·rw[hlk]
    exact hval.2 j _ _ (by rw[List.getElem?_map,List.getElem?_eq_getElem hje];rfl) (by simp[hjl])
theorem wH(hK:ir P kt enc){i mt et:Nat}{x ix:Operand}{l:List (κ×PV)}{z:Value}{k:κ}{pk r:PV}(ho:o.op= .lookup mt x ix false)(hm:rn P mt=some (kt,et))(hz:xT P et=some z)(hx:ah t x=some (.own i))(hi:σ[i]? =some (some (.mp (cG enc l))))(hp:ah t ix=some pk)(hk:uk pk (enc k))(hr:(fj k l).getD (.raw z)=r):aA P σ t o r:=by
 intro F base E ρ w hρ hS hT
 have h1:=ae hρ hT hx
 have h2:=hk _ _ _ (ae hρ hT hp)
 obtain⟨u,hu,hR⟩:=qV hK hS hm hz h1 hi k false
 simp only[execOp,ho,h2,Sem.run_bind,hu,Result.andThen_ok,Sem.run_pure,Bool.false_eq_true,if_false]
 exact aB (by rw[←hr];exact hR)
theorem iO{α:Type}(a:Array α)(i j:Nat)(v:α):(a.setIfInBounds i v)[j]? =if i=j∧i<a.size then some v else a[j]? :=by
 rw[Array.getElem?_setIfInBounds]
 by_cases h:i=j
 ·subst h
  by_cases h2:i<a.size
  ·simp[h2]
  ·simp[h2]
 ·simp[h]
theorem tD(hK:ir P kt enc){i mt et:Nat}{x ix y:Operand}{l:List (κ×PV)}{k:κ}{pk p:PV}(ho:o.op= .mapUpdate mt x ix y)(hm:rn P mt=some (kt,et))(hx:ah t x=some (.own i))(hi:σ[i]? =some (some (.mp (cG enc l))))(hp:ah t ix=some pk)(hk:uk pk (enc k))(hy:ah t y=some p):
  eT P σ t o (.raw undef) (σ.set i (some (.mp (cG enc (fp k p l))))):=by
 intro F base E ρ w hρ hS hT
 have h1:=ae hρ hT hx
 have h2:=hk _ _ _ (ae hρ hT hp)
 have h3:=ae hρ hT hy
 generalize hz:ρ x=v at h1
 cases h1 with
 |own _ hiL _ hat _=>
  obtain⟨r,es,ck,hr,hb,hheap,hkey,hval⟩:=hS.blk i _ hi
  have hbk:az (E.at_ i)=some r:=by rw[hr];rfl
  have hsz:r<w.heap.size:=(Array.getElem?_eq_some_iff.1 hheap).1
  rw[hat]at hr
  subst hr
  have hkey':es.toList.map (·.key)=(l.map (·.1)).map enc:=by rw[hkey];simp[cG]
  have hf:=oA hK k w (l.map (·.1)) es.toList hkey'
  have hvl:(cG enc l).map (·.2)=l.map (·.2):=by simp[cG]
  rw[hvl]at hval
  have fin:∀(es':Array MapEntry) (ck':Nat),(Instr.mapUpdate mt (.map (some r)) (enc k) (ρ y)).run P w= .ok () {w with heap:=w.heap.setIfInBounds r (.map es' ck')}→
    es'.toList.map (·.key)=(fp k p l).map (fun a=>enc a.1)→aw E w (es'.toList.map (·.val)) ((fp k p l).map (·.2))→
    ∃v w' E',((execOp ρ o).run P w= .ok (.value v) w'∨(v=undef∧(execOp ρ o).run P w= .ok .skip w'))∧Sat F base (σ.set i (some (.mp (cG enc (fp k p l))))) E' w'∧bM E w E' w'∧Below base w w'∧bC E' w' v (.raw undef):=fun es' ck' hrun hk' hv'=>by
   have oth:∀j,j<w.heap.size→j≠r→({w with heap:=w.heap.setIfInBounds r (.map es' ck')}:World).heap[j]? =w.heap[j]? :=fun j _ hj=>by
    show(w.heap.setIfInBounds r (.map es' ck'))[j]? =_
    rw[iO,if_neg (by rintro⟨rfl,_⟩;exact hj rfl)]
   have hs':w.heap.size≤({w with heap:=w.heap.setIfInBounds r (.map es' ck')}:World).heap.size:=by simp
   have hrM:E.M r:=(hS.mm r).2 (.inr ⟨i,_,hi,hbk⟩)
   have g:bM E w E {w with heap:=w.heap.setIfInBounds r (.map es' ck')}:=⟨Nat.le_refl _,fun _ _=>rfl,fun _ _ h=>h,hs',fun j hj hM=>oth j hj (fun e=>hM (by rw[e];exact hrM))⟩
   have hn:=hS.tW (bi':=.mp (cG enc (fp k p l))) hi hbk hs' oth ⟨r,es',ck',hat,hb,by
     show(w.heap.setIfInBounds r (.map es' ck'))[r]? =_
     rw[iO,if_pos ⟨rfl,hsz⟩],by rw[hk'];simp[cG],by
     have:(cG enc (fp k p l)).map (·.2)=(fp k p l).map (·.2):=by simp[cG]
     rw[this];exact hv'.goes g⟩
   refine⟨undef,_,E,.inr ⟨rfl,?_⟩,hn.1,hn.2,⟨rfl,rfl,rfl,hs',fun j hj=>oth j (Nat.lt_of_lt_of_le hj hS.bl) (by omega)⟩,.raw _⟩
   simp only[execOp,ho,hz,h2,Sem.run_bind,hrun,Result.andThen_ok,Sem.run_pure]
  have hsm:=rq (k:=k) (p:=p) (l:=l)
  cases hfi:da k (l.map (·.1)) 0 with
  |none=>
   rw[hfi]at hf hsm
   simp only[Option.bind_none]at hf hsm
   refine fin (es.push {key:=enc k,val:=ρ y,born:=ck}) (ck+1) ?_ ?_ ?_
   ·simp only[Instr.mapUpdate,Sem.run_bind,run_underlying (gG hm),Result.andThen_ok,MapKept.run_getObj_map hheap,hK.rl,hf,MapKept.run_setObj_map _ hheap]
   ·rw[hsm];simp[hkey',List.map_map,Function.comp_def]
   ·rw[hsm]
    simp only[Array.toList_push,List.map_append,List.map_cons,List.map_nil]
    exact hval.append (aw.cons h3 (aw.nil _ _))
  |some j=>
   obtain⟨_,hj⟩:=ez hfi
   simp only[Nat.sub_zero]at hj
   have hjl:j<l.length:=by have:=(List.getElem?_eq_some_iff.1 hj).1;simpa using this
   have hje:j<es.toList.length:=by have:=congrArg List.length hkey';simp at this;rw[Array.length_toList];omega
   have hje':j<es.size:=by simpa using hje
   have hlj:l[j].1=k:=by have:=List.getElem?_eq_some_iff.1 hj;obtain⟨h,e⟩:=this;simpa using e
   have hkj:es[j].key=enc k:=by
    have:=congrArg (·[j]?) hkey'
    simp only[List.getElem?_map,List.getElem?_eq_getElem hje,List.getElem?_eq_getElem hjl,Option.map_some,Option.some.injEq,hlj]at this
    simpa using this
   rw[hfi]at hf hsm
   simp only[Option.bind_some,List.getElem?_eq_getElem hje,Option.map_some]at hf hsm
   refine fin (es.modify j fun e=> {e with key:=enc k,val:=ρ y}) ck ?_ ?_ ?_
   ·have hks:(Instr.keyThatStays ((Option.map (fun x=>x.key) es[j]?).getD (enc k)) (enc k)).run P w= .ok (enc k) w:=by
     rw[Array.getElem?_eq_getElem hje',Option.map_some,Option.getD_some,hkj]
     simp only[Instr.keyThatStays,hK.bits,if_true,Sem.run_pure]
    simp only[Instr.mapUpdate,Sem.run_bind,run_underlying (gG hm),Result.andThen_ok,MapKept.run_getObj_map hheap,hK.rl,hf,hks,MapKept.run_setObj_map _ hheap]
   ·rw[hsm]
    refine List.ext_getElem? fun n=>?_
    simp only[List.getElem?_map,Array.getElem?_toList,Array.getElem?_modify,List.getElem?_set]
    by_cases hn:j=n
    ·subst hn
     simp[hje',hjl]
    ·have:=congrArg (·[n]?) hkey'
     simp only[List.getElem?_map,Array.getElem?_toList]at this
     simp only[if_neg hn,this,Option.map_map,Function.comp_def]
   ·rw[hsm]
    have hR:=hval.set j h3
    have e1:(es.modify j fun e=> {e with key:=enc k,val:=ρ y}).toList.map (·.val)=(es.toList.map (·.val)).set j (ρ y):=by
     refine List.ext_getElem? fun n=>?_
     simp only[List.getElem?_map,Array.getElem?_toList,Array.getElem?_modify,List.getElem?_set]
     by_cases hn:j=n
     ·subst hn
      simp[hje']
     ·simp only[if_neg hn]
    have e2:(l.set j (k,p)).map (·.2)=(l.map (·.2)).set j p:=by rw[List.map_set]
    rw[e1,e2]
    exact hR
omit [DecidableEq κ] in
theorem rF{mt:TypeId}(enc:κ→Value)(ho:o.op= .makeMap mt none):eT P σ t o (.own σ.length) (σ++[some (.mp (cG enc ([]:List (κ×PV))))]):=by
 intro F base E ρ w hρ hS hT
 have hr:(execOp ρ o).run P w= .ok (.value (.map (some w.heap.size))) (w.alloc (.map #[] 0)):=by
  simp[execOp,ho,Instr.makeMap]
 have hE:Ext w (w.alloc (.map #[] 0)):=(Ext.refl w).alloc _
 have hp:=hS.push hE (v:=.map (some w.heap.size)) (blk:=.mp (cG enc ([]:List (κ×PV)))) (fun b h=>by simp[az]at h;omega) ⟨w.heap.size,#[],0,rfl,hS.bl,heap_alloc_new _ _,rfl,aw.nil _ _⟩
 exact⟨_,_,_,.inl hr,hp.1,hp.2,Below.ft hE hS.bl,.own σ.length (by simp[Env.push,hS.len]) _ (by simp[Env.push,hS.len]) rfl⟩
end
section
variable {P:Program} {σ:bp} {t:a7} {o:Oper} {N L:Nat}
def yA(Q:Exit→St→Prop):Exit→St→Prop
 | .goto _,_=>False
 |e,s=>Q e s
theorem vQ{c:Code}{st:St}{Q:Exit→St→Prop}(h:W P N L c st (yA Q)):W P N L (.scope c) st Q:=fun F base E₀ w₀ E a w hc hs=>by
 refine wp_scope_straight (wp_mono (h F base E₀ w₀ E a w hc hs) ?_)
 rintro e a' w' ⟨s,E',h1,h2⟩
 cases e with
 |goto l=>exact h1.elim
 |normal=>exact⟨s,E',h1,h2⟩
 |exit _=>exact⟨s,E',h1,h2⟩
 |ret=>exact⟨s,E',h1,h2⟩
 |panic _=>exact⟨s,E',h1,h2⟩
 |outgrown=>exact⟨s,E',h1,h2⟩
theorem va{l:Nat}{st:St}{Q:Exit→St→Prop}(h:Q .normal st):W P N L (.label l) st Q:=fun _ _ _ _ E _ _ hc hs=>wp_label ⟨st,E,h,hs,hc.g,hc.b⟩
def rK(P:Program)(ty:TypeId):Bool:=match P.underlying ty with|some (.slice _)=>true|_=>false
theorem mx{ty:TypeId}(h:rK P ty=true):∃e,P.underlying ty=some (.slice e):=by
 unfold rK at h
 split at h
 ·rename_i e hu;exact⟨e,hu⟩
 ·cases h
theorem nO{x y:Operand}{ty tz:TypeId}{n:Nat}{xs:List PV}(ho:o.op= .binOp .eql ty x y tz)(hk:rK P ty=true)(hx:ah t x=some (.slice n xs))(hy:ah t y=some (.raw (.slice none 0 0)))(hn:0<n):aA P σ t o (.raw (.bool false)):=by
 obtain⟨e,hu⟩:=mx hk
 intro F base E ρ w hρ _ hT
 have h1:=ae hρ hT hx
 have h2:=ae hρ hT hy
 generalize hz:ρ x=z at h1
 generalize hz':ρ y=z' at h2
 cases h2
 have hv:∃a c,z= .slice (some a) n c:=by
  cases h1 with
  |bZ=>omega
  |empty=>omega
  |slice b off _ c cs _ h0=>exact⟨_,_,rfl⟩
 obtain⟨a,c,rfl⟩:=hv
 have:=Lib.run_eql_slice_nil w ty e (some a) n c 0 0 hu
 have hg:∀a n c b m d,(eqGuard .eql ty x y (.slice a n c) (.slice b m d)).run P w= .ok () w:=fun _ _ _ _ _ _=>rfl
 simp only[execOp,ho,hz,hz',Sem.run_bind,Sem.run_pure,Result.andThen_ok,hg,this]
 exact aB (.raw _)
end
end PW
end Go.Proofs.YtnegbdpggideiaaDoor
namespace Go.Proofs.YtnegbdpggideiaaDoor
namespace PW
open Go.RowKit aN Mem Net
theorem bQ.wi{P:Program}{f:FuncId}{ps:List PV}{σ:bp}{R:PV→Prop}(h:Can P f ps R)[ao ps]:bQ P f ps σ (fun r σ'=>R r∧σ'=σ):=fun F base E w vs hS hR=>by
 refine(h E.M w vs (fun b hb=>hS.lt hb) hS.gl (hR.pure (fun _ h=>h))).mono ?_
 rintro e w' ⟨v,rfl,hE,r,hr,hv⟩
 exact⟨v,r,σ,E,rfl,⟨hr,rfl⟩,hS.ext hE,.ext hE,Below.ft hE hS.bl,hv.back⟩
section
variable {T:ab} {D:List Bool} {d:Nat}
structure xe (T:ab) (D:List Bool) (d:Nat) (O:List Int):Prop where
 nodup:O.Nodup
 mem:∀x,x∈O↔∃k:Nat,x=(k:Int)∧(k:Int)<T.nodes∧0≤dN T D d k
 pair:O.Pairwise fun x y=>dN T D d y.toNat≤dN T D d x.toNat
theorem xe.of(hv:aj T=true)(hd:(d:Int)<T.nodes){O:List Int}(h1:O.Perm (sD (bI T D d false) (bI T D d false).length))(h2:O.Pairwise (rG (bI T D d false))):xe T D d O:=by
 obtain⟨hb1,_⟩:=eV (D:=D) hv (dir:=false) hd
 refine⟨h1.nodup_iff.2 (pC _ _),fun x=>?_,h2.imp fun {x y} h=>?_⟩
 ·rw[h1.mem_iff,ur]
  constructor
  ·rintro⟨k,e,h3,h4⟩;exact⟨k,e,by omega,h4⟩
  ·rintro⟨k,e,h3,h4⟩;exact⟨k,e,by omega,h4⟩
 ·unfold rG at h
  show(bI T D d false).getD _ 0≤(bI T D d false).getD _ 0
  omega
structure xu (T:ab) (D:List Bool) (d:Nat) (R cs:List Int) (i:Nat):Prop where
 len:(cs.length:Int)=T.nodes
 val:∀m:Nat,(m:Int)<T.nodes→cs.getD m 0=if m=d then 1 else if(m:Int)∈R.take i then cp T D d m else 0
theorem xu.done(hv:aj T=true)(hd:(d:Int)<T.nodes){O cs:List Int}{n:Nat}(hO:xe T D d O)(h:xu T D d O.reverse cs O.reverse.length)(hn:(n:Int)<T.nodes):cs.getD n 0=cp T D d n:=by
 rw[h.val n hn,List.take_length]
 by_cases hnd:n=d
 ·subst hnd;rw[if_pos rfl,kH]
 ·rw[if_neg hnd]
  by_cases h1:(n:Int)∈O.reverse
  ·rw[if_pos h1]
  ·rw[if_neg h1]
   refine(qz hv hd hn (Int.not_le.1 fun h0=>h1 (List.mem_reverse.2 ((hO.mem _).2 ⟨n,rfl,hn,h0⟩)))).symm
end
structure wG (L out:List Int) (i:Nat) (b:Int):Prop where
 none:b<0→∀k:Nat,k<i→0≤L.getD k 0→(k:Int)∈out
 some:∀n:Nat,b=(n:Int)→n<i∧0≤L.getD n 0∧¬(n:Int)∈out∧∀k:Nat,k<i→0≤L.getD k 0→¬(k:Int)∈out→L.getD k 0≤L.getD n 0
theorem wG.no{L out:List Int}{i:Nat}{b:Int}(h:wG L out i b)(h1:¬(0≤L.getD i 0∧¬(i:Int)∈out∧(b<0∨∃n:Nat,b=(n:Int)∧L.getD n 0<L.getD i 0))):wG L out (i+1) b:=by
 refine⟨fun hb k hk hk0=>?_,fun n hn=>?_⟩
 ·by_cases hki:k=i
  ·subst hki;exact Classical.byContradiction fun ho=>h1 ⟨hk0,ho,.inl hb⟩
  ·exact h.none hb k (by omega) hk0
 ·obtain⟨a1,a2,a3,a4⟩:=h.some n hn
  refine⟨by omega,a2,a3,fun k hk hk0 hko=>?_⟩
  by_cases hki:k=i
  ·subst hki;exact Int.not_lt.1 fun hl=>h1 ⟨hk0,hko,.inr ⟨n,hn,hl⟩⟩
  ·exact a4 k (by omega) hk0 hko
structure Part (L out:List Int):Prop where
 nodup:out.Nodup
 mem:∀x∈out,∃k:Nat,x=(k:Int)∧k<L.length∧0≤L.getD k 0
 pair:out.Pairwise fun x y=>L.getD y.toNat 0≤L.getD x.toNat 0
 rest:∀x∈out,∀k:Nat,k<L.length→0≤L.getD k 0→¬(k:Int)∈out→L.getD k 0≤L.getD x.toNat 0
theorem Part.len{L out:List Int}(h:Part L out):out.length≤L.length:=by
 have h1:=kR L.length (out.map Int.toNat) (by
  unfold List.Nodup
  rw[List.pairwise_map]
  refine List.Pairwise.imp_of_mem ?_ h.nodup
  intro a b ha hb hne e
  obtain⟨k,rfl,_⟩:=h.mem a ha
  obtain⟨k',rfl,_⟩:=h.mem b hb
  simp only[Int.toNat_natCast]at e
  exact hne (by rw[e])) (fun x hx=>by
  obtain⟨y,hy,rfl⟩:=List.mem_map.1 hx
  obtain⟨k,rfl,hk,_⟩:=h.mem y hy
  simpa using hk)
 simpa using h1
end PW
end Go.Proofs.YtnegbdpggideiaaDoor
namespace Go.Proofs.YtnegbdpggideiaaDoor
namespace PW
open Go.RowKit aN Mem
section
variable {P:Program} {kt e:TypeId}
abbrev wm(p:Int×Int):Array Value:= #[.int .i64 p.1,.int .i64 p.2]
end
end PW
end Go.Proofs.YtnegbdpggideiaaDoor
namespace Go.Proofs.YtnegbdpggideiaaDoor
namespace PW
open Go.RowKit aN Mem Net
theorem yQ:rK Tryd.prog 23=true:=by kernel_rfl
abbrev yF(n:Int):Value:=.int .i64 n
abbrev yD(p:Int×Int):Value:=.agg (wm p)
section
variable {κ:Type} [DecidableEq κ]
end
def sU(T:ab)(D:List Bool)(dm:List (Int×PV)):Prop:=∀k v,(k,v)∈dm→∃d:Nat,k=(d:Int)∧(d:Int)<T.nodes∧v=aJ (bI T D d false)
def tf(T:ab)(D:List Bool)(um:List ((Int×Int)×PV)):Prop:=∀k v,(k,v)∈um→v=flag (fP T D k.1 k.2)
theorem sU.pure{T:ab}{D:List Bool}{dm:List (Int×PV)}(h:sU T D dm):gd (some (.mp (cG yF dm))):=fun b hb=>by
 cases hb
 refine⟨fun i u hu=>?_⟩
 have hm:=List.mem_of_getElem? hu
 simp only[cG,List.map_map,List.mem_map,Function.comp]at hm
 obtain⟨⟨k,v⟩,hkv,rfl⟩:=hm
 obtain⟨d,_,_,hv⟩:=h k v hkv
 show IsPure v
 rw[hv]
 infer_instance
theorem tf.pure{T:ab}{D:List Bool}{um:List ((Int×Int)×PV)}(h:tf T D um):gd (some (.mp (cG yD um))):=fun b hb=>by
 cases hb
 refine⟨fun i u hu=>?_⟩
 have hm:=List.mem_of_getElem? hu
 simp only[cG,List.map_map,List.mem_map,Function.comp]at hm
 obtain⟨⟨k,v⟩,hkv,rfl⟩:=hm
 show IsPure v
 rw[h k v hkv]
 infer_instance
theorem sU.set{T:ab}{D:List Bool}{dm:List (Int×PV)}(h:sU T D dm){d:Nat}(hd:(d:Int)<T.nodes):sU T D (fp (d:Int) (aJ (bI T D d false)) dm):=fun k v hk=>by
 rcases kW hk with e|e
 ·cases e;exact⟨d,rfl,hd,rfl⟩
 ·exact h k v e
theorem tf.set{T:ab}{D:List Bool}{um:List ((Int×Int)×PV)}(h:tf T D um)(a b:Int):tf T D (fp (a,b) (flag (fP T D a b)) um):=fun k v hk=>by
 rcases kW hk with e|e
 ·cases e;rfl
 ·exact h k v e
def yN(T:ab)(n:Int)(p:List Int):List Int:=n::p.map fun a=>aK T a.toNat
theorem yh(T:ab)(n:Int)(p:List Int)(i:Nat)(h:i≤p.length):(yN T n p).getD i 0=bg T n (p.take i):=by
 cases i with
 |zero=>rfl
 |succ i=>
  rw[er T n p i (by omega)]
  simp only[yN,List.getD_cons_succ]
  rw[List.getD_eq_getElem?_getD,List.getElem?_map,List.getElem?_eq_getElem (by omega),List.getD_eq_getElem?_getD,List.getElem?_eq_getElem (by omega)]
  rfl
def vI(T:ab)(D:List Bool)(n:Int)(p:List Int):Int:=if(aj T&&bx T D)=true then(if eD T n p=0 then(if p.any (fun a=>bG D a.toNat) then 7 else 0) else eD T n p) else 1
theorem lX{T:ab}:∀ {f:Bool} {n:Int} {l:List Int},bW T f n l=0→∀a∈l,cW T a=true
 |f,n,[],_,a,ha=>by cases ha
 |f,n,b::l,h,a,ha=>by
  simp only[bW]at h
  split at h
  ·omega
  ·split at h
   ·omega
   ·rename_i h1 _
    rcases List.mem_cons.1 ha with rfl|ha
    ·simpa using h1
    ·exact lX h a ha
noncomputable def eO(T:ab)(D:List Bool)(n:Int)(p:List Int)(i j:Nat):Bool:=
 decide (dN T D (bg T n (p.take j)).toNat (bg T n (p.take i)).toNat=cz T (p.take j) - cz T (p.take i))&&fP T D (bg T n (p.take i)) (bg T n (p.take j))
theorem bE{T:ab}(hv:aj T=true){n:Int}(hn:aS T n=true){p:List Int}(ha:∀a∈p,cW T a=true)(i:Nat)(hi:i≤p.length):∃u:Nat,bg T n (p.take i)=(u:Int)∧(u:Int)<T.nodes:=by
 cases i with
 |zero=>
  obtain⟨h0,h1⟩:=aV.1 hn
  obtain⟨u,hu⟩:=Int.eq_ofNat_of_zero_le h0
  exact⟨u,hu,by rw[←hu];exact h1⟩
 |succ i=>
  rw[er T n p i (by omega)]
  exact(jL hv (ha _ (cQ (d:=0) (show i<p.length by omega)))).2
theorem qd{T:ab}{D:List Bool}(hv:aj T=true)(hf:bx T D=true){d:Nat}(hd:(d:Int)<T.nodes):bX T D [(d:Int)]=0:=by
 unfold bX
 rw[hv,hf]
 have:aS T (d:Int)=true:=aV.2 ⟨by omega,hd⟩
 simp[this]
end PW
end Go.Proofs.YtnegbdpggideiaaDoor
