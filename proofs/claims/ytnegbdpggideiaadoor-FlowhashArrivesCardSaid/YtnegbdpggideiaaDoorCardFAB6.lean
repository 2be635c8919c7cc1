/- Texts of the proof, part 6. -/
import Derived.Laws.StructEq
import Derived.MapKept
import Derived.Scope
import Derived.Lib.SliceRun
import Derived.ChangeKeysEq
import Derived.Test.YtnegbdpggideiaaDoorCardFAB5
set_option linter.unusedVariables false
set_option linter.unusedSimpArgs false
set_option maxRecDepth 10000
set_option maxHeartbeats 1000000
namespace Go.Proofs.YtnegbdpggideiaaDoor
namespace PW
open Go.RowKit aN Mem Net
structure bL where
 kind:Int
 num:Int
deriving DecidableEq
structure gV where
 aW:List Int
 rep:Bool
 push:List bL
structure eS where
 node:Int
 cI:List gV
 down:List Int
def i1(s:bL):List PV:=[num s.kind,num s.num]
def pc(s:bL):PV:=.agg (i1 s)
def dj(l:List bL):List PV:=l.flatMap i1
def bD(l:List bL):PV:=.slice l.length (dj l)
def j9(e:gV):List PV:=[aJ e.aW,flag e.rep,bD e.push]
def vm(e:gV):PV:=.agg (j9 e)
def gw(l:List gV):List PV:=l.flatMap j9
def gg(l:List gV):PV:=.slice l.length (gw l)
def dx(t:eS):List PV:=[num t.node,gg t.cI,aJ t.down]
def mO(t:eS):PV:=.agg (dx t)
def iP(l:List eS):List PV:=l.flatMap dx
def ie(l:List eS):PV:=.slice l.length (iP l)
instance (s:bL):ao (i1 s):=by unfold i1;infer_instance
instance (s:bL):ba (i1 s):=by unfold i1;infer_instance
instance (s:bL):IsPure (pc s):=by unfold pc;infer_instance
instance (l:List bL):ao (dj l):=ao.flatMap _ _ fun _=>inferInstance
instance (l:List bL):ba (dj l):=ba.flatMap _ _ fun _=>inferInstance
instance (l:List bL):IsPure (bD l):=by unfold bD;infer_instance
instance (l:List bL):cN (bD l):=by unfold bD;infer_instance
instance (e:gV):ao (j9 e):=by unfold j9;infer_instance
instance (e:gV):ba (j9 e):=by unfold j9;infer_instance
instance (e:gV):IsPure (vm e):=by unfold vm;infer_instance
instance (l:List gV):ao (gw l):=ao.flatMap _ _ fun _=>inferInstance
instance (l:List gV):ba (gw l):=ba.flatMap _ _ fun _=>inferInstance
instance (l:List gV):IsPure (gg l):=by unfold gg;infer_instance
instance (l:List gV):cN (gg l):=by unfold gg;infer_instance
instance (t:eS):ao (dx t):=by unfold dx;infer_instance
instance (t:eS):ba (dx t):=by unfold dx;infer_instance
instance (t:eS):IsPure (mO t):=by unfold mO;infer_instance
instance (l:List eS):ao (iP l):=ao.flatMap _ _ fun _=>inferInstance
instance (l:List eS):ba (iP l):=ba.flatMap _ _ fun _=>inferInstance
instance (l:List eS):IsPure (ie l):=by unfold ie;infer_instance
instance (l:List eS):cN (ie l):=by unfold ie;infer_instance
theorem pa(l:List gV)(e:gV):gw l++j9 e=gw (l++[e]):=by simp[gw]
theorem o6(l:List eS)(e:eS):iP l++dx e=iP (l++[e]):=by simp[iP]
theorem flat_get{α:Type}(f:α→List PV)(s:Nat)(hf:∀a,(f a).length=s):∀(l:List α) (i j:Nat) (a:α),l[i]? =some a→j<s→(l.flatMap f)[i*s+j]? =(f a)[j]?
 | [],i,j,a,h,_=>by simp at h
 |b::l,0,j,a,h,hj=>by
  simp at h;subst h
  rw[List.flatMap_cons,Nat.zero_mul,Nat.zero_add,List.getElem?_append_left (by rw[hf];exact hj)]
 |b::l,i+1,j,a,h,hj=>by
  have:=flat_get f s hf l i j a (by simpa using h) hj
  have e1:(i+1)*s=i*s+s:=Nat.succ_mul i s
  have e2:(i+1)*s+j - s=i*s+j:=by omega
  have e3:(f b).length≤(i+1)*s+j:=by rw[hf];omega
  rw[List.flatMap_cons,List.getElem?_append_right e3,hf,e2,this]
theorem gS{α:Type}(f:α→List PV)(s:Nat)(hf:∀a,(f a).length=s):∀(l:List α) (i:Nat) (a:α),l[i]? =some a→((l.flatMap f).drop (i*s)).take s=f a
 | [],i,a,h=>by simp at h
 |b::l,0,a,h=>by
  simp at h;subst h
  rw[List.flatMap_cons,Nat.zero_mul,List.drop_zero]
  exact List.take_left' (hf b)
 |b::l,i+1,a,h=>by
  have:=gS f s hf l i a (by simpa using h)
  have e1:(i+1)*s=s+i*s:=by rw[Nat.succ_mul];omega
  rw[List.flatMap_cons,e1,←List.drop_drop,List.drop_left' (hf b),this]
theorem oc(l:List gV)(i j:Nat)(e:gV)(h:l[i]? =some e)(hj:j<3):(gw l)[i*3+j]? =(j9 e)[j]? :=flat_get j9 3 (fun _=>rfl) l i j e h hj
theorem jQ(l:List gV)(i:Nat)(e:gV)(h:l[i]? =some e):((gw l).drop (i*3)).take 3=j9 e:=gS j9 3 (fun _=>rfl) l i e h
theorem od(l:List bL)(i j:Nat)(e:bL)(h:l[i]? =some e)(hj:j<2):(dj l)[i*2+j]? =(i1 e)[j]? :=flat_get i1 2 (fun _=>rfl) l i j e h hj
theorem jC(l:List bL)(i:Nat)(e:bL)(h:l[i]? =some e):((dj l).drop (i*2)).take 2=i1 e:=gS i1 2 (fun _=>rfl) l i e h
theorem jt(l:List eS)(i:Nat)(e:eS)(h:l[i]? =some e):((iP l).drop (i*3)).take 3=dx e:=gS dx 3 (fun _=>rfl) l i e h
theorem xt{P:Program}{σ:bo}{t:a7}{o:Oper}{p q:PV}(h:az P σ t o p)(hl:je p q):az P σ t o q:=fun F base E ρ w hρ hS hT=>by
 have:=h F base E ρ w hρ hS hT
 generalize (execOp ρ o).run P w=x at*
 cases x with
 |ok n w'=>
  cases n with
  |value v=>exact⟨this.1,hl _ _ _ this.2⟩
  |skip=>exact⟨this.1,hl _ _ _ this.2⟩
  |enter f args=>exact⟨this.1,Calls.mono this.2 (fun e w'' ⟨x,h1,h2,h3⟩=>⟨x,h1,h2,hl _ _ _ h3⟩)⟩
  |_=>exact this
 |halt x w'=>exact this
def rY(xs ys:List PV):Prop:=xs.length=ys.length∧∀(i:Nat) x y,xs[i]? =some x→ys[i]? =some y→je x y
theorem rY.nil:rY [] []:=⟨rfl,fun i x y h=>by simp at h⟩
theorem rY.cons{x y:PV}{xs ys:List PV}(h:je x y)(hs:rY xs ys):rY (x::xs) (y::ys):=⟨by simp[hs.1],fun j a b h1 h2=>by
 cases j with
 |zero=>simp at h1 h2;subst h1;subst h2;exact h
 |succ j=>exact hs.2 j a b (by simpa using h1) (by simpa using h2)⟩
theorem je.pe{xs ys:List PV}(h:rY xs ys):je (.agg xs) (.agg ys):=fun E w v hv=>by
 cases hv with
 |agg cs _ hl hr=>exact .agg cs ys (hl.trans h.1) (fun i c u h1 h2=>by
   have hi:i<xs.length:=by rw[h.1];exact(List.getElem?_eq_some_iff.1 h2).1
   exact h.2 i xs[i] u (by simp[hi]) h2 E w c (hr i c _ h1 (by simp[hi])))
noncomputable def oY(T:ab)(D:List Bool)(n k:Nat):List gV:=(List.range k).map fun d=>⟨bx T D n d,false,[]⟩
def iR(D:List Bool)(l:List Int):List Int:=l.filter fun a=>bG D a.toNat
noncomputable def bS(T:ab)(D:List Bool)(n:Nat):eS:=⟨n,oY T D n T.nodes.toNat,iR D (cU T n)⟩
noncomputable def gT(T:ab)(D:List Bool)(n:Int):eS:=if bX T D [n]=0 then bS T D n.toNat else⟨0,[],[]⟩
theorem s4(T:ab)(D:List Bool)(n k:Nat):oY T D n (k+1)=oY T D n k++[⟨bx T D n k,false,[]⟩]:=by simp[oY,List.range_succ]
theorem qp(T:ab)(D:List Bool)(n k:Nat):(oY T D n k).length=k:=by simp[oY]
end PW
end Go.Proofs.YtnegbdpggideiaaDoor
namespace Go.Proofs.YtnegbdpggideiaaDoor
namespace PW
open Go.RowKit aN Mem Net
set_option maxHeartbeats 4000000 in
theorem nG(T:ab)(D:List Bool)(n:Int)(dir:Bool):Can Tryd.prog 29 [a6 T,bA D,num n,flag dir] (· =dL (bX T D [n]) (bH T D n.toNat dir)):=by
  refine aI Tryd.func29 rfl Tryd.ntmps29 rfl<|af (.a 3 rfl<|.k [1,2,3,4] rfl)<|ak<|af (.a 2 rfl<|.c rfl (sn T D) rfl<|.a 1 rfl<|.k [1,2,3,4,20] rfl)<|ag rfl (fun hc=>?_) (fun hc=>?_)
  · have hch:bX T D [n]=1:=by
      unfold bX
      rw[if_neg]
      revert hc
      cases(aj T&&bw T D)<;>simp
    exact af (.a 2 rfl<|.k [8,9] rfl)<|an<|⟨_,_,ax.of rfl,ay.bq (al.cons ay.bY (al.cons ay.pure al.nil)),by unfold dL;rw[hch];rfl⟩
  · have hok : (aj T && bw T D) = true := by revert hc; cases (aj T && bw T D) <;> simp
    refine ai<|ak ?_
    obtain⟨q1,hq1⟩:∃q,decide (n<0)=q:=⟨_,rfl⟩
    obtain⟨q2,hq2⟩:∃q,decide (T.nodes≤n)=q:=⟨_,rfl⟩
    have hnb:aS T n= !(q1||q2):=by rw[←hq1,←hq2];unfold aS;by_cases h1:n<0<;>by_cases h2:T.nodes≤n<;>simp[h1,h2]<;>omega
    refine aY 28 (.raw (.bool (q1||q2))) [1,2,3,4] rfl ?_ ?_
    · refine .a 1 rfl<|.v (bT rfl (hq1)) rfl<|.a 1 rfl<|?_
      cases q1
      · exact .a 3 rfl<|.v (bT rfl (hq2)) rfl<|.a 1 rfl<|.k [28,1,2,3,4] rfl
      · exact .a 5 rfl<|.k [28,1,2,3,4] rfl
    refine ag rfl (fun hc=>?_) (fun hc=>?_)
    · have hch:bX T D [n]=2:=by
        unfold bX
        rw[if_pos hok,if_neg]
        simp[hnb,hc]
      exact af (.a 2 rfl<|.k [8,9] rfl)<|an<|⟨_,_,ax.of rfl,ay.bq (al.cons ay.bY (al.cons ay.pure al.nil)),by unfold dL;rw[hch];rfl⟩
    · have hnb':aS T n=true:=by rw[hnb,hc];rfl
      have hch:bX T D [n]=0:=by
        unfold bX
        rw[if_pos hok,if_pos]
        simp[hnb']
      obtain⟨hv,hf⟩:=Bool.and_eq_true_iff.1 hok
      have hn:=aV.1 hnb'
      obtain⟨n,rfl⟩:=Int.eq_ofNat_of_zero_le hn.1
      have hS:=aC hv
      have hbd:=eP hv
      obtain⟨N,hN⟩:∃N:Nat,T.nodes=(N:Int):=⟨T.nodes.toNat,by omega⟩
      have hN64:N≤64:=by have:=hS.nodes;omega
      have hnN:n<N:=by omega
      clear hc hq1 hq2 hnb
      refine ai<|aX<|av 2 rfl<|dJ (cW rfl (cb.rk.get rfl) rfl rfl hN hN ⟨by unfold maxLen;omega,by omega⟩) rfl<|av 1 rfl<|aQ [1,2,3,4,10] rfl ?_
      refine ak<|af (.a 1 rfl<|.k [1,2,3,4,10,11] rfl)<|aq<|iC [1,2,3,4,10,11] rfl<|br (fun r s=>∃k,k≤N∧r=N - k∧s=⟨[(1,bA D),(2,num n),(3,flag dir),(4,.b6 (b5 T) 0),(10,.own 0),(11,num k)],[some (.row 3 1 N (aG (dU N k)))]⟩) N ⟨0,by omega,by omega,by have:=bB N;unfold dU;simp only[List.replicate_zero,List.nil_append,Nat.sub_zero];rw[←this];rfl⟩ ?_
      rintro r s ⟨k,hk,rfl,rfl⟩
      refine ak<|af (.a 4 rfl<|.k [1,2,3,4,10,11,35] rfl)<|ag rfl (fun hc=>?_) (fun hc=>?_)
      · have hlt:k<N:=by have:=of_decide_eq_true hc;omega
        have hil:(dU N k).length=N:=by simp[dU];omega
        refine ai<|ak<|aq<|bK<|av 2 rfl<|bZ (aR (k) rfl) rfl<|bE ((by first|exact bh rfl (cb.tk.get rfl) rfl rfl rfl (by first|omega|(simp;omega))|exact bc rfl (cb.tk.get rfl) rfl rfl rfl (by first|omega|(simp;omega)))) rfl rfl<|aQ [1,2,3,4,10,11] rfl ?_
        refine kK (σ':=[some (.row 3 1 N (aG (dU N (k+1))))]) (by rw[←oD N k hlt];rfl) ?_
        refine aF (.a 1 rfl<|.v (bf rfl) rfl<|.a 1 rfl<|.k [1,2,3,4,10,11] rfl) ?_
        exact⟨N - (k+1),by omega,k+1,by omega,rfl,rfl⟩
      · have hke:k=N:=by have:=of_decide_eq_false hc;omega
        subst hke
        have hil:(dU k k).length=k:=by simp[dU]
        refine bn<|aX<|av 2 rfl<|bZ (aR (n) rfl) rfl<|bE ((by first|exact bh rfl (cb.tk.get rfl) rfl rfl rfl (by first|omega|(simp;omega))|exact bc rfl (cb.tk.get rfl) rfl rfl rfl (by first|omega|(simp;omega)))) rfl rfl<|aQ [1,2,3,4,10] rfl ?_
        refine kK (σ':=[some (.row 3 1 k (aG (Net.start k n)))]) (by rw[←pT k n];rfl) ?_
        have hI0:=jE (T:=T) (D:=D) (N:=k) (n:=n) (dir:=dir) hN.symm hnN
        generalize Net.start k n=out0 at hI0
        refine ak<|af (.a 1 rfl<|.k [1,2,3,4,10,12] rfl)<|aq<|iC [1,2,3,4,10,12] rfl<|br (fun r s=>∃(out:List Int) (b:Bool),Inv T D n dir out∧(b=false→∀a,a<2*T.aa.length→¬fM T D n dir out a)∧r=2*mu out+b.toNat∧s=⟨[(1,bA D),(2,num n),(3,flag dir),(4,.b6 (b5 T) 0),(10,.own 0),(12,flag b)],[some (.row 3 1 k (aG out))]⟩) (2*mu out0+1) ⟨out0,true,hI0,(fun h=>by cases h),rfl,rfl⟩ ?_
        clear hI0 out0
        rintro r s ⟨out,b,hI,hb,rfl,rfl⟩
        refine ak<|af (.a 1 rfl<|.k [1,2,3,4,10,44] rfl)<|ag rfl (fun hc=>?_) (fun hc=>?_)
        · subst hc
          refine ai<|aq<|af (.a 1 rfl<|.k [1,2,3,4,10,12] rfl)<|af (.a 1 rfl<|.k [1,2,3,4,10,12,13] rfl)<|aq<|iC [1,2,3,4,10,12,13] rfl<|br (fun r s=>∃(k':Nat) (out':List Int) (b':Bool),k'≤2*T.aa.length∧Inv T D n dir out'∧(b'=false→out'=out∧∀a,a<k'→¬fM T D n dir out a)∧(b'=true→mu out'<mu out)∧r=2*T.aa.length - k'∧s=⟨[(1,bA D),(2,num n),(3,flag dir),(4,.b6 (b5 T) 0),(10,.own 0),(12,flag b'),(13,num k')],[some (.row 3 1 k (aG out'))]⟩) (2*T.aa.length) ⟨0,out,false,by omega,hI,(fun _=>⟨rfl,fun a ha=>by omega⟩),(fun h=>by cases h),by omega,rfl⟩ ?_
          rintro r s ⟨a,out',b',ha,hI',hb',ht',rfl,rfl⟩
          refine ak<|af (.a 4 rfl<|.v (bf rfl (hc:=rfl)) rfl<|.a 1 rfl<|.k [1,2,3,4,10,12,13,50] rfl)<|ag rfl (fun hc=>?_) (fun hc=>?_)
          · have ham:a<2*T.aa.length:=by have:=of_decide_eq_true hc;omega
            obtain⟨p,hp⟩:=Int.eq_ofNat_of_zero_le (hS.tail a ham).1
            obtain⟨q,hq⟩:=Int.eq_ofNat_of_zero_le (hS.head a ham).1
            have hpN:p<k:=by have:=(hS.tail a ham).2;omega
            have hqN:q<k:=by have:=(hS.head a ham).2;omega
            have hcb:=hS.cost a ham
            have hDl:D.length=0∨a<D.length:=by simp only[bw,decide_eq_true_eq]at hf;omega
            have hol:out'.length=k:=by have:=hI'.len;omega
            refine ai<|ak<|aq<|gC mixed (by kernel_rfl) (.a 2 rfl<|.v [53,54] (j8 rfl (hp▸kN T hv a ham)) rfl rfl<|.a 2 rfl<|.v [56,57] (j8 rfl (hq▸kr T hv a ham)) rfl rfl<|.a 2 rfl<|.k [1,2,3,4,10,12,13,14,15] rfl) ?_
            refine ak<|af (.a 1 rfl<|.k [1,2,3,4,10,12,13,14,15,59] rfl)<|ag rfl (fun hdir=>?_) (fun hdir=>?_)
            · obtain ⟨x, y, hx, hy, ex, ey⟩ : ∃ x y : Nat, cP T dir a = (x : Int) ∧ bz T dir a = (y : Int) ∧ x = q ∧ y = p := ⟨q, p, by rw [hdir]; exact hq, by rw [hdir]; exact hp, rfl, rfl⟩
              subst ex
              subst ey
              refine aF (.a 4 rfl<|.k [1,2,3,4,10,12,13,14,15] rfl) ?_
              refine ak ?_
              have gx:out'.getD x 0=at' out' (x:Int):=by simp[at',List.getD_eq_getElem?_getD,show x<out'.length by omega]
              have gy:out'.getD y 0=at' out' (y:Int):=by simp[at',List.getD_eq_getElem?_getD,show y<out'.length by omega]
              have uy:=hI'.ub y (by omega) (by omega)
              have ly:=hI'.ge y (by omega)
              obtain⟨p1,hp1⟩:∃q,(!bG D a)=q:=⟨_,rfl⟩
              obtain⟨p2,hp2⟩:∃q,decide (out'.getD y 0<0)=q:=⟨_,rfl⟩
              obtain⟨p3,hp3⟩:∃q,(decide (y=n)|| !bI T y)=q:=⟨_,rfl⟩
              refine aY 79 (.raw (.bool (((!p1)||p2)||(!p3)))) [1,2,3,4,10,12,13,14,15] rfl ?_ ?_
              · refine .a 2 rfl<|.c rfl (hp1▸qi D a hDl) rfl<|.a 2 rfl<|?_
                cases p1
                · exact .a 13 rfl<|.k [79,1,2,3,4,10,12,13,14,15] rfl
                · refine .a 2 rfl<|.v (aR (y) rfl) rfl<|.v (aO rfl (au out' y (by omega))) rfl<|.v (bT rfl (hp2)) rfl<|.a 2 rfl<|?_
                  cases p2
                  · exact .a 3 rfl<|.c rfl (hp3▸jh T hv y n) rfl<|.a 2 rfl<|.k [79,1,2,3,4,10,12,13,14,15] rfl
                  · exact .a 6 rfl<|.k [79,1,2,3,4,10,12,13,14,15] rfl
              refine ag rfl (fun hc=>?_) (fun hc=>?_)
              · have hng:¬fM T D n dir out' a:=fun hg=>by
                  obtain⟨⟨w1,w2,w3⟩,_⟩:=hg
                  rw[hy]at w2 w3
                  have e1:p1=true:=by rw[←hp1,w1];rfl
                  have e2:p2=false:=by rw[←hp2,gy];simp;omega
                  have e3:p3=true:=by
                    rw[←hp3]
                    rcases w3 with w3|w3
                    · have:y=n:=by omega
                      simp[this]
                    · rw[Int.toNat_natCast]at w3;simp[w3]
                  rw[e1,e2,e3]at hc
                  cases hc
                refine bn<|aF (.a 1 rfl<|.v (bf rfl) rfl<|.a 1 rfl<|.k [1,2,3,4,10,12,13] rfl) ?_
                first
                  |exact⟨2*T.aa.length - (a+1),by omega,a+1,_,true,by omega,hIg,fun h=>(by cases h),fun _=>(by by_cases e:b'=true;(have:=ht' e;omega);(have:=(hb' (by cases b';rfl;exact absurd rfl e)).1;rw[this]at hmg;rw[this];exact hmg)),rfl,rfl⟩
                  |exact⟨2*T.aa.length - (a+1),by omega,a+1,out',b',by omega,hI',fun h=>⟨(hb' h).1,fun c hc'=>by by_cases e:c=a;(rw[e,←(hb' h).1];exact hng);exact(hb' h).2 c (by omega)⟩,ht',rfl,rfl⟩
              · have hway:Net.Way T D n dir out' a:=by
                  obtain⟨c1,c3⟩:=Bool.or_eq_false_iff.1 hc
                  obtain⟨c1,c2⟩:=Bool.or_eq_false_iff.1 c1
                  have e1:p1=true:=by cases p1;cases c1;rfl
                  have e3:p3=true:=by cases p3;cases c3;rfl
                  rw[e1]at hp1
                  rw[c2]at hp2
                  rw[e3]at hp3
                  refine⟨by revert hp1;cases bG D a<;>simp,?_,?_⟩
                  · rw[hy,←gy];have:=of_decide_eq_false hp2;omega
                  · rw[hy,Int.toNat_natCast]
                    rcases Bool.or_eq_true_iff.1 hp3 with h|h
                    · exact .inl (by have:=of_decide_eq_true h;omega)
                    · exact .inr (by revert h;cases bI T y<;>simp)
                have wy:=hway.2.1
                rw[hy]at wy
                refine ai<|gC mixed (by kernel_rfl) (.a 2 rfl<|.v [80,81] (aR (y) rfl) rfl rfl<|.v [82] (aO rfl ((au out' y (by omega)).trans (by rw[gy]))) rfl rfl<|.a 2 rfl<|.v [84,85] (j8 rfl (iu T hv a ham)) rfl rfl<|.v [83,86] (bf rfl) rfl rfl<|.a 1 rfl<|.k [1,2,3,4,10,12,13,14,16] rfl) ?_
                obtain⟨p4,hp4⟩:∃q,decide (at' out' (x:Int)<0)=q:=⟨_,rfl⟩
                obtain⟨p5,hp5⟩:∃q,decide (at' out' (y:Int)+a8 T a<at' out' (x:Int))=q:=⟨_,rfl⟩
                refine aY 100 (.raw (.bool (p4||p5))) [1,2,3,4,10,12,13,14,16] rfl ?_ ?_
                · refine .a 2 rfl<|.v (aR (x) rfl) rfl<|.v (aO rfl ((au out' x (by omega)).trans (by rw[gx]))) rfl<|.v (bT rfl (hp4)) rfl<|.a 1 rfl<|?_
                  cases p4
                  · exact .a 3 rfl<|.v (aR (x) rfl) rfl<|.v (aO rfl ((au out' x (by omega)).trans (by rw[gx]))) rfl<|.v (bT rfl (hp5)) rfl<|.a 1 rfl<|.k [100,1,2,3,4,10,12,13,14,16] rfl
                  · exact .a 7 rfl<|.k [100,1,2,3,4,10,12,13,14,16] rfl
                refine ag rfl (fun hc=>?_) (fun hc=>?_)
                · have hg:fM T D n dir out' a:=⟨hway,by
                    rw[hx,hy]
                    rcases Bool.or_eq_true_iff.1 hc with h|h
                    · rw[h]at hp4;exact .inl (of_decide_eq_true hp4)
                    · rw[h]at hp5;exact .inr (of_decide_eq_true hp5)⟩
                  obtain⟨hIg,hmg⟩:=lp hS hI' a ham hg
                  have hge:oS T dir out' a=out'.set x (at' out' (y:Int)+a8 T a):=by unfold oS;rw[hx,hy,Int.toNat_natCast]
                  rw[hge]at hIg hmg
                  refine aX<|av 3 rfl<|bZ (aR (x) rfl) rfl<|bE ((by first|exact bh rfl (cb.tk.get rfl) rfl rfl rfl (by first|omega|(simp;omega))|exact bc rfl (cb.tk.get rfl) rfl rfl rfl (by first|omega|(simp;omega)))) rfl rfl<|aQ [1,2,3,4,10,13] rfl ?_
                  refine aF (.a 1 rfl<|.k [1,2,3,4,10,12,13] rfl) ?_
                  refine aF (.a 1 rfl<|.v (bf rfl) rfl<|.a 1 rfl<|.k [1,2,3,4,10,12,13] rfl) ?_
                  first
                    |exact⟨2*T.aa.length - (a+1),by omega,a+1,_,true,by omega,hIg,fun h=>(by cases h),fun _=>(by by_cases e:b'=true;(have:=ht' e;omega);(have:=(hb' (by cases b';rfl;exact absurd rfl e)).1;rw[this]at hmg;rw[this];exact hmg)),rfl,rfl⟩
                    |exact⟨2*T.aa.length - (a+1),by omega,a+1,out',b',by omega,hI',fun h=>⟨(hb' h).1,fun c hc'=>by by_cases e:c=a;(rw[e,←(hb' h).1];exact hng);exact(hb' h).2 c (by omega)⟩,ht',rfl,rfl⟩
                · have hng:¬fM T D n dir out' a:=fun hg=>by
                    obtain⟨_,hg⟩:=hg
                    rw[hx,hy]at hg
                    obtain⟨c1,c2⟩:=Bool.or_eq_false_iff.1 hc
                    rw[c1]at hp4
                    rw[c2]at hp5
                    rcases hg with h|h
                    · exact of_decide_eq_false hp4 h
                    · exact of_decide_eq_false hp5 h
                  refine ai<|aF (.a 1 rfl<|.v (bf rfl) rfl<|.a 1 rfl<|.k [1,2,3,4,10,12,13] rfl) ?_
                  first
                    |exact⟨2*T.aa.length - (a+1),by omega,a+1,_,true,by omega,hIg,fun h=>(by cases h),fun _=>(by by_cases e:b'=true;(have:=ht' e;omega);(have:=(hb' (by cases b';rfl;exact absurd rfl e)).1;rw[this]at hmg;rw[this];exact hmg)),rfl,rfl⟩
                    |exact⟨2*T.aa.length - (a+1),by omega,a+1,out',b',by omega,hI',fun h=>⟨(hb' h).1,fun c hc'=>by by_cases e:c=a;(rw[e,←(hb' h).1];exact hng);exact(hb' h).2 c (by omega)⟩,ht',rfl,rfl⟩
            · obtain ⟨x, y, hx, hy, ex, ey⟩ : ∃ x y : Nat, cP T dir a = (x : Int) ∧ bz T dir a = (y : Int) ∧ x = p ∧ y = q := ⟨p, q, by rw [hdir]; exact hp, by rw [hdir]; exact hq, rfl, rfl⟩
              subst ex
              subst ey
              refine ai<|ak ?_
              have gx:out'.getD x 0=at' out' (x:Int):=by simp[at',List.getD_eq_getElem?_getD,show x<out'.length by omega]
              have gy:out'.getD y 0=at' out' (y:Int):=by simp[at',List.getD_eq_getElem?_getD,show y<out'.length by omega]
              have uy:=hI'.ub y (by omega) (by omega)
              have ly:=hI'.ge y (by omega)
              obtain⟨p1,hp1⟩:∃q,(!bG D a)=q:=⟨_,rfl⟩
              obtain⟨p2,hp2⟩:∃q,decide (out'.getD y 0<0)=q:=⟨_,rfl⟩
              obtain⟨p3,hp3⟩:∃q,(decide (y=n)|| !bI T y)=q:=⟨_,rfl⟩
              refine aY 79 (.raw (.bool (((!p1)||p2)||(!p3)))) [1,2,3,4,10,12,13,14,15] rfl ?_ ?_
              · refine .a 2 rfl<|.c rfl (hp1▸qi D a hDl) rfl<|.a 2 rfl<|?_
                cases p1
                · exact .a 13 rfl<|.k [79,1,2,3,4,10,12,13,14,15] rfl
                · refine .a 2 rfl<|.v (aR (y) rfl) rfl<|.v (aO rfl (au out' y (by omega))) rfl<|.v (bT rfl (hp2)) rfl<|.a 2 rfl<|?_
                  cases p2
                  · exact .a 3 rfl<|.c rfl (hp3▸jh T hv y n) rfl<|.a 2 rfl<|.k [79,1,2,3,4,10,12,13,14,15] rfl
                  · exact .a 6 rfl<|.k [79,1,2,3,4,10,12,13,14,15] rfl
              refine ag rfl (fun hc=>?_) (fun hc=>?_)
              · have hng:¬fM T D n dir out' a:=fun hg=>by
                  obtain⟨⟨w1,w2,w3⟩,_⟩:=hg
                  rw[hy]at w2 w3
                  have e1:p1=true:=by rw[←hp1,w1];rfl
                  have e2:p2=false:=by rw[←hp2,gy];simp;omega
                  have e3:p3=true:=by
                    rw[←hp3]
                    rcases w3 with w3|w3
                    · have:y=n:=by omega
                      simp[this]
                    · rw[Int.toNat_natCast]at w3;simp[w3]
                  rw[e1,e2,e3]at hc
                  cases hc
                refine bn<|aF (.a 1 rfl<|.v (bf rfl) rfl<|.a 1 rfl<|.k [1,2,3,4,10,12,13] rfl) ?_
                first
                  |exact⟨2*T.aa.length - (a+1),by omega,a+1,_,true,by omega,hIg,fun h=>(by cases h),fun _=>(by by_cases e:b'=true;(have:=ht' e;omega);(have:=(hb' (by cases b';rfl;exact absurd rfl e)).1;rw[this]at hmg;rw[this];exact hmg)),rfl,rfl⟩
                  |exact⟨2*T.aa.length - (a+1),by omega,a+1,out',b',by omega,hI',fun h=>⟨(hb' h).1,fun c hc'=>by by_cases e:c=a;(rw[e,←(hb' h).1];exact hng);exact(hb' h).2 c (by omega)⟩,ht',rfl,rfl⟩
              · have hway:Net.Way T D n dir out' a:=by
                  obtain⟨c1,c3⟩:=Bool.or_eq_false_iff.1 hc
                  obtain⟨c1,c2⟩:=Bool.or_eq_false_iff.1 c1
                  have e1:p1=true:=by cases p1;cases c1;rfl
                  have e3:p3=true:=by cases p3;cases c3;rfl
                  rw[e1]at hp1
                  rw[c2]at hp2
                  rw[e3]at hp3
                  refine⟨by revert hp1;cases bG D a<;>simp,?_,?_⟩
                  · rw[hy,←gy];have:=of_decide_eq_false hp2;omega
                  · rw[hy,Int.toNat_natCast]
                    rcases Bool.or_eq_true_iff.1 hp3 with h|h
                    · exact .inl (by have:=of_decide_eq_true h;omega)
                    · exact .inr (by revert h;cases bI T y<;>simp)
                have wy:=hway.2.1
                rw[hy]at wy
                refine ai<|gC mixed (by kernel_rfl) (.a 2 rfl<|.v [80,81] (aR (y) rfl) rfl rfl<|.v [82] (aO rfl ((au out' y (by omega)).trans (by rw[gy]))) rfl rfl<|.a 2 rfl<|.v [84,85] (j8 rfl (iu T hv a ham)) rfl rfl<|.v [83,86] (bf rfl) rfl rfl<|.a 1 rfl<|.k [1,2,3,4,10,12,13,14,16] rfl) ?_
                obtain⟨p4,hp4⟩:∃q,decide (at' out' (x:Int)<0)=q:=⟨_,rfl⟩
                obtain⟨p5,hp5⟩:∃q,decide (at' out' (y:Int)+a8 T a<at' out' (x:Int))=q:=⟨_,rfl⟩
                refine aY 100 (.raw (.bool (p4||p5))) [1,2,3,4,10,12,13,14,16] rfl ?_ ?_
                · refine .a 2 rfl<|.v (aR (x) rfl) rfl<|.v (aO rfl ((au out' x (by omega)).trans (by rw[gx]))) rfl<|.v (bT rfl (hp4)) rfl<|.a 1 rfl<|?_
                  cases p4
                  · exact .a 3 rfl<|.v (aR (x) rfl) rfl<|.v (aO rfl ((au out' x (by omega)).trans (by rw[gx]))) rfl<|.v (bT rfl (hp5)) rfl<|.a 1 rfl<|.k [100,1,2,3,4,10,12,13,14,16] rfl
                  · exact .a 7 rfl<|.k [100,1,2,3,4,10,12,13,14,16] rfl
                refine ag rfl (fun hc=>?_) (fun hc=>?_)
                · have hg:fM T D n dir out' a:=⟨hway,by
                    rw[hx,hy]
                    rcases Bool.or_eq_true_iff.1 hc with h|h
                    · rw[h]at hp4;exact .inl (of_decide_eq_true hp4)
                    · rw[h]at hp5;exact .inr (of_decide_eq_true hp5)⟩
                  obtain⟨hIg,hmg⟩:=lp hS hI' a ham hg
                  have hge:oS T dir out' a=out'.set x (at' out' (y:Int)+a8 T a):=by unfold oS;rw[hx,hy,Int.toNat_natCast]
                  rw[hge]at hIg hmg
                  refine aX<|av 3 rfl<|bZ (aR (x) rfl) rfl<|bE ((by first|exact bh rfl (cb.tk.get rfl) rfl rfl rfl (by first|omega|(simp;omega))|exact bc rfl (cb.tk.get rfl) rfl rfl rfl (by first|omega|(simp;omega)))) rfl rfl<|aQ [1,2,3,4,10,13] rfl ?_
                  refine aF (.a 1 rfl<|.k [1,2,3,4,10,12,13] rfl) ?_
                  refine aF (.a 1 rfl<|.v (bf rfl) rfl<|.a 1 rfl<|.k [1,2,3,4,10,12,13] rfl) ?_
                  first
                    |exact⟨2*T.aa.length - (a+1),by omega,a+1,_,true,by omega,hIg,fun h=>(by cases h),fun _=>(by by_cases e:b'=true;(have:=ht' e;omega);(have:=(hb' (by cases b';rfl;exact absurd rfl e)).1;rw[this]at hmg;rw[this];exact hmg)),rfl,rfl⟩
                    |exact⟨2*T.aa.length - (a+1),by omega,a+1,out',b',by omega,hI',fun h=>⟨(hb' h).1,fun c hc'=>by by_cases e:c=a;(rw[e,←(hb' h).1];exact hng);exact(hb' h).2 c (by omega)⟩,ht',rfl,rfl⟩
                · have hng:¬fM T D n dir out' a:=fun hg=>by
                    obtain⟨_,hg⟩:=hg
                    rw[hx,hy]at hg
                    obtain⟨c1,c2⟩:=Bool.or_eq_false_iff.1 hc
                    rw[c1]at hp4
                    rw[c2]at hp5
                    rcases hg with h|h
                    · exact of_decide_eq_false hp4 h
                    · exact of_decide_eq_false hp5 h
                  refine ai<|aF (.a 1 rfl<|.v (bf rfl) rfl<|.a 1 rfl<|.k [1,2,3,4,10,12,13] rfl) ?_
                  first
                    |exact⟨2*T.aa.length - (a+1),by omega,a+1,_,true,by omega,hIg,fun h=>(by cases h),fun _=>(by by_cases e:b'=true;(have:=ht' e;omega);(have:=(hb' (by cases b';rfl;exact absurd rfl e)).1;rw[this]at hmg;rw[this];exact hmg)),rfl,rfl⟩
                    |exact⟨2*T.aa.length - (a+1),by omega,a+1,out',b',by omega,hI',fun h=>⟨(hb' h).1,fun c hc'=>by by_cases e:c=a;(rw[e,←(hb' h).1];exact hng);exact(hb' h).2 c (by omega)⟩,ht',rfl,rfl⟩
          · have hae:a=2*T.aa.length:=by have:=of_decide_eq_false hc;omega
            refine lZ (.cons (k:=1) rfl<|.cons (k:=2) rfl<|.cons (k:=3) rfl<|.cons (k:=4) rfl<|.cons (k:=10) rfl<|.cons (k:=12) rfl<|Sub.nil _) ?_
            refine bn<|⟨_,?_,out',b',hI',fun h=>?_,rfl,rfl⟩
            · cases b'
              · rw[(hb' rfl).1];simp
              · have:=ht' rfl;simp;omega
            · rw[(hb' h).1];intro c hc';exact(hb' h).2 c (by omega)
        · have hdist:bH T D n dir=out:=gf hS (oB hI (hb hc))
          refine bn<|af (.a 3 rfl<|.k [8,9] rfl)<|an<|⟨_,_,ax.of rfl,ay.bq (al.cons (ay.gZ rfl al.pure) (al.cons ay.pure al.nil)),?_⟩
          unfold dL
          rw[hch,if_pos rfl,Int.toNat_natCast,hdist]
          unfold aJ
          rw[show out.length=k by have:=hI.len;omega]
theorem sq(T:ab)(D:List Bool)(d:Int):Can Tryd.prog 12 [a6 T,bA D,num d] (· =dL (bX T D [d]) (bH T D d.toNat false)):=by
 exact aI Tryd.func12 rfl Tryd.ntmps12 rfl<|af (.a 3 rfl<|.k [1,2,3] rfl)<|af (.a 3 rfl<|.c rfl (nG T D d false) rfl<|.a 4 rfl<|.k [6,7] rfl)<|an<|⟨_,_,ax.of rfl,ay.pure,rfl⟩
end PW
end Go.Proofs.YtnegbdpggideiaaDoor
namespace Go.Proofs.YtnegbdpggideiaaDoor
namespace PW
open Go.RowKit aN Mem Net
end PW
end Go.Proofs.YtnegbdpggideiaaDoor
namespace Go.Proofs.YtnegbdpggideiaaDoor
namespace PW
open Go.RowKit aN Mem Net
end PW
end Go.Proofs.YtnegbdpggideiaaDoor
namespace Go.Proofs.YtnegbdpggideiaaDoor
namespace PW
open Go.RowKit aN Mem Net
theorem rW(a b c d:Int)(w:World):(Op.equalIn 10000 32 (.agg #[.int .i64 a,.int .i64 b]) (.agg #[.int .i64 c,.int .i64 d])).run Tryd.prog w= .ok (a==c&&b==d) w:=by
 have u3:=Tryd.underlying3
 have a3:=Tryd.isAgg3
 have z3:=Tryd.sizeOf3
 have hS:Tryd.prog.underlying 32=some (.struct (Tryd.prog.fieldsOf 32)):=by kernel_rfl
 rw[show(10000:Nat)=9999+1 from rfl,run_equalIn_agg w 9999 32 _ _ hS (by kernel_rfl)]
 simp only[Program.fieldsOf,Tryd.underlying32]
 go_simp
 by_cases h1:a=c<;>by_cases h2:b=d<;>simp[h1,h2]
theorem qq{E:Env}{w:World}{v:Value}{s:bL}(h:bC E w v (pc s)):v= .agg #[.int .i64 s.kind,.int .i64 s.num]:=by
 unfold pc i1 at h
 cases h with
 |agg cs _ hl hr=>
  obtain⟨l⟩:=cs
  match l,hl,hr with
  | [x,y],_,hr=>
   have h0:=dI (hr 0 x _ rfl rfl)
   have h1:=dI (hr 1 y _ rfl rfl)
   subst h0;subst h1;rfl
  | [],hl,_=>simp at hl
  | [_],hl,_=>simp at hl
  |_::_::_::_,hl,_=>simp at hl
theorem tq{σ:bo}{t:a7}{o:Oper}{x y:Operand}{tz:TypeId}{a b:bL}{q:Bool}(ho:o.op= .binOp .eql 32 x y tz)(hx:ah t x=some (pc a))(hy:ah t y=some (pc b))(hq:decide (a=b)=q):az Tryd.prog σ t o (.raw (.bool q)):=by
 intro F base E ρ w hρ _ hT
 have h1:=qq (ae hρ hT hx)
 have h2:=qq (ae hρ hT hy)
 have hb:(a.kind==b.kind&&a.num==b.num)=q:=by
  rw[←hq]
  obtain⟨a1,a2⟩:=a
  obtain⟨b1,b2⟩:=b
  by_cases e1:a1=b1<;>by_cases e2:a2=b2<;>simp[e1,e2]
 simp only[execOp,ho,h1,h2,Sem.run_bind,run_eqGuard_agg w _ _ _ _ _ _ (show Tryd.prog.eqGuardType Tryd.prog.depth 32=false by kernel_rfl),Result.andThen_ok,run_eql_struct,rW,Sem.run_pure,hb]
 exact aA (.raw _)
end PW
end Go.Proofs.YtnegbdpggideiaaDoor
namespace Go.Proofs.YtnegbdpggideiaaDoor
namespace PW
open Go.RowKit aN Mem Net
deriving instance DecidableEq for gV
deriving instance DecidableEq for eS
theorem uZ{E:Env}{w:World}{v:Value}{x:eS}(h:bC E w v (mO x)):x.cI.length≤maxLen∧x.down.length≤maxLen:=by
 unfold mO dx at h
 cases h with
 |agg cs _ hl hr=>
  have hr:aw E w cs.toList _:=⟨by simpa using hl,fun i x u h1 h2=>hr i x u (by simpa using h1) h2⟩
  obtain⟨v1,_,h1⟩:=hr.get (i:=1) rfl
  obtain⟨v2,_,h2⟩:=hr.get (i:=2) rfl
  exact⟨iJ h1,iJ h2⟩
end PW
end Go.Proofs.YtnegbdpggideiaaDoor
namespace Go.Proofs.YtnegbdpggideiaaDoor
namespace PW
open Go.RowKit aN Mem Net
def lK(T:ab)(s:bL):Bool:=if s.kind=1 then aS T s.num else if s.kind=2 then cX T s.num else if s.kind=3 then aM s.num 1 64 else if s.kind=4 then aM s.num 0 65535 else false
def dW(T:ab)(n:Int)(L:List Int):Bool:=decide (∀i,i<L.length→cX T (L.getD i 0)=true∧bb T (L.getD i 0).toNat=n∧(0<i→L.getD (i - 1) 0<L.getD i 0))
def jl(T:ab)(n d:Int)(e:gV):Bool:=dW T n e.aW&&(!(decide (d=n)&&decide (0<(e.aW.length:Int))))&&(if e.rep then decide ((e.aW.length:Int)=1)&&decide ((e.push.length:Int)≤32)&&e.push.all (lK T) else decide ((e.push.length:Int)=0))
def wO:gV:=⟨[],false,[]⟩
def mU(T:ab)(n:Int)(l:List gV):Bool:=decide (∀d,d<l.length→jl T n d (l.getD d wO)=true)
def de(T:ab)(x:eS):Bool:=aj T&&aS T x.node&&decide ((x.cI.length:Int)=T.nodes)&&dW T x.node x.down&&mU T x.node x.cI
theorem bR{T:ab}{a:Int}:cX T a=true↔0≤a∧a<2*(T.aa.length:Int):=by simp[cX]
theorem mb(T:ab)(a:Int)(h:cX T a=true):Can Tryd.prog 68 [a6 T,num a] (· =num (bb T a.toNat)):=by
 obtain⟨h0,h1⟩:=bR.1 h
 obtain⟨a,rfl⟩:=Int.eq_ofNat_of_zero_le h0
 exact jc T a (by omega)
theorem sV(T:ab)(hl:T.aa.length≤4611686018427387903)(s:bL):Can Tryd.prog 95 [a6 T,pc s] (· =flag (lK T s)):=by
 unfold lK
 refine aI Tryd.func95 rfl Tryd.ntmps95 rfl<|af (.a 3 rfl<|.k [2,3] rfl)<|ak<|af (.a 2 rfl<|.k [2,3,6] rfl)<|aq<|af (.a 2 rfl<|.k [2,3,6,7] rfl)<|ag rfl (fun hc=>?_) (fun hc=>?_)
 ·rw[if_pos (tt hc)]
  exact af (.a 3 rfl<|.c rfl (cE T s.num) rfl<|.a 1 rfl<|.k [4] rfl)<|an<|⟨_,_,ax.of rfl,ay.pure,rfl⟩
 ·rw[if_neg (ff hc)]
  refine af (.a 2 rfl<|.k [2,3,6,13] rfl)<|ag rfl (fun hc=>?_) (fun hc=>?_)
  ·rw[if_pos (tt hc)]
   exact af (.a 3 rfl<|.c rfl (mJ T hl s.num) rfl<|.a 1 rfl<|.k [4] rfl)<|an<|⟨_,_,ax.of rfl,ay.pure,rfl⟩
  ·rw[if_neg (ff hc)]
   refine af (.a 2 rfl<|.k [3,6,19] rfl)<|ag rfl (fun hc=>?_) (fun hc=>?_)
   ·rw[if_pos (tt hc)]
    obtain⟨p1,hp1⟩:∃q,decide (1≤s.num)=q:=⟨_,rfl⟩
    obtain⟨p2,hp2⟩:∃q,decide (s.num≤64)=q:=⟨_,rfl⟩
    have he:aM s.num 1 64=(p1&&p2):=by rw[←hp1,←hp2];unfold aM;exact Bool.decide_and _ _
    rw[he]
    refine aY 4 (.raw (.bool (p1&&p2))) [] rfl ?_ ?_
    ·refine .a 2 rfl<|.v (bT rfl (hp1)) rfl<|.a 1 rfl<|?_
     cases p1
     ·exact .a 5 rfl<|.k [4] rfl
     ·exact .a 2 rfl<|.v (bT rfl (hp2)) rfl<|.a 2 rfl<|.k [4] rfl
    exact an<|⟨_,_,ax.of rfl,ay.pure,rfl⟩
   ·rw[if_neg (ff hc)]
    refine af (.a 2 rfl<|.k [3,29] rfl)<|ag rfl (fun hc=>?_) (fun hc=>?_)
    ·rw[if_pos (tt hc)]
     obtain⟨p1,hp1⟩:∃q,decide (0≤s.num)=q:=⟨_,rfl⟩
     obtain⟨p2,hp2⟩:∃q,decide (s.num≤65535)=q:=⟨_,rfl⟩
     have he:aM s.num 0 65535=(p1&&p2):=by rw[←hp1,←hp2];unfold aM;exact Bool.decide_and _ _
     rw[he]
     refine aY 4 (.raw (.bool (p1&&p2))) [] rfl ?_ ?_
     ·refine .a 2 rfl<|.v (bT rfl (hp1)) rfl<|.a 1 rfl<|?_
      cases p1
      ·exact .a 5 rfl<|.k [4] rfl
      ·exact .a 2 rfl<|.v (bT rfl (hp2)) rfl<|.a 2 rfl<|.k [4] rfl
     exact an<|⟨_,_,ax.of rfl,ay.pure,rfl⟩
    ·rw[if_neg (ff hc)]
     exact ai<|af (.a 1 rfl<|.k [4] rfl)<|an<|⟨_,_,ax.of rfl,ay.pure,rfl⟩
def nN(T:ab)(n:Int)(L:List Int)(i:Nat):Bool:=decide (cX T (L.getD i 0)=true∧bb T (L.getD i 0).toNat=n∧(0<i→L.getD (i - 1) 0<L.getD i 0))
theorem rP{T:ab}{n:Int}{L:List Int}(h:∀i,i<L.length→nN T n L i=true):dW T n L=true:=decide_eq_true fun i hi=>tt (h i hi)
theorem oR{T:ab}{n:Int}{L:List Int}{i:Nat}(hi:i<L.length)(h:nN T n L i=false):dW T n L=false:=decide_eq_false fun ha=>ff h (ha i hi)
theorem iK(T:ab)(hv:aj T=true)(n:Int)(L:List Int):Can Tryd.prog 81 [a6 T,num n,aJ L] (· =flag (dW T n L)):=by
 have hll:=bJ hv
 refine nt fun⟨E,w,vs,hR⟩=>?_
 obtain⟨v,_,hv⟩:=hR.get (i:=2) rfl
 have hm:=iJ hv
 unfold maxLen at hm
 refine aI Tryd.func81 rfl Tryd.ntmps81 rfl<|af (.a 2 rfl<|.k [1,2,3] rfl)<|ak<|af (.a 3 rfl<|.k [1,2,3,9,10,11] rfl)<|aq<|iC [1,2,3,9,10,11] rfl<|br (fun r s=>∃k,k≤L.length∧r=L.length - k∧(∀i,i<k→nN T n L i=true)∧s=⟨[(1,num n),(2,aJ L),(3,.b6 (b5 T) 0),(9,aJ L),(10,num L.length),(11,num k)],[]⟩) L.length ⟨0,by omega,by omega,fun i hi=>by omega,rfl⟩ ?_
 rintro r s ⟨k,hk,rfl,hall,rfl⟩
 refine af (.a 1 rfl<|.k [1,2,3,9,10,11,12] rfl)<|ak<|ag rfl (fun hc=>?_) (fun hc=>?_)
 ·have hlt:k<L.length:=by have:=tt hc;omega
  obtain⟨p1,hp1⟩:∃q,cX T (L.getD k 0)=q:=⟨_,rfl⟩
  obtain⟨p2,hp2⟩:∃q,decide (bb T (L.getD k 0).toNat≠n)=q:=⟨_,rfl⟩
  obtain⟨p3,hp3⟩:∃q,decide (0<(k:Int))=q:=⟨_,rfl⟩
  obtain⟨p4,hp4⟩:∃q,decide (L.getD k 0≤L.getD (k - 1) 0)=q:=⟨_,rfl⟩
  refine ai<|ak<|aq<|af (.a 1 rfl<|.v (aR (k) rfl) rfl<|.v (aO rfl (au L k hlt)) rfl<|.a 2 rfl<|.k [1,2,3,7,8,9,10,11] rfl)<|aY 39 (.raw (.bool (((!p1)||p2)||(p3&&p4)))) [1,2,3,9,10,11] rfl ?_ ?_
  ·refine .a 2 rfl<|.c rfl (hp1▸mJ T (by omega) (L.getD k 0)) rfl<|.a 2 rfl<|?_
   cases p1
   ·exact .a 19 rfl<|.k [39,1,2,3,9,10,11] rfl
   ·refine .a 2 rfl<|.c rfl (mb T _ hp1) rfl<|.a 1 rfl<|.v (bT rfl (hp2)) rfl<|.a 2 rfl<|?_
    cases p2
    ·refine .a 1 rfl<|.v (bT rfl (hp3)) rfl<|.a 1 rfl<|?_
     cases p3
     ·exact .a 9 rfl<|.k [39,1,2,3,9,10,11] rfl
     ·exact .a 2 rfl<|.v (bf rfl) rfl<|.v (aR (k - 1) rfl (by have:=tt hp3;omega) (by omega)) rfl<|.v (aO rfl (au L (k - 1) (by omega))) rfl<|.a 1 rfl<|.v (bT rfl (hp4)) rfl<|.a 2 rfl<|.k [39,1,2,3,9,10,11] rfl
    ·exact .a 12 rfl<|.k [39,1,2,3,9,10,11] rfl
  refine ag rfl (fun hx=>?_) (fun hx=>?_)
  ·have hno:nN T n L k=false:=by
    refine decide_eq_false fun⟨h1,h2,h3⟩=>?_
    rw[h1]at hp1
    rw[decide_eq_false (by simpa using h2)]at hp2
    subst hp1 hp2
    simp only[Bool.not_true,Bool.false_or,Bool.and_eq_true]at hx
    rw[hx.1]at hp3
    rw[hx.2]at hp4
    have:=h3 (by have:=tt hp3;omega)
    have:=tt hp4
    omega
   rw[oR hlt hno]
   exact af (.a 1 rfl<|.k [6] rfl)<|an<|⟨_,_,ax.of rfl,ay.pure,rfl⟩
  ·have hyes:nN T n L k=true:=by
    obtain⟨c1,c3⟩:=Bool.or_eq_false_iff.1 hx
    obtain⟨c1,c2⟩:=Bool.or_eq_false_iff.1 c1
    refine decide_eq_true ⟨?_,?_,fun h0=>?_⟩
    ·rw[hp1];simpa using c1
    ·rw[c2]at hp2;exact Classical.byContradiction (ff hp2)
    ·rw[decide_eq_true (by omega)]at hp3
     subst hp3
     rw[Bool.true_and]at c3
     rw[c3]at hp4
     have:=ff hp4
     omega
   refine ai<|aF (.v (bf rfl) rfl<|.a 1 rfl<|.k [1,2,3,9,10,11] rfl) ?_
   refine⟨L.length - (k+1),by omega,k+1,by omega,rfl,fun i hi=>?_,rfl⟩
   by_cases h:i=k
   ·rw[h];exact hyes
   ·exact hall i (by omega)
 ·have hke:k=L.length:=by have:=ff hc;omega
  subst hke
  rw[rP hall]
  exact bn<|af (.a 1 rfl<|.k [6] rfl)<|an<|⟨_,_,ax.of rfl,ay.pure,rfl⟩
theorem yn{α:Type}(p:α→Bool)(L:List α)(k:Nat)(a:α)(h:L[k]? =some a):(L.take (k+1)).all p=((L.take k).all p&&p a):=by
 rw[List.take_add_one,h,List.all_append];simp
theorem yA{α:Type}(p:α→Bool)(L:List α)(k:Nat)(a:α)(h:L[k]? =some a)(hp:p a=false):L.all p=false:=by
 rw[Bool.eq_false_iff]
 intro ha
 have:=List.all_eq_true.1 ha a (List.mem_of_getElem? h)
 rw[hp]at this
 cases this
theorem pw(T:ab)(hv:aj T=true)(e:gV)(n d:Int):Can Tryd.prog 82 [a6 T,vm e,num n,num d] (· =flag (jl T n d e)):=by
 have hll:=bJ hv
 obtain⟨p1,hp1⟩:∃q,dW T n e.aW=q:=⟨_,rfl⟩
 obtain⟨p2,hp2⟩:∃q,decide (d=n)=q:=⟨_,rfl⟩
 obtain⟨p3,hp3⟩:∃q,decide (0<(e.aW.length:Int))=q:=⟨_,rfl⟩
 unfold jl
 rw[hp1,hp2,hp3]
 refine aI Tryd.func82 rfl Tryd.ntmps82 rfl<|af (.a 3 rfl<|.k [2,3,4,5] rfl)<|ak<|aY 27 (.raw (.bool ((!p1)||(p2&&p3)))) [4,5] rfl ?_ ?_
 ·refine .a 4 rfl<|.c rfl (hp1▸iK T hv n e.aW) rfl<|.a 2 rfl<|?_
  cases p1
  ·exact .a 10 rfl<|.k [27,4,5] rfl
  ·refine .a 2 rfl<|.v (bT rfl (hp2)) rfl<|.a 1 rfl<|?_
   cases p2
   ·exact .a 6 rfl<|.k [27,4,5] rfl
   ·exact .a 3 rfl<|.v (bT rfl (hp3)) rfl<|.a 2 rfl<|.k [27,4,5] rfl
 refine ag rfl (fun hc=>?_) (fun hc=>?_)
 ·have he:(p1&& !(p2&&p3))=false:=by cases p1<;>cases p2<;>cases p3<;>first|rfl|cases hc
  rw[he,Bool.false_and]
  exact af (.a 1 rfl<|.k [8] rfl)<|an<|⟨_,_,ax.of rfl,ay.pure,rfl⟩
 ·have he:(p1&& !(p2&&p3))=true:=by cases p1<;>cases p2<;>cases p3<;>first|rfl|cases hc
  rw[he,Bool.true_and]
  refine ai<|ak<|af (.a 3 rfl<|.k [4,5,30] rfl)<|ag rfl (fun hc=>?_) (fun hc=>?_)
  ·have hr:e.rep=false:=by simpa using hc
   rw[hr,if_neg (by simp)]
   exact af (.a 5 rfl<|.k [8] rfl)<|an<|⟨_,_,ax.of rfl,ay.pure,rfl⟩
  ·have hr:e.rep=true:=by simpa using hc
   rw[hr,if_pos rfl]
   refine ai<|ak ?_
   obtain⟨p4,hp4⟩:∃q,decide ((e.aW.length:Int)≠1)=q:=⟨_,rfl⟩
   obtain⟨p5,hp5⟩:∃q,decide (32<(e.push.length:Int))=q:=⟨_,rfl⟩
   refine aY 44 (.raw (.bool (p4||p5))) [4,5] rfl ?_ ?_
   ·refine .a 3 rfl<|.v (bT rfl (hp4)) rfl<|.a 1 rfl<|?_
    cases p4
    ·exact .a 3 rfl<|.v (bT rfl (hp5)) rfl<|.a 1 rfl<|.k [44,4,5] rfl
    ·exact .a 5 rfl<|.k [44,4,5] rfl
   refine ag rfl (fun hx=>?_) (fun hx=>?_)
   ·have hf:(decide ((e.aW.length:Int)=1)&&decide ((e.push.length:Int)≤32))=false:=by
     rcases Bool.or_eq_true_iff.1 hx with h|h
     ·rw[h]at hp4;rw[decide_eq_false (tt hp4)];rfl
     ·rw[h]at hp5;rw[decide_eq_false (by have:=tt hp5;omega:¬((e.push.length:Int)≤32)),Bool.and_false]
    rw[hf,Bool.false_and]
    exact af (.a 1 rfl<|.k [8] rfl)<|an<|⟨_,_,ax.of rfl,ay.pure,rfl⟩
   ·obtain⟨c1,c2⟩:=Bool.or_eq_false_iff.1 hx
    rw[c1]at hp4
    rw[c2]at hp5
    have hlen:e.push.length≤32:=by have:=ff hp5;omega
    rw[decide_eq_true (Classical.byContradiction (ff hp4)),decide_eq_true (by omega:(e.push.length:Int)≤32),Bool.true_and,Bool.true_and]
    refine ai<|ak<|af (.a 4 rfl<|.k [4,46,47,48] rfl)<|aq<|iC [4,46,47,48] rfl<|br (fun r s=>∃k,k≤e.push.length∧r=e.push.length - k∧(e.push.take k).all (lK T)=true∧s=⟨[(4,.b6 (b5 T) 0),(46,bD e.push),(47,num e.push.length),(48,num k)],[]⟩) e.push.length ⟨0,by omega,by omega,by simp,rfl⟩ ?_
    rintro r s ⟨k,hk,rfl,hall,rfl⟩
    refine af (.a 1 rfl<|.k [4,46,47,48,49] rfl)<|ak<|ag rfl (fun hy=>?_) (fun hy=>?_)
    ·have hlt:k<e.push.length:=by have:=tt hy;omega
     obtain⟨a,ha⟩:∃a,e.push[k]? =some a:=⟨e.push[k],by simp[hlt]⟩
     refine ai<|ak<|aq<|aX<|bZ (aR (k*2) rfl) rfl<|bZ (eZ rfl (jC e.push k a ha) rfl) rfl<|av 2 rfl<|aQ [4,10,46,47,48] rfl ?_
     refine af (.a 2 rfl<|.c rfl (sV T (by omega) a) rfl<|.a 1 rfl<|.k [4,46,47,48,55] rfl)<|dO [] (.c 4<|.c 46<|.c 47<|.c 48<|.c 55 .nil) .nil rfl rfl ?_
     refine ag rfl (fun hz=>?_) (fun hz=>?_)
     ·rw[yA _ _ k a ha (by simpa using hz)]
      exact af (.a 1 rfl<|.k [8] rfl)<|an<|⟨_,_,ax.of rfl,ay.pure,rfl⟩
     ·have hz':lK T a=true:=by simpa using hz
      refine ai<|aF (.v (bf rfl) rfl<|.a 1 rfl<|.k [4,46,47,48] rfl) ?_
      exact⟨e.push.length - (k+1),by omega,k+1,by omega,rfl,by rw[yn _ _ k a ha,hall,hz'];rfl,rfl⟩
    ·have hke:k=e.push.length:=by have:=ff hy;omega
     subst hke
     rw[List.take_length]at hall
     rw[hall]
     exact bn<|af (.a 1 rfl<|.k [8] rfl)<|an<|⟨_,_,ax.of rfl,ay.pure,rfl⟩
theorem gW(l:List gV)(k:Nat)(e:gV)(h:l[k]? =some e):l.getD k wO=e:=by rw[List.getD_eq_getElem?_getD,h];rfl
theorem ox{T:ab}{n:Int}{l:List gV}{k:Nat}{e:gV}(h:l[k]? =some e)(hf:jl T n k e=false):mU T n l=false:=decide_eq_false fun ha=>by
 have:=ha k (List.getElem?_eq_some_iff.1 h).1
 rw[gW l k e h,hf]at this
 cases this
theorem kI{T:ab}{n:Int}{l:List gV}(h:∀(k:Nat) e,l[k]? =some e→jl T n k e=true):mU T n l=true:=decide_eq_true fun d hd=>by
 have he:l[d]? =some l[d]:=by simp[hd]
 rw[gW l d _ he]
 exact h d _ he
theorem ko(T:ab)(x:eS):Can Tryd.prog 64 [a6 T,mO x] (· =flag (de T x)):=by
 refine nt fun⟨E,w,vs,hR⟩=>?_
 obtain⟨v,_,hvv⟩:=hR.get (i:=1) rfl
 have hm:=(uZ hvv).1
 unfold maxLen at hm
 obtain⟨p1,hp1⟩:∃q,aj T=q:=⟨_,rfl⟩
 obtain⟨p2,hp2⟩:∃q,aS T x.node=q:=⟨_,rfl⟩
 obtain⟨p3,hp3⟩:∃q,decide ((x.cI.length:Int)≠T.nodes)=q:=⟨_,rfl⟩
 obtain⟨p4,hp4⟩:∃q,dW T x.node x.down=q:=⟨_,rfl⟩
 have he:decide ((x.cI.length:Int)=T.nodes)= !p3 :=by rw[←hp3];simp
 unfold de
 rw[hp1,hp2,he,hp4]
 refine aI Tryd.func64 rfl Tryd.ntmps64 rfl<|af (.a 3 rfl<|.k [2,3] rfl)<|ak<|aY 33 (.raw (.bool ((((!p1)|| !p2)||p3)|| !p4))) [2,3] rfl ?_ ?_
 ·refine .a 1 rfl<|.c rfl (hp1▸fp T) rfl<|.a 2 rfl<|?_
  cases p1
  ·exact .a 23 rfl<|.k [33,2,3] rfl
  ·refine .a 3 rfl<|.c rfl (hp2▸cE T x.node) rfl<|.a 3 rfl<|?_
   cases p2
   ·exact .a 16 rfl<|.k [33,2,3] rfl
   ·refine .a 5 rfl<|.v (bT rfl (hp3)) rfl<|.a 2 rfl<|?_
    cases p3
    ·exact .a 5 rfl<|.c rfl (hp4▸iK T hp1 x.node x.down) rfl<|.a 2 rfl<|.k [33,2,3] rfl
    ·exact .a 8 rfl<|.k [33,2,3] rfl
 refine ag rfl (fun hc=>?_) (fun hc=>?_)
 ·have hf:(p1&&p2&& !p3 &&p4)=false:=by cases p1<;>cases p2<;>cases p3<;>cases p4<;>first|rfl|cases hc
  rw[hf,Bool.false_and]
  exact af (.a 1 rfl<|.k [4] rfl)<|an<|⟨_,_,ax.of rfl,ay.pure,rfl⟩
 ·have hf:(p1&&p2&& !p3 &&p4)=true:=by cases p1<;>cases p2<;>cases p3<;>cases p4<;>first|rfl|cases hc
  rw[hf,Bool.true_and]
  have e1:p1=true:=by cases p1<;>simp_all
  rw[e1]at hp1
  refine ai<|ak<|af (.a 4 rfl<|.k [2,3,35,36,37] rfl)<|aq<|iC [2,3,35,36,37] rfl<|br (fun r s=>∃k,k≤x.cI.length∧r=x.cI.length - k∧(∀(i:Nat) e,i<k→x.cI[i]? =some e→jl T x.node i e=true)∧s=⟨[(2,.b6 (b5 T) 0),(3,.b6 (dx x) 0),(35,gg x.cI),(36,num x.cI.length),(37,num k)],[]⟩) x.cI.length ⟨0,by omega,by omega,fun i e hi=>by omega,rfl⟩ ?_
  rintro r s ⟨k,hk,rfl,hall,rfl⟩
  refine af (.a 1 rfl<|.k [2,3,35,36,37,38] rfl)<|ak<|ag rfl (fun hy=>?_) (fun hy=>?_)
  ·have hlt:k<x.cI.length:=by have:=tt hy;omega
   obtain⟨e,hek⟩:∃a,x.cI[k]? =some a:=⟨x.cI[k],by simp[hlt]⟩
   refine ai<|ak<|aq<|aX<|av 1 rfl<|bZ (aR (k*3) rfl) rfl<|bZ (eZ rfl (jQ x.cI k e hek) rfl) rfl<|av 3 rfl<|aQ [2,3,5,6,35,36,37] rfl ?_
   refine af (.a 5 rfl<|.c rfl (pw T hp1 e x.node k) rfl<|.a 1 rfl<|.k [2,3,35,36,37,48] rfl)<|dO [] (.c 2<|.c 3<|.c 35<|.c 36<|.c 37<|.c 48 .nil) .nil rfl rfl ?_
   refine ag rfl (fun hz=>?_) (fun hz=>?_)
   ·rw[ox hek (by simpa using hz)]
    exact af (.a 1 rfl<|.k [4] rfl)<|an<|⟨_,_,ax.of rfl,ay.pure,rfl⟩
   ·have hz':jl T x.node k e=true:=by simpa using hz
    refine ai<|aF (.v (bf rfl) rfl<|.a 1 rfl<|.k [2,3,35,36,37] rfl) ?_
    refine⟨x.cI.length - (k+1),by omega,k+1,by omega,rfl,fun i e' hi he'=>?_,rfl⟩
    by_cases h:i=k
    ·subst h;rw[hek]at he';cases he';exact hz'
    ·exact hall i e' (by omega) he'
  ·have hke:k=x.cI.length:=by have:=ff hy;omega
   rw[kI fun i e hi=>hall i e (by have:=(List.getElem?_eq_some_iff.1 hi).1;omega) hi]
   exact bn<|af (.a 1 rfl<|.k [4] rfl)<|an<|⟨_,_,ax.of rfl,ay.pure,rfl⟩
end PW
end Go.Proofs.YtnegbdpggideiaaDoor
namespace Go.Proofs.YtnegbdpggideiaaDoor
namespace PW
open Go.RowKit aN Mem Net
theorem jT(T:ab)(n:Int):(cU T n).Pairwise (· < ·):=by
 unfold cU eU
 refine List.Pairwise.map _ (fun a b h=>?_) ((List.pairwise_lt_range (n:=2*T.aa.length)).filter _)
 show(a:Int)<(b:Int)
 omega
theorem kO{T:ab}{n:Int}{a:Int}:a∈cU T n↔cX T a=true∧bb T a.toNat=n:=by
 unfold cU eU
 rw[List.mem_map,bR]
 constructor
 ·rintro⟨b,hb,rfl⟩
  obtain⟨h1,h2⟩:=List.mem_filter.1 hb
  have:=List.mem_range.1 h1
  refine⟨⟨by simp,by simp;omega⟩,by simpa using h2⟩
 ·rintro⟨⟨h0,h1⟩,h2⟩
  refine⟨a.toNat,List.mem_filter.2 ⟨List.mem_range.2 (by omega),by simpa using h2⟩,by simp;omega⟩
theorem uk{T:ab}{n:Int}{L:List Int}(hs:L.Pairwise (· < ·))(hm:∀a∈L,cX T a=true∧bb T a.toNat=n):dW T n L=true:=decide_eq_true fun i hi=>by
 have h1:=hm _ (cS (d:=0) hi)
 refine⟨h1.1,h1.2,fun h0=>?_⟩
 have:=List.pairwise_iff_getElem.1 hs (i - 1) i (by omega) hi (by omega)
 rw[List.getD_eq_getElem?_getD,List.getD_eq_getElem?_getD,List.getElem?_eq_getElem hi,List.getElem?_eq_getElem (by omega:i - 1<L.length)]
 exact this
theorem mc(T:ab)(n:Int)(p:Int→Bool):dW T n ((cU T n).filter p)=true:=uk ((jT T n).filter p) fun _ ha=>kO.1 (List.mem_filter.1 ha).1
theorem pC(T:ab)(D:List Bool)(n d:Nat):dW T n (bx T D n d)=true:=by
 unfold bx
 split
 ·exact decide_eq_true fun i hi=>by simp at hi
 ·exact mc T n _
theorem mh(T:ab)(D:List Bool)(n:Nat):bx T D n n=[]:=by unfold bx;rw[if_pos (.inl rfl)]
theorem fI{T:ab}{D:List Bool}(hv:aj T=true){n:Nat}(hn:(n:Int)<T.nodes):de T (bS T D n)=true:=by
 unfold de bS
 have h1:aS T (n:Int)=true:=aV.2 ⟨by omega,hn⟩
 have hN:=(aC hv).nodes
 have h2:decide (((oY T D n T.nodes.toNat).length:Int)=T.nodes)=true:=decide_eq_true (by rw[qp];omega)
 have h3:dW T n (iR D (cU T n))=true:=mc T n _
 have h4:mU T n (oY T D n T.nodes.toNat)=true:=kI fun d e he=>by
  unfold oY at he
  rw[List.getElem?_map,Option.map_eq_some_iff]at he
  obtain⟨d',hd',rfl⟩:=he
  have hd:d'=d:=by
   have:=List.getElem?_eq_some_iff.1 hd'
   obtain⟨h,h'⟩:=this
   simpa using h'.symm
  subst hd
  unfold jl
  simp only[pC,Bool.true_and]
  by_cases hdn:d'=n
  ·subst hdn;rw[mh];simp
  ·rw[decide_eq_false (by omega)];simp
 rw[hv,h1,h2,h3,h4]
 rfl
theorem iL{T:ab}{D:List Bool}(hv:aj T=true){d x:Nat}(hd:(d:Int)<T.nodes)(hx:(x:Int)<T.nodes):(bH T D d false).getD x 0=at' (bH T D d false) (x:Int):=by
 have hl:=(eV (D:=D) hv (dir:=false) hd).1
 unfold at'
 rw[Int.toNat_natCast,List.getD_eq_getElem?_getD,List.getD_eq_getElem?_getD,List.getElem?_eq_getElem (by omega)]
 rfl
structure fK (T:ab) (D:List Bool) (n d a:Nat):Prop where
 fZ:a<2*T.aa.length
 tail:bb T a=(n:Int)
 up:bG D a=false
 ne:n≠d
 reach:0≤(bH T D d false).getD (aK T a).toNat 0
 pass:aK T a=(d:Int)∨bI T (aK T a).toNat=false
 sum:(bH T D d false).getD n 0=(bH T D d false).getD (aK T a).toNat 0+a8 T a
theorem dP{T:ab}{D:List Bool}{n d:Nat}{a:Int}(h:a∈bx T D n d):∃k:Nat,a=k∧fK T D n d k:=by
 unfold bx at h
 split at h
 ·simp at h
 ·rename_i hne
  obtain⟨h1,h2⟩:=List.mem_filter.1 h
  obtain⟨h3,h4⟩:=kO.1 h1
  obtain⟨h5,h6⟩:=bR.1 h3
  obtain⟨k,rfl⟩:=Int.eq_ofNat_of_zero_le h5
  rw[Int.toNat_natCast]at h2 h4
  unfold mq at h2
  simp only[Bool.and_eq_true,Bool.not_eq_true',Bool.or_eq_false_iff,decide_eq_true_eq,decide_eq_false_iff_not]at h2
  obtain⟨⟨⟨g1,g2⟩,g3⟩,g4⟩:=h2
  refine⟨k,rfl,by omega,h4,g1,fun e=>hne (.inl e),by omega,?_,by omega⟩
  rcases Bool.and_eq_false_iff.1 g3 with g|g
  ·exact .inl (Classical.byContradiction (ff g))
  ·exact .inr g
theorem fH{T:ab}{D:List Bool}{n d k:Nat}(h:fK T D n d k)(hc:1≤a8 T k):(k:Int)∈bx T D n d:=by
 have hs:=h.sum
 have hr:=h.reach
 unfold bx
 rw[if_neg (by rintro(e|e);exact h.ne e;omega)]
 refine List.mem_filter.2 ⟨kO.2 ⟨bR.2 ⟨by omega,by have:=h.fZ;omega⟩,h.tail⟩,?_⟩
 unfold mq
 rw[Int.toNat_natCast]
 simp only[Bool.and_eq_true,Bool.not_eq_true',Bool.or_eq_false_iff,decide_eq_true_eq,decide_eq_false_iff_not]
 refine⟨⟨⟨h.up,by omega⟩,?_⟩,by omega⟩
 rcases h.pass with g|g
 ·rw[decide_eq_false (by simpa using g)];rfl
 ·rw[g,Bool.and_false]
theorem iD{T:ab}{D:List Bool}(hv:aj T=true){n d:Nat}(hn:(n:Int)<T.nodes)(hd:(d:Int)<T.nodes)(hne:n≠d)(h0:0≤(bH T D d false).getD n 0):∃k,fK T D n d k:=by
 have hS:=aC hv
 have hI:=lu hS D false hd
 have e1:=iL (D:=D) hv hd hn
 rcases hI.jF n hn (by rw[←e1];exact h0)with h|⟨a,ha,hx,⟨w1,w2,w3⟩,hs⟩
 ·exact absurd h hne
 ·have hh:=hS.head a ha
  obtain⟨y,hy⟩:=Int.eq_ofNat_of_zero_le hh.1
  have e2:=iL (D:=D) hv hd (x:=y) (by omega)
  simp only[cP,bz,Bool.false_eq_true,if_false]at hx w2 w3 hs
  rw[hy]at w2 w3 hs
  refine⟨a,ha,hx,w1,hne,?_,?_,?_⟩
  ·rw[hy,Int.toNat_natCast,e2];exact w2
  ·rw[hy];exact w3
  ·rw[hy,Int.toNat_natCast,e1,e2];exact hs
theorem sA{T:ab}{D:List Bool}(hv:aj T=true){d:Nat}(hd:(d:Int)<T.nodes):(bH T D d false).getD d 0=0:=by
 rw[iL hv hd hd]
 exact(lu (aC hv) D false hd).root
end PW
end Go.Proofs.YtnegbdpggideiaaDoor
namespace Go.Proofs.YtnegbdpggideiaaDoor
namespace PW
open Go.RowKit aN Mem Net
noncomputable def dN(T:ab)(D:List Bool)(d x:Nat):Int:=(bH T D d false).getD x 0
def cw(T:ab)(p:List Int):Int:=p.foldr (fun a c=>a8 T a.toNat+c) 0
theorem ev(T:ab):cw T []=0:=rfl
theorem cY(T:ab)(a:Int)(p:List Int):cw T (a::p)=a8 T a.toNat+cw T p:=rfl
theorem cM(T:ab)(p q:List Int):cw T (p++q)=cw T p+cw T q:=by
 induction p with
 |nil=>simp[ev]
 |cons a p ih=>rw[List.cons_append,cY,cY,ih];omega
inductive SP (T:ab) (D:List Bool) (d:Nat):Nat→List Int→Prop
 |nil:SP T D d d []
 |cons {n a m:Nat} {p:List Int}:fK T D n d a→aK T a=(m:Int)→SP T D d m p→SP T D d n ((a:Int)::p)
inductive Ch (T:ab) (D:List Bool) (d:Nat):Nat→List Int→Prop
 |nil:Ch T D d d []
 |cons {n a m:Nat} {p:List Int}:a<2*T.aa.length→bb T a=(n:Int)→bG D a=false→aK T a=(m:Int)→(p=[]∨bI T m=false)→Ch T D d m p→Ch T D d n ((a:Int)::p)
theorem km:∀(N:Nat) (l:List Nat),l.Nodup→(∀x∈l,x<N)→l.length≤N
 |0,l,_,h=>by
  cases l with
  |nil=>simp
  |cons a l=>have:=h a (by simp);omega
 |N+1,l,hn,h=>by
  have h1:=km N (l.erase N) (hn.erase N) (fun x hx=>by
   have h2:=(List.Nodup.mem_erase_iff hn).1 hx
   have:=h x h2.2
   have:=h2.1
   omega)
  rw[List.length_erase]at h1
  split at h1<;>omega
section
variable {T:ab} {D:List Bool} {d:Nat}
theorem cT(hv:aj T=true){a:Nat}(ha:a<2*T.aa.length):∃m:Nat,aK T a=(m:Int)∧(m:Int)<T.nodes:=by
 obtain⟨h0,h1⟩:=(aC hv).head a ha
 obtain⟨m,hm⟩:=Int.eq_ofNat_of_zero_le h0
 exact⟨m,hm,by rw[←hm];exact h1⟩
theorem gF(hv:aj T=true)(hd:(d:Int)<T.nodes):dN T D d d=0:=sA hv hd
theorem fK.dN{n a m:Nat}(h:fK T D n d a)(hm:aK T a=(m:Int)):0≤dN T D d m∧dN T D d n=dN T D d m+a8 T a:=by
 have h1:=h.reach
 have h2:=h.sum
 rw[hm,Int.toNat_natCast]at h1 h2
 exact⟨h1,h2⟩
theorem fK.node(hv:aj T=true){n a:Nat}(h:fK T D n d a):(n:Int)<T.nodes:=by rw[←h.tail];exact((aC hv).tail a h.fZ).2
theorem SP.node(hv:aj T=true)(hd:(d:Int)<T.nodes){n:Nat}{p:List Int}(h:SP T D d n p):(n:Int)<T.nodes:=by
 cases h with
 |nil=>exact hd
 |cons h1 _ _=>exact h1.node hv
theorem SP.cost(hv:aj T=true)(hd:(d:Int)<T.nodes){n:Nat}{p:List Int}(h:SP T D d n p):dN T D d n=cw T p∧0≤dN T D d n:=by
 induction h with
 |nil=>rw[gF hv hd];exact⟨rfl,Int.le_refl _⟩
 |cons h1 hm _ ih=>
  obtain⟨g1,g2⟩:=h1.dN hm
  have:=(aC hv).cost _ h1.fZ
  rw[cY,Int.toNat_natCast]
  omega
theorem SP.self{p:List Int}(h:SP T D d d p):p=[]:=by
 cases h with
 |nil=>rfl
 |cons h1 _ _=>exact absurd rfl h1.ne
theorem SP.len(hv:aj T=true)(hd:(d:Int)<T.nodes){n:Nat}{p:List Int}(h:SP T D d n p):(p.length:Int)≤dN T D d n:=by
 induction h with
 |nil=>rw[gF hv hd];simp
 |cons h1 hm _ ih=>
  obtain⟨g1,g2⟩:=h1.dN hm
  have:=(aC hv).cost _ h1.fZ
  simp only[List.length_cons]
  omega
theorem SP.ch{n:Nat}{p:List Int}(h:SP T D d n p):Ch T D d n p:=by
 induction h with
 |nil=>exact .nil
 | @cons n a m p h1 hm hp ih=>
  refine .cons h1.fZ h1.tail h1.up hm ?_ ih
  rcases h1.pass with hx|hx
  ·have:m=d:=by rw[hm]at hx;omega
   subst this
   exact .inl hp.self
  ·rw[hm,Int.toNat_natCast]at hx;exact .inr hx
theorem tS(hv:aj T=true)(hd:(d:Int)<T.nodes){n a m:Nat}(ha:a<2*T.aa.length)(ht:bb T a=(n:Int))(hu:bG D a=false)(hm:aK T a=(m:Int))(ho:m=d∨bI T m=false)(h0:0≤dN T D d m):0≤dN T D d n∧dN T D d n≤dN T D d m+a8 T a:=by
 have hS:=aC hv
 have hI:=lu hS D false hd
 have hmN:(m:Int)<T.nodes:=by rw[←hm];exact(hS.head a ha).2
 have hnN:(n:Int)<T.nodes:=by rw[←ht];exact(hS.tail a ha).2
 have e1:=iL (D:=D) hv hd hnN
 have e2:=iL (D:=D) hv hd hmN
 have:=hI.closed a ha ⟨hu,by simp only[bz,Bool.false_eq_true,if_false];rw[hm,←e2];exact h0,by
  simp only[bz,Bool.false_eq_true,if_false];rw[hm]
  rcases ho with h|h
  ·exact .inl (by rw[h])
  ·exact .inr (by simpa using h)⟩
 simp only[cP,bz,Bool.false_eq_true,if_false]at this
 rw[hm,ht,←e1,←e2]at this
 exact this
theorem Ch.node(hv:aj T=true)(hd:(d:Int)<T.nodes){n:Nat}{p:List Int}(h:Ch T D d n p):(n:Int)<T.nodes:=by
 cases h with
 |nil=>exact hd
 |cons h1 ht _ _ _ _=>rw[←ht];exact((aC hv).tail _ h1).2
theorem Ch.to{n:Nat}{p:List Int}(h:Ch T D d n p):p=[]→n=d:=by
 cases h with
 |nil=>intro _;rfl
 |cons=>intro h;cases h
theorem Ch.le(hv:aj T=true)(hd:(d:Int)<T.nodes){n:Nat}{p:List Int}(h:Ch T D d n p):0≤dN T D d n∧dN T D d n≤cw T p:=by
 induction h with
 |nil=>rw[gF hv hd];exact⟨Int.le_refl _,Int.le_refl _⟩
 | @cons n a m p ha ht hu hm ho hp ih=>
  have:=tS hv hd ha ht hu hm (by rcases ho with h|h;exact .inl (hp.to h);exact .inr h) ih.1
  rw[cY,Int.toNat_natCast]
  omega
theorem Ch.sp(hv:aj T=true)(hd:(d:Int)<T.nodes){n:Nat}{p:List Int}(h:Ch T D d n p)(hc:dN T D d n=cw T p):SP T D d n p:=by
 induction h with
 |nil=>exact .nil
 | @cons n a m p ha ht hu hm ho hp ih=>
  have ho':m=d∨bI T m=false:=by rcases ho with h|h;exact .inl (hp.to h);exact .inr h
  have h1:=hp.le hv hd
  have h2:=tS hv hd ha ht hu hm ho' h1.1
  rw[cY,Int.toNat_natCast]at hc
  have h3:=(aC hv).cost a ha
  refine .cons ⟨ha,ht,hu,?_,?_,?_,?_⟩ hm (ih (by omega))
  ·rintro rfl;rw[gF hv hd]at hc h2;omega
  ·rw[hm,Int.toNat_natCast];exact h1.1
  ·rw[hm];rcases ho' with h|h;exact .inl (by rw[h]);exact .inr (by simpa using h)
  ·rw[hm,Int.toNat_natCast];show dN T D d n=dN T D d m+a8 T a;omega
noncomputable def fS(T:ab)(D:List Bool)(d:Nat):Nat→Nat→List Int
 |0,_=>[]
 |f+1,n=>match bx T D n d with
  | []=>[]
  |a::_=>a::fS T D d f (aK T a.toNat).toNat
noncomputable def fe(T:ab)(D:List Bool)(n d:Nat):List Int:=fS T D d (dN T D d n).toNat n
theorem kW{n:Nat}(h:dN T D d n<0):bx T D n d=[]:=by unfold bx;rw[if_pos (.inr h)]
theorem om(hv:aj T=true)(hd:(d:Int)<T.nodes):∀(f n:Nat),(n:Int)<T.nodes→0≤dN T D d n→dN T D d n≤f→SP T D d n (fS T D d f n)
 |f,n,hn,h0,hf=>by
  by_cases hne:n=d
  ·subst hne
   have:fS T D n f n=[]:=by cases f with|zero=>rfl|succ f=>simp only[fS,mh]
   rw[this];exact .nil
  ·obtain⟨k,hk⟩:=iD (D:=D) hv hn hd hne h0
   cases f with
   |zero=>
    obtain⟨m,hm,_⟩:=cT hv hk.fZ
    have:=hk.dN hm
    have:=(aC hv).cost k hk.fZ
    omega
   |succ f=>
    simp only[fS]
    have hmem:=fH hk ((aC hv).cost k hk.fZ).1
    cases hx:bx T D n d with
    |nil=>rw[hx]at hmem;cases hmem
    |cons a l=>
     obtain⟨b,hb,hbn⟩:=dP (T:=T) (D:=D) (n:=n) (d:=d) (a:=a) (by rw[hx];simp)
     subst hb
     obtain⟨m,hm,hmN⟩:=cT hv hbn.fZ
     have g:=hbn.dN hm
     have:=(aC hv).cost b hbn.fZ
     simp only[Int.toNat_natCast,hm]
     exact .cons hbn hm (om hv hd f m hmN g.1 (by omega))
theorem dK(hv:aj T=true)(hd:(d:Int)<T.nodes){n:Nat}(hn:(n:Int)<T.nodes)(h0:0≤dN T D d n):SP T D d n (fe T D n d):=om hv hd _ n hn h0 (by omega)
noncomputable def hZ(T:ab)(D:List Bool)(d:Nat):Nat→Nat→Int
 |0,m=>if m=d then 1 else 0
 |f+1,m=>if m=d then 1 else(bx T D m d).foldl (fun c a=>min 2 (c+hZ T D d f (aK T a.toNat).toNat)) 0
noncomputable def cn(T:ab)(D:List Bool)(d m:Nat):Int:=hZ T D d (dN T D d m).toNat m
theorem foldl_congr{α β:Type}{f g:α→β→α}:∀ {l:List β} {a:α},(∀a b,b∈l→f a b=g a b)→l.foldl f a=l.foldl g a
 | [],_,_=>rfl
 |b::l,a,h=>by simp only[List.foldl_cons,h a b (by simp)];exact foldl_congr fun a c hc=>h a c (by simp[hc])
theorem gR(hv:aj T=true)(hd:(d:Int)<T.nodes):∀(K m f:Nat),(m:Int)<T.nodes→dN T D d m≤K→dN T D d m≤f→hZ T D d f m=cn T D d m
 |K,m,f,hmN,hK,hf=>by
  unfold cn
  by_cases hmd:m=d
  ·subst hmd
   cases f<;>cases(dN T D m m).toNat<;>simp[hZ]
  ·by_cases h0:dN T D d m<0
   ·have hx:=kW h0
    rw[show(dN T D d m).toNat=0 by omega]
    cases f<;>simp[hZ,hmd,hx]
   ·obtain⟨k,hk⟩:=iD (D:=D) hv hmN hd hmd (by show 0≤dN T D d m;omega)
    have hpos:0<dN T D d m:=by
     obtain⟨m',hm',_⟩:=cT hv hk.fZ
     have:=hk.dN hm'
     have:=(aC hv).cost k hk.fZ
     omega
    obtain⟨g,hg⟩:∃g,(dN T D d m).toNat=g+1:=⟨(dN T D d m).toNat - 1,by omega⟩
    cases f with
    |zero=>omega
    |succ f=>
     cases K with
     |zero=>omega
     |succ K=>
      rw[hg]
      simp only[hZ,if_neg hmd]
      refine foldl_congr fun c a ha=>?_
      obtain⟨b,rfl,hbn⟩:=dP ha
      obtain⟨m',hm',hmN'⟩:=cT hv hbn.fZ
      have g1:=hbn.dN hm'
      have g2:=(aC hv).cost b hbn.fZ
      rw[Int.toNat_natCast,hm',Int.toNat_natCast,gR hv hd K m' f hmN' (by omega) (by omega),gR hv hd K m' g hmN' (by omega) (by omega)]
theorem kq(m:Nat):cn T D m m=1:=by unfold cn;cases(dN T D m m).toNat<;>simp[hZ]
theorem mR(hv:aj T=true)(hd:(d:Int)<T.nodes){m:Nat}(hmN:(m:Int)<T.nodes)(hmd:m≠d):cn T D d m=(bx T D m d).foldl (fun c a=>min 2 (c+cn T D d (aK T a.toNat).toNat)) 0:=by
 by_cases h0:dN T D d m<0
 ·unfold cn
  rw[kW h0,show(dN T D d m).toNat=0 by omega]
  simp[hZ,hmd]
 ·have h1:=gR (D:=D) hv hd (dN T D d m).toNat m ((dN T D d m).toNat+1) hmN (by omega) (by omega)
  rw[←h1]
  simp only[hZ,if_neg hmd]
  refine foldl_congr fun c a ha=>?_
  obtain⟨b,rfl,hbn⟩:=dP ha
  obtain⟨m',hm',hmN'⟩:=cT hv hbn.fZ
  have g1:=hbn.dN hm'
  have g2:=(aC hv).cost b hbn.fZ
  rw[Int.toNat_natCast,hm',Int.toNat_natCast,gR hv hd (dN T D d m).toNat m' _ hmN' (by omega) (by omega)]
theorem qn(hv:aj T=true)(hd:(d:Int)<T.nodes){m:Nat}(hmN:(m:Int)<T.nodes)(h0:dN T D d m<0):cn T D d m=0:=by
 have hmd:m≠d:=by rintro rfl;rw[gF hv hd]at h0;omega
 rw[mR hv hd hmN hmd,kW h0];rfl
theorem ky(g:Int→Int)(hg:∀a,0≤g a):∀(l:List Int) (c:Int),0≤c→c≤2→0≤l.foldl (fun c a=>min 2 (c+g a)) c∧l.foldl (fun c a=>min 2 (c+g a)) c≤2
 | [],c,h0,h2=>⟨h0,h2⟩
 |a::l,c,h0,h2=>by
  have:=hg a
  exact ky g hg l _ (show 0≤min 2 (c+g a) by omega) (show min 2 (c+g a)≤2 by omega)
theorem ku(g:Int→Int)(hg:∀a,0≤g a):∀(l:List Int) (c:Int),c≤2→c≤l.foldl (fun c a=>min 2 (c+g a)) c
 | [],c,_=>Int.le_refl _
 |a::l,c,h2=>by
  have:=hg a
  have:=ku g hg l (min 2 (c+g a)) (by omega)
  simp only[List.foldl_cons]
  omega
theorem mF(hv:aj T=true)(hd:(d:Int)<T.nodes):∀(f m:Nat),0≤hZ T D d f m∧hZ T D d f m≤2
 |0,m=>by simp only[hZ];split<;>omega
 |f+1,m=>by
  simp only[hZ]
  split
  ·omega
  ·exact ky (fun a=>hZ T D d f (aK T a.toNat).toNat) (fun a=>(mF hv hd f _).1) _ 0 (by omega) (by omega)
theorem kS(hv:aj T=true)(hd:(d:Int)<T.nodes)(m:Nat):0≤cn T D d m∧cn T D d m≤2:=mF hv hd _ m
theorem qP(hv:aj T=true)(hd:(d:Int)<T.nodes):∀(K m:Nat),(m:Int)<T.nodes→0≤dN T D d m→dN T D d m≤K→1≤cn T D d m
 |K,m,hmN,h0,hK=>by
  by_cases hmd:m=d
  ·subst hmd;rw[kq];omega
  ·obtain⟨k,hk⟩:=iD (D:=D) hv hmN hd hmd h0
   have hmem:=fH hk ((aC hv).cost k hk.fZ).1
   obtain⟨m',hm',hmN'⟩:=cT hv hk.fZ
   have g1:=hk.dN hm'
   have g2:=(aC hv).cost k hk.fZ
   cases K with
   |zero=>omega
   |succ K=>
    have hp:=qP hv hd K m' hmN' g1.1 (by omega)
    rw[mR hv hd hmN hmd]
    obtain⟨l1,l2,hl⟩:=List.append_of_mem hmem
    rw[hl,List.foldl_append,List.foldl_cons]
    have hg:∀a:Int,0≤cn T D d (aK T a.toNat).toNat:=fun a=>(kS hv hd _).1
    have a1:=ky (fun a=>cn T D d (aK T a.toNat).toNat) hg l1 0 (by omega) (by omega)
    have a2:=ku (fun a=>cn T D d (aK T a.toNat).toNat) hg l2 (min 2 (l1.foldl (fun c a=>min 2 (c+cn T D d (aK T a.toNat).toNat)) 0+cn T D d (aK T (k:Int).toNat).toNat)) (by omega)
    rw[Int.toNat_natCast,hm',Int.toNat_natCast]at a2
    rw[Int.toNat_natCast,hm',Int.toNat_natCast]
    omega
theorem qB(hv:aj T=true)(hd:(d:Int)<T.nodes){m:Nat}(hmN:(m:Int)<T.nodes)(hmd:m≠d)(h:cn T D d m=1):∃a:Nat,bx T D m d=[(a:Int)]∧fK T D m d a∧∀k:Nat,aK T a=(k:Int)→cn T D d k=1:=by
 rw[mR hv hd hmN hmd]at h
 have hg:∀a:Int,0≤cn T D d (aK T a.toNat).toNat:=fun a=>(kS hv hd _).1
 have hone:∀a∈bx T D m d,1≤cn T D d (aK T a.toNat).toNat:=fun a ha=>by
  obtain⟨b,rfl,hb⟩:=dP ha
  obtain⟨m',hm',hmN'⟩:=cT hv hb.fZ
  have g1:=hb.dN hm'
  rw[Int.toNat_natCast,hm',Int.toNat_natCast]
  exact qP hv hd (dN T D d m').toNat m' hmN' g1.1 (by omega)
 cases hx:bx T D m d with
 |nil=>rw[hx]at h;simp at h
 |cons a l=>
  obtain⟨b,rfl,hb⟩:=dP (T:=T) (D:=D) (n:=m) (d:=d) (a:=a) (by rw[hx];simp)
  have h1:=hone b (by rw[hx];simp)
  rw[hx,List.foldl_cons]at h
  cases l with
  |nil=>
   refine⟨b,rfl,hb,fun k hk=>?_⟩
   simp only[List.foldl_nil,Int.toNat_natCast,hk]at h h1
   omega
  |cons a2 l=>
   have h2:=hone a2 (by rw[hx];simp)
   rw[List.foldl_cons]at h
   have:=ku (fun a=>cn T D d (aK T a.toNat).toNat) hg l (min 2 (min 2 (0+cn T D d (aK T (b:Int).toNat).toNat)+cn T D d (aK T a2.toNat).toNat)) (by omega)
   omega
theorem pV(hv:aj T=true)(hd:(d:Int)<T.nodes){m a k:Nat}(hmN:(m:Int)<T.nodes)(hmd:m≠d)(hx:bx T D m d=[(a:Int)])(hk:aK T a=(k:Int))(h:cn T D d k=1):cn T D d m=1:=by
 rw[mR hv hd hmN hmd,hx]
 simp only[List.foldl_cons,List.foldl_nil,Int.toNat_natCast,hk,h]
 omega
theorem SP.unique(hv:aj T=true)(hd:(d:Int)<T.nodes){n:Nat}{p q:List Int}(h:SP T D d n p)(hq:SP T D d n q)(hc:cn T D d n=1):p=q:=by
 induction h generalizing q with
 |nil=>exact hq.self.symm
 | @cons n a m p h1 hm hp ih=>
  cases hq with
  |nil=>exact absurd rfl h1.ne
  | @cons _ a' m' q h1' hm' hq=>
   obtain⟨b,hb,_,hb2⟩:=qB hv hd (h1.node hv) h1.ne hc
   have e1:=fH h1 ((aC hv).cost a h1.fZ).1
   have e2:=fH h1' ((aC hv).cost a' h1'.fZ).1
   rw[hb]at e1 e2
   simp only[List.mem_singleton]at e1 e2
   have ea:a=b:=by omega
   have ea':a'=b:=by omega
   subst ea
   subst ea'
   have em:m=m':=by rw[hm]at hm';omega
   subst em
   rw[ih hq (hb2 m hm)]
noncomputable def fP(T:ab)(D:List Bool)(n d:Int):Bool:=decide (cy T D n d=0)&&decide (cn T D d.toNat n.toNat=1)
theorem SP.w6(hv:aj T=true)(hd:(d:Int)<T.nodes){n:Nat}{p:List Int}(h:SP T D d n p):(p.length:Int)<T.nodes:=by
 have key:∃l:List Nat,l.length=p.length+1∧l.Nodup∧(∀x∈l,(x:Int)<T.nodes∧dN T D d x≤dN T D d n):=by
  induction h with
  |nil=>exact⟨[d],rfl,by simp,fun x hx=>by simp at hx;subst hx;exact⟨hd,Int.le_refl _⟩⟩
  | @cons n a m p h1 hm hp ih=>
   obtain⟨l,e1,e2,e3⟩:=ih
   have g1:=h1.dN hm
   have g2:=(aC hv).cost a h1.fZ
   refine⟨n::l,by simp[e1],List.nodup_cons.2 ⟨fun hn=>by have:=(e3 n hn).2;omega,e2⟩,fun x hx=>?_⟩
   cases hx with
   |head=>exact⟨h1.node hv,Int.le_refl _⟩
   |tail _ hx=>have:=e3 x hx;exact⟨this.1,by omega⟩
 obtain⟨l,e1,e2,e3⟩:=key
 have hN:=(aC hv).nodes
 have:=km T.nodes.toNat l e2 (fun x hx=>by have:=(e3 x hx).1;omega)
 omega
end
end PW
end Go.Proofs.YtnegbdpggideiaaDoor
namespace Go.Proofs.YtnegbdpggideiaaDoor
namespace PW
open Go.RowKit aN Mem Net
def bV(T:ab):Bool→Int→List Int→Int
 |_,_,[]=>0
 |f,n,a::l=>if cX T a=false then 2 else if bb T a.toNat≠n∨(f=false∧bI T n.toNat=true) then 4 else bV T false (aK T a.toNat) l
def eJ(T:ab)(n:Int)(l:List Int):Int:=if aj T then(if aS T n then bV T true n l else 2) else 1
def bg(T:ab):Int→List Int→Int
 |n,[]=>n
 |_,a::l=>bg T (aK T a.toNat) l
def iH(T:ab)(n:Int)(l:List Int):PV:=.tuple [num (if eJ T n l=0 then bg T n l else 0),num (if eJ T n l=0 then cw T l else 0),num (eJ T n l)]
theorem eX(T:ab):∀(n:Int) (l m:List Int),bg T n (l++m)=bg T (bg T n l) m
 |_,[],_=>rfl
 |_,a::l,m=>eX T _ l m
theorem drop_cons(l:List Int)(k:Nat)(h:k<l.length):l.drop k=l.getD k 0::l.drop (k+1):=by
 rw[List.drop_eq_getElem_cons h,List.getD_eq_getElem?_getD,List.getElem?_eq_getElem h];rfl
theorem ep(T:ab)(n:Int)(l:List Int)(k:Nat)(h:k<l.length):bg T n (l.take (k+1))=aK T (l.getD k 0).toNat:=by
 rw[fk l k 0 h,eX];rfl
theorem pY(T:ab)(l:List Int)(k:Nat)(h:k<l.length):cw T (l.take (k+1))=cw T (l.take k)+a8 T (l.getD k 0).toNat:=by
 rw[fk l k 0 h,cM];simp[cY,ev]
theorem jz{T:ab}{f:Bool}{n a:Int}{l:List Int}(h1:cX T a=true)(h2:bb T a.toNat=n)(h3:f=true∨bI T n.toNat=false):bV T f n (a::l)=bV T false (aK T a.toNat) l:=by
 simp only[bV]
 rw[if_neg (by rw[h1];simp),if_neg]
 rintro(h|⟨h,h'⟩)
 ·exact h h2
 ·rcases h3 with h3|h3
  ·rw[h3]at h;cases h
  ·rw[h3]at h';cases h'
theorem tX{T:ab}{f:Bool}{n a:Int}{l:List Int}(h1:cX T a=true)(h2:bb T a.toNat≠n∨(f=false∧bI T n.toNat=true)):bV T f n (a::l)=4:=by
 simp only[bV]
 rw[if_neg (by rw[h1];simp),if_pos h2]
theorem xo(T:ab)(hl:T.aa.length≤4611686018427387902)(a:Int)(h:cX T a=true):Can Tryd.prog 36 [a6 T,num a] (· =num (aK T a.toNat)):=by
 obtain⟨h0,h1⟩:=bR.1 h
 obtain⟨a,rfl⟩:=Int.eq_ofNat_of_zero_le h0
 exact iT T a (by omega) hl
theorem o8(T:ab)(hv:aj T=true)(a:Int)(h:cX T a=true):Can Tryd.prog 43 [a6 T,num a] (· =num (bb T a.toNat)):=by
 obtain⟨h0,h1⟩:=bR.1 h
 obtain⟨a,rfl⟩:=Int.eq_ofNat_of_zero_le h0
 exact kN T hv a (by omega)
theorem p8(T:ab)(hv:aj T=true)(a:Int)(h:cX T a=true):Can Tryd.prog 46 [a6 T,num a] (· =num (aK T a.toNat)):=by
 obtain⟨h0,h1⟩:=bR.1 h
 obtain⟨a,rfl⟩:=Int.eq_ofNat_of_zero_le h0
 exact kr T hv a (by omega)
theorem pZ(T:ab)(hv:aj T=true)(a:Int)(h:cX T a=true):Can Tryd.prog 45 [a6 T,num a] (· =num (a8 T a.toNat)):=by
 obtain⟨h0,h1⟩:=bR.1 h
 obtain⟨a,rfl⟩:=Int.eq_ofNat_of_zero_le h0
 exact iu T hv a (by omega)
theorem jw{T:ab}(hv:aj T=true){a:Int}(h:cX T a=true):(1≤a8 T a.toNat∧a8 T a.toNat≤65535)∧∃m:Nat,aK T a.toNat=(m:Int)∧(m:Int)<T.nodes:=by
 obtain⟨h0,h1⟩:=bR.1 h
 have hl:a.toNat<2*T.aa.length:=by omega
 exact⟨(aC hv).cost _ hl,cT hv hl⟩
theorem sB(T:ab)(n:Int)(l:List Int)(hl:l.length≤1000000):Can Tryd.prog 17 [a6 T,num n,aJ l] (· =iH T n l):=by
 obtain⟨g1,hg1⟩:∃q,decide (n<0)=q:=⟨_,rfl⟩
 obtain⟨g2,hg2⟩:∃q,decide (T.nodes≤n)=q:=⟨_,rfl⟩
 have hnb:aS T n= !(g1||g2):=by rw[←hg1,←hg2,←Bool.decide_or,←decide_not];unfold aS;exact decide_eq_decide.2 (by omega)
 refine aI Tryd.func17 rfl Tryd.ntmps17 rfl<|af (.a 4 rfl<|.k [1,2,3] rfl)<|ak<|af (.a 1 rfl<|.c rfl (eD T) rfl<|.a 1 rfl<|.k [1,2,3,13] rfl)<|ag rfl (fun hc=>?_) (fun hc=>?_)
 ·have hv:aj T=false:=by simpa using hc
  have hX:eJ T n l=1:=by unfold eJ;rw[hv];rfl
  unfold iH
  rw[hX]
  exact af (.a 3 rfl<|.k [6,7,8] rfl)<|an<|⟨_,_,ax.of rfl,ay.pure,rfl⟩
 ·have hv:aj T=true:=by simpa using hc
  have hll:=bJ hv
  refine ai<|ak<|aY 21 (.raw (.bool (g1||g2))) [1,2,3] rfl ?_ ?_
  ·refine .a 1 rfl<|.v (bT rfl (hg1)) rfl<|.a 1 rfl<|?_
   cases g1
   ·exact .a 3 rfl<|.v (bT rfl (hg2)) rfl<|.a 1 rfl<|.k [21,1,2,3] rfl
   ·exact .a 5 rfl<|.k [21,1,2,3] rfl
  refine ag rfl (fun hc=>?_) (fun hc=>?_)
  ·have hn:aS T n=false:=by rw[hnb,hc];rfl
   have hX:eJ T n l=2:=by unfold eJ;rw[hv,hn];rfl
   unfold iH
   rw[hX]
   exact af (.a 3 rfl<|.k [6,7,8] rfl)<|an<|⟨_,_,ax.of rfl,ay.pure,rfl⟩
  ·have hn:aS T n=true:=by rw[hnb,hc];rfl
   have hX:eJ T n l=bV T true n l:=by unfold eJ;rw[hv,hn];rfl
   obtain⟨hn0,hn1⟩:=aV.1 hn
   clear hnb hg1 hg2 hc
   obtain⟨n,rfl⟩:=Int.eq_ofNat_of_zero_le hn0
   refine ai<|af (.a 1 rfl<|.k [1,2,3,9] rfl)<|ak<|af (.a 1 rfl<|.k [1,2,3,9,10] rfl)<|aq<|iC [1,2,3,9,10] rfl<|br (fun r s=>∃(k x:Nat),k≤l.length∧r=l.length - k∧bg T n (l.take k)=(x:Int)∧(x:Int)<T.nodes∧0≤cw T (l.take k)∧cw T (l.take k)≤65535*(k:Int)∧bV T true n l=bV T (decide (k=0)) x (l.drop k)∧s=⟨[(1,num x),(2,aJ l),(3,.b6 (b5 T) 0),(9,num (cw T (l.take k))),(10,num k)],[]⟩) l.length ⟨0,n,by omega,by omega,rfl,hn1,by simp[ev],by simp[ev],rfl,rfl⟩ ?_
   rintro r s ⟨k,x,hk,rfl,hx,hxN,hc0,hc1,hw,rfl⟩
   refine ak<|af (.a 4 rfl<|.k [1,2,3,9,10,25] rfl)<|ag rfl (fun hy=>?_) (fun hy=>?_)
   ·have hlt:k<l.length:=by have:=tt hy;omega
    rw[drop_cons l k hlt]at hw
    obtain⟨p1,hp1⟩:∃q,decide (l.getD k 0<0)=q:=⟨_,rfl⟩
    obtain⟨p5,hp5⟩:∃q,decide (2*(T.aa.length:Int)≤l.getD k 0)=q:=⟨_,rfl⟩
    refine ai<|ak<|aq<|ak<|kB mixed (by kernel_rfl) 41 (.raw (.bool (p1||p5))) [1,2,3,9,10] rfl ?_ ?_
    ·refine .a 2 rfl<|.v [28,29] (aR (k) rfl) rfl rfl<|.v [30] (aO rfl (au l k hlt)) rfl rfl<|.v [31] (bT rfl (hp1)) rfl rfl<|.a 1 rfl<|?_
     cases p1
     ·exact .a 2 rfl<|.v [34,35] (aR (k) rfl) rfl rfl<|.v [36] (aO rfl (au l k hlt)) rfl rfl<|.a 1 rfl<|.v [38] (j8 rfl (gN T hv)) rfl rfl<|.v [37,39] (bT rfl (hp5)) rfl rfl<|.a 1 rfl<|.k [41,1,2,3,9,10] rfl
     ·exact .a 8 rfl<|.k [41,1,2,3,9,10] rfl
    refine ag rfl (fun hz=>?_) (fun hz=>?_)
    ·have hna:=iV hp1 hp5 hz
     have hw2:bV T true n l=2:=by rw[hw];simp only[bV];rw[if_pos (by unfold cX;exact decide_eq_false hna)]
     unfold iH
     rw[hX,hw2]
     exact af (.a 3 rfl<|.k [6,7,8] rfl)<|an<|⟨_,_,ax.of rfl,ay.pure,rfl⟩
    ·have hpa:cX T (l.getD k 0)=true:=bR.2 (gE hp1 hp5 hz)
     obtain⟨⟨hco0,hco1⟩,y,hyh,hyN⟩:=jw hv hpa
     have hsN:=ep T n l k hlt
     have hsC:=pY T l k hlt
     obtain⟨p2,hp2⟩:∃q,decide (bb T (l.getD k 0).toNat≠(x:Int))=q:=⟨_,rfl⟩
     obtain⟨p3,hp3⟩:∃q,decide (0<(k:Int))=q:=⟨_,rfl⟩
     obtain⟨p4,hp4⟩:∃q,bI T x=q:=⟨_,rfl⟩
     refine ai<|ak<|kB mixed (by kernel_rfl) 58 (.raw (.bool (p2||(p3&&p4)))) [2,3,9,10] rfl ?_ ?_
     ·refine .a 3 rfl<|.v [43,44] (aR (k) rfl) rfl rfl<|.v [45] (aO rfl (au l k hlt)) rfl rfl<|.v [42,46] (j8 rfl (o8 T hv _ hpa)) rfl rfl<|.a 1 rfl<|.v [47,48] (bT rfl (hp2)) rfl rfl<|.a 1 rfl<|?_
      cases p2
      ·refine .a 1 rfl<|.v [51] (bT rfl (hp3)) rfl rfl<|.a 1 rfl<|?_
       cases p3
       ·exact .a 5 rfl<|.k [58,2,3,9,10] rfl
       ·exact .a 2 rfl<|.v [54,55] (j8 rfl (hp4▸mA T hv x)) rfl rfl<|.a 2 rfl<|.k [58,2,3,9,10] rfl
      ·exact .a 8 rfl<|.k [58,2,3,9,10] rfl
     refine ag rfl (fun hb=>?_) (fun hb=>?_)
     ·have hw4:bV T true n l=4:=by
       rw[hw]
       refine tX hpa ?_
       rcases Bool.or_eq_true_iff.1 hb with h|h
       ·rw[h]at hp2;exact .inl (tt hp2)
       ·obtain⟨h3,h4⟩:=Bool.and_eq_true_iff.1 h
        rw[h3]at hp3
        rw[h4]at hp4
        exact .inr ⟨decide_eq_false (by have:=tt hp3;omega),by rw[Int.toNat_natCast];exact hp4⟩
      unfold iH
      rw[hX,hw4]
      exact af (.a 3 rfl<|.k [6,7,8] rfl)<|an<|⟨_,_,ax.of rfl,ay.pure,rfl⟩
     ·obtain⟨b2,b3⟩:=Bool.or_eq_false_iff.1 hb
      rw[b2]at hp2
      have ht:bb T (l.getD k 0).toNat=(x:Int):=Classical.byContradiction (ff hp2)
      have hws:=jz (T:=T) (f:=decide (k=0)) (n:=(x:Int)) (l:=l.drop (k+1)) hpa ht (by
       rcases Bool.and_eq_false_iff.1 b3 with h|h
       ·rw[h]at hp3;exact .inl (decide_eq_true (by have:=ff hp3;omega))
       ·rw[h]at hp4;exact .inr (by rw[Int.toNat_natCast];exact hp4))
      rw[hws,hyh]at hw
      have hh:=p8 T hv _ hpa
      rw[hyh]at hh
      refine ai<|gC mixed (by kernel_rfl) (.a 4 rfl<|.v [61,62] (aR (k) rfl) rfl rfl<|.v [63] (aO rfl (au l k hlt)) rfl rfl<|.v [60,64] (j8 rfl (pZ T hv _ hpa)) rfl rfl<|.v [59,65] (bf rfl (hc:=hsC.symm) (hn:=by unfold In64;omega)) rfl rfl<|.a 1 rfl<|.k [2,3,9,10] rfl) ?_
      refine x1 mixed (by kernel_rfl) (.a 3 rfl<|.v [68,69] (aR (k) rfl) rfl rfl<|.v [70] (aO rfl (au l k hlt)) rfl rfl<|.v [67,71] (j8 rfl (hh)) rfl rfl<|.a 1 rfl<|.k [1,2,3,9,10] rfl) ?_
      refine aF (.a 1 rfl<|.v (bf rfl) rfl<|.a 1 rfl<|.k [1,2,3,9,10] rfl) ?_
      exact⟨l.length - (k+1),by omega,k+1,y,by omega,rfl,by rw[hsN,hyh],hyN,by omega,by omega,by rw[hw];rfl,rfl⟩
   ·have hke:k=l.length:=by have:=ff hy;omega
    subst hke
    rw[List.drop_length]at hw
    rw[List.take_length]at hx ⊢
    unfold iH
    rw[hX,hw]
    simp only[bV,if_true]
    rw[hx]
    exact bn<|af (.a 5 rfl<|.k [6,7,8] rfl)<|an<|⟨_,_,ax.of rfl,ay.pure,rfl⟩
end PW
end Go.Proofs.YtnegbdpggideiaaDoor
namespace Go.Proofs.YtnegbdpggideiaaDoor
namespace PW
open Go.RowKit aN Mem Net
end PW
end Go.Proofs.YtnegbdpggideiaaDoor
namespace Go.Proofs.YtnegbdpggideiaaDoor
namespace PW
open Go.RowKit aN Mem Net
noncomputable def wb(T:ab)(D:List Bool)(s d:Int):Int:=if cy T D s d=0 then(if dN T D d.toNat s.toNat<0 then 11 else 0) else cy T D s d
theorem n0(T:ab)(D:List Bool)(m d:Nat):(bx T D m d).Pairwise (· < ·):=by
 unfold bx
 split
 ·exact List.Pairwise.nil
 ·exact(jT T m).filter _
end PW
end Go.Proofs.YtnegbdpggideiaaDoor
namespace Go.Proofs.YtnegbdpggideiaaDoor
namespace PW
open Go.RowKit aN Mem Net
section
variable {P:Program} {σ:bo} {t:a7} {o:Oper}
theorem uq{src dst:TypeId}{x:Operand}{k k':IntKind}{a c:Int}{ty:TypeDesc}(ho:o.op= .convert src dst x)(hs:P.underlying src=some ty)(hd:P.underlying dst=some (.int k'))(hx:ah t x=some (.raw (.int k a)))(hc:k'.wrap a=c):az P σ t o (.raw (.int k' c)):=by
 intro F base E ρ w hρ _ hT
 have h1:=ae hρ hT hx
 generalize hz:ρ x=z at h1
 cases h1
 have h2:(convert src dst (.int k a)).run P w= .ok (.int k' c) w:=by
  simp[convert,Sem.run_bind,run_underlying hs,run_underlying hd,Conv.intToInt,hc]
 simp only[execOp,ho,hz,Sem.run_bind,h2]
 exact aA (.raw _)
end
def fY(a b:Int):Int:=if a<b then -1 else if b<a then 1 else 0
def rK(L:List Int)(x y:Int):Prop:=L.getD y.toNat 0<L.getD x.toNat 0∨(L.getD y.toNat 0=L.getD x.toNat 0∧x≤y)
theorem re{L:List Int}{x y z:Int}(h:rK L x y)(k:rK L y z):rK L x z:=by unfold rK at*;omega
theorem w7(L:List Int){x y:Int}(h:¬rK L x y):rK L y x:=by unfold rK at*;omega
def wU(L ys:List Int)(i j:Nat):Prop:=∀p q,p<q→q≤i→q≠j→rK L (ys.getD p 0) (ys.getD q 0)
def yQ(L ys:List Int)(i:Nat):Prop:=∀p q,p<q→q<i→rK L (ys.getD p 0) (ys.getD q 0)
theorem wU.yK{L ys:List Int}{i:Nat}(h:wU L ys i 0):yQ L ys (i+1):=fun p q h1 h2=>h p q h1 (by omega) (by omega)
theorem wU.done{L ys:List Int}{i j:Nat}(h:wU L ys i j)(hb:rK L (ys.getD (j - 1) 0) (ys.getD j 0)):yQ L ys (i+1):=fun p q h1 h2=>by
 by_cases hq:q=j
 ·subst hq
  by_cases hp:p=q - 1
  ·rw[hp];exact hb
  ·exact re (h p (q - 1) (by omega) (by omega) (by omega)) hb
 ·exact h p q h1 (by omega) hq
theorem wU.swap{L ys:List Int}{i j:Nat}(h:wU L ys i j)(h0:0<j)(hj:j≤i)(hi:i<ys.length)(hb:¬rK L (ys.getD (j - 1) 0) (ys.getD j 0)):wU L (Heap.cr ys j (j - 1)) i (j - 1):=fun p q h1 h2 h3=>by
 rw[Heap.b8 ys j (j - 1) p (by omega) (by omega),Heap.b8 ys j (j - 1) q (by omega) (by omega),if_neg h3]
 by_cases hq:q=j
 ·rw[if_pos hq]
  by_cases hp:p=j - 1
  ·rw[if_pos hp];exact w7 L hb
  ·rw[if_neg hp,if_neg (by omega)];exact h p (j - 1) (by omega) (by omega) (by omega)
 ·rw[if_neg hq]
  by_cases hp:p=j - 1
  ·rw[if_pos hp];exact h j q (by omega) h2 hq
  ·rw[if_neg hp]
   by_cases hp2:p=j
   ·rw[if_pos hp2];exact h (j - 1) q (by omega) h2 hq
   ·rw[if_neg hp2];exact h p q h1 h2 hq
def s7(L:List Int)(i:Nat):List Int:=((List.range i).filter fun k=>decide (0≤L.getD k 0)).map Int.ofNat
theorem sL{L:List Int}{i:Nat}{x:Int}:x∈s7 L i↔∃k:Nat,x=(k:Int)∧k<i∧0≤L.getD k 0:=by
 unfold s7
 simp only[List.mem_map,List.mem_filter,List.mem_range,decide_eq_true_eq]
 constructor
 ·rintro⟨k,⟨h1,h2⟩,rfl⟩;exact⟨k,rfl,h1,h2⟩
 ·rintro⟨k,rfl,h1,h2⟩;exact⟨k,⟨h1,h2⟩,rfl⟩
theorem oX(L:List Int)(i:Nat):(s7 L i).Nodup:=by
 unfold s7
 have h1:(List.range i).Pairwise (· ≠ ·):=List.nodup_range
 refine List.Pairwise.map Int.ofNat (fun a b h e=>h (by cases e;rfl)) (h1.filter _)
end PW
end Go.Proofs.YtnegbdpggideiaaDoor
namespace Go.Proofs.YtnegbdpggideiaaDoor
namespace PW
open Go.RowKit aN Mem
structure iB (P:Program) (kt:TypeId) {κ:Type} [DecidableEq κ] (enc:κ→Value):Prop where
 sw:∀e a w,(Instr.checkKey e 10000 kt (enc a)).run P w= .ok () w
 eql:∀a b w,(Op.equal kt (enc a) (enc b)).run P w= .ok (decide (a=b)) w
 now:∃d,P.underlying kt=some d∧((∀a b,Instr.sameNow d (enc a) (enc b)=some (decide (a=b)))∨∀a b,Instr.sameNow d (enc a) (enc b)=none)
 bits:∀a,Instr.sameBits 10000 (enc a) (enc a)=true
section
variable {P:Program} {kt:TypeId} {κ:Type} [DecidableEq κ] {enc:κ→Value}
def da(k:κ):List κ→Nat→Option Nat
 | [],_=>none
 |a::l,i=>if k=a then some i else da k l (i+1)
theorem eC{k:κ}:∀ {l:List κ} {i j:Nat},da k l i=some j→i≤j∧l[j - i]? =some k
 | [],i,j,h=>by cases h
 |a::l,i,j,h=>by
  simp only[da]at h
  split at h
  ·rename_i he;cases h;subst he;simp
  ·obtain⟨h1,h2⟩:=eC h
   refine⟨by omega,?_⟩
   rw[show j - i=(j - (i+1))+1 by omega]
   simpa using h2
theorem nK{d:TypeDesc}(hn:∀a b,Instr.sameNow d (enc a) (enc b)=some (decide (a=b)))(k:κ):∀(ks:List κ) (es:List MapEntry) (i:Nat),es.map (·.key)=ks.map enc→
  Instr.findNow d (enc k) es i=some ((da k ks i).bind fun j=>(es[j - i]?).map fun e=>(j,e.val))
 | [],[],i,_=>rfl
 | [],_::_,i,h=>by simp at h
 |_::_,[],i,h=>by simp at h
 |a::ks,e::es,i,h=>by
  simp only[List.map_cons,List.cons.injEq]at h
  simp only[Instr.findNow,h.1,hn,da]
  by_cases hk:k=a
  ·rw[decide_eq_true hk,if_pos hk];simp
  ·rw[decide_eq_false hk,if_neg hk]
   simp only[nK hn k ks es (i+1) h.2]
   congr 1
   cases hf:da k ks (i+1)with
   |none=>rfl
   |some j=>
    obtain⟨h1,_⟩:=eC hf
    simp only[Option.bind_some]
    rw[show j - i=(j - (i+1))+1 by omega]
    simp
theorem ow(hk:iB P kt enc)(k:κ)(w:World):∀(ks:List κ) (es:List MapEntry) (i:Nat),es.map (·.key)=ks.map enc→
  (Instr.findAsking kt (enc k) es i).run P w= .ok ((da k ks i).bind fun j=>(es[j - i]?).map fun e=>(j,e.val)) w
 | [],[],i,_=>rfl
 | [],_::_,i,h=>by simp at h
 |_::_,[],i,h=>by simp at h
 |a::ks,e::es,i,h=>by
  simp only[List.map_cons,List.cons.injEq]at h
  simp only[Instr.findAsking,Sem.run_bind,h.1,hk.eql,Result.andThen_ok,da]
  by_cases hka:k=a
  ·rw[if_pos (by simpa using hka),if_pos hka];simp
  ·rw[if_neg (by simpa using hka),if_neg hka,ow hk k w ks es (i+1) h.2]
   congr 1
   cases hf:da k ks (i+1)with
   |none=>rfl
   |some j=>
    obtain⟨h1,_⟩:=eC hf
    simp only[Option.bind_some]
    rw[show j - i=(j - (i+1))+1 by omega]
    simp
theorem oF(hk:iB P kt enc)(k:κ)(w:World)(ks:List κ)(es:List MapEntry)(h:es.map (·.key)=ks.map enc):(Instr.findKey kt (enc k) es).run P w= .ok ((da k ks 0).bind fun j=>(es[j]?).map fun e=>(j,e.val)) w:=by
 obtain⟨d,hd,hn|hn⟩:=hk.now
 ·have:=nK hn k ks es 0 h
  simp only[Instr.findKey,Sem.run_bind,run_underlying hd,Result.andThen_ok,this]
  simp
 ·have ha:=ow hk k w ks es 0 h
  simp only[Instr.findKey,Sem.run_bind,run_underlying hd,Result.andThen_ok]
  cases es with
  |nil=>
   have:ks=[]:=by cases ks with|nil=>rfl|cons=>simp at h
   subst this
   rfl
  |cons e es=>
   cases ks with
   |nil=>simp at h
   |cons a ks=>
    simp only[List.map_cons,List.cons.injEq]at h
    have h0:Instr.findNow d (enc k) (e::es) 0=none:=by simp only[Instr.findNow,h.1,hn]
    rw[h0]
    simpa using ha
def cF(enc:κ→Value)(l:List (κ×PV)):List (Value×PV):=l.map fun x=>(enc x.1,x.2)
def fm(k:κ):List (κ×PV)→Option PV
 | []=>none
 |(a,p)::l=>if k=a then some p else fm k l
def fw(k:κ)(p:PV):List (κ×PV)→List (κ×PV)
 | []=>[(k,p)]
 |(a,q)::l=>if k=a then(a,p)::l else(a,q)::fw k p l
theorem qe{k:κ}{l:List (κ×PV)}:fm k l=(da k (l.map (·.1)) 0).bind fun j=>(l[j]?).map (·.2):=by
 suffices h:∀(i:Nat),fm k l=(da k (l.map (·.1)) i).bind fun j=>(l[j - i]?).map (·.2) by simpa using h 0
 induction l with
 |nil=>intro i;rfl
 |cons x l ih=>
  intro i
  obtain⟨a,p⟩:=x
  simp only[fm,List.map_cons,da]
  split
  ·simp
  ·rw[ih (i+1)]
   cases hf:da k (l.map (·.1)) (i+1)with
   |none=>rfl
   |some j=>
    obtain⟨h1,_⟩:=eC hf
    simp only[Option.bind_some]
    rw[show j - i=(j - (i+1))+1 by omega]
    simp
theorem rC{k:κ}{p:PV}{l:List (κ×PV)}:fw k p l=match da k (l.map (·.1)) 0 with|some j=>l.set j (k,p)|none=>l++[(k,p)]:=by
 suffices h:∀(i:Nat),fw k p l=match da k (l.map (·.1)) i with|some j=>l.set (j - i) (k,p)|none=>l++[(k,p)] by simpa using h 0
 induction l with
 |nil=>intro i;rfl
 |cons x l ih=>
  intro i
  obtain⟨a,q⟩:=x
  simp only[fw,List.map_cons,da]
  split
  ·rename_i he;subst he;simp
  ·rw[ih (i+1)]
   cases hf:da k (l.map (·.1)) (i+1)with
   |none=>rfl
   |some j=>
    obtain⟨h1,_⟩:=eC hf
    simp only
    rw[show j - i=(j - (i+1))+1 by omega]
    simp
theorem lr{k:κ}{p:PV}{l:List (κ×PV)}{x:κ×PV}(h:x∈fw k p l):x=(k,p)∨x∈l:=by
 induction l with
 |nil=>simpa[fw]using h
 |cons y l ih=>
  obtain⟨a,q⟩:=y
  simp only[fw]at h
  split at h
  ·rename_i he
   subst he
   cases h with
   |head=>exact .inl rfl
   |tail _ h=>exact .inr (List.mem_cons_of_mem _ h)
  ·cases h with
   |head=>exact .inr (List.mem_cons_self ..)
   |tail _ h=>
    rcases ih h with h|h
    ·exact .inl h
    ·exact .inr (List.mem_cons_of_mem _ h)
def tA(p:PV)(v:Value):Prop:=∀E w u,bC E w u p→u=v
theorem ts(v:Value):tA (.raw v) v:=fun _ _ _ h=>by cases h;rfl
def rI(P:Program)(mt:TypeId):Option (TypeId×TypeId):=match P.underlying mt with|some (.map k e)=>some (k,e)|_=>none
theorem gL{mt kt et:TypeId}(h:rI P mt=some (kt,et)):P.underlying mt=some (.map kt et):=by
 unfold rI at h
 split at h
 ·rename_i hu;cases h;exact hu
 ·cases h
def xG(P:Program)(t:TypeId):Option Value:=match P.info? t with|some i=>i.zero|none=>none
theorem sY{et:TypeId}{z:Value}(h:xG P et=some z)(w:World):(zeroValue et).run P w= .ok z w:=by
 unfold xG at h
 split at h
 ·rename_i i hi;simp[zeroValue,typeInfo,hi,h]
 ·cases h
variable {σ:bo} {t:a7} {o:Oper}
theorem sv(hK:iB P kt enc){F:Nat→Prop}{base:Nat}{E:Env}{w:World}{i mt et:Nat}{l:List (κ×PV)}{v z:Value}(hS:Sat F base σ E w)(hm:rI P mt=some (kt,et))(hz:xG P et=some z)(hv:bC E w v (.own i))(hi:σ[i]? =some (some (.mp (cF enc l))))(k:κ)(ok:Bool):
  ∃u,(Instr.lookup mt v (enc k) ok).run P w= .ok (if ok then .tuple #[u,.bool (fm k l).isSome] else u) w∧bC E w u ((fm k l).getD (.raw z)):=by
 cases hv with
 |own _ hiL _ hat _=>
  obtain⟨r,es,ck,hr,hb,hheap,hkey,hval⟩:=hS.blk i _ hi
  rw[hat]at hr
  subst hr
  have hkey':es.toList.map (·.key)=(l.map (·.1)).map enc:=by rw[hkey];simp[cF]
  have hf:=oF hK k w (l.map (·.1)) es.toList hkey'
  have hvl:(cF enc l).map (·.2)=l.map (·.2):=by simp[cF]
  rw[hvl]at hval
  have hlk:=qe (k:=k) (l:=l)
  cases hfi:da k (l.map (·.1)) 0 with
  |none=>
   rw[hfi]at hf hlk
   simp only[Option.bind_none]at hf hlk
   refine⟨z,?_,by rw[hlk];exact .raw z⟩
   simp only[Instr.lookup,Sem.run_bind,run_underlying (gL hm),Result.andThen_ok,MapKept.run_getObj_map hheap,Sem.run_pure,hK.sw,hf,sY hz,hlk]
   rfl
  |some j=>
   obtain⟨_,hj⟩:=eC hfi
   simp only[Nat.sub_zero]at hj
   have hjl:j<l.length:=by have:=(List.getElem?_eq_some_iff.1 hj).1;simpa using this
   have hje:j<es.toList.length:=by have:=congrArg List.length hkey';simp at this;rw[Array.length_toList];omega
   rw[hfi]at hf hlk
   simp only[Option.bind_some,List.getElem?_eq_getElem hje,List.getElem?_eq_getElem hjl,Option.map_some]at hf hlk
   refine⟨es.toList[j].val,?_,?_⟩
   ·simp only[Instr.lookup,Sem.run_bind,run_underlying (gL hm),Result.andThen_ok,MapKept.run_getObj_map hheap,Sem.run_pure,hK.sw,hf,hlk]
    rfl
   ·rw[hlk]
    exact hval.2 j _ _ (by rw[List.getElem?_map,List.getElem?_eq_getElem hje];rfl) (by simp[hjl])
theorem wT(hK:iB P kt enc){i mt et:Nat}{x ix:Operand}{l:List (κ×PV)}{z:Value}{k:κ}{pk r:PV}(ho:o.op= .lookup mt x ix false)(hm:rI P mt=some (kt,et))(hz:xG P et=some z)(hx:ah t x=some (.own i))(hi:σ[i]? =some (some (.mp (cF enc l))))(hp:ah t ix=some pk)(hk:tA pk (enc k))(hr:(fm k l).getD (.raw z)=r):az P σ t o r:=by
 intro F base E ρ w hρ hS hT
 have h1:=ae hρ hT hx
 have h2:=hk _ _ _ (ae hρ hT hp)
 obtain⟨u,hu,hR⟩:=sv hK hS hm hz h1 hi k false
 simp only[execOp,ho,h2,Sem.run_bind,hu,Result.andThen_ok,Sem.run_pure,Bool.false_eq_true,if_false]
 exact aA (by rw[←hr];exact hR)
theorem iO{α:Type}(a:Array α)(i j:Nat)(v:α):(a.setIfInBounds i v)[j]? =if i=j∧i<a.size then some v else a[j]? :=by
 rw[Array.getElem?_setIfInBounds]
 by_cases h:i=j
 ·subst h
  by_cases h2:i<a.size
  ·simp[h2]
  ·simp[h2]
 ·simp[h]
theorem uJ(hK:iB P kt enc){i mt et:Nat}{x ix y:Operand}{l:List (κ×PV)}{k:κ}{pk p:PV}(ho:o.op= .mapUpdate mt x ix y)(hm:rI P mt=some (kt,et))(hx:ah t x=some (.own i))(hi:σ[i]? =some (some (.mp (cF enc l))))(hp:ah t ix=some pk)(hk:tA pk (enc k))(hy:ah t y=some p):
  eT P σ t o (.raw undef) (σ.set i (some (.mp (cF enc (fw k p l))))):=by
 intro F base E ρ w hρ hS hT
 have h1:=ae hρ hT hx
 have h2:=hk _ _ _ (ae hρ hT hp)
 have h3:=ae hρ hT hy
 generalize hz:ρ x=v at h1
 cases h1 with
 |own _ hiL _ hat _=>
  obtain⟨r,es,ck,hr,hb,hheap,hkey,hval⟩:=hS.blk i _ hi
  have hbk:aB (E.at_ i)=some r:=by rw[hr];rfl
  have hsz:r<w.heap.size:=(Array.getElem?_eq_some_iff.1 hheap).1
  rw[hat]at hr
  subst hr
  have hkey':es.toList.map (·.key)=(l.map (·.1)).map enc:=by rw[hkey];simp[cF]
  have hf:=oF hK k w (l.map (·.1)) es.toList hkey'
  have hvl:(cF enc l).map (·.2)=l.map (·.2):=by simp[cF]
  rw[hvl]at hval
  have fin:∀(es':Array MapEntry) (ck':Nat),(Instr.mapUpdate mt (.map (some r)) (enc k) (ρ y)).run P w= .ok () {w with heap:=w.heap.setIfInBounds r (.map es' ck')}→
    es'.toList.map (·.key)=(fw k p l).map (fun a=>enc a.1)→aw E w (es'.toList.map (·.val)) ((fw k p l).map (·.2))→
    ∃v w' E',((execOp ρ o).run P w= .ok (.value v) w'∨(v=undef∧(execOp ρ o).run P w= .ok .skip w'))∧Sat F base (σ.set i (some (.mp (cF enc (fw k p l))))) E' w'∧bM E w E' w'∧Below base w w'∧bC E' w' v (.raw undef):=fun es' ck' hrun hk' hv'=>by
   have oth:∀j,j<w.heap.size→j≠r→({w with heap:=w.heap.setIfInBounds r (.map es' ck')}:World).heap[j]? =w.heap[j]? :=fun j _ hj=>by
    show(w.heap.setIfInBounds r (.map es' ck'))[j]? =_
    rw[iO,if_neg (by rintro⟨rfl,_⟩;exact hj rfl)]
   have hs':w.heap.size≤({w with heap:=w.heap.setIfInBounds r (.map es' ck')}:World).heap.size:=by simp
   have hrM:E.M r:=(hS.mm r).2 (.inr ⟨i,_,hi,hbk⟩)
   have g:bM E w E {w with heap:=w.heap.setIfInBounds r (.map es' ck')}:=⟨Nat.le_refl _,fun _ _=>rfl,fun _ _ h=>h,hs',fun j hj hM=>oth j hj (fun e=>hM (by rw[e];exact hrM))⟩
   have hn:=hS.tg (bi':=.mp (cF enc (fw k p l))) hi hbk hs' oth ⟨r,es',ck',hat,hb,by
     show(w.heap.setIfInBounds r (.map es' ck'))[r]? =_
     rw[iO,if_pos ⟨rfl,hsz⟩],by rw[hk'];simp[cF],by
     have:(cF enc (fw k p l)).map (·.2)=(fw k p l).map (·.2):=by simp[cF]
     rw[this];exact hv'.goes g⟩
   refine⟨undef,_,E,.inr ⟨rfl,?_⟩,hn.1,hn.2,⟨rfl,rfl,rfl,hs',fun j hj=>oth j (Nat.lt_of_lt_of_le hj hS.bl) (by omega)⟩,.raw _⟩
   simp only[execOp,ho,hz,h2,Sem.run_bind,hrun,Result.andThen_ok,Sem.run_pure]
  have hsm:=rC (k:=k) (p:=p) (l:=l)
  cases hfi:da k (l.map (·.1)) 0 with
  |none=>
   rw[hfi]at hf hsm
   simp only[Option.bind_none]at hf hsm
   refine fin (es.push {key:=enc k,val:=ρ y,born:=ck}) (ck+1) ?_ ?_ ?_
   ·simp only[Instr.mapUpdate,Sem.run_bind,run_underlying (gL hm),Result.andThen_ok,MapKept.run_getObj_map hheap,hK.sw,hf,MapKept.run_setObj_map _ hheap]
   ·rw[hsm];simp[hkey',List.map_map,Function.comp_def]
   ·rw[hsm]
    simp only[Array.toList_push,List.map_append,List.map_cons,List.map_nil]
    exact hval.append (aw.cons h3 (aw.nil _ _))
  |some j=>
   obtain⟨_,hj⟩:=eC hfi
   simp only[Nat.sub_zero]at hj
   have hjl:j<l.length:=by have:=(List.getElem?_eq_some_iff.1 hj).1;simpa using this
   have hje:j<es.toList.length:=by have:=congrArg List.length hkey';simp at this;rw[Array.length_toList];omega
   have hje':j<es.size:=by simpa using hje
   have hlj:l[j].1=k:=by have:=List.getElem?_eq_some_iff.1 hj;obtain⟨h,e⟩:=this;simpa using e
   have hkj:es[j].key=enc k:=by
    have:=congrArg (·[j]?) hkey'
    simp only[List.getElem?_map,List.getElem?_eq_getElem hje,List.getElem?_eq_getElem hjl,Option.map_some,Option.some.injEq,hlj]at this
    simpa using this
   rw[hfi]at hf hsm
   simp only[Option.bind_some,List.getElem?_eq_getElem hje,Option.map_some]at hf hsm
   refine fin (es.modify j fun e=> {e with key:=enc k,val:=ρ y}) ck ?_ ?_ ?_
   ·have hks:(Instr.keyThatStays ((Option.map (fun x=>x.key) es[j]?).getD (enc k)) (enc k)).run P w= .ok (enc k) w:=by
     rw[Array.getElem?_eq_getElem hje',Option.map_some,Option.getD_some,hkj]
     simp only[Instr.keyThatStays,hK.bits,if_true,Sem.run_pure]
    simp only[Instr.mapUpdate,Sem.run_bind,run_underlying (gL hm),Result.andThen_ok,MapKept.run_getObj_map hheap,hK.sw,hf,hks,MapKept.run_setObj_map _ hheap]
   ·rw[hsm]
    refine List.ext_getElem? fun n=>?_
    simp only[List.getElem?_map,Array.getElem?_toList,Array.getElem?_modify,List.getElem?_set]
    by_cases hn:j=n
    ·subst hn
     simp[hje',hjl]
    ·have:=congrArg (·[n]?) hkey'
     simp only[List.getElem?_map,Array.getElem?_toList]at this
     simp only[if_neg hn,this,Option.map_map,Function.comp_def]
   ·rw[hsm]
    have hR:=hval.set j h3
    have e1:(es.modify j fun e=> {e with key:=enc k,val:=ρ y}).toList.map (·.val)=(es.toList.map (·.val)).set j (ρ y):=by
     refine List.ext_getElem? fun n=>?_
     simp only[List.getElem?_map,Array.getElem?_toList,Array.getElem?_modify,List.getElem?_set]
     by_cases hn:j=n
     ·subst hn
      simp[hje']
     ·simp only[if_neg hn]
    have e2:(l.set j (k,p)).map (·.2)=(l.map (·.2)).set j p:=by rw[List.map_set]
    rw[e1,e2]
    exact hR
omit [DecidableEq κ] in
theorem r8{mt:TypeId}(enc:κ→Value)(ho:o.op= .makeMap mt none):eT P σ t o (.own σ.length) (σ++[some (.mp (cF enc ([]:List (κ×PV))))]):=by
 intro F base E ρ w hρ hS hT
 have hr:(execOp ρ o).run P w= .ok (.value (.map (some w.heap.size))) (w.alloc (.map #[] 0)):=by
  simp[execOp,ho,Instr.makeMap]
 have hE:Ext w (w.alloc (.map #[] 0)):=(Ext.refl w).alloc _
 have hp:=hS.push hE (v:=.map (some w.heap.size)) (blk:=.mp (cF enc ([]:List (κ×PV)))) (fun b h=>by simp[aB]at h;omega) ⟨w.heap.size,#[],0,rfl,hS.bl,heap_alloc_new _ _,rfl,aw.nil _ _⟩
 exact⟨_,_,_,.inl hr,hp.1,hp.2,Below.fq hE hS.bl,.own σ.length (by simp[Env.push,hS.len]) _ (by simp[Env.push,hS.len]) rfl⟩
end
section
variable {P:Program} {σ:bo} {t:a7} {o:Oper} {N L:Nat}
def yC(Q:Exit→St→Prop):Exit→St→Prop
 | .goto _,_=>False
 |e,s=>Q e s
theorem vO{c:Code}{st:St}{Q:Exit→St→Prop}(h:W P N L c st (yC Q)):W P N L (.scope c) st Q:=fun F base E₀ w₀ E a w hc hs=>by
 refine wp_scope_straight (wp_mono (h F base E₀ w₀ E a w hc hs) ?_)
 rintro e a' w' ⟨s,E',h1,h2⟩
 cases e with
 |goto l=>exact h1.elim
 |normal=>exact⟨s,E',h1,h2⟩
 |exit _=>exact⟨s,E',h1,h2⟩
 |ret=>exact⟨s,E',h1,h2⟩
 |panic _=>exact⟨s,E',h1,h2⟩
 |outgrown=>exact⟨s,E',h1,h2⟩
theorem vp{l:Nat}{st:St}{Q:Exit→St→Prop}(h:Q .normal st):W P N L (.label l) st Q:=fun _ _ _ _ E _ _ hc hs=>wp_label ⟨st,E,h,hs,hc.g,hc.b⟩
def rq(P:Program)(ty:TypeId):Bool:=match P.underlying ty with|some (.slice _)=>true|_=>false
theorem my{ty:TypeId}(h:rq P ty=true):∃e,P.underlying ty=some (.slice e):=by
 unfold rq at h
 split at h
 ·rename_i e hu;exact⟨e,hu⟩
 ·cases h
theorem nH{x y:Operand}{ty tz:TypeId}{n:Nat}{xs:List PV}(ho:o.op= .binOp .eql ty x y tz)(hk:rq P ty=true)(hx:ah t x=some (.slice n xs))(hy:ah t y=some (.raw (.slice none 0 0)))(hn:0<n):az P σ t o (.raw (.bool false)):=by
 obtain⟨e,hu⟩:=my hk
 intro F base E ρ w hρ _ hT
 have h1:=ae hρ hT hx
 have h2:=ae hρ hT hy
 generalize hz:ρ x=z at h1
 generalize hz':ρ y=z' at h2
 cases h2
 have hv:∃a c,z= .slice (some a) n c:=by
  cases h1 with
  |bY=>omega
  |empty=>omega
  |slice b off _ c cs _ h0=>exact⟨_,_,rfl⟩
 obtain⟨a,c,rfl⟩:=hv
 have:=Lib.run_eql_slice_nil w ty e (some a) n c 0 0 hu
 have hg:∀a n c b m d,(eqGuard .eql ty x y (.slice a n c) (.slice b m d)).run P w= .ok () w:=fun _ _ _ _ _ _=>rfl
 simp only[execOp,ho,hz,hz',Sem.run_bind,Sem.run_pure,Result.andThen_ok,hg,this]
 exact aA (.raw _)
end
end PW
end Go.Proofs.YtnegbdpggideiaaDoor
namespace Go.Proofs.YtnegbdpggideiaaDoor
namespace PW
open Go.RowKit aN Mem Net
theorem bQ.wj{P:Program}{f:FuncId}{ps:List PV}{σ:bo}{R:PV→Prop}(h:Can P f ps R)[ao ps]:bQ P f ps σ (fun r σ'=>R r∧σ'=σ):=fun F base E w vs hS hR=>by
 refine(h E.M w vs (fun b hb=>hS.lt hb) hS.gl (hR.pure (fun _ h=>h))).mono ?_
 rintro e w' ⟨v,rfl,hE,r,hr,hv⟩
 exact⟨v,r,σ,E,rfl,⟨hr,rfl⟩,hS.ext hE,.ext hE,Below.fq hE hS.bl,hv.back⟩
section
variable {T:ab} {D:List Bool} {d:Nat}
structure xh (T:ab) (D:List Bool) (d:Nat) (O:List Int):Prop where
 nodup:O.Nodup
 mem:∀x,x∈O↔∃k:Nat,x=(k:Int)∧(k:Int)<T.nodes∧0≤dN T D d k
 pair:O.Pairwise fun x y=>dN T D d y.toNat≤dN T D d x.toNat
theorem xh.of(hv:aj T=true)(hd:(d:Int)<T.nodes){O:List Int}(h1:O.Perm (s7 (bH T D d false) (bH T D d false).length))(h2:O.Pairwise (rK (bH T D d false))):xh T D d O:=by
 obtain⟨hb1,_⟩:=eV (D:=D) hv (dir:=false) hd
 refine⟨h1.nodup_iff.2 (oX _ _),fun x=>?_,h2.imp fun {x y} h=>?_⟩
 ·rw[h1.mem_iff,sL]
  constructor
  ·rintro⟨k,e,h3,h4⟩;exact⟨k,e,by omega,h4⟩
  ·rintro⟨k,e,h3,h4⟩;exact⟨k,e,by omega,h4⟩
 ·unfold rK at h
  show(bH T D d false).getD _ 0≤(bH T D d false).getD _ 0
  omega
structure xp (T:ab) (D:List Bool) (d:Nat) (R cs:List Int) (i:Nat):Prop where
 len:(cs.length:Int)=T.nodes
 val:∀m:Nat,(m:Int)<T.nodes→cs.getD m 0=if m=d then 1 else if(m:Int)∈R.take i then cn T D d m else 0
theorem xp.done(hv:aj T=true)(hd:(d:Int)<T.nodes){O cs:List Int}{n:Nat}(hO:xh T D d O)(h:xp T D d O.reverse cs O.reverse.length)(hn:(n:Int)<T.nodes):cs.getD n 0=cn T D d n:=by
 rw[h.val n hn,List.take_length]
 by_cases hnd:n=d
 ·subst hnd;rw[if_pos rfl,kq]
 ·rw[if_neg hnd]
  by_cases h1:(n:Int)∈O.reverse
  ·rw[if_pos h1]
  ·rw[if_neg h1]
   refine(qn hv hd hn (Int.not_le.1 fun h0=>h1 (List.mem_reverse.2 ((hO.mem _).2 ⟨n,rfl,hn,h0⟩)))).symm
end
structure wV (L out:List Int) (i:Nat) (b:Int):Prop where
 none:b<0→∀k:Nat,k<i→0≤L.getD k 0→(k:Int)∈out
 some:∀n:Nat,b=(n:Int)→n<i∧0≤L.getD n 0∧¬(n:Int)∈out∧∀k:Nat,k<i→0≤L.getD k 0→¬(k:Int)∈out→L.getD k 0≤L.getD n 0
theorem wV.no{L out:List Int}{i:Nat}{b:Int}(h:wV L out i b)(h1:¬(0≤L.getD i 0∧¬(i:Int)∈out∧(b<0∨∃n:Nat,b=(n:Int)∧L.getD n 0<L.getD i 0))):wV L out (i+1) b:=by
 refine⟨fun hb k hk hk0=>?_,fun n hn=>?_⟩
 ·by_cases hki:k=i
  ·subst hki;exact Classical.byContradiction fun ho=>h1 ⟨hk0,ho,.inl hb⟩
  ·exact h.none hb k (by omega) hk0
 ·obtain⟨a1,a2,a3,a4⟩:=h.some n hn
  refine⟨by omega,a2,a3,fun k hk hk0 hko=>?_⟩
  by_cases hki:k=i
  ·subst hki;exact Int.not_lt.1 fun hl=>h1 ⟨hk0,hko,.inr ⟨n,hn,hl⟩⟩
  ·exact a4 k (by omega) hk0 hko
structure Part (L out:List Int):Prop where
 nodup:out.Nodup
 mem:∀x∈out,∃k:Nat,x=(k:Int)∧k<L.length∧0≤L.getD k 0
 pair:out.Pairwise fun x y=>L.getD y.toNat 0≤L.getD x.toNat 0
 rest:∀x∈out,∀k:Nat,k<L.length→0≤L.getD k 0→¬(k:Int)∈out→L.getD k 0≤L.getD x.toNat 0
theorem Part.len{L out:List Int}(h:Part L out):out.length≤L.length:=by
 have h1:=km L.length (out.map Int.toNat) (by
  unfold List.Nodup
  rw[List.pairwise_map]
  refine List.Pairwise.imp_of_mem ?_ h.nodup
  intro a b ha hb hne e
  obtain⟨k,rfl,_⟩:=h.mem a ha
  obtain⟨k',rfl,_⟩:=h.mem b hb
  simp only[Int.toNat_natCast]at e
  exact hne (by rw[e])) (fun x hx=>by
  obtain⟨y,hy,rfl⟩:=List.mem_map.1 hx
  obtain⟨k,rfl,hk,_⟩:=h.mem y hy
  simpa using hk)
 simpa using h1
end PW
end Go.Proofs.YtnegbdpggideiaaDoor
namespace Go.Proofs.YtnegbdpggideiaaDoor
namespace PW
open Go.RowKit aN Mem
section
variable {P:Program} {kt e:TypeId}
abbrev wu(p:Int×Int):Array Value:= #[.int .i64 p.1,.int .i64 p.2]
end
end PW
end Go.Proofs.YtnegbdpggideiaaDoor
namespace Go.Proofs.YtnegbdpggideiaaDoor
namespace PW
open Go.RowKit aN Mem Net
theorem yG:rq Tryd.prog 23=true:=by kernel_rfl
abbrev yE(n:Int):Value:=.int .i64 n
abbrev yx(p:Int×Int):Value:=.agg (wu p)
section
variable {κ:Type} [DecidableEq κ]
end
def sH(T:ab)(D:List Bool)(dm:List (Int×PV)):Prop:=∀k v,(k,v)∈dm→∃d:Nat,k=(d:Int)∧(d:Int)<T.nodes∧v=aJ (bH T D d false)
def sI(T:ab)(D:List Bool)(um:List ((Int×Int)×PV)):Prop:=∀k v,(k,v)∈um→v=flag (fP T D k.1 k.2)
theorem sH.pure{T:ab}{D:List Bool}{dm:List (Int×PV)}(h:sH T D dm):fR (some (.mp (cF yE dm))):=fun b hb=>by
 cases hb
 refine⟨fun i u hu=>?_⟩
 have hm:=List.mem_of_getElem? hu
 simp only[cF,List.map_map,List.mem_map,Function.comp]at hm
 obtain⟨⟨k,v⟩,hkv,rfl⟩:=hm
 obtain⟨d,_,_,hv⟩:=h k v hkv
 show IsPure v
 rw[hv]
 infer_instance
theorem sI.pure{T:ab}{D:List Bool}{um:List ((Int×Int)×PV)}(h:sI T D um):fR (some (.mp (cF yx um))):=fun b hb=>by
 cases hb
 refine⟨fun i u hu=>?_⟩
 have hm:=List.mem_of_getElem? hu
 simp only[cF,List.map_map,List.mem_map,Function.comp]at hm
 obtain⟨⟨k,v⟩,hkv,rfl⟩:=hm
 show IsPure v
 rw[h k v hkv]
 infer_instance
theorem sH.set{T:ab}{D:List Bool}{dm:List (Int×PV)}(h:sH T D dm){d:Nat}(hd:(d:Int)<T.nodes):sH T D (fw (d:Int) (aJ (bH T D d false)) dm):=fun k v hk=>by
 rcases lr hk with e|e
 ·cases e;exact⟨d,rfl,hd,rfl⟩
 ·exact h k v e
theorem sI.set{T:ab}{D:List Bool}{um:List ((Int×Int)×PV)}(h:sI T D um)(a b:Int):sI T D (fw (a,b) (flag (fP T D a b)) um):=fun k v hk=>by
 rcases lr hk with e|e
 ·cases e;rfl
 ·exact h k v e
def yO(T:ab)(n:Int)(p:List Int):List Int:=n::p.map fun a=>aK T a.toNat
theorem ye(T:ab)(n:Int)(p:List Int)(i:Nat)(h:i≤p.length):(yO T n p).getD i 0=bg T n (p.take i):=by
 cases i with
 |zero=>rfl
 |succ i=>
  rw[ep T n p i (by omega)]
  simp only[yO,List.getD_cons_succ]
  rw[List.getD_eq_getElem?_getD,List.getElem?_map,List.getElem?_eq_getElem (by omega),List.getD_eq_getElem?_getD,List.getElem?_eq_getElem (by omega)]
  rfl
def vz(T:ab)(D:List Bool)(n:Int)(p:List Int):Int:=if(aj T&&bw T D)=true then(if eJ T n p=0 then(if p.any (fun a=>bG D a.toNat) then 7 else 0) else eJ T n p) else 1
theorem mD{T:ab}:∀ {f:Bool} {n:Int} {l:List Int},bV T f n l=0→∀a∈l,cX T a=true
 |f,n,[],_,a,ha=>by cases ha
 |f,n,b::l,h,a,ha=>by
  simp only[bV]at h
  split at h
  ·omega
  ·split at h
   ·omega
   ·rename_i h1 _
    rcases List.mem_cons.1 ha with rfl|ha
    ·simpa using h1
    ·exact mD h a ha
noncomputable def eG(T:ab)(D:List Bool)(n:Int)(p:List Int)(i j:Nat):Bool:=
 decide (dN T D (bg T n (p.take j)).toNat (bg T n (p.take i)).toNat=cw T (p.take j) - cw T (p.take i))&&fP T D (bg T n (p.take i)) (bg T n (p.take j))
theorem bF{T:ab}(hv:aj T=true){n:Int}(hn:aS T n=true){p:List Int}(ha:∀a∈p,cX T a=true)(i:Nat)(hi:i≤p.length):∃u:Nat,bg T n (p.take i)=(u:Int)∧(u:Int)<T.nodes:=by
 cases i with
 |zero=>
  obtain⟨h0,h1⟩:=aV.1 hn
  obtain⟨u,hu⟩:=Int.eq_ofNat_of_zero_le h0
  exact⟨u,hu,by rw[←hu];exact h1⟩
 |succ i=>
  rw[ep T n p i (by omega)]
  exact(jw hv (ha _ (cS (d:=0) (show i<p.length by omega)))).2
theorem pI{T:ab}{D:List Bool}(hv:aj T=true)(hf:bw T D=true){d:Nat}(hd:(d:Int)<T.nodes):bX T D [(d:Int)]=0:=by
 unfold bX
 rw[hv,hf]
 have:aS T (d:Int)=true:=aV.2 ⟨by omega,hd⟩
 simp[this]
end PW
end Go.Proofs.YtnegbdpggideiaaDoor
