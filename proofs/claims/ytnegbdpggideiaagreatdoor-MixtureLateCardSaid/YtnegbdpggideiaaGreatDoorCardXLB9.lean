/- Texts of the proof, part 9. -/
import Derived.WideShapes
import Derived.Deep.AppendSrc
import Derived.Test.YtnegbdpggideiaaGreatDoorCardXLB8
set_option linter.unusedVariables false
set_option linter.unusedSimpArgs false
set_option maxRecDepth 10000
set_option maxHeartbeats 1000000
namespace Go.Proofs.YtnegbdpggideiaaGreatDoor
namespace PW
section
open Go.RowKit cE Mem Net
theorem rK(l:List bU)(e:bU):dR l++oL e=dR (l++[e]):=by simp[dR]
theorem fM(l:List bU):(dR l).length=l.length*2:=by
 induction l with
 |nil=>rfl
 |cons a l ih=>simp only[dR,List.flatMap_cons,List.length_append,List.length_cons]at*;rw[ih];simp[oL];omega
def lI(c:Nat→Bool)(i:Nat):Nat→Option Nat
 |0=>none
 |m+1=>if m+1≤i then none else if c (m+1) then some (m+1) else lI c i m
theorem tW{c:Nat→Bool}{i j:Nat}(hij:i<j)(hc:c j=true):∀m,j≤m→(∀k,j<k→k≤m→c k=false)→lI c i m=some j
 |0,h,_=>by omega
 |m+1,h,hn=>by
  unfold lI
  rw[if_neg (by omega)]
  by_cases e:j=m+1
  ·subst e;rw[if_pos hc]
  ·rw[if_neg (by rw[hn (m+1) (by omega) (by omega)];simp)]
   exact tW hij hc m (by omega) (fun k h1 h2=>hn k h1 (by omega))
theorem tK{c:Nat→Bool}{i:Nat}:∀m,(∀k,i<k→k≤m→c k=false)→lI c i m=none
 |0,_=>rfl
 |m+1,hn=>by
  unfold lI
  by_cases e:m+1≤i
  ·rw[if_pos e]
  ·rw[if_neg e,if_neg (by rw[hn (m+1) (by omega) (by omega)];simp)]
   exact tK m (fun k h1 h2=>hn k h1 (by omega))
theorem oD{c:Nat→Bool}{i:Nat}:∀m j,lI c i m=some j→i<j∧j≤m∧c j=true∧∀k,j<k→k≤m→c k=false
 |0,j,h=>by cases h
 |m+1,j,h=>by
  unfold lI at h
  split at h
  ·cases h
  ·split at h
   ·cases h;rename_i h1 h2;exact⟨by omega,by omega,h2,fun k h3 h4=>by omega⟩
   ·rename_i h1 h2
    obtain⟨a,b,c1,d⟩:=oD m j h
    refine⟨a,by omega,c1,fun k h3 h4=>?_⟩
    by_cases e:k=m+1
    ·subst e;simpa using h2
    ·exact d k h3 (by omega)
theorem jR{c:Nat→Bool}{i:Nat}:∀m,lI c i m=none→∀k,i<k→k≤m→c k=false
 |0,_,k,h1,h2=>by omega
 |m+1,h,k,h1,h2=>by
  unfold lI at h
  split at h
  ·omega
  ·split at h
   ·cases h
   ·rename_i h3 h4
    by_cases e:k=m+1
    ·subst e;simpa using h4
    ·exact jR m h k h1 (by omega)
noncomputable def iF(T:an)(D:List Bool)(n:Int)(p:List Int):Nat→Nat→List bU
 |0,_=>[]
 |f+1,i=>if i<p.length then(match lI (fD T D n p i) i p.length with
  |some j=>⟨1,cI T n (p.take j)⟩::iF T D n p f j
  |none=>⟨2,p.getD i 0⟩::iF T D n p f (i+1)) else []
noncomputable def i6(T:an)(D:List Bool)(n:Int)(p:List Int):List bU:=iF T D n p p.length 0
section
variable {T:an} {D:List Bool} {n:Int} {p:List Int}
theorem oB(f i:Nat)(h:p.length≤i):iF T D n p f i=[]:=by
 cases f with
 |zero=>rfl
 |succ f=>simp only[iF];rw[if_neg (by omega)]
theorem kC{f i j:Nat}(hi:i<p.length)(hij:i<j)(hj:j≤p.length)(hc:fD T D n p i j=true)(hno:∀k,j<k→k≤p.length→fD T D n p i k=false):iF T D n p (f+1) i=⟨1,cI T n (p.take j)⟩::iF T D n p f j:=by
 simp only[iF]
 rw[if_pos hi,tW hij hc p.length hj hno]
theorem lY{f i:Nat}(hi:i<p.length)(hno:∀k,i<k→k≤p.length→fD T D n p i k=false):iF T D n p (f+1) i=⟨2,p.getD i 0⟩::iF T D n p f (i+1):=by
 simp only[iF]
 rw[if_pos hi,tK p.length hno]
theorem pI:∀ {f:Bool} {x:Int} {l m:List Int},dG T f x (l++m)=0→dG T f x l=0∧∃g,dG T g (cI T x l) m=0
 |f,x,[],m,h=>⟨rfl,f,h⟩
 |f,x,a::l,m,h=>by
  simp only[List.cons_append,dG]at h ⊢
  split at h
  ·omega
  ·rename_i h1
   rw[if_neg h1]
   split at h
   ·omega
   ·rename_i h2
    rw[if_neg h2]
    exact pI h
theorem AL(hv:aq T=true):∀ {f:Bool} {x:Nat} {l:List Int} {y:Nat},dG T f x l=0→(∀a∈l,aQ D a.toNat=false)→cI T x l=(y:Int)→Ch T D y x l
 |f,x,[],y,_,_,he=>by
  have:y=x:=by simp only[cI]at he;omega
  subst this
  exact .nil
 |f,x,a::l,y,h,hd,he=>by
  simp only[dG]at h
  split at h
  ·omega
  ·rename_i h1
   split at h
   ·omega
   ·rename_i h2
    have hab:ep T a=true:=by simpa using h1
    obtain⟨_,m,hm,hmN⟩:=jg hv hab
    simp only[ep,decide_eq_true_eq]at hab
    obtain⟨b,rfl⟩:=Int.eq_ofNat_of_zero_le hab.1
    rw[Int.toNat_natCast]at hm
    simp only[cI,Int.toNat_natCast]at he h2 h
    rw[hm]at he h
    have hch:=AL hv h (fun c hc=>hd c (by simp[hc])) he
    refine .cons (by omega) (Classical.byContradiction fun hn=>h2 (.inl hn)) (hd b (by simp)) hm ?_ hch
    cases l with
    |nil=>exact .inl rfl
    |cons c l=>
     right
     simp only[dG]at h
     split at h
     ·omega
     ·split at h
      ·omega
      ·rename_i h4
       simp only[Int.toNat_natCast]at h4
       cases ho:dh T m with
       |false=>rfl
       |true=>exact absurd (.inr ⟨trivial,ho⟩) h4
structure qf (T:an) (D:List Bool) (n:Int) (p:List Int):Prop where
 valid:aq T=true
 fits:bW T D=true
 node:bm T n=true
 walk:dG T true n p=0
 up:∀a∈p,aQ D a.toNat=false
theorem DM(h:fU T D n p=0):qf T D n p:=by
 unfold fU at h
 split at h
 ·rename_i h1
  obtain⟨hv,hf⟩:=Bool.and_eq_true_iff.1 h1
  split at h
  ·rename_i h2
   obtain⟨_,hn,hw⟩:=nI h2
   split at h
   ·omega
   ·rename_i h3
    exact⟨hv,hf,hn,hw,fun a ha=>by
     cases hd:aQ D a.toNat with
     |false=>rfl
     |true=>exact absurd (List.any_eq_true.2 ⟨a,ha,hd⟩) h3⟩
  ·omega
 ·omega
theorem qf.ax(h:qf T D n p):∀a∈p,ep T a=true:=mQ h.walk
def fj(p:List Int)(i j:Nat):List Int:=(p.drop i).take (j - i)
theorem jc(p:List Int){i j:Nat}(hij:i≤j):p.take j=p.take i++fj p i j:=by
 unfold fj
 have h:(p.take j)=(p.take j).take i++(p.take j).drop i:=(List.take_append_drop i _).symm
 rw[h,List.take_take,Nat.min_eq_left hij,List.drop_take]
theorem nY(p:List Int){i j:Nat}(hij:i≤j)(hj:j≤p.length):(fj p i j).length=j - i:=by unfold fj;simp;omega
theorem qf.ch(h:qf T D n p){i j u y:Nat}(hij:i≤j)(hj:j≤p.length)(hu:cI T n (p.take i)=(u:Int))(hy:cI T n (p.take j)=(y:Int)):Ch T D y u (fj p i j):=by
 have h1:dG T true n (p.take j)=0:=(pI (l:=p.take j) (m:=p.drop j) (by rw[List.take_append_drop];exact h.walk)).1
 rw[jc p hij]at h1
 obtain⟨_,g,hg⟩:=pI h1
 rw[hu]at hg
 refine AL h.valid hg (fun a ha=>h.up a ?_) ?_
 ·exact List.mem_of_mem_drop (List.mem_of_mem_take ha)
 ·rw[←hu,←mh,←jc p hij];exact hy
theorem BD(T:an)(p:List Int){i j:Nat}(hij:i≤j):da T (p.take j) - da T (p.take i)=da T (fj p i j):=by
 rw[jc p hij,gE];omega
theorem mT(h:qf T D n p){i j u y:Nat}(hij:i≤j)(hj:j≤p.length)(hu:cI T n (p.take i)=(u:Int))(hy:cI T n (p.take j)=(y:Int)):fD T D n p i j=true↔SP T D y u (fj p i j)∧ek T D y u=1:=by
 have hch:=h.ch hij hj hu hy
 have ha:=h.ax
 obtain⟨u',hu',huN⟩:=cB h.valid h.node ha i (by omega)
 obtain⟨y',hy',hyN⟩:=cB h.valid h.node ha j hj
 have e1:u'=u:=by omega
 have e2:y'=y:=by omega
 subst e1
 subst e2
 have hne:cu T D (u':Int) (y':Int)=0:=by
  unfold cu
  rw[if_pos (uX h.valid h.fits hyN),aT.2 ⟨by omega,huN⟩]
  rfl
 unfold fD fT
 rw[hu,hy,Int.toNat_natCast,Int.toNat_natCast,BD T p hij,hne]
 simp only[decide_true,Bool.true_and,Bool.and_eq_true,decide_eq_true_eq]
 constructor
 ·rintro⟨h1,h2⟩;exact⟨hch.sp h.valid hyN h1,h2⟩
 ·rintro⟨h1,h2⟩;exact⟨(h1.cost h.valid hyN).1,h2⟩
theorem Hq(h:qf T D n p){i j:Nat}(hij:i≤j)(hj:j≤p.length)(hc:fD T D n p i j=true):(j:Int) - i<T.nodes:=by
 have ha:=h.ax
 obtain⟨u,hu,huN⟩:=cB h.valid h.node ha i (by omega)
 obtain⟨y,hy,hyN⟩:=cB h.valid h.node ha j hj
 have:=((mT h hij hj hu hy).1 hc).1.zq h.valid hyN
 rw[nY p hij hj]at this
 omega
end
def tV(e:Int)(l:List bU):PV:=.tuple [ca (if e=0 then l else []),num e]
def xS(l:List bU):Option cJ:=some (.row 103 2 l.length (dR l))
theorem Bg(l:List bU):lE (xS l):=fun b hb=>by cases hb;exact(inferInstance:aL (dR l))
theorem yw(T:an)(D:List Bool)(p:List Int)(n:Int)(hp:p.length≤1000)(hlk:T.ag.length≤256):bT Tryz.prog 111 [aN T,bq D,au p,num n] [] (fun r σ'=>∃x,r= .tuple [x,num (fU T D n p)]∧(fU T D n p=0→x= .ptr 4 0∧σ'=AT T D p (uV T n p) (uv T p) [] [])):=
 bT.mono (yF T D p n hp hlk) fun r σ' h=>by
  rcases h with⟨he,rfl⟩|⟨he,rfl,rfl⟩
  ·exact⟨_,rfl,fun h=>absurd h he⟩
  ·exact⟨_,by rw[he],fun _=>⟨rfl,rfl⟩⟩
set_option maxHeartbeats 2000000 in
theorem Cv(T:an)(D:List Bool)(p:List Int)(n:Int)(hp:p.length≤1000)(hlk:T.ag.length≤256)(h12:T.nodes≤12):Can Tryz.prog 54 [aN T,bq D,au p,num n] (· =tV (fU T D n p) (i6 T D n p)):=by
  refine aI Tryz.func54 I Tryz.ntmps54 I<|ab (.a 3 I<|.k [1,2,3,4] I)<|Ag ?_
  refine aP<|av 4 I<|cM I I (bT.mono (yw T D p n hp hlk) (fun r σ' h=>?_))
  obtain⟨x,rfl,hx⟩:=h
  refine av 5 I<|aG [2,4,10,11] I ?_
  refine aj<|ab (.a 2 I<|.k [2,4,10,11,24] I)<|ah I (fun hc=>?_) (fun hc=>?_)
  · have he:fU T D n p≠0:=tt hc
    exact ab (.a 3 I<|.k [8,9] I)<|ao<|⟨_,_,az.of I,ay.aX (af.cons ay.bQ (af.cons ay.pure af.nil)),by unfold tV;rw[if_neg he];rfl⟩
  · have he:fU T D n p=0:=Classical.byContradiction (ff hc)
    obtain⟨rfl,rfl⟩:=hx he
    have hF:=DM he
    have hv:=hF.valid
    have hS:=aO hv
    have hN:=hS.nodes
    have ha:=hF.ax
    obtain⟨N,hNN⟩:∃N:Nat,T.nodes=(N:Int):=⟨T.nodes.toNat,by omega⟩
    rw[he]
    clear hc
    refine ai<|ab (.a 1 I<|.k [2,4,10,12] I)<|gQ 12 103 2 I ?_
    refine ab (.a 1 I<|.k [2,4,10,12,13] I)<|aj<|zY ?_
    refine aj<|aw<|eS [2,4,10,12,13] I<|bu (fun r st=>∃(l:List bU) (i f:Nat) (dm:List (Int×PV)) (um:List ((Int×Int)×PV)),i≤p.length∧p.length - i≤f∧l.length≤i∧r=p.length - i∧i6 T D n p=l++iF T D n p f i∧kb T D dm∧kQ T D um∧st=⟨[(2,au p),(4,.bc (bC T) 0),(10,.ptr 4 0),(12,.own 5),(13,num i)],AT T D p (uV T n p) (uv T p) dm um++[xS l]⟩) p.length ⟨[],0,p.length,[],[],by omega,by omega,by simp,by omega,rfl,(fun _ _ h=>by cases h),(fun _ _ h=>by cases h),rfl⟩ ?_
    rintro r st ⟨l,i,f,dm,um,hi,hif,hli,rfl,hl,hdm,hum,rfl⟩
    refine aj<|ab (.a 4 I<|.k [2,4,10,12,13,29] I)<|ah I (fun h1=>?_) (fun h1=>?_)
    · have hlt:i<p.length:=by have:=tt h1;omega
      refine ai<|aw<|aj ?_
      obtain⟨m,hm⟩:∃m:Nat,min (p.length:Int) ((i:Int)+(N:Int) - 1)=(m:Int):=⟨(min (p.length:Int) ((i:Int)+(N:Int) - 1)).toNat,by omega⟩
      have hfar:∀k,m<k→k≤p.length→fD T D n p i k=false:=fun k h2 h3=>by
        cases hcv:fD T D n p i k with
        |false=>rfl
        |true=>
          have:=Hq hF (i:=i) (j:=k) (by omega) h3 hcv
          omega
      refine ab (.a 4 I<|.v (aJ I ((show some (num T.nodes)=some (num (N:Int)) by rw[hNN]))) I<|.v (aV I) I<|.v (aV I) I<|.v (uo I I I (hm)) I<|.a 1 I<|.k [2,4,10,12,13,14] I)<|aw<|eS [2,4,10,12,13,14] I<|bu (fun r st=>∃(j:Nat) (dm:List (Int×PV)) (um:List ((Int×Int)×PV)),i≤j∧j≤p.length∧r=j∧(∀k,j<k→k≤p.length→fD T D n p i k=false)∧kb T D dm∧kQ T D um∧st=⟨[(2,au p),(4,.bc (bC T) 0),(10,.ptr 4 0),(12,.own 5),(13,num i),(14,num j)],AT T D p (uV T n p) (uv T p) dm um++[xS l]⟩) m ⟨m,dm,um,by omega,by omega,rfl,hfar,hdm,hum,rfl⟩ ?_
      clear hdm hum
      rintro r st ⟨j,dm,um,hij,hj,rfl,hno,hdm,hum,rfl⟩
      refine aj<|ab (.a 3 I<|.k [2,4,10,12,13,14,40] I)<|ah I (fun h2=>?_) (fun h2=>?_)
      · have hlt2:i<r:=by have:=tt h2;omega
        refine ai<|aj<|aw<|aP<|av 3 I<|cM I I (bT.mono (xr T D p n dm um (xS l) (Bg l) hv hF.fits h12 hF.node ha hp i r (by omega) hj hdm hum) (fun _ σ' h=>?_))
        obtain⟨rfl,dm1,um1,hdm1,hum1,rfl⟩:=h
        refine aG [2,4,10,12,13,14,46] I ?_
        refine ah I (fun h3=>?_) (fun h3=>?_)
        · have hgj:=uQ T n p r hj
          have hl1:=uA T n p
          refine aP<|av 6 I<|bw (aM (r) I) I<|bw (aJ I ((aB _ r (by omega)).trans (by rw[hgj]))) I<|av 2 I<|b7 (bg I (ba.rk.get I) I I I I (by unfold maxLen;omega)) I<|av 1 I ?_
          refine eP [0,1,2,3,4,6] (.c 2<|.c 4<|.c 10<|.c 12<|.c 14<|.nil) (.kept rfl (.row aH.pure)<|.kept rfl (.row aH.pure)<|.same (kb.pure hdm1) I<|.same (kQ.pure hum1) I<|.kept rfl (.cells (aH.c<|aH.c<|aH.c<|aH.c<|aH.c<|aH.c<|aH.c<|aH.c<|aH.c<|aH.nil))<|.kept rfl (.fF rfl (rK _ ⟨1,cI T n (p.take r)⟩))<|.nil) I I (bn ?_)
          refine ab (.a 2 I<|.k [2,4,10,12,13] I)<|bh ?_
          cases f with
          |zero=>omega
          |succ f=>
            first
              | (refine ⟨p.length - r, by omega, l ++ [⟨1, cI T n (p.take r)⟩], r, f, dm1, um1, by omega, by omega, by simp; omega, rfl, ?_, hdm1, hum1, ?_⟩
                 · rw[hl,kC hlt hlt2 hj h3 hno,List.append_assoc];rfl
                 · unfold xS;simp only[List.length_append,List.length_singleton];rfl)
              | (refine ⟨p.length - (i + 1), by omega, l ++ [⟨2, p.getD i 0⟩], i + 1, f, dm, um, by omega, by omega, by simp; omega, rfl, ?_, hdm, hum, ?_⟩
                 · rw[hl,lY hlt hno2,List.append_assoc];rfl
                 · unfold xS;simp only[List.length_append,List.length_singleton];rfl)
        · skip
          refine ai<|aC (.a 1 I<|.v (aV I) I<|.a 1 I<|.k [2,4,10,12,13,14] I) ?_
          refine⟨r - 1,by omega,r - 1,dm1,um1,by omega,by omega,rfl,fun k h4 h5=>?_,hdm1,hum1,?_⟩
          · by_cases e:k=r
            · rw[e];exact h3
            · exact hno k (by omega) h5
          · rw[show((r - 1:Nat):Int)=(r:Int) - 1 by omega]
      · have hno2:∀k,i<k→k≤p.length→fD T D n p i k=false:=fun k h3 h4=>hno k (by have:=ff h2;omega) h4
        refine bh<|aP<|av 3 I<|bw (aM (i) I) I<|bw (aJ I (aB _ i hlt)) I<|av 2 I<|b7 (bg I (ba.rk.get I) I I I I (by unfold maxLen;omega)) I<|av 1 I ?_
        refine eP [0,1,2,3,4,6] (.c 2<|.c 4<|.c 10<|.c 12<|.c 13<|.nil) (.kept rfl (.row aH.pure)<|.kept rfl (.row aH.pure)<|.same (kb.pure hdm) I<|.same (kQ.pure hum) I<|.kept rfl (.cells (aH.c<|aH.c<|aH.c<|aH.c<|aH.c<|aH.c<|aH.c<|aH.c<|aH.c<|aH.nil))<|.kept rfl (.fF rfl (rK _ ⟨2,p.getD i 0⟩))<|.nil) I I (bn ?_)
        refine aC (.a 1 I<|.v (aV I) I<|.a 1 I<|.k [2,4,10,12,13] I) ?_
        cases f with
        |zero=>omega
        |succ f=>
          first
            | (refine ⟨p.length - r, by omega, l ++ [⟨1, cI T n (p.take r)⟩], r, f, dm1, um1, by omega, by omega, by simp; omega, rfl, ?_, hdm1, hum1, ?_⟩
               · rw[hl,kC hlt hlt2 hj h3 hno,List.append_assoc];rfl
               · unfold xS;simp only[List.length_append,List.length_singleton];rfl)
            | (refine ⟨p.length - (i + 1), by omega, l ++ [⟨2, p.getD i 0⟩], i + 1, f, dm, um, by omega, by omega, by simp; omega, rfl, ?_, hdm, hum, ?_⟩
               · rw[hl,lY hlt hno2,List.append_assoc];rfl
               · unfold xS;simp only[List.length_append,List.length_singleton];rfl)
    · have hie:i=p.length:=by have:=ff h1;omega
      rw[oB f i (by omega),List.append_nil]at hl
      exact bh<|ab (.a 3 I<|.k [8,9] I)<|ao<|⟨_,_,az.of I,ay.aX (af.cons (ay.fr rfl af.pure) (af.cons ay.pure af.nil)),by unfold tV;rw[if_pos rfl,hl];rfl⟩
section
variable {T:an} {D:List Bool} {d:Nat}
theorem Ah(hv:aq T=true)(hd:(d:Int)<T.nodes):∀(K m:Nat),(m:Int)<T.nodes→0≤dN T D d m→dN T D d m≤K→ek T D d m≠1→∃p q,SP T D d m p∧SP T D d m q∧p≠q
 |K,m,hmN,h0,hK,hc=>by
  by_cases hmd:m=d
  ·subst hmd;exact absurd (ob m) hc
  ·obtain⟨k,hk⟩:=jO (D:=D) hv hmN hd hmd h0
   have hmem:=fw hk ((aO hv).cost k hk.fy).1
   cases hx:bI T D m d with
   |nil=>rw[hx]at hmem;cases hmem
   |cons a l=>
    obtain⟨b,rfl,hb⟩:=cW (T:=T) (D:=D) (n:=m) (d:=d) (a:=a) (by rw[hx];simp)
    obtain⟨x,hxh,hxN⟩:=dQ hv hb.fy
    have gx:=hb.dN hxh
    have cx:=(aO hv).cost b hb.fy
    cases l with
    |nil=>
     cases K with
     |zero=>omega
     |succ K=>
      have hcx:ek T D d x≠1:=fun h=>hc (yy hv hd hmN hmd hx hxh h)
      obtain⟨p,q,h1,h2,h3⟩:=Ah hv hd K x hxN gx.1 (by omega) hcx
      exact⟨b::p,b::q,.cons hb hxh h1,.cons hb hxh h2,fun e=>h3 (List.cons.inj e).2⟩
    |cons a2 l=>
     obtain⟨b2,rfl,hb2⟩:=cW (T:=T) (D:=D) (n:=m) (d:=d) (a:=a2) (by rw[hx];simp)
     obtain⟨x2,hxh2,hxN2⟩:=dQ hv hb2.fy
     have gx2:=hb2.dN hxh2
     refine⟨b::cr T D x d,b2::cr T D x2 d,.cons hb hxh (ej hv hd hxN gx.1),.cons hb2 hxh2 (ej hv hd hxN2 gx2.1),fun e=>?_⟩
     have he:=(List.cons.inj e).1
     have hlt:=lN T D m d
     rw[hx]at hlt
     have:=(List.pairwise_cons.1 hlt).1 (b2:Int) (by simp)
     omega
theorem Ch.append{e n:Nat}{p q:List Int}(h:Ch T D e n p)(hq:Ch T D d e q)(ho:q=[]∨dh T e=false):Ch T D d n (p++q):=by
 induction h with
 |nil=>exact hq
 | @cons n a m p ha ht hu hm hov hp ih=>
  refine .cons ha ht hu hm ?_ ih
  rcases hov with h|h
  ·subst h
   have:=hp.to rfl
   subst this
   rcases ho with h|h
   ·subst h;exact .inl rfl
   ·exact .inr h
  ·exact .inr h
theorem SP.suffix(hv:aq T=true)(hd:(d:Int)<T.nodes){e:Nat}:∀ {n:Nat} {p q:List Int},SP T D d n (p++q)→ek T D d n=1→Ch T D e n p→SP T D d e q∧ek T D d e=1
 |n,[],q,h,hc,hch=>by
  have:=hch.to rfl
  subst this
  exact⟨h,hc⟩
 |n,a::p,q,h,hc,hch=>by
  cases h with
  | @cons _ b m _ h1 hm hp=>
   cases hch with
   | @cons _ b2 m2 _ _ _ _ hm2 _ hch2=>
    have:m2=m:=by rw[hm]at hm2;omega
    subst this
    obtain⟨b3,h3,_,h4⟩:=vt hv hd (h1.node hv) h1.ne hc
    have e1:=fw h1 ((aO hv).cost b h1.fy).1
    rw[h3]at e1
    simp only[List.mem_singleton]at e1
    have:b3=b:=by omega
    subst this
    exact SP.suffix hv hd hp (h4 m2 hm) hch2
theorem SP.pre(hv:aq T=true)(hd:(d:Int)<T.nodes){e n:Nat}{p q:List Int}(he:(e:Int)<T.nodes)(h:SP T D d n (p++q))(hc:ek T D d n=1)(hp:Ch T D e n p)(hq:Ch T D d e q)(ho:q=[]∨dh T e=false):SP T D e n p∧ek T D e n=1:=by
 have hcost:=(h.cost hv hd).1
 rw[gE]at hcost
 have hle:=hp.le hv he
 have hn:=hp.node hv he
 have hspe:SP T D e n p:=by
  refine hp.sp hv he ?_
  have hs:=ej hv he hn hle.1
  have hc2:=(hs.cost hv he).1
  have:=((hs.ch).append hq ho).le hv hd
  rw[gE]at this
  omega
 refine⟨hspe,Classical.byContradiction fun h1=>?_⟩
 obtain⟨p1,p2,g1,g2,g3⟩:=Ah hv he (dN T D e n).toNat n hn hle.1 (by omega) h1
 have key:∀r,SP T D e n r→SP T D d n (r++q):=fun r hr=>by
  refine((hr.ch).append hq ho).sp hv hd ?_
  rw[gE,hcost,←(hr.cost hv he).1,(hspe.cost hv he).1]
 have:=(key p1 g1).unique hv hd (key p2 g2) hc
 exact g3 (List.append_cancel_right this)
theorem Ch.Ld{e:Nat}:∀ {n:Nat} {p q:List Int},Ch T D d n (p++q)→p≠[]→Ch T D e n p→q=[]∨dh T e=false
 |n,[],q,_,h,_=>absurd rfl h
 |n,a::p,q,h,_,hch=>by
  cases h with
  | @cons _ b m _ _ _ _ hm hov hp=>
   cases hch with
   | @cons _ b2 m2 _ _ _ _ hm2 _ hch2=>
    have:m2=m:=by rw[hm]at hm2;omega
    subst this
    cases p with
    |nil=>
     have:=hch2.to rfl
     subst this
     exact hov
    |cons c p=>exact Ch.Ld hp (by simp) hch2
variable {n:Int} {p:List Int}
theorem lh(p:List Int){i j k:Nat}(h1:i≤j)(h2:j≤k):fj p i k=fj p i j++fj p j k:=by
 have e1:=jc p (show i≤k by omega)
 have e2:=jc p h2
 rw[jc p h1,List.append_assoc]at e2
 rw[e1]at e2
 exact List.append_cancel_left e2
theorem HR(h:qf T D n p){i j i' j':Nat}(h1:i≤i')(h2:i'<j')(h3:j'≤j)(hj:j≤p.length)(hc:fD T D n p i j=true):fD T D n p i' j'=true:=by
 have ha:=h.ax
 have hv:=h.valid
 obtain⟨u,hu,huN⟩:=cB hv h.node ha i (by omega)
 obtain⟨y,hy,hyN⟩:=cB hv h.node ha j hj
 obtain⟨u',hu',huN'⟩:=cB hv h.node ha i' (by omega)
 obtain⟨y',hy',hyN'⟩:=cB hv h.node ha j' (by omega)
 obtain⟨c1,c2⟩:=(mT h (by omega) hj hu hy).1 hc
 rw[lh p h1 (show i'≤j by omega)]at c1
 obtain⟨c3,c4⟩:=c1.suffix hv hyN c2 (h.ch h1 (by omega) hu hu')
 rw[lh p (show i'≤j' by omega) h3]at c3
 have hp:=h.ch (show i'≤j' by omega) (by omega) hu' hy'
 have hq:=h.ch h3 hj hy' hy
 have ho:=c3.ch.Ld (e:=y') (by
  intro e
  have:=nY p (show i'≤j' by omega) (by omega)
  rw[e]at this
  simp at this
  omega) hp
 exact(mT h (by omega) (by omega) hu' hy').2 (c3.pre hv hyN hyN' c4 hp hq ho)
end
section
variable {T:an} {D:List Bool} {n:Int} {p:List Int}
theorem Eb{i k:Nat}{a:Int}(h:a∈fj p i k):a∈p:=List.mem_of_mem_drop (List.mem_of_mem_take h)
theorem pa(h:qf T D n p){i:Nat}(hi:i<p.length){x:Nat}(hx:cI T n (p.take i)=(x:Int)):br T (p.getD i 0).toNat=(x:Int):=by
 have ha:=h.ax
 obtain⟨y,hy,hyN⟩:=cB h.valid h.node ha (i+1) hi
 have hch:=h.ch (i:=i) (j:=i+1) (by omega) hi hx hy
 have hp:fj p i (i+1)=[p.getD i 0]:=by
  unfold fj
  rw[drop_cons p i hi,show i+1 - i=1 by omega]
  rfl
 rw[hp]at hch
 generalize p.getD i 0=a at hch
 cases hch with
 |cons _ h2 _ _ _ _=>exact h2
end
section
variable {T:an} {D:List Bool} {n:Int} {p:List Int}
end
def zA(T:an)(s:bU)(n:Int):Int×Int:=if jt T s=false then(0,1) else if bm T n=false then(0,2) else if s.kind=1 then(s.num,0) else if s.kind=2 then(if br T s.num.toNat≠n then(0,4) else(aS T s.num.toNat,0)) else(0,7)
theorem Cf(l:List bU)(k:Nat)(h:k<l.length):∃s,l[k]? =some s∧l.drop k=s::l.drop (k+1):=⟨l[k],List.getElem?_eq_getElem h,List.drop_eq_getElem_cons h⟩
def nD(T:an)(n:Int)(p:List Int)(x:Int):Nat→Nat→Nat
 |0,i=>i
 |f+1,i=>if cI T n (p.take i)=x then i else nD T n p x f (i+1)
noncomputable def jQ(T:an)(D:List Bool)(n:Int)(p:List Int)(i:Nat)(s:bU):Option Nat:=
 if s.kind=2∧i<p.length∧p.getD i 0=s.num then some (i+1)
 else if s.kind=1 then(if cI T n (p.take (nD T n p s.num (p.length - i) i))=s.num∧fD T D n p i (nD T n p s.num (p.length - i) i)=true then some (nD T n p s.num (p.length - i) i) else none)
 else none
noncomputable def H8(T:an)(D:List Bool)(n:Int)(p:List Int):Nat→List bU→Bool
 |i,[]=>decide (i=p.length)
 |i,s::l=>match jQ T D n p i s with
  |some j=>H8 T D n p j l
  |none=>false
section
variable {T:an} {D:List Bool} {n:Int} {p:List Int}
theorem zN(x:Int):∀f i,i≤nD T n p x f i∧nD T n p x f i≤i+f
 |0,i=>by simp[nD]
 |f+1,i=>by
  simp only[nD]
  split
  ·omega
  ·have:=zN x f (i+1);omega
theorem Fy(x:Int):∀f i k,i≤k→k<nD T n p x f i→cI T n (p.take k)≠x
 |0,i,k,h1,h2=>by simp only[nD]at h2;omega
 |f+1,i,k,h1,h2=>by
  simp only[nD]at h2
  split at h2
  ·omega
  ·rename_i h3
   by_cases e:k=i
   ·subst e;exact h3
   ·exact Fy x f (i+1) k (by omega) h2
theorem ux(x:Int):∀f i j,i≤j→j≤i+f→cI T n (p.take j)=x→(∀k,i≤k→k<j→cI T n (p.take k)≠x)→nD T n p x f i=j
 |0,i,j,h1,h2,_,_=>by simp only[nD];omega
 |f+1,i,j,h1,h2,h3,h4=>by
  simp only[nD]
  by_cases e:i=j
  ·subst e;rw[if_pos h3]
  ·rw[if_neg (h4 i (Nat.le_refl _) (by omega))]
   exact ux x f (i+1) j (by omega) (by omega) h3 (fun k h5 h6=>h4 k (by omega) h6)
theorem Ch.fin{d:Nat}{m:Nat}{q:List Int}(h:Ch T D d m q):cI T (m:Int) q=(d:Int):=by
 induction h with
 |nil=>rfl
 | @cons n a m p ha ht hu hm ho hp ih=>simp only[cI,Int.toNat_natCast,hm];exact ih
theorem oW(h:qf T D n p){i j:Nat}(hij:i≤j)(hj:j≤p.length)(hc:fD T D n p i j=true):nD T n p (cI T n (p.take j)) (p.length - i) i=j:=by
 have ha:=h.ax
 have hv:=h.valid
 refine ux _ _ _ _ hij (by omega) I fun k h1 h2 he=>?_
 obtain⟨u,hu,huN⟩:=cB hv h.node ha i (by omega)
 obtain⟨y,hy,hyN⟩:=cB hv h.node ha j hj
 obtain⟨z,hz,hzN⟩:=cB hv h.node ha k (by omega)
 have hzy:z=y:=by omega
 subst hzy
 obtain⟨c1,c2⟩:=(mT h hij hj hu hy).1 hc
 rw[lh p h1 (show k≤j by omega)]at c1
 obtain⟨c3,c4⟩:=c1.suffix hv hyN c2 (h.ch h1 (by omega) hu hz)
 have:=c3.self
 have hl:=nY p (show k≤j by omega) hj
 rw[this]at hl
 simp at hl
 omega
theorem kB{x y:Nat}(hv:aq T=true)(hf:bW T D=true)(hx:(x:Int)<T.nodes)(hy:(y:Int)<T.nodes):gR T D x y=if dN T D y x<0 then 11 else 0:=by
 have hne:cu T D (x:Int) (y:Int)=0:=by
  unfold cu
  rw[if_pos (uX hv hf hy),aT.2 ⟨by omega,hx⟩]
  rfl
 unfold gR;rw[if_pos hne];simp only[Int.toNat_natCast]
theorem vP{x y:Nat}(hv:aq T=true)(hf:bW T D=true)(hx:(x:Int)<T.nodes)(hy:(y:Int)<T.nodes):fT T D x y=true↔ek T D y x=1:=by
 have hne:cu T D (x:Int) (y:Int)=0:=by
  unfold cu
  rw[if_pos (uX hv hf hy),aT.2 ⟨by omega,hx⟩]
  rfl
 unfold fT
 rw[hne]
 simp
theorem IT(h:qf T D n p){i j x y:Nat}(hij:i≤j)(hj:j≤p.length)(hx:cI T n (p.take i)=(x:Int))(hy:cI T n (p.take j)=(y:Int)):fD T D n p i j=true↔gR T D x y=0∧fT T D x y=true∧cr T D x y=fj p i j:=by
 have ha:=h.ax
 have hv:=h.valid
 obtain⟨x',hx',hxN⟩:=cB hv h.node ha i (by omega)
 obtain⟨y',hy',hyN⟩:=cB hv h.node ha j hj
 have e1:x'=x:=by omega
 have e2:y'=y:=by omega
 subst e1
 subst e2
 rw[mT h hij hj hx hy,kB hv h.fits hxN hyN,vP hv h.fits hxN hyN]
 constructor
 ·rintro⟨h1,h2⟩
  have h0:=(h1.cost hv hyN).2
  exact⟨by rw[if_neg (by omega)],h2,(ej hv hyN hxN h0).unique hv hyN h1 h2⟩
 ·rintro⟨h1,h2,h3⟩
  have h0:0≤dN T D y' x':=by
   split at h1
   ·omega
   ·omega
  exact⟨by rw[←h3];exact ej hv hyN hxN h0,h2⟩
theorem yK(h:qf T D n p):∀(f i:Nat),i≤p.length→p.length - i≤f→H8 T D n p i (iF T D n p f i)=true
 |f,i,hi,hf=>by
  by_cases hlt:i<p.length
  ·cases f with
   |zero=>omega
   |succ f=>
    cases ht:lI (fD T D n p i) i p.length with
    |none=>
     rw[lY hlt (fun k h1 h2=>jR _ ht k h1 h2)]
     simp only[H8]
     have hst:jQ T D n p i ⟨2,p.getD i 0⟩=some (i+1):=by unfold jQ;rw[if_pos ⟨rfl,hlt,rfl⟩]
     rw[hst]
     exact yK h f (i+1) (by omega) (by omega)
    |some j=>
     obtain⟨t1,t2,t3,t4⟩:=oD _ _ ht
     rw[kC hlt t1 t2 t3 t4]
     simp only[H8]
     have hst:jQ T D n p i ⟨1,cI T n (p.take j)⟩=some j:=by
      unfold jQ
      simp only
      rw[if_neg (by omega),if_pos trivial,oW h (by omega) t2 t3,if_pos ⟨rfl,t3⟩]
     rw[hst]
     exact yK h f j t2 (by omega)
  ·rw[oB f i (by omega)]
   simp only[H8,decide_eq_true_eq]
   omega
theorem FY:∀f i,(iF T D n p f i).length≤f:=fun f=>by
 induction f with
 |zero=>intro i;simp[iF]
 |succ f ih=>
  intro i
  simp only[iF]
  split
  ·split
   ·have:=ih ‹Nat›;simp only[List.length_cons];omega
   ·have:=ih (i+1);simp only[List.length_cons];omega
  ·simp
theorem vW(h:qf T D n p):fU T D n p=0:=by
 unfold fU
 have h2:dY T n p=0:=by unfold dY;rw[if_pos h.valid,if_pos h.node];exact h.walk
 rw[if_pos (by rw[h.valid,h.fits];rfl),if_pos h2,if_neg]
 intro e
 obtain⟨x,h3,h4⟩:=List.any_eq_true.1 e
 rw[h.up x h3]at h4
 cases h4
end
def jV(D:List Bool)(q:List Int):Bool:= !q.any fun a=>aQ D a.toNat
theorem oX{D:List Bool}{q:List Int}:jV D q=true↔∀a∈q,aQ D a.toNat=false:=by
 unfold jV
 rw[Bool.not_eq_true',List.any_eq_false]
 constructor
 ·intro h a ha
  have:=h a ha
  simpa using this
 ·intro h a ha
  rw[h a ha]
  simp
theorem Fe{D:List Bool}{q:List Int}{a:Int}(ha:a∈q)(h:aQ D a.toNat=true):jV D q=false:=by
 unfold jV
 rw[Bool.not_eq_false',List.any_eq_true]
 exact⟨a,ha,h⟩
theorem Jd(T:an)(D:List Bool)(q:List Int)(hf:bW T D=true)(ha:∀a∈q,ep T a=true)(hq:q.length≤1000):Can Tryz.prog 121 [bq D,au q] (· =flag (jV D q)):=by
 refine aI Tryz.func121 I Tryz.ntmps121 I<|ab (.a 1 I<|.k [0,1] I)<|aj<|ab (.a 3 I<|.k [0,7,8,9] I)<|aw<|eS [0,7,8,9] I<|bu (fun r st=>∃k:Nat,k≤q.length∧r=q.length - k∧(∀a∈q.take k,aQ D a.toNat=false)∧st=⟨[(0,bq D),(7,au q),(8,num q.length),(9,num k)],[]⟩) q.length ⟨0,by omega,by omega,by simp,rfl⟩ ?_
 rintro r st ⟨k,hk,rfl,hdn,rfl⟩
 refine ab (.a 1 I<|.k [0,7,8,9,10] I)<|aj<|ah I (fun hy=>?_) (fun hy=>?_)
 ·have hlt:k<q.length:=by have:=tt hy;omega
  have hmem:=cm (d:=0) hlt
  have hab:=ha _ hmem
  simp only[ep,decide_eq_true_eq]at hab
  obtain⟨a,hae⟩:∃a:Nat,q.getD k 0=(a:Int):=⟨(q.getD k 0).toNat,by omega⟩
  have hD:D.length=0∨a<D.length:=by simp only[bW,decide_eq_true_eq]at hf;omega
  refine ai<|aj<|aw<|ab (.v (aM (k) I) I<|.v (aJ I ((aB q k hlt).trans (by rw[hae]))) I<|.a 1 I<|.k [0,6,7,8,9] I)<|ab (.a 2 I<|.c rfl (jl D a hD) I<|.k [0,7,8,9,15] I)<|ah I (fun hz=>?_) (fun hz=>?_)
  ·have he:=Fe (D:=D) hmem (by rw[hae];exact hz)
   exact ab (.a 1 I<|.k [4] I)<|ao<|⟨_,_,az.of I,ay.pure,by rw[he];rfl⟩
  ·skip
   refine ai<|aC (.v (aV I) I<|.a 1 I<|.k [0,7,8,9] I) ?_
   refine⟨q.length - (k+1),by omega,k+1,by omega,rfl,fun x hx=>?_,rfl⟩
   rw[dK q k 0 hlt]at hx
   rcases List.mem_append.1 hx with h|h
   ·exact hdn x h
   ·simp only[List.mem_singleton]at h;rw[h,hae];exact hz
 ·have hke:k=q.length:=by have:=ff hy;omega
  subst hke
  rw[List.take_length]at hdn
  exact bh<|ab (.a 1 I<|.k [4] I)<|ao<|⟨_,_,az.of I,ay.pure,by rw[oX.2 hdn];rfl⟩
theorem Fg{T:an}{D:List Bool}{n:Int}{p:List Int}(hvf:(aq T&&bW T D)=true)(h:dY T n p≠0):fU T D n p=dY T n p:=by unfold fU;rw[if_pos hvf,if_neg h]
theorem A6{T:an}{D:List Bool}{n:Int}{p:List Int}(hvf:(aq T&&bW T D)=true)(h:dY T n p=0):fU T D n p=if jV D p=true then 0 else 7:=by
 unfold fU jV
 rw[if_pos hvf,if_pos h]
 cases p.any fun a=>aQ D a.toNat<;>rfl
theorem yB(T:an)(D:List Bool)(p:List Int)(n:Int)(hp:p.length≤1000)(hlk:T.ag.length≤256):Can Tryz.prog 63 [aN T,bq D,au p,num n] (· =num (fU T D n p)):=by
 obtain⟨q1,hq1⟩:∃q,aq T=q:=⟨_,rfl⟩
 obtain⟨q2,hq2⟩:∃q,bW T D=q:=⟨_,rfl⟩
 refine aI Tryz.func63 I Tryz.ntmps63 I<|ab (.a 2 I<|.k [1,2,3,4] I)<|aj<|bE 20 (.raw (.bool ((!q1)|| !q2))) [1,2,3,4] I ?_ ?_
 ·refine .a 1 I<|.c rfl (hq1▸eN T) I<|.a 2 I<|?_
  cases q1
  ·exact .a 5 I<|.k [20,1,2,3,4] I
  ·exact .a 2 I<|.c rfl (hq2▸my T D (by omega)) I<|.a 2 I<|.k [20,1,2,3,4] I
 refine ah I (fun hc=>?_) (fun hc=>?_)
 ·have he:fU T D n p=1:=by unfold fU;rw[hq1,hq2];cases q1<;>cases q2<;>first|rfl|cases hc
  exact ab (.a 1 I<|.k [8] I)<|ao<|⟨_,_,az.of I,ay.pure,by rw[he];rfl⟩
 ·have hv:aq T=true:=by rw[hq1];cases q1;cases hc;rfl
  have hf:bW T D=true:=by rw[hq2];cases q2;cases q1<;>cases hc;rfl
  have hvf:(aq T&&bW T D)=true:=by rw[hv,hf];rfl
  refine ai<|aj<|ab (.a 3 I<|.c rfl (wD T n p (by omega)) I<|.a 7 I<|.k [1,2,11] I)<|ab (.a 2 I<|.k [1,2,11,30] I)<|ah I (fun hx=>?_) (fun hx=>?_)
  ·have hx1:dY T n p≠0:=tt hx
   exact ab (.a 2 I<|.k [8] I)<|ao<|⟨_,_,az.of I,ay.pure,by rw[Fg hvf hx1];rfl⟩
  ·have hx1:dY T n p=0:=Classical.byContradiction (ff hx)
   obtain⟨_,hn,hw⟩:=nI hx1
   have ha:=mQ hw
   rw[A6 hvf hx1]
   refine ai<|aj<|ab (.a 2 I<|.c rfl (Jd T D p hf ha hp) I<|.a 1 I<|.k [35] I)<|ah I (fun hy=>?_) (fun hy=>?_)
   ·have hy1:jV D p=false:=by simpa using hy
    exact ab (.a 1 I<|.k [8] I)<|ao<|⟨_,_,az.of I,ay.pure,by rw[hy1];rfl⟩
   ·have hy1:jV D p=true:=by simpa using hy
    exact ai<|ab (.a 1 I<|.k [8] I)<|ao<|⟨_,_,az.of I,ay.pure,by rw[hy1];rfl⟩
section
variable {T:an} {D:List Bool} {n:Int} {p:List Int}
theorem kD(T:an):bW T []=true:=by simp[bW]
theorem qf.bare(h:qf T D n p):qf T [] n p:=⟨h.valid,kD T,h.node,h.walk,fun a _=>by simp[aQ]⟩
theorem KP{n:Int}{p:List Int}(h:fU T D n p=0):fU T [] n p=0:=vW (DM h).bare
end
theorem B6(T:an)(D:List Bool)(p:List Int)(n:Int)(hp:p.length≤1000)(hlk:T.ag.length≤256)(h12:T.nodes≤12):Can Tryz.prog 18 [aN T,bq D,au p,num n] (· =tV (fU T D n p) (i6 T [] n p)):=by
 refine aI Tryz.func18 I Tryz.ntmps18 I<|ab (.a 3 I<|.k [1,2,3,4] I)<|aj<|ab (.a 4 I<|.c rfl (yB T D p n hp hlk) I<|.a 1 I<|.k [2,3,4,10] I)<|ab (.a 2 I<|.k [2,3,4,10,17] I)<|ah I (fun hc=>?_) (fun hc=>?_)
 ·have he:fU T D n p≠0:=tt hc
  exact ab (.a 3 I<|.k [8,9] I)<|ao<|⟨_,_,az.of I,ay.aX (af.cons ay.bQ (af.cons ay.pure af.nil)),by unfold tV;rw[if_neg he];rfl⟩
 ·have he:fU T D n p=0:=Classical.byContradiction (ff hc)
  have hl:=Cv T [] p n hp hlk h12
  rw[KP he]at hl
  rw[he]
  exact ai<|ab (.a 3 I<|.v (xe I (af.cons ay.pure<|af.cons ay.bQ<|af.cons ay.pure<|af.cons ay.pure af.nil) (hl)) I<|.a 4 I<|.k [8,9] I)<|ao<|⟨_,_,az.of I,ay.pure,rfl⟩
def Ik(K:St→Prop):Exit→St→Prop
 | .normal,s=>K s
 |_,_=>False
theorem uO{P:Program}{N L:Nat}{x y:Code}{st:St}{Q:Exit→St→Prop}{Q1:St→Prop}(h:W P N L x st (Ik Q1))(k:∀s,Q1 s→W P N L y s Q):W P N L (.seq x y) st Q:=
 aj (h.mono fun e s hq=>by
  cases e<;>first|exact k s hq|exact hq.elim)
section
variable {T:an} {D:List Bool} {n:Int} {p:List Int}
end
section
variable {T:an} {D:List Bool}
theorem Ch.ax{d m:Nat}{q:List Int}(h:Ch T D d m q):∀a∈q,ep T a=true:=by
 induction h with
 |nil=>intro a ha;cases ha
 | @cons n a m p ha ht hu hm ho hp ih=>
  intro b hb
  rcases List.mem_cons.1 hb with rfl|hb
  ·exact cD.2 ⟨by omega,by omega⟩
  ·exact ih b hb
theorem mD{x y:Int}(h:gR T D x y=0):∃a b:Nat,x=(a:Int)∧y=(b:Int)∧(a:Int)<T.nodes∧(b:Int)<T.nodes∧aq T=true∧SP T D b a (cr T D x.toNat y.toNat):=by
 unfold gR at h
 split at h
 ·rename_i he
  obtain⟨hv,hf,hn,hd⟩:=fH he
  rw[aT]at hn hd
  obtain⟨a,rfl⟩:=Int.eq_ofNat_of_zero_le hn.1
  obtain⟨b,rfl⟩:=Int.eq_ofNat_of_zero_le hd.1
  refine⟨a,b,rfl,rfl,hn.2,hd.2,hv,?_⟩
  simp only[Int.toNat_natCast]at h ⊢
  exact ej hv hd.2 hn.2 (by split at h<;>omega)
 ·rename_i he
  exact absurd h he
end
theorem IL(l:List bU)(k:Nat)(s:bU)(h:l[k]? =some s):(dR l)[k*2+0]? =some (num s.kind):=vH l k 0 s h (by omega)
theorem IZ(l:List bU)(k:Nat)(s:bU)(h:l[k]? =some s):(dR l)[k*2+1]? =some (num s.num):=vH l k 1 s h (by omega)
noncomputable def JD(T:an)(D:List Bool)(x y:Int):Bool:=(((aq T&&bW T D)&& !decide (x=y))&&fT T [] x y)&&jV D (cr T [] x.toNat y.toNat)
theorem vf{T:an}{D:List Bool}{x y:Int}(h:fT T D x y=true):gR T D x y=0:=by
 unfold fT at h
 rw[Bool.and_eq_true,decide_eq_true_eq,decide_eq_true_eq]at h
 obtain⟨h1,h2⟩:=h
 obtain⟨hv,hf,hn,hd⟩:=fH h1
 rw[aT]at hn hd
 obtain⟨a,rfl⟩:=Int.eq_ofNat_of_zero_le hn.1
 obtain⟨b,rfl⟩:=Int.eq_ofNat_of_zero_le hd.1
 simp only[Int.toNat_natCast]at h2
 unfold gR
 rw[if_pos h1,if_neg]
 simp only[Int.toNat_natCast]
 intro h0
 rw[zW hv hd.2 hn.2 h0]at h2
 omega
section
variable {T:an} {D:List Bool} {n:Int} {p:List Int}
theorem qP(h:qf T D n p){i k x y:Nat}(hik:i<k)(hk:k≤p.length)(hx:cI T n (p.take i)=(x:Int))(hy:cI T n (p.take k)=(y:Int)):(JD T D x y&&nt (cr T [] x y) (fj p i k))=fD T [] n p i k:=by
 have hb:=h.bare
 have ha:=h.ax
 have hv:=h.valid
 obtain⟨x',hx',hxN⟩:=cB hv h.node ha i (by omega)
 obtain⟨y',hy',hyN⟩:=cB hv h.node ha k hk
 have e1:x'=x:=by omega
 have e2:y'=y:=by omega
 subst e1
 subst e2
 rw[Bool.eq_iff_iff,IT hb (by omega) hk hx hy]
 unfold JD nt
 simp only[Int.toNat_natCast,Bool.and_eq_true,Bool.not_eq_true',decide_eq_true_eq,decide_eq_false_iff_not]
 constructor
 ·rintro⟨⟨⟨_,h3⟩,h4⟩,h5⟩
  exact⟨vf h3,h3,h5⟩
 ·rintro⟨h1,h2,h3⟩
  refine⟨⟨⟨⟨⟨hv,h.fits⟩,fun e=>?_⟩,h2⟩,?_⟩,h3⟩
  ·have e2:x'=y':=by omega
   subst e2
   rw[kB hv (kD T) hxN hxN]at h1
   have hsp:=ej (D:=[]) hv hxN hxN (by split at h1<;>omega)
   have h6:=hsp.self
   rw[h6]at h3
   have:=nY p (show i≤k by omega) hk
   rw[←h3]at this
   simp at this
   omega
  ·rw[h3,oX]
   exact fun a ha=>h.up a (Eb ha)
end
section
variable {P:Program} {σ:cc} {t:cg} {o:Oper}
end
noncomputable def zE(T:an)(n:Int)(p:List Int)(x:Int)(i:Nat):Nat→Nat→Option Nat
 |0,_=>none
 |f+1,j=>if cI T n (p.take j)=x∧fD T [] n p i j=true then some j else zE T n p x i f (j+1)
noncomputable def rm(T:an)(n:Int)(p:List Int)(i:Nat)(s:bU):Option Nat:=
 if s.kind=2∧i<p.length∧p.getD i 0=s.num then some (i+1)
 else if s.kind=1 then zE T n p s.num i (p.length - i) (i+1)
 else none
noncomputable def J5(T:an)(n:Int)(p:List Int):Nat→List bU→Bool
 |i,[]=>decide (i=p.length)
 |i,s::l=>match rm T n p i s with
  |some j=>J5 T n p j l
  |none=>false
def qT(T:an):Int→List bU→Bool
 |_,[]=>true
 |x,s::l=>if s.kind=1∧s.num=x then false else qT T (zA T s x).1 l
section
variable {T:an} {n:Int} {p:List Int}
theorem s4{x:Int}{i:Nat}:∀(f j k:Nat),zE T n p x i f j=some k→j≤k∧k<j+f∧cI T n (p.take k)=x∧fD T [] n p i k=true∧∀m,j≤m→m<k→¬(cI T n (p.take m)=x∧fD T [] n p i m=true)
 |0,j,k,h=>by simp[zE]at h
 |f+1,j,k,h=>by
  simp only[zE]at h
  split at h
  ·rename_i h1;cases h;exact⟨Nat.le_refl _,by omega,h1.1,h1.2,fun m h2 h3=>by omega⟩
  ·rename_i h1
   obtain⟨a,b,c,d,e⟩:=s4 f (j+1) k h
   refine⟨by omega,by omega,c,d,fun m h2 h3=>?_⟩
   by_cases hm:m=j
   ·subst hm;exact h1
   ·exact e m (by omega) h3
theorem Aw{x:Int}{i:Nat}:∀(f j k:Nat),j≤k→k<j+f→cI T n (p.take k)=x→fD T [] n p i k=true→(∀m,j≤m→m<k→¬(cI T n (p.take m)=x∧fD T [] n p i m=true))→zE T n p x i f j=some k
 |0,j,k,h1,h2,_,_,_=>by omega
 |f+1,j,k,h1,h2,h3,h4,h5=>by
  simp only[zE]
  by_cases e:j=k
  ·subst e;rw[if_pos ⟨h3,h4⟩]
  ·rw[if_neg (h5 j (Nat.le_refl _) (by omega))]
   exact Aw f (j+1) k (by omega) (by omega) h3 h4 (fun m h6 h7=>h5 m (by omega) h7)
theorem rr(h:qf T [] n p){i:Nat}(hi:i≤p.length)(s:bU)(j:Nat):rm T n p i s=some j↔jQ T [] n p i s=some j∧¬(s.kind=1∧s.num=cI T n (p.take i)):=by
 unfold rm jQ
 by_cases h1:s.kind=2∧i<p.length∧p.getD i 0=s.num
 ·rw[if_pos h1,if_pos h1]
  constructor
  ·intro e;exact⟨e,fun e2=>by omega⟩
  ·intro e;exact e.1
 ·rw[if_neg h1,if_neg h1]
  by_cases h2:s.kind=1
  ·rw[if_pos h2,if_pos h2]
   constructor
   ·intro e
    obtain⟨a,b,c,d,_⟩:=s4 _ _ _ e
    have hf:=oW h (show i≤j by omega) (by omega) d
    rw[c]at hf
    rw[hf,if_pos ⟨c,d⟩]
    refine⟨rfl,fun e2=>?_⟩
    have:=ux (T:=T) (n:=n) (p:=p) s.num (p.length - i) i i (Nat.le_refl _) (by omega) e2.2.symm (fun k h3 h4=>by omega)
    omega
   ·rintro⟨e1,e2⟩
    split at e1
    ·rename_i h3
     simp only[Option.some.injEq]at e1
     have hge:=zN (T:=T) (n:=n) (p:=p) s.num (p.length - i) i
     have hno:=Fy (T:=T) (n:=n) (p:=p) s.num (p.length - i) i
     rw[e1]at h3 hge hno
     have hne:i≠j:=fun e=>e2 ⟨h2,by rw[e];exact h3.1.symm⟩
     exact Aw _ _ _ (by omega) (by omega) h3.1 h3.2 (fun m h4 h5 h6=>hno m (by omega) h5 h6.1)
    ·cases e1
  ·rw[if_neg h2,if_neg h2]
   simp
theorem step_end(h:qf T [] n p){i j:Nat}(hi:i≤p.length){s:bU}(hst:jQ T [] n p i s=some j):(zA T s (cI T n (p.take i))).1=cI T n (p.take j)∧(zA T s (cI T n (p.take i))).2=0∧j≤p.length:=by
 have ha:=h.ax
 have hv:=h.valid
 obtain⟨x,hx,hxN⟩:=cB hv h.node ha i hi
 have hnb:bm T (x:Int)=true:=aT.2 ⟨by omega,hxN⟩
 rw[hx]
 have hss:=hst
 unfold jQ at hst
 split at hst
 ·rename_i h1
  cases hst
  have hab:=ha _ (cm (d:=0) h1.2.1)
  have htl:=pa h h1.2.1 hx
  have hed:=gj T n p i h1.2.1
  rw[h1.2.2]at hab htl hed
  have hsg:jt T s=true:=by unfold jt;rw[if_neg (by omega),if_pos h1.1];exact hab
  have hes:zA T s x=(cI T n (p.take (i+1)),0):=by
   unfold zA
   rw[if_neg (by rw[hsg];simp),if_neg (by rw[hnb];simp),if_neg (by omega),if_pos h1.1,if_neg (by rw[htl];simp),hed]
  rw[hes]
  exact⟨rfl,rfl,h1.2.1⟩
 ·split at hst
  ·rename_i h2
   split at hst
   ·rename_i h3
    simp only[Option.some.injEq]at hst
    have hge:=zN (T:=T) (n:=n) (p:=p) s.num (p.length - i) i
    rw[hst]at h3 hge
    obtain⟨y,hy,hyN⟩:=cB hv h.node ha j (by omega)
    have hsy:s.num=(y:Int):=by rw[←h3.1];exact hy
    have hsg:jt T s=true:=by unfold jt;rw[if_pos h2,hsy];exact aT.2 ⟨by omega,hyN⟩
    have hes:zA T s x=(s.num,0):=by
     unfold zA
     rw[if_neg (by rw[hsg];simp),if_neg (by rw[hnb];simp),if_pos h2]
    rw[hes]
    exact⟨h3.1.symm,rfl,by omega⟩
   ·cases hst
  ·cases hst
theorem FB(h:qf T [] n p):∀(l:List bU) (i:Nat),i≤p.length→J5 T n p i l=(H8 T [] n p i l&&qT T (cI T n (p.take i)) l)
 | [],i,hi=>by simp[J5,H8,qT]
 |s::l,i,hi=>by
  simp only[J5,H8,qT]
  cases hX:jQ T [] n p i s with
  |none=>
   have hP:rm T n p i s=none:=by
    cases hP:rm T n p i s with
    |none=>rfl
    |some j=>have:=((rr h hi s j).1 hP).1;rw[hX]at this;cases this
   rw[hP]
   rfl
  |some j=>
   obtain⟨e1,e2,e3⟩:=step_end h hi hX
   by_cases hd:s.kind=1∧s.num=cI T n (p.take i)
   ·have hP:rm T n p i s=none:=by
     cases hP:rm T n p i s with
     |none=>rfl
     |some j=>exact absurd hd ((rr h hi s j).1 hP).2
    rw[hP,if_pos hd]
    simp
   ·rw[(rr h hi s j).2 ⟨hX,hd⟩,if_neg hd,e1]
    simp only
    exact FB h l j e3
theorem uD(h:qf T [] n p):∀(f i:Nat),i≤p.length→qT T (cI T n (p.take i)) (iF T [] n p f i)=true
 |f,i,hi=>by
  by_cases hlt:i<p.length
  ·cases f with
   |zero=>rfl
   |succ f=>
    cases ht:lI (fD T [] n p i) i p.length with
    |none=>
     rw[lY hlt (fun k h1 h2=>jR _ ht k h1 h2)]
     have hst:jQ T [] n p i ⟨2,p.getD i 0⟩=some (i+1):=by unfold jQ;rw[if_pos ⟨rfl,hlt,rfl⟩]
     simp only[qT]
     rw[if_neg (by rintro⟨h1,_⟩;omega),(step_end h hi hst).1]
     exact uD h f (i+1) (by omega)
    |some j=>
     obtain⟨t1,t2,t3,t4⟩:=oD _ _ ht
     rw[kC hlt t1 t2 t3 t4]
     have hf:=oW h (show i≤j by omega) t2 t3
     have hst:jQ T [] n p i ⟨1,cI T n (p.take j)⟩=some j:=by
      unfold jQ
      simp only
      rw[if_neg (by omega),if_pos trivial,hf,if_pos ⟨rfl,t3⟩]
     simp only[qT]
     rw[if_neg,(step_end h hi hst).1]
     ·exact uD h f j t2
     ·rintro⟨_,h2⟩
      have:=ux (T:=T) (n:=n) (p:=p) (cI T n (p.take j)) (p.length - i) i i (Nat.le_refl _) (by omega) h2.symm (fun k h3 h4=>by omega)
      omega
  ·rw[oB f i (by omega)]
   rfl
end
noncomputable def Km(T:an)(D:List Bool)(l:List bU)(n:Int)(p:List Int):Bool:=if fU T D n p=0 then J5 T n p 0 l else false
open eY
theorem wM(p:List Int)(u:PV):bT Tryz.prog 190 [au p,.ptr 0 0] [some (.cells 37 [u])] (fun r σ'=>r= .tuple []∧σ'=[some (.cells 37 [au p])]):=by
 refine ct Tryz.func190 I Tryz.ntmps190 I<|bG<|av 2 I<|aG [] I ?_
 exact⟨_,az.of I,rfl,rfl⟩
theorem zg(T:an)(D:List Bool)(n d:Int):bT Tryz.prog 184 [aN T,bq D,num n,num d,.func 190 [.ptr 0 0]] [some (.cells 37 [.raw (.slice none 0 0)])] (fun r σ'=>r=num (gR T D n d)∧σ'=[some (.cells 37 [if gR T D n d=0 then au (cr T D n.toNat d.toNat) else .raw (.slice none 0 0)])]):=by
 refine ct Tryz.func184 I Tryz.ntmps184 I<|ab (.a 2 I<|.k [1,2,3,4,5] I)<|ab (.a 4 I<|.c rfl (s5 T D n d) I<|.a 5 I<|.k [4,11,12] I)<|aj<|ab (.a 2 I<|.k [4,11,12,22] I)<|ah I (fun h1=>?_) (fun h1=>?_)
 ·have he:gR T D n d=0:=tt h1
  refine bG<|av 2 I<|cM I I (bT.mono (wM _ _) (fun r σ' h=>?_))
  obtain⟨rfl,rfl⟩:=h
  refine aG [12] I ?_
  refine ab (.a 2 I<|.k [10] I)<|ao ?_
  first
   |exact⟨_,az.of rfl,rfl,by rw[if_neg he]⟩
   |exact⟨_,az.of rfl,rfl,by simp only[if_pos he]⟩
 ·have he:¬gR T D n d=0:=ff h1
  refine ai<|ab (.a 2 I<|.k [10] I)<|ao ?_
  first
   |exact⟨_,az.of rfl,rfl,by rw[if_neg he]⟩
   |exact⟨_,az.of rfl,rfl,by simp only[if_pos he]⟩
theorem yC(T:an)(D:List Bool)(n d:Int):Can Tryz.prog 162 [aN T,bq D,num n,num d] (· =ei (gR T D n d) (cr T D n.toNat d.toNat)):=by
 obtain⟨u,hu⟩:∃u:PV,(if gR T D n d=0 then au (cr T D n.toNat d.toNat) else .raw (.slice none 0 0))=u:=⟨_,rfl⟩
 have hf:=zg T D n d
 rw[hu]at hf
 refine aI Tryz.func162 I Tryz.ntmps162 I<|ab (.a 3 I<|.k [1,2,3,4] I)<|aP<|av 1 I<|aG [1,2,3,4,10] I ?_
 refine aP<|av 5 I<|cM I I (bT.mono hf (fun r σ' h=>?_))
 obtain⟨rfl,rfl⟩:=h
 refine av 1 I<|aG [10,11] I ?_
 refine ab (.v (aJ I ((show some u=some u from rfl))) I<|.a 3 I<|.k [8,9] I)<|ao<|⟨_,_,az.of I,ay.aX (af.cons (y:=au (if gR T D n d=0 then cr T D n.toNat d.toNat else [])) ?_ (af.cons ay.pure af.nil)),rfl⟩
 rw[←hu]
 by_cases he:gR T D n d=0
 ·rw[if_pos he,if_pos he];exact ay.pure
 ·rw[if_neg he,if_neg he];exact ay.bQ
end
section
open Go.RowKit cE Mem Net
section
variable {T:an} {D:List Bool}
theorem wL{d:Nat}:∀ {m:Nat} {q:List Int},Ch T D d m q→(q=[]∨dh T m=false)→dG T false m q=0
 |m,[],_,_=>rfl
 |m,a::q,h,ho=>by
  cases h with
  | @cons _ b k _ ha ht hu hm hov hp=>
   rw[mW (cD.2 ⟨by omega,by omega⟩) (by rw[Int.toNat_natCast];exact ht) (.inr (by rcases ho with h|h;cases h;rw[Int.toNat_natCast];exact h)),Int.toNat_natCast,hm]
   exact wL hp hov
theorem uJ{d m:Nat}{q:List Int}(h:Ch T D d m q):dG T true m q=0:=by
 cases h with
 |nil=>rfl
 | @cons _ b k q ha ht hu hm hov hp=>
  rw[mW (cD.2 ⟨by omega,by omega⟩) (by rw[Int.toNat_natCast];exact ht) (.inl rfl),Int.toNat_natCast,hm]
  exact wL hp hov
theorem Ch.bare{d m:Nat}{q:List Int}(h:Ch T D d m q):Ch T [] d m q:=by
 induction h with
 |nil=>exact .nil
 |cons ha ht hu hm ho hp ih=>exact .cons ha ht (by simp[aQ]) hm ho ih
theorem Ch.mask{d m:Nat}{q:List Int}(h:Ch T [] d m q)(hc:∀a∈q,aQ D a.toNat=false):Ch T D d m q:=by
 induction h with
 |nil=>exact .nil
 | @cons n a m p ha ht hu hm ho hp ih=>exact .cons ha ht (by have:=hc a (by simp);rw[Int.toNat_natCast]at this;exact this) hm ho (ih fun b hb=>hc b (by simp[hb]))
structure iK (T:an) (D:List Bool) (x y:Nat) (p:List Int):Prop where
 valid:aq T=true
 fits:bW T D=true
 ne:x≠y
 hx:(x:Int)<T.nodes
 hy:(y:Int)<T.nodes
 uniq:fT T [] x y=true
 sp:SP T [] y x p
 up:∀a∈p,aQ D a.toNat=false
theorem Ak{x y:Int}(h:JD T D x y=true):∃a b:Nat,x=(a:Int)∧y=(b:Int)∧iK T D a b (cr T [] a b)∧gR T [] x y=0:=by
 unfold JD at h
 simp only[Bool.and_eq_true,Bool.not_eq_true',decide_eq_false_iff_not]at h
 obtain⟨⟨⟨⟨hv,hf⟩,hne⟩,hu⟩,hc⟩:=h
 obtain⟨a,b,rfl,rfl,ha,hb,_,hsp⟩:=mD (vf hu)
 simp only[Int.toNat_natCast]at hsp hc
 exact⟨a,b,rfl,rfl,⟨hv,hf,fun e=>hne (by rw[e]),ha,hb,hu,hsp,oX.1 hc⟩,vf hu⟩
variable {x y:Nat} {p:List Int}
theorem iK.pos(h:iK T D x y p):0<p.length:=by
 have hsp:=h.sp
 cases hsp with
 |nil=>exact absurd rfl h.ne
 |cons _ _ _=>simp
theorem iK.It(h:iK T D x y p):qf T D x p:=⟨h.valid,h.fits,aT.2 ⟨by omega,h.hx⟩,uJ h.sp.ch,h.up⟩
theorem iK.lr(h:iK T D x y p):ek T [] y x=1:=(vP h.valid (kD T) h.hx h.hy).1 h.uniq
theorem iK.Kl(h:iK T D x y p):fD T [] x p 0 p.length=true:=by
 have he:cI T (x:Int) (p.take p.length)=(y:Int):=by rw[List.take_length];exact h.sp.ch.fin
 rw[mT h.It.bare (Nat.zero_le _) (Nat.le_refl _) (u:=x) I he]
 have:fj p 0 p.length=p:=by unfold fj;simp
 rw[this]
 exact⟨h.sp,h.lr⟩
theorem iK.part(h:iK T D x y p){i k:Nat}(hik:i≤k)(hk:k<p.length):JD T D (br T (p.getD i 0).toNat) (aS T (p.getD k 0).toNat)=true:=by
 have hF:=h.It
 have ha:=hF.ax
 have hc:=HR hF.bare (i:=0) (j:=p.length) (i':=i) (j':=k+1) (Nat.zero_le _) (by omega) (by omega) (Nat.le_refl _) h.Kl
 obtain⟨u,hu,huN⟩:=cB h.valid hF.node ha i (by omega)
 obtain⟨v,hv,hvN⟩:=cB h.valid hF.node ha (k+1) (by omega)
 rw[pa hF (by omega) hu,←gj T x p k hk,hv]
 rw[←qP hF (by omega) (by omega) hu hv,Bool.and_eq_true]at hc
 exact hc.1
theorem iK.next(h:iK T D x y p){i u:Nat}(hi:i<p.length)(hu:cI T x (p.take i)=(u:Int)):bI T [] u y=[p.getD i 0]∧bI T D u y=[p.getD i 0]∧(u:Int)<T.nodes:=by
 have hF:=h.It
 have hv:=h.valid
 have ha:=hF.ax
 obtain⟨u',hu',huN⟩:=cB hv hF.node ha i (by omega)
 have:u'=u:=by omega
 subst this
 have hfin:cI T (x:Int) (p.take p.length)=(y:Int):=by rw[List.take_length];exact h.sp.ch.fin
 have hch:=hF.bare.ch (i:=0) (j:=i) (Nat.zero_le _) (by omega) (u:=x) I hu
 have hpp:fj p 0 i++fj p i p.length=p:=by rw[←lh p (Nat.zero_le _) (by omega)];unfold fj;simp
 have hsp:=h.sp
 rw[←hpp]at hsp
 obtain⟨s1,s2⟩:=hsp.suffix hv h.hy h.lr hch
 have hdr:fj p i p.length=p.getD i 0::p.drop (i+1):=by
  unfold fj
  rw[List.take_of_length_le (by simp),drop_cons p i hi]
 rw[hdr]at s1
 have hup:∀c∈p.getD i 0::p.drop (i+1),aQ D c.toNat=false:=fun c hc=>by
  rw[←drop_cons p i hi]at hc
  exact h.up c (List.mem_of_mem_drop hc)
 have hchD:=s1.ch.mask hup
 have hd0:=s1.cost hv h.hy
 generalize p.getD i 0=a0 at*
 generalize p.drop (i+1)=q at*
 cases s1 with
 | @cons _ a m _ hn hm hq=>
  obtain⟨b,hb,_,_⟩:=vt hv h.hy huN hn.ne s2
  have hab:=fw hn ((aO hv).cost a hn.fy).1
  rw[hb]at hab
  simp only[List.mem_singleton]at hab
  rw[←hab]at hb
  refine⟨hb,?_,huN⟩
  have hDle:=hchD.le hv h.hy
  have mono:∀k:Nat,(k:Int)<T.nodes→0≤dN T D y k→0≤dN T [] y k∧dN T [] y k≤dN T D y k:=fun k hk h0=>by
   have hs:=ej hv h.hy hk h0
   have:=hs.ch.bare.le hv h.hy
   rw[←(hs.cost hv h.hy).1]at this
   exact this
  have hmu:=mono u' huN hDle.1
  have heq:dN T D y u'=dN T [] y u':=by omega
  have hall:∀c∈bI T D u' y,c=(a:Int):=fun c hc=>by
   obtain⟨k,rfl,hk⟩:=cW hc
   obtain⟨z,hz,hzN⟩:=dQ hv hk.fy
   have g:=hk.dN hz
   have g2:=mono z hzN g.1
   have hs:=ej (D:=[]) hv h.hy hzN g2.1
   have hch2:Ch T [] y u' ((k:Int)::cr T [] z y):=.cons hk.fy hk.tail (by simp[aQ]) hz (by
    rcases hk.pass with e|e
    ·left
     have:z=y:=by omega
     subst this
     exact hs.self
    ·right
     rw[hz,Int.toNat_natCast]at e
     exact e) hs.ch
   have g3:=hch2.le hv h.hy
   rw[gd,←(hs.cost hv h.hy).1,Int.toNat_natCast]at g3
   have hnr:jE T [] u' y k:=⟨hk.fy,hk.tail,by simp[aQ],hk.ne,by rw[hz,Int.toNat_natCast];exact g2.1,hk.pass,by
    rw[hz,Int.toNat_natCast]
    show dN T [] y u'=dN T [] y z+cn T k
    omega⟩
   have:=fw hnr ((aO hv).cost k hk.fy).1
   rw[hb]at this
   simpa using this
  obtain⟨k,hk⟩:=jO (D:=D) hv huN h.hy hn.ne hDle.1
  have hmem:=fw hk ((aO hv).cost k hk.fy).1
  have hso:=lN T D u' y
  cases hx:bI T D u' y with
  |nil=>rw[hx]at hmem;cases hmem
  |cons c l=>
   rw[hx]at hall hso
   have hc:=hall c (by simp)
   subst hc
   cases l with
   |nil=>rfl
   |cons c2 l=>
    have:=hall c2 (by simp)
    have h3:=(List.pairwise_cons.1 hso).1 c2 (by simp)
    omega
end
def tC(k:Nat):List nM:=(List.range k).map fun(i:Nat)=>⟨(i:Int),(((i+1) % 4:Nat):Int),1,1,0,1,0⟩
def cZ:an:=⟨4,[],tC 4⟩
def Dl(d:Nat):List Int:=match d with
 |0=>[0,1,2,1]
 |1=>[1,0,1,2]
 |2=>[2,1,0,1]
 |_=>[1,2,1,0]
theorem ld:aq cZ=true:=by kernel_rfl
def JT(T:an)(n:Nat)(out:List Int)(a:Nat):Bool:=decide (0≤at' out (cX T false a))&&(decide (cX T false a=(n:Int))|| !dh T (cX T false a).toNat)
theorem uz(n:Nat)(out:List Int)(a:Nat):Net.Way cZ [] n false out a↔JT cZ n out a=true:=by
 unfold Net.Way JT
 have:aQ [] a=false:=by simp[aQ]
 simp[this]
theorem yT(l:List nM)(e:nM):iA l++la e=iA (l++[e]):=by simp[iA]
theorem zx(k:Nat):tC (k+1)=tC k++[⟨(k:Int),(((k+1) % 4:Nat):Int),1,1,0,1,0⟩]:=by simp[tC,List.range_succ]
theorem DG{P:Program}{σ:cc}{t:cg}{o:Oper}{ty:TypeId}{v0 v1 c0 c1:Value}(ho:o.op= .build ty #[(0,.const v0),(1,.const v1)])(hb:P.built ty [(0,v0),(1,v1)]=some #[c0,c1]):bA P σ t o (.agg [.raw c0,.raw c1]):=by
 intro F base E ρ w hρ hS hT
 have hrun:=run_build (P:=P) w ty #[(0,v0),(1,v1)] #[c0,c1] hb
 have h0:ρ (.const v0)=v0:=hρ.const v0
 have h1:ρ (.const v1)=v1:=hρ.const v1
 have hr:(execOp ρ o).run P w= .ok (.value (.agg #[c0,c1])) w:=by
  simp only[execOp,ho,Sem.run_bind,List.map_toArray,List.map_cons,List.map_nil,h0,h1,hrun,Result.andThen_ok,Sem.run_pure]
 rw[hr]
 refine bz (.agg #[c0,c1] _ rfl (fun i x u k1 k2=>?_))
 match i,k1,k2 with
 |0,k1,k2=>simp at k1 k2;subst k1;subst k2;exact .raw _
 |1,k1,k2=>simp at k1 k2;subst k1;subst k2;exact .raw _
 |_+2,k1,k2=>simp at k2
section
variable {P:Program} {σ:cc} {t:cg} {o:Oper}
theorem bT.bQ{f:FuncId}{a:PV}{l:List PV}{R:PV→cc→Prop}(h:bT P f (a::bq []::l) σ R):bT P f (a:: .raw (.slice none 0 0)::l) σ R:=fun F base E w vs hS hR=>by
 refine h F base E w vs hS ⟨hR.1,fun i c u h1 h2=>?_⟩
 match i,h2 with
 |0,h2=>exact hR.2 0 c u h1 h2
 |1,h2=>
  simp at h2
  subst h2
  have:=hR.2 1 c _ h1 rfl
  cases this
  exact .bQ
 |i+2,h2=>exact hR.2 (i+2) c u h1 h2
end
def lu(T:an)(D:List Bool)(L:List Int)(m d:Nat):List Int:=if m=d∨L.getD m 0<0 then [] else lx T D L (L.getD m 0) d (bN T m)
def zy(T:an)(D:List Bool)(L:List Int)(d:Nat):Nat→Nat→Int
 |0,m=>if m=d then 1 else 0
 |f+1,m=>if m=d then 1 else(lu T D L m d).foldl (fun c a=>min 2 (c+zy T D L d f (aS T a.toNat).toNat)) 0
def BU(y u:Nat)(c:Int):Bool:=decide ((Dl y).getD u 0=c)&&(decide (cu cZ [] (u:Int) (y:Int)=0)&&decide (zy cZ [] (Dl y) y ((Dl y).getD u 0).toNat u=1))
section
variable {H:Type} {enc:TypeId×Value→H} {W:World}
end
open Go.WideShapes
section
variable {H:Type} {enc:TypeId×Value→H} {W:World}
theorem D8{n:Nat}{cs:List Value}{y:DataW H×List MemPlace}(h:DataW.trod enc Tryz.prog W 0 (fun _=>true) true n 25 cs=some y)(hl:cs.length=3):∃T:an,bd EN W cs (bC T):=by
 have c0':Tryz.prog.cellsOf 3=1:=by kernel_rfl
 have c1':Tryz.prog.cellsOf 22=1:=by kernel_rfl
 have c2':Tryz.prog.cellsOf 23=1:=by kernel_rfl
 obtain⟨xs,m,_,_,_,hlen,hf⟩:=DataW.trod_struct Tryz.underlying25 h
 match cs,hl with
 | [c0,c1,c2],_=>
  match xs,hlen with
  | [y0,y1,y2],_=>
   have f0:DataW.trod enc Tryz.prog W 0 (fun _=>true) true m 3 (([c0,c1,c2].drop 0).take (Tryz.prog.cellsOf 3))=some y0:=hf 0 _ rfl
   rw[c0']at f0
   have f1:DataW.trod enc Tryz.prog W 0 (fun _=>true) true m 22 (([c0,c1,c2].drop 1).take (Tryz.prog.cellsOf 22))=some y1:=hf 1 _ rfl
   rw[c1']at f1
   have f2:DataW.trod enc Tryz.prog W 0 (fun _=>true) true m 23 (([c0,c1,c2].drop 2).take (Tryz.prog.cellsOf 23))=some y2:=hf 2 _ rfl
   rw[c2']at f2
   obtain⟨a,ha⟩:=gV f0
   obtain⟨B,hB⟩:=D9 f1
   obtain⟨L,hL⟩:=ru (f:=la) (s:=7) Tryz.underlying23 (by kernel_rfl) (by omega) (fun n cs y hy hl=>GY hy hl) f2
   simp at ha
   subst ha
   exact⟨⟨a,B,L⟩,bd.cons (.raw _)<|bd.cons hB<|bd.cons hL (bd.nil _ _)⟩
end
section
variable {H:Type} {enc:TypeId×Value→H} {W:World}
end
end
section
open Go.RowKit cE Mem Net
theorem Ch.Lw{T:an}{D:List Bool}{d m:Nat}{q:List Int}(h:Ch T D d m q):∀a∈q,aQ D a.toNat=false:=by
 induction h with
 |nil=>intro z hz;cases hz
 | @cons n a m p ha ht hu hm ho hp ih=>
  intro z hz
  rcases List.mem_cons.1 hz with rfl|hz
  ·rw[Int.toNat_natCast];exact hu
  ·exact ih z hz
theorem wg(T:an)(D:List Bool)(x y:Int):Can Tryz.prog 34 [aN T,bq D,num x,num y] (· =ei (gR T D x y) (cr T D x.toNat y.toNat)):=by
 exact aI Tryz.func34 I Tryz.ntmps34 I<|ab (.a 3 I<|.k [1,2,3,4] I)<|ab (.a 4 I<|.c rfl (zv T D x y) I<|.a 4 I<|.k [8,9] I)<|ao<|⟨_,_,az.of I,ay.pure,rfl⟩
theorem F9{T:an}{D:List Bool}{n:Int}{p:List Int}(hp:0<p.length):0<(i6 T D n p).length:=by
 unfold i6
 obtain⟨f,hf⟩:∃f,p.length=f+1:=⟨p.length - 1,by omega⟩
 rw[hf]
 simp only[iF]
 rw[if_pos (by omega)]
 cases lI (fD T D n p 0) 0 p.length<;>simp
def jH:List bU→List bU
 | []=>[]
 |s::l=>if s.kind=2 then l else s::l
noncomputable def jW(T:an)(D:List Bool)(n d:Int):iS:=
 if gR T D n d=0∧n≠d then⟨[(cr T D n.toNat d.toNat).getD 0 0],true,jH (i6 T [] n (cr T D n.toNat d.toNat))⟩ else⟨[],false,[]⟩
structure oY (T:an) (D:List Bool) (x y:Nat) (p:List Int):Prop where
 valid:aq T=true
 fits:bW T D=true
 ne:x≠y
 hx:(x:Int)<T.nodes
 hy:(y:Int)<T.nodes
 sp:SP T D y x p
theorem vd{T:an}{D:List Bool}{n d:Int}(h:gR T D n d=0)(hne:n≠d):∃a b:Nat,n=(a:Int)∧d=(b:Int)∧oY T D a b (cr T D a b):=by
 have hf:bW T D=true:=by
  have h':=h
  unfold gR at h'
  split at h'
  ·rename_i h1;exact(fH h1).2.1
  ·rename_i h1;exact absurd h' h1
 obtain⟨a,b,rfl,rfl,ha,hb,hv,hsp⟩:=mD h
 simp only[Int.toNat_natCast]at hsp
 exact⟨a,b,rfl,rfl,hv,hf,fun e=>hne (by rw[e]),ha,hb,hsp⟩
section
variable {T:an} {D:List Bool} {x y:Nat} {p:List Int}
theorem oY.pos(h:oY T D x y p):0<p.length:=by
 have hsp:=h.sp
 cases hsp with
 |nil=>exact absurd rfl h.ne
 |cons _ _ _=>simp
theorem oY.It(h:oY T D x y p):qf T D x p:=⟨h.valid,h.fits,aT.2 ⟨by omega,h.hx⟩,uJ h.sp.ch,h.sp.ch.Lw⟩
theorem oY.zero(h:oY T D x y p):fU T D x p=0:=vW h.It
theorem oY.len(h:oY T D x y p):(p.length:Int)<T.nodes:=h.sp.zq h.valid h.hy
theorem oY.head(h:oY T D x y p):p.getD 0 0∈bI T D x y:=by
 have hsp:=h.sp
 cases hsp with
 |nil=>exact absurd rfl h.ne
 | @cons n a m q h1 hm hq=>exact fw h1 ((aO h.valid).cost a h1.fy).1
theorem oY.KG(h:oY T D x y p):∃a:Nat,p.getD 0 0=(a:Int)∧jE T D x y a:=cW h.head
theorem oY.FH(h:oY T D x y p):0<(i6 T [] x p).length∧(i6 T [] x p).length≤p.length:=⟨F9 h.pos,FY _ _⟩
theorem oY.ck(h:oY T D x y p):Km T D (i6 T [] x p) x p=true:=by
 have hF:=h.It
 unfold Km
 rw[if_pos h.zero,FB hF.bare _ 0 (Nat.zero_le _),Bool.and_eq_true]
 exact⟨yK hF.bare _ 0 (Nat.zero_le _) (by omega),uD hF.bare _ 0 (Nat.zero_le _)⟩
theorem vV{n:Int}(hp:0<p.length):∃s l,i6 T [] n p=s::l∧(s.kind=1∨s=⟨2,p.getD 0 0⟩):=by
 unfold i6
 obtain⟨f,hf⟩:∃f,p.length=f+1:=⟨p.length - 1,by omega⟩
 rw[hf]
 simp only[iF]
 rw[if_pos (by omega)]
 cases lI (fD T [] n p 0) 0 p.length with
 |none=>exact⟨_,_,rfl,.inr rfl⟩
 |some j=>exact⟨_,_,rfl,.inl rfl⟩
theorem G2(l:List bU):(jH l).length≤l.length:=by
 cases l with
 |nil=>simp[jH]
 |cons s l=>simp only[jH];split<;>simp
theorem FO{l:List bU}{s:bU}(h:s∈jH l):s∈l:=by
 cases l with
 |nil=>cases h
 |cons a l=>simp only[jH]at h;split at h<;>simp_all
theorem zL(hF:qf T D x p):∀(f i:Nat),∀s∈iF T [] x p f i,jt T s=true
 |0,i,s,hs=>by simp[iF]at hs
 |f+1,i,s,hs=>by
  simp only[iF]at hs
  split at hs
  ·rename_i hi
   cases ht:lI (fD T [] x p i) i p.length with
   |none=>
    rw[ht]at hs
    simp only[List.mem_cons]at hs
    rcases hs with rfl|hs
    ·unfold jt;simp only[if_neg (show ¬(2:Int)=1 by decide),if_pos rfl];exact hF.ax _ (cm hi)
    ·exact zL hF f (i+1) s hs
   |some j=>
    rw[ht]at hs
    simp only[List.mem_cons]at hs
    obtain⟨h1,h2,h3,h4⟩:=oD _ _ ht
    rcases hs with rfl|hs
    ·obtain⟨u,hu,huN⟩:=cB hF.valid hF.node hF.ax j h2
     unfold jt;simp only[if_pos rfl];rw[hu];exact aT.2 ⟨by omega,huN⟩
    ·exact zL hF f j s hs
  ·cases hs
theorem oY.whole(h:oY T D x y p):Km T D (jH (i6 T [] x p)) x p=true∨Km T D (⟨2,p.getD 0 0⟩::jH (i6 T [] x p)) x p=true:=by
 obtain⟨s,l,hl,hs⟩:=vV (T:=T) (n:=(x:Int)) h.pos
 have hc:=h.ck
 rw[hl]at hc ⊢
 rcases hs with hs|rfl
 ·left
  simp only[jH]
  rw[if_neg (by omega)]
  exact hc
 ·right
  exact hc
end
theorem qq{T:an}{D:List Bool}{x y:Nat}(h:oY T D x y (cr T D x y)):jW T D x y=⟨[(cr T D x y).getD 0 0],true,jH (i6 T [] x (cr T D x y))⟩:=by
 unfold jW
 rw[if_pos]
 ·simp only[Int.toNat_natCast]
 ·refine⟨?_,fun e=>h.ne (by omega)⟩
  rw[kB h.valid h.fits h.hx h.hy,if_neg]
  have:=(h.sp.cost h.valid h.hy).2
  omega
theorem yR{T:an}{D:List Bool}{n d:Int}(h:¬(gR T D n d=0∧n≠d)):jW T D n d=⟨[],false,[]⟩:=if_neg h
theorem sS(T:an)(D:List Bool)(n d:Int):(jW T D n d=⟨[],false,[]⟩∧¬(gR T D n d=0∧n≠d))∨∃a b:Nat,n=(a:Int)∧d=(b:Int)∧oY T D a b (cr T D a b)∧jW T D n d=⟨[(cr T D a b).getD 0 0],true,jH (i6 T [] a (cr T D a b))⟩:=by
 by_cases h:gR T D n d=0∧n≠d
 ·obtain⟨a,b,rfl,rfl,hp⟩:=vd h.1 h.2
  exact .inr ⟨a,b,rfl,rfl,hp,qq hp⟩
 ·exact .inl ⟨yR h,h⟩
theorem xy(T:an)(D:List Bool)(n d:Int)(h12:T.nodes≤12):(jW T D n d).push.length≤32:=by
 rcases sS T D n d with⟨h,_⟩|⟨a,b,rfl,rfl,hp,h⟩
 ·rw[h];simp
 ·rw[h]
  have:=G2 (i6 T [] a (cr T D a b))
  have:=hp.FH.2
  have:=hp.len
  show(jH _).length≤32
  omega
theorem CZ(T:an)(D:List Bool)(n d:Int)(h12:T.nodes≤12):gh T n d (jW T D n d)=true:=by
 have hpl:=xy T D n d h12
 rcases sS T D n d with⟨h,_⟩|⟨a,b,rfl,rfl,hp,h⟩
 ·rw[h]
  unfold gh
  have:eE T n []=true:=decide_eq_true fun i hi=>by simp at hi
  simp only[this]
  simp
 ·rw[h]at hpl ⊢
  obtain⟨k,hk,hn⟩:=hp.KG
  have h1:eE T (a:Int) [(cr T D a b).getD 0 0]=true:=so (by simp) fun c hc=>by
   simp only[List.mem_singleton]at hc
   subst hc
   rw[hk]
   exact⟨cD.2 ⟨by omega,by have:=hn.fy;omega⟩,by rw[Int.toNat_natCast];exact hn.tail⟩
  have h2:decide (((b:Nat):Int)=(a:Int))=false:=decide_eq_false (by have:=hp.ne;omega)
  have h3:(jH (i6 T [] a (cr T D a b))).all (jt T)=true:=List.all_eq_true.2 fun s hs=>zL hp.It _ 0 s (FO hs)
  unfold gh
  simp only[h1,h2,h3,if_true]
  simp only[Bool.true_and,Bool.false_and,Bool.not_false,Bool.and_true,Bool.and_eq_true,decide_eq_true_eq]
  exact⟨rfl,by have:(jH (i6 T [] a (cr T D a b))).length≤32:=hpl;omega⟩
noncomputable def sK(T:an)(D:List Bool)(n:Int)(k:Nat):List iS:=(List.range k).map fun(d:Nat)=>jW T D n (d:Int)
theorem qM(T:an)(D:List Bool)(n:Int)(k:Nat):(sK T D n k).length=k:=by simp[sK]
theorem wN{T:an}{D:List Bool}{n:Int}{k d:Nat}(h:d<k):(sK T D n k)[d]? =some (jW T D n (d:Int)):=by simp[sK,h]
theorem FW{T:an}{D:List Bool}{n k d:Nat}(h:d<k):(oS T D n k)[d]? =some ⟨bI T D n d,false,[]⟩:=by simp[oS,h]
noncomputable def uB(T:an)(D:List Bool)(n:Nat):de:=⟨n,sK T D n T.nodes.toNat,cQ D (bN T n)⟩
theorem pc{T:an}{D:List Bool}(hv:aq T=true)(h12:T.nodes≤12){n:Nat}(hn:(n:Int)<T.nodes):cV T (uB T D n)=true:=by
 unfold cV uB
 have h1:bm T (n:Int)=true:=aT.2 ⟨by omega,hn⟩
 have hN:=(aO hv).nodes
 have h2:decide (((sK T D n T.nodes.toNat).length:Int)=T.nodes)=true:=decide_eq_true (by rw[qM];omega)
 have h3:eE T n (cQ D (bN T n))=true:=mB T n _
 have h4:nu T n (sK T D n T.nodes.toNat)=true:=gT fun d e he=>by
  have hd:d<T.nodes.toNat:=by
   have:=(List.getElem?_eq_some_iff.1 he).1
   rwa [qM]at this
  rw[wN hd]at he
  cases he
  exact CZ T D n d h12
 rw[hv,h1,h2,h3,h4]
 rfl
theorem iK.same{T:an}{D:List Bool}{x y:Nat}{p:List Int}(h:iK T D x y p):cr T D x y=p∧oY T D x y p∧i6 T [] x p=[⟨1,(y:Int)⟩]:=by
 have hv:=h.valid
 have hch:=h.sp.ch.mask h.up
 have h1:=hch.le hv h.hy
 have h0:=h.sp.cost hv h.hy
 have hq:=ej (D:=D) hv h.hy h.hx h1.1
 have hqc:=hq.cost hv h.hy
 have hqb:=hq.ch.bare
 have h2:=hqb.le hv h.hy
 have hq':=hqb.sp hv h.hy (by omega)
 have he:cr T D x y=p:=hq'.unique hv h.hy h.sp h.lr
 have hP:oY T D x y p:=⟨hv,h.fits,h.ne,h.hx,h.hy,by rw[←he];exact hq⟩
 refine⟨he,hP,?_⟩
 unfold i6
 obtain⟨f,hf⟩:∃f,p.length=f+1:=⟨p.length - 1,by have:=h.pos;omega⟩
 rw[hf,kC (j:=p.length) h.pos h.pos (Nat.le_refl _) h.Kl (fun k h3 h4=>by omega),oB _ _ (Nat.le_refl _),List.take_length,h.sp.ch.fin]
theorem iK.C5{T:an}{D:List Bool}{x y:Nat}{p:List Int}(h:iK T D x y p):bI T [] x y=[p.getD 0 0]∧bI T D x y=[p.getD 0 0]∧jW T D x y=⟨[p.getD 0 0],true,[⟨1,(y:Int)⟩]⟩:=by
 obtain⟨h1,h2,h3⟩:=h.same
 obtain⟨h4,h5,_⟩:=h.next (i:=0) h.pos (u:=x) I
 refine⟨h4,h5,?_⟩
 rw[←h1]at h2
 rw[qq h2,h1,h3]
 rfl
theorem BQ{T:an}{D D':List Bool}(hv:aq T=true){d:Nat}(hd:(d:Int)<T.nodes)(dir:Bool)(hD:∀a,aQ D a=aQ D' a):bH T D d dir=bH T D' d dir:=by
 have hI:=jo (aO hv) D' dir hd
 refine kh (aO hv) ⟨hI.len,hI.root,hI.ge,fun a ha hw=>hI.closed a ha ?_,fun x hx h0=>?_⟩
 ·exact⟨(hD a).symm.trans hw.1,hw.2⟩
 ·rcases hI.nk x hx h0 with h|⟨a,h1,h2,h3,h4⟩
  ·exact .inl h
  ·exact .inr ⟨a,h1,h2,⟨(hD a).trans h3.1,h3.2⟩,h4⟩
open eY
section
variable {P:Program} {σ:cc} {t:cg} {o:Oper} {N L:Nat} {ops:Array Oper}
theorem vc{rest:List Oper}{K:St→Prop}{d:Nat}{x y:Operand}{ty tz:TypeId}{xs:List PV}(ho:o.op= .binOp .eql ty x y tz)(hk:vJ P ty=true)(hx:aF t x=some (.slice 0 xs))(hy:aF t y=some (.raw (.slice none 0 0)))(hd:o.dst=some d)(hw:fm ops t o=some true)(hN:Nat.blt d N=true)
  (h:∀b,WR P N L ops rest ⟨(d,.raw (.bool b))::t,σ⟩ K):WR P N L ops (o::rest) ⟨t,σ⟩ K:=by
 refine nO hw fun F base E a w hs next Q hn=>?_
 obtain⟨e,hu⟩:=px hk
 have h1:=aA (gF a) hs.tmp hx
 have h2:=aA (gF a) hs.tmp hy
 generalize hz:a.eval x=z at h1
 generalize hz':a.eval y=z' at h2
 cases h2
 obtain⟨p,c,rfl,_,_⟩:=qE h1
 have hrun:=Lib.run_eql_slice_nil w ty e p 0 c 0 0 hu
 have hg:∀a n c b m d,(eqGuard .eql ty x y (.slice a n c) (.slice b m d)).run P w= .ok () w:=fun _ _ _ _ _ _=>rfl
 have hU:gI P w (fun v w'=>cK E w' v (.raw (.bool p.isNone))) ((execOp a.eval o).run P w):=by
  simp only[execOp,ho,hz,hz',Sem.run_bind,Sem.run_pure,Result.andThen_ok,hg,hrun]
  exact bz (.raw _)
 refine qt hU fun v w' hE hv=>hn _ _ _ E (h p.isNone) ?_ (.ext hE) (Below.ik hE hs.sat.bl)
 rw[hd]
 exact hs.put (hs.sat.ext hE) (.ext hE) hN hv
theorem rh{ty e s n h:Nat}{x hi' mx:Operand}{xs:List PV}{k k':IntKind}{hii mi:Int}(ho:o.op= .slice ty x none (some hi') (some mx))(he:xZ P ty=some (e,s))(hx:aF t x=some (.slice n xs))(hhi:aF t hi'=some (.raw (.int k hii)))(hmx:aF t mx=some (.raw (.int k' mi)))(hxl:xs.length=n*s)(hli:hii=(h:Int))(hmi:mi=(h:Int))(hl:h≤n):
  bA P σ t o (.slice h (xs.take (h*s))):=by
 intro F base E ρ w hρ hS hT
 have h1:=aA hρ hT hx
 have h2:=aA hρ hT hhi
 have h3:=aA hρ hT hmx
 obtain⟨hu,i,hi,hs⟩:=gL he
 generalize hz:ρ x=v at h1
 generalize hz':ρ hi'=u at h2
 generalize hz2:ρ mx=u2 at h3
 cases h2
 cases h3
 subst hli
 subst hmi
 obtain⟨a,c,rfl,hc1,hc2⟩:=qE h1
 have hR:=sc (s:=s) (l:=0) h1 hxl (Nat.zero_le _) hl (Nat.le_refl h) (Nat.le_trans hl hc1)
 have hrun:(Instr.sliceAt ty (.slice a n c) none (some (.int k (h:Int))) (some (.int k' (h:Int)))).run P w= .ok (.slice (if h=0 then a else a.map (·.add (0*s))) (h - 0) (h - 0)) w:=by
  have:h≤c:=Nat.le_trans hl hc1
  simp[Instr.sliceAt,run_underlying hu,Instr.slice,Instr.sliceBounds,Instr.sliceBound,asIntOf,this,sizeOf,typeInfo,hi]
 simp only[execOp,ho,hz,hz',hz2,Option.map_some,Option.map_none,Sem.run_bind,hrun,Result.andThen_ok,Sem.run_pure]
 refine bz ?_
 simpa using hR
end
theorem K3:vJ Tryz.prog 39=true:=by kernel_rfl
theorem ny(l:List bU)(hl:l.length≤1000):Can Tryz.prog 142 [ca l] (· =ca l):=by
 refine aI Tryz.func142 I Tryz.ntmps142 I<|ab (.a 1 I<|.k [0] I)<|aj<|aP (WR.mono (K:=fun s=>∃b:Bool,s=⟨[(0,ca l),(4,.raw (.bool b))],[]⟩∧(b=true→l=[])) ?_ ?_)
 ·cases l with
  |nil=>exact av 1 rfl<|vc rfl K3 rfl rfl rfl rfl rfl fun b=>aG [0,4] rfl ⟨b,rfl,fun _=>rfl⟩
  |cons a l=>exact av 1 rfl<|bJ (om rfl K3 rfl rfl (Nat.succ_pos _)) rfl rfl rfl<|aG [0,4] rfl ⟨_,rfl,fun h=>by cases h⟩
 rintro _ ⟨b,rfl,hb⟩
 refine ah I (fun hc=>?_) (fun hc=>?_)
 ·have:l=[]:=hb hc
  subst this
  exact ab (.a 1 I<|.k [2] I)<|ao<|⟨_,_,az.of I,ay.bQ,rfl⟩
 ·refine ai<|aP<|b7 (cH I (ba.sl.get I)) I<|av 1 I<|b7 (bg I (ba.rk.get I) I I I (fM l) (by unfold maxLen;omega)) I<|av 1 I<|aG [2] I ?_
  refine ao<|⟨_,_,az.of I,ay.fr (xs:=dR l) (ys:=dR l) I af.pure,?_⟩
  rw[Nat.zero_add];rfl
theorem gv{P:Program}{σ:cc}{t:cg}{o:Oper}{ty:TypeId}{x lo:Operand}{s:bU}{l:List bU}{k:IntKind}(ho:o.op= .slice ty x (some lo) none none)(he:xZ P ty=some (103,2))(hx:aF t x=some (.slice (s::l).length (dR (s::l))))(hlo:aF t lo=some (.raw (.int k 1))):bA P σ t o (.slice l.length (dR l)):=by
 have h:=Ba (l:=1) (σ:=σ) ho he hx hlo (fM _) I (by simp)
 have e:((dR (s::l)).drop (1*2)).take (((s::l).length - 1)*2)=dR l:=by
  show(dR l).take _=_
  refine List.take_of_length_le ?_
  rw[fM];simp
 rw[e]at h
 exact h
theorem Gk{T:an}{D:List Bool}{n d:Int}(h:gR T D n d≠0):jW T D n d=⟨[],false,[]⟩:=yR fun hh=>h hh.1
theorem HL{T:an}{D:List Bool}{n d:Int}(h:gR T D n d≠0)(h':gR T D n d≠11):cu T D n d=gR T D n d:=by
 unfold gR at*
 split at h<;>simp_all
theorem Jo{T:an}{D:List Bool}{n d:Int}(h:gR T D n d=0∨gR T D n d=11):cu T D n d=0:=by
 unfold gR at h
 split at h
 ·assumption
 ·rename_i hh
  rcases h with h|h
  ·exact h
  ·exfalso
   unfold cu cN at h
   split at h<;>(try split at h)<;>(try split at h)<;>omega
def KS(e:Int)(x:iS):PV:=.tuple [wW x,num e]
theorem wV(T:an)(D:List Bool)(n d:Int)(hlk:T.ag.length≤256)(h12:T.nodes≤12):Can Tryz.prog 124 [aN T,bq D,num n,num d] (· =KS (cu T D n d) (jW T D n d)):=by
 obtain⟨c1,hc1⟩:∃q,decide (gR T D n d≠0)=q:=⟨_,rfl⟩
 obtain⟨c2,hc2⟩:∃q,decide (gR T D n d≠11)=q:=⟨_,rfl⟩
 refine aI Tryz.func124 I Tryz.ntmps124 I<|aP<|av 3 I<|aG [1,2,3,4,8] I ?_
 refine ab (.a 4 I<|.c rfl (yC T D n d) I<|.a 5 I<|.k [1,2,4,8,10,11] I)<|aj<|bE 27 (.raw (.bool (c1&&c2))) [1,2,4,8,10,11] I ?_ ?_
 ·refine .a 1 I<|.v (cd I (hc1)) I<|.a 1 I<|?_
  cases c1
  ·exact .a 3 I<|.k [27,1,2,4,8,10,11] I
  ·exact .a 1 I<|.v (cd I (hc2)) I<|.a 1 I<|.k [27,1,2,4,8,10,11] I
 refine ah I (fun h1=>?_) (fun h1=>?_)
 ·obtain⟨rfl,rfl⟩:=Bool.and_eq_true_iff.1 h1
  have e1:=tt hc1
  rw[Gk e1,HL e1 (tt hc2)]
  refine aP<|av 4 I<|aG [8,9] I ?_
  exact ao<|⟨_,_,az.of I,ay.aX (af.cons (ay.hZ (af.cons ay.bQ<|af.cons ay.pure<|af.cons ay.bQ af.nil)) (af.cons ay.pure af.nil)),rfl⟩
 ·have e2:gR T D n d=0∨gR T D n d=11:=by
   rcases Bool.and_eq_false_iff.1 h1 with h|h
   ·subst h;exact .inl (Classical.byContradiction (ff hc1))
   ·subst h;exact .inr (Classical.byContradiction (ff hc2))
  rw[Jo e2]
  clear h1 hc1 hc2
  obtain⟨P,hP⟩:∃P,(if gR T D n d=0 then cr T D n.toNat d.toNat else [])=P:=⟨_,rfl⟩
  rw[hP]
  refine ai<|aj<|ab (.a 3 I<|.k [1,2,4,8,10,32] I)<|ah I (fun h2=>?_) (fun h2=>?_)
  ·have hno:¬(gR T D n d=0∧n≠d):=by
    rintro⟨h3,h4⟩
    rw[if_pos h3]at hP
    obtain⟨a,b,rfl,rfl,hp⟩:=vd h3 h4
    have:=tt h2
    have:=hp.pos
    rw[←hP]at*
    simp only[Int.toNat_natCast]at*
    omega
   rw[yR hno]
   refine aP<|av 3 I<|aG [8,9] I ?_
   exact ao<|⟨_,_,az.of I,ay.aX (af.cons (ay.hZ (af.cons ay.bQ<|af.cons ay.pure<|af.cons ay.bQ af.nil)) (af.cons ay.pure af.nil)),rfl⟩
  ·obtain⟨p0,q,rfl⟩:∃p0 q,P=p0::q:=by
    cases P with
    |nil=>exact absurd rfl (ff h2)
    |cons p0 q=>exact⟨_,_,rfl⟩
   have h3:gR T D n d=0:=by
    rcases e2 with h|h
    ·exact h
    ·rw[h]at hP;simp at hP
   rw[if_pos h3]at hP
   have h4:n≠d:=by
    rintro rfl
    obtain⟨a,b,ha,hb,_,_,hv',hsp⟩:=mD h3
    have:a=b:=by omega
    subst this
    have:=hsp.self
    rw[this]at hP
    cases hP
   obtain⟨a,b,rfl,rfl,hp⟩:=vd h3 h4
   simp only[Int.toNat_natCast]at hP
   have hent:=qq hp
   rw[hP]at hp hent
   have hpl:=hp.len
   obtain⟨s,l,hl,hs⟩:=vV (T:=T) (n:=(a:Int)) hp.pos
   have hll:=hp.FH.2
   rw[hl]at hent hll
   have hsl:=B6 T D (p0::q) a (by simp only[List.length_cons]at hpl ⊢;omega) hlk h12
   rw[hl]at hsl
   unfold tV at hsl
   rw[hp.zero,if_pos rfl]at hsl
   clear h2 e2 hl hs hp hP h3 h4
   simp only[List.length_cons]at hll hpl
   rw[show(p0::q).getD 0 0=p0 from rfl]at hent
   refine ai<|ab (.a 4 I<|.c rfl (hsl) I<|.a 5 I<|.k [8,10,12] I)<|aj<|ab (.a 1 I<|.v (aM (0) I (by omega) (by simp only[List.length_cons];omega)) I<|.a 1 I<|.v (aJ I ((show(dR (s::l))[0]? =some (num s.kind) from rfl))) I<|.a 1 I<|.k [8,10,12,46] I)<|ah I (fun h5=>?_) (fun h5=>?_)
   ·have hc:jH (s::l)=l:=if_pos (tt h5)
    rw[hc]at hent
    have hlm:l.length≤32:=by omega
    refine aC (.a 1 I<|.v (gv I (ba.el.get I) I I) I<|.a 1 I<|.k [8,10,12] I) ?_
    refine aj<|ab (.a 3 I<|.k [8,10,12,51] I)<|ah I (fun h6=>?_) (fun h6=>?_)
    ·exact absurd (tt h6) (by omega)
    ·clear h6
     refine ai<|iC 5 20 mixed (
      .val [10] I (aZ I) I I<|
      .val [53] I (rh (h:=1) I (ba.el.get I) I I I (show(aK (p0::q)).length=_ by simp[aK]) I I (by simp)) I I<|
      .val [12] I (aZ I) I I<|
      .val [55] I (dX I (ny _ (by omega))) I I<|
      .val [54,56] I (aZ I) I I<|
      .nil) (by kernel_rfl) I I (aY (ks:=[8,57]) I) ?_
     refine av 2 I<|aG [8,9] I ?_
     exact ao<|⟨_,_,az.of I,ay.aX (af.cons (ay.hZ (af.cons (ay.pure (p:=au [p0]))<|af.cons ay.pure<|af.cons (ay.pure (p:=ca _)) af.nil)) (af.cons ay.pure af.nil)),by rw[hent];rfl⟩
   ·have hc:jH (s::l)=s::l:=if_neg (ff h5)
    rw[hc]at hent
    have hlm:(s::l).length≤32:=by simp only[List.length_cons];omega
    refine ai<|aj<|ab (.a 3 I<|.k [8,10,12,51] I)<|ah I (fun h6=>?_) (fun h6=>?_)
    ·exact absurd (tt h6) (by omega)
    ·clear h6
     refine ai<|iC 5 20 mixed (
      .val [10] I (aZ I) I I<|
      .val [53] I (rh (h:=1) I (ba.el.get I) I I I (show(aK (p0::q)).length=_ by simp[aK]) I I (by simp)) I I<|
      .val [12] I (aZ I) I I<|
      .val [55] I (dX I (ny _ (by omega))) I I<|
      .val [54,56] I (aZ I) I I<|
      .nil) (by kernel_rfl) I I (aY (ks:=[8,57]) I) ?_
     refine av 2 I<|aG [8,9] I ?_
     exact ao<|⟨_,_,az.of I,ay.aX (af.cons (ay.hZ (af.cons (ay.pure (p:=au [p0]))<|af.cons ay.pure<|af.cons (ay.pure (p:=ca _)) af.nil)) (af.cons ay.pure af.nil)),by rw[hent];rfl⟩
end
section
open Go.RowKit cE Mem
section
variable {P:Program} {σ:cc} {t:cg} {o:Oper}
theorem wC{ty e s:Nat}{x:Operand}(ho:o.op= .call {callee:=.builtin .cap,args:= #[x],argTypes:= #[ty]})(he:xZ P ty=some (e,s))(hx:aF t x=some (.raw (.slice none 0 0))):bA P σ t o (.raw (.int .i64 0)):=by
 intro F base E ρ w hρ _ hT
 have h1:=aA hρ hT hx
 obtain⟨hu,_⟩:=gL he
 generalize hz:ρ x=z at h1
 cases h1
 simp[execOp,ho,resolve,invoke,builtin,Builtin.cap_,hz,run_underlying hu,goInt]
 exact bz (.raw _)
theorem yG{ty e s:Nat}{x hi':Operand}{k:IntKind}(ho:o.op= .slice ty x none (some hi') none)(he:xZ P ty=some (e,s))(hx:aF t x=some (.raw (.slice none 0 0)))(hhi:aF t hi'=some (.raw (.int k 0))):bA P σ t o (.raw (.slice none 0 0)):=by
 intro F base E ρ w hρ _ hT
 have h1:=aA hρ hT hx
 have h2:=aA hρ hT hhi
 obtain⟨hu,inf,hinf,hs⟩:=gL he
 generalize hz:ρ x=z at h1
 generalize hz':ρ hi'=z' at h2
 cases h1
 cases h2
 have hr:(execOp ρ o).run P w= .ok (.value (.slice none 0 0)) w:=by
  simp[execOp,ho,hz,hz',Instr.sliceAt,run_underlying hu,Instr.slice,Instr.sliceBounds,Instr.sliceBound,asIntOf,sizeOf,typeInfo,hinf]
 rw[hr]
 exact bz (.raw _)
theorem wX{P:Program}(w:World)(t tx ty e:TypeId)(i:TypeInfo)(z:Value)(ht:P.underlying t=some (.slice e))(hx:P.underlying tx=some (.int .i64))(hi:P.info? e=some i)(hz:i.zero=some z)(hp:0<i.size)(n:Nat)
  (h0:0<n) (h63:(n:Int)≤9223372036854775807) (h48:n*i.bytes≤281474976710656):
  (Builtin.append_ #[t,tx] ty #[.slice none 0 0,.int .i64 (n:Int)]).run P w=
   .ok (.slice (some ⟨w.heap.size,0,none⟩) n (grownCap w n 0 e)) (w.drew.alloc (.cells (Builtin.zeroCells z.cells n++Builtin.zeroCells z.cells (grownCap w n 0 e - n)) e)):=by
 have hn:n≠0:=by omega
 have hp':i.size≠0:=by omega
 have h63':¬(9223372036854775807<(n:Int)):=by omega
 have h48':¬(281474976710656<Builtin.nextslicecap n 0*i.bytes):=by rw[nextslicecap_zero h0];omega
 have hw:IntKind.i64.wrap (n:Int)=n:=jU (by unfold In64;omega)
 have hb:¬(281474976710656<(n:Int)*(i.bytes:Int)):=by
  have:((n*i.bytes:Nat):Int)≤281474976710656:=by omega
  rw[Int.natCast_mul]at this
  omega
 have sQ:¬((n:Int)<0):=by omega
 simp[Builtin.append_,run_underlying ht,run_underlying hx,sizeOf,typeInfo,zeroValue,hi,hz,asInt,asIntOf,hw,hb,sQ,hn,hp',h63',h48',Question.forced,run_firstCells_none,newRow,grownCap]
 exact fun h=>absurd h (Nat.mul_ne_zero hn hp')
theorem Cr{ty tx e s by':Nat}{z:List Value}{x y:Operand}{n:Nat}{m:Int}(ho:o.op= .call {callee:=.builtin .append,args:= #[x,y],argTypes:= #[ty,tx]})(hk:xD P ty=some (e,s,by',z))(htx:P.underlying tx=some (.int .i64))(hx:aF t x=some (.raw (.slice none 0 0)))(hy:aF t y=some (.raw (.int .i64 m)))(hm:m=(n:Int))(h0:0<n)(hn:n≤maxLen∧n*by'≤281474976710656):
  cj P σ t o (.own σ.length) (σ++[some (.row e s n (dP (z.map .raw) n))]):=by
 intro F base E ρ w hρ hS hT
 have h1:=aA hρ hT hx
 have h2:=aA hρ hT hy
 generalize hz1:ρ x=v1 at h1
 generalize hz2:ρ y=v2 at h2
 cases h1;cases h2
 subst hm
 obtain⟨hu,i,z',hi,hs,hby,hz,hzz,hzs,hpos⟩:=pj hk
 have hsm:n≤9223372036854775807:=by have:=hn.1;simp only[maxLen]at this;omega
 have hrun:=wX (P:=P) w ty tx o.type e i z' hu htx hi hz (by omega) n h0 (by omega) (by rw[hby];exact hn.2)
 have hr:(execOp ρ o).run P w= .ok (.value (.slice (some ⟨w.heap.size,0,none⟩) n (grownCap w n 0 e))) (w.drew.alloc (.cells (Builtin.zeroCells z'.cells n++Builtin.zeroCells z'.cells (grownCap w n 0 e - n)) e)):=by
  simp only[execOp,ho,resolve,invoke,builtin,Sem.run_bind,Sem.run_pure,Result.andThen_ok,List.map_toArray,List.map_cons,List.map_nil,hz1,hz2,hrun]
 have hge:=grownCap_ge w n 0 e
 have hcm:grownCap w n 0 e≤maxLen:=grownCap_le_maxLen w n 0 e hn.1
 have hzc:(Builtin.zeroCells z'.cells n).size=n*s:=by rw[size_zeroCells,hzs]
 have hown:(w.drew.alloc (.cells (Builtin.zeroCells z'.cells n++Builtin.zeroCells z'.cells (grownCap w n 0 e - n)) e)).ownsRow base e s (.slice (some ⟨w.heap.size,0,none⟩) n (grownCap w n 0 e)) n (Builtin.zeroCells z'.cells n).toList:=by
  refine⟨by rw[Array.length_toList,hzc],.inr ⟨w.heap.size,_,_,rfl,hS.bl,heap_alloc_new w.drew _,hge,hcm,?_,?_⟩⟩
  ·simp only[Array.size_append,size_zeroCells,hzs,←Nat.add_mul]
   congr 1
   omega
  ·simp only[Array.toList_append]
   rw[←hzc,←Array.length_toList]
   exact List.take_left
 have hg:w.grownBy (w.drew.alloc (.cells (Builtin.zeroCells z'.cells n++Builtin.zeroCells z'.cells (grownCap w n 0 e - n)) e)) none:=⟨rfl,rfl,rfl,by simp,fun k hk _=>heap_alloc_old w.drew _ hk⟩
 have hR:bd E w (Builtin.zeroCells z'.cells n).toList (dP (z.map .raw) n):=by
  rw[←hzz];exact mH z'.cells n (n*z'.cells.size) I
 obtain⟨a1,a2,a3,a4⟩:=oa hS (oE hg) (fun b h=>by simp[bF]at h;omega) hown hR
 exact⟨_,_,_,.inl hr,a1,a2,a3,a4⟩
end
open Net eY
theorem qS(l:List Int)(hl:l.length≤1000):Can Tryz.prog 144 [au l] (· =au l):=by
 refine aI Tryz.func144 I Tryz.ntmps144 I<|ab (.a 1 I<|.k [0] I)<|aj<|aP (WR.mono (K:=fun s=>∃b:Bool,s=⟨[(0,au l),(4,.raw (.bool b))],[]⟩∧(b=true→l=[])) ?_ ?_)
 ·cases l with
  |nil=>exact av 1 rfl<|vc rfl J6 rfl rfl rfl rfl rfl fun b=>aG [0,4] rfl ⟨b,rfl,fun _=>rfl⟩
  |cons a l=>exact av 1 rfl<|bJ (om rfl J6 rfl rfl (Nat.succ_pos _)) rfl rfl rfl<|aG [0,4] rfl ⟨_,rfl,fun h=>by cases h⟩
 rintro _ ⟨b,rfl,hb⟩
 refine ah I (fun hc=>?_) (fun hc=>?_)
 ·have:l=[]:=hb hc
  subst this
  exact ab (.a 1 I<|.k [2] I)<|ao<|⟨_,_,az.of I,ay.bQ,rfl⟩
 ·refine ai<|aP<|b7 (cH I (ba.sl.get I)) I<|av 1 I<|b7 (bg I (ba.rk.get I) I I I (show(aK l).length=l.length*1 by simp[aK]) (by unfold maxLen;omega)) I<|av 1 I<|aG [2] I ?_
  refine ao<|⟨_,_,az.of I,ay.fr (xs:=aK l) (ys:=aK l) I af.pure,?_⟩
  rw[Nat.zero_add];rfl
theorem B9(n:Nat)(hn:n≤1000):bT Tryz.prog 172 [.raw (.slice none 0 0),num n] [] (fun r σ'=>r= .own 0∧σ'=[some (.row 103 2 0 [])]):=by
 refine ct Tryz.func172 I Tryz.ntmps172 I<|ab (.a 1 I<|.k [0,1] I)<|aj<|ab (.a 2 I<|.k [0,1,6] I)<|ah I (fun h1=>?_) (fun h1=>?_)
 ·exact absurd (tt h1) (by omega)
 ·clear h1
  refine ai<|aj<|ab (.a 2 I<|.v (wC I (ba.el.get I) I) I<|.a 1 I<|.v (rW I (ba.el.get I) I) I<|.v (aV I) I<|.v (aV I) I<|.a 1 I<|.k [0,1] I)<|ab (.a 2 I<|.k [0,1,16] I)<|ah I (fun h2=>?_) (fun h2=>?_)
  ·have hpos:0<n:=by have:=tt h2;omega
   refine bG<|av 2 I<|bw (wC I (ba.el.get I) I) I<|bw (yG I (ba.el.get I) I I) I<|av 1 I<|b7 (Cr (n:=n) I (ba.rk.get I) Tryz.underlying3 rfl rfl (by omega) hpos (by unfold maxLen;omega)) I<|av 1 I<|bw (rW I (ba.el.get I) I) I<|b7 (nU (h:=0) I (ba.el.get I) I I I I (by omega)) I<|av 1 I<|aG [0] I ?_
   refine dI [1] (.c 0<|.nil) (.kept rfl (.row aH.nil)<|.nil) I I ?_
   exact ab (.a 2 I<|.k [4] I)<|ao<|⟨_,az.of I,rfl,rfl⟩
  ·refine gQ 0 103 2 I ?_
   exact ai<|ab (.a 2 I<|.k [4] I)<|ao<|⟨_,az.of I,rfl,rfl⟩
def rj(A B:List bU)(i:Nat):List bU:=if i=0 then [] else if i=1 then A else A++B
def Gc(A B:List bU)(i:Nat):List bU:=if i=0 then A else B
theorem wB(A B:List bU){i:Nat}(h:i<2):rj A B (i+1)=rj A B i++Gc A B i:=by
 rcases(show i=0∨i=1 by omega)with rfl|rfl<;>rfl
theorem qn(A B:List bU)(i:Nat):(rj A B i).length≤A.length+B.length:=by
 unfold rj
 split
 ·simp
 ·split<;>simp
theorem p6(A B:List bU)(hl:A.length+B.length≤1000):Can Tryz.prog 145 [.slice 2 [ca A,ca B]] (· =ca (A++B)):=by
 refine aI Tryz.func145 I Tryz.ntmps145 I ?_
 have hg:=B9 (A++B).length (by simpa using hl)
 refine ab (.a 1 I<|.k [0] I)<|ab (.a 1 I<|.k [0,3] I)<|aj<|ab (.a 3 I<|.k [0,3,9,10,11] I)<|aw<|eS [0,3,9,10,11] I<|bu (fun r s=>∃i,i≤2∧r=2 - i∧s=⟨[(0,.slice 2 [ca A,ca B]),(3,num (rj A B i).length),(9,.slice 2 [ca A,ca B]),(10,num 2),(11,num i)],[]⟩) 2 ⟨0,by omega,by omega,rfl⟩ ?_
 rintro r s ⟨i,hi,rfl,rfl⟩
 refine ab (.a 1 I<|.k [0,3,9,10,11,12] I)<|aj<|ah I (fun h1=>?_) (fun h1=>?_)
 ·have hlt:i<2:=by have:=tt h1;omega
  have hc1:=qn A B i
  have hc2:=qn A B (i+1)
  have hst:=congrArg List.length (wB A B hlt)
  rw[List.length_append]at hst
  have hget:[ca A,ca B][i]? =some (ca (Gc A B i)):=by
   rcases(show i=0∨i=1 by omega)with rfl|rfl<;>rfl
  clear h1
  refine ai<|aj<|aw<|ab (.v (aM (i) I) I<|.v (aJ I (hget)) I<|.a 1 I<|.k [0,3,5,9,10,11] I)<|ab (.a 3 I<|.v (aV I (hc:=(show((rj A B i).length:Int)+((Gc A B i).length:Int)=((rj A B (i+1)).length:Int) by omega)) (hn:=(by unfold In64;omega))) I<|.a 1 I<|.k [0,3,9,10,11] I)<|ab (.a 2 I<|.k [0,3,9,10,11,20] I)<|ah I (fun h2=>?_) (fun h2=>?_)
  ·exact absurd (tt h2) (by omega)
  ·clear h2
   refine ai<|aC (.v (aV I) I<|.a 1 I<|.k [0,3,9,10,11] I) ?_
   exact⟨2 - (i+1),by omega,i+1,by omega,rfl,rfl⟩
 ·have hie:i=2:=by have:=ff h1;omega
  subst hie
  have hcat:rj A B 2=A++B:=rfl
  rw[hcat]
  clear h1
  refine bh<|aP<|av 1 I<|cM I I (bT.mono hg (fun r σ' h=>?_))
  obtain⟨rfl,rfl⟩:=h
  refine av 1 I<|aG [0,6] I ?_
  refine aj<|ab (.a 3 I<|.k [6,25,26,27] I)<|aw<|eS [6,25,26,27] I<|bu (fun r s=>∃i,i≤2∧r=2 - i∧s=⟨[(6,.own 0),(25,.slice 2 [ca A,ca B]),(26,num 2),(27,num i)],[some (.row 103 2 (rj A B i).length (dR (rj A B i)))]⟩) 2 ⟨0,by omega,by omega,rfl⟩ ?_
  rintro r s ⟨i,hi,rfl,rfl⟩
  refine ab (.a 1 I<|.k [6,25,26,27,28] I)<|aj<|ah I (fun h1=>?_) (fun h1=>?_)
  ·have hlt:i<2:=by have:=tt h1;omega
   have hc1:=qn A B i
   have hc2:=qn A B (i+1)
   have hst:=wB A B hlt
   have hsl:=congrArg List.length hst
   rw[List.length_append]at hsl
   have hget:[ca A,ca B][i]? =some (ca (Gc A B i)):=by
    rcases(show i=0∨i=1 by omega)with rfl|rfl<;>rfl
   clear h1
   refine ai<|aj<|aw<|ab (.v (aM (i) I) I<|.v (aJ I (hget)) I<|.a 1 I<|.k [6,8,25,26,27] I)<|bG<|av 2 I<|b7 (bg I (ba.rk.get I) I I I (fM _) (show _≤maxLen∧_*16≤140737488355328 by unfold maxLen;omega)) I<|av 1 I ?_
   refine eP [1] (.c 6<|.c 25<|.c 26<|.c 27<|.nil) (.kept rfl (.fF rfl (rfl))<|.nil) I I (bn ?_)
   refine aC (.v (aV I) I<|.a 1 I<|.k [6,25,26,27] I) ?_
   refine⟨2 - (i+1),by omega,i+1,by omega,rfl,?_⟩
   rw[hst,List.length_append]
   unfold dR
   rw[List.flatMap_append]
   rfl
  ·have hie:i=2:=by have:=ff h1;omega
   subst hie
   have hcat:rj A B 2=A++B:=rfl
   rw[hcat]
   clear h1
   exact bh<|ab (.a 2 I<|.k [2] I)<|ao<|⟨_,_,az.of I,ay.fr rfl af.pure,rfl⟩
def G4(v:Int):List Int→Nat→Int
 | [],_=> -1
 |a::l,i=>bif decide (v=a) then(i:Int) else G4 v l (i+1)
theorem Aj(v:Int):∀(l:List Int) (i:Nat),0≤G4 v l i↔v∈l
 | [],i=>by simp[G4]
 |a::l,i=>by
  simp only[G4]
  by_cases h:v=a
  ·rw[decide_eq_true h,cond_true]
   exact⟨fun _=>by rw[h];exact List.mem_cons_self,fun _=>by omega⟩
  ·rw[decide_eq_false h,cond_false,Aj v l (i+1),List.mem_cons]
   exact⟨.inr,fun h'=>h'.resolve_left h⟩
theorem HC(v:Int)(l:List Int)(i:Nat):decide (0≤G4 v l i)=decide (v∈l):=decide_eq_decide.2 (Aj v l i)
theorem yk(l:List Int)(v:Int)(hl:l.length≤1000):Can Tryz.prog 143 [au l,num v] (· =num (G4 v l 0)):=by
 refine aI Tryz.func143 I Tryz.ntmps143 I<|ab (.a 1 I<|.k [0,1] I)<|aj<|ab (.a 3 I<|.k [0,1,7,8] I)<|aw<|eS [0,1,7,8] I<|bu (fun r s=>∃i,i≤l.length∧r=l.length - i∧G4 v l 0=G4 v (l.drop i) i∧s=⟨[(0,au l),(1,num v),(7,num l.length),(8,num i)],[]⟩) l.length ⟨0,by omega,by omega,rfl,rfl⟩ ?_
 rintro r s ⟨i,hi,rfl,hx,rfl⟩
 refine ab (.a 1 I<|.k [0,1,7,8,9] I)<|aj<|ah I (fun h1=>?_) (fun h1=>?_)
 ·have hlt:i<l.length:=by have:=tt h1;omega
  rw[drop_cons l i hlt]at hx
  simp only[G4]at hx
  obtain⟨q,hq⟩:∃q,decide (v=l.getD i 0)=q:=⟨_,rfl⟩
  rw[hq]at hx
  refine ai<|aj<|aw<|ab (.a 2 I<|.k [0,1,5,7,8] I)<|ab (.a 3 I<|.v (aM (i) I) I<|.v (aJ I (aB l i hlt)) I<|.v (cd I (hq)) I<|.k [0,1,5,7,8,16] I)<|ah I (fun h2=>?_) (fun h2=>?_)
  ·subst h2
   rw[cond_true]at hx
   rw[hx]
   exact ab (.a 2 I<|.k [4] I)<|ao<|⟨_,_,az.of I,ay.pure,rfl⟩
  ·subst h2
   rw[cond_false]at hx
   refine ai<|aC (.v (aV I) I<|.a 1 I<|.k [0,1,7,8] I) ?_
   exact⟨l.length - (i+1),by omega,i+1,by omega,rfl,hx,rfl⟩
 ·have hie:i=l.length:=by have:=ff h1;omega
  subst hie
  rw[List.drop_length]at hx
  rw[hx]
  exact bh<|ab (.a 1 I<|.k [4] I)<|ao<|⟨_,_,az.of I,ay.pure,rfl⟩
theorem sC(l:List Int)(v:Int)(hl:l.length≤1000):Can Tryz.prog 104 [au l,num v] (· =flag (decide (v∈l))):=by
 obtain⟨q,hq⟩:∃q,decide (v∈l)=q:=⟨_,rfl⟩
 have hm:=(HC v l 0).trans hq
 rw[hq]
 exact aI Tryz.func104 I Tryz.ntmps104 I<|ab (.a 1 I<|.k [0,1] I)<|ab (.a 2 I<|.c rfl (yk l v hl) I<|.v (cd I (hm)) I<|.a 1 I<|.k [4] I)<|ao<|⟨_,_,az.of I,ay.pure,rfl⟩
structure dv where
 id:Int
 src:Int
 dst:Int
 kq:Int
 stack:List bU
 dD:Int
def cL(p:dv):List PV:=[num p.id,num p.src,num p.dst,num p.kq,ca p.stack,num p.dD]
def dx(p:dv):PV:=.agg (cL p)
instance (p:dv):aL (cL p):=by unfold cL;infer_instance
instance (p:dv):IsPure (dx p):=by unfold dx;infer_instance
structure Out where
 ax:List Int
 ev:dv
 cT:Int
def vv(r:Out):PV:=.tuple [au r.ax,dx r.ev,num r.cT]
def ez(p:dv)(r:Int):Out:=⟨[],p,r⟩
def cA(p:dv)(s:List bU)(ax:List Int):Out:=⟨ax,⟨p.id,p.src,p.dst,p.kq,s,p.dD+1⟩,0⟩
def ft(p:dv)(s:List bU)(e:iS):Out:=
 if e.rep then(if 32<(e.push++s.drop 1).length then ez p 5 else cA p (e.push++s.drop 1) e.ax) else cA p s e.ax
theorem sq(p:dv)(s:List bU)(hl:s.length≤1000):Can Tryz.prog 102 [dx p,ca s] (· =dx ⟨p.id,p.src,p.dst,p.kq,s,p.dD⟩):=by
 refine aI Tryz.func102 I Tryz.ntmps102 I<|aP<|b7 (fx I I I) I<|av 1 I<|aG [1,2,4] I ?_
 refine aP<|av 1 I<|fe I (ny s hl) I<|av 2 I<|aG [2,4] I ?_
 refine aP<|av 2 I<|aG [4] I ?_
 exact ao<|⟨_,_,az.of I,ay.pure (p:=dx ⟨p.id,p.src,p.dst,p.kq,s,p.dD⟩),rfl⟩
theorem gJ(p:dv)(r:Int)(hl:p.stack.length≤1000):Can Tryz.prog 101 [dx p,num r] (· =vv (ez p r)):=by
 refine aI Tryz.func101 I Tryz.ntmps101 I<|aP<|av 4 I<|aG [1,2,5] I ?_
 refine aP<|av 2 I<|bw (aJ I ((rfl:(cL p)[4]? =some (ca p.stack)))) I<|fe I (sq p p.stack hl) I<|av 4 I<|aG [4,5,6] I ?_
 exact ao<|⟨_,_,az.of I,ay.aX (af.cons ay.bQ<|af.cons (ay.pure (p:=dx p))<|af.cons ay.pure af.nil),rfl⟩
theorem mN(p:dv)(s:List bU)(ax:List Int)(hl:s.length≤1000)(ha:ax.length≤1000)(hh:0≤p.dD∧p.dD≤1000):Can Tryz.prog 105 [dx p,ca s,au ax] (· =vv (cA p s ax)):=by
 refine aI Tryz.func105 I Tryz.ntmps105 I<|aP<|b7 (fx I I I) I<|av 3 I<|aG [1,2,3,7] I ?_
 refine aP<|av 2 I<|fe I (sq p s hl) I<|av 1 I<|aG [2,3,7] I ?_
 refine aP<|av 2 I<|bw (aV I (hn:=(show In64 (p.dD+1) by unfold In64;omega))) I<|av 2 I<|aG [2,3,7] I ?_
 refine iC 4 20 mixed (
  .val [2] I (aZ I) I I<|
  .val [16] I (dX I (qS ax ha)) I I<|
  .val [3] I (aZ I) I I<|
  .val [17] I (aZ I) I I<|
  .nil) (by kernel_rfl) I I (aY (ks:=[6,7,18]) I) ?_
 refine av 2 I<|aG [6,7,8] I ?_
 exact ao<|⟨_,_,az.of I,ay.aX (af.cons (ay.pure (p:=au ax))<|af.cons (ay.pure (p:=dx ⟨p.id,p.src,p.dst,p.kq,s,p.dD+1⟩))<|af.cons ay.pure af.nil),rfl⟩
end
end PW
end Go.Proofs.YtnegbdpggideiaaGreatDoor
