/- Texts of the proof, part 9. -/
import Derived.Deep.AppendSrc
import Derived.Test.YtnegbdpggideiaaGreatDoorCardMMB8
set_option linter.unusedVariables false
set_option linter.unusedSimpArgs false
set_option maxRecDepth 10000
set_option maxHeartbeats 1000000
namespace Go.Proofs.YtnegbdpggideiaaGreatDoor
namespace PW
open Go.RowKit cB Mem Net
theorem qK(l:List b7)(e:b7):eL l++mY e=eL (l++[e]):=by simp[eL]
theorem lP(l:List b7):(eL l).length=l.length*2:=by
 induction l with
 |nil=>rfl
 |cons a l ih=>simp only[eL,List.flatMap_cons,List.length_append,List.length_cons]at*;rw[ih];simp[mY];omega
def kI(c:Nat→Bool)(i:Nat):Nat→Option Nat
 |0=>none
 |m+1=>if m+1≤i then none else if c (m+1) then some (m+1) else kI c i m
theorem tj{c:Nat→Bool}{i j:Nat}(hij:i<j)(hc:c j=true):∀m,j≤m→(∀k,j<k→k≤m→c k=false)→kI c i m=some j
 |0,h,_=>by omega
 |m+1,h,hn=>by
  unfold kI
  rw[if_neg (by omega)]
  by_cases e:j=m+1
  ·subst e;rw[if_pos hc]
  ·rw[if_neg (by rw[hn (m+1) (by omega) (by omega)];simp)]
   exact tj hij hc m (by omega) (fun k h1 h2=>hn k h1 (by omega))
theorem sa{c:Nat→Bool}{i:Nat}:∀m,(∀k,i<k→k≤m→c k=false)→kI c i m=none
 |0,_=>rfl
 |m+1,hn=>by
  unfold kI
  by_cases e:m+1≤i
  ·rw[if_pos e]
  ·rw[if_neg e,if_neg (by rw[hn (m+1) (by omega) (by omega)];simp)]
   exact sa m (fun k h1 h2=>hn k h1 (by omega))
theorem nO{c:Nat→Bool}{i:Nat}:∀m j,kI c i m=some j→i<j∧j≤m∧c j=true∧∀k,j<k→k≤m→c k=false
 |0,j,h=>by cases h
 |m+1,j,h=>by
  unfold kI at h
  split at h
  ·cases h
  ·split at h
   ·cases h;rename_i h1 h2;exact⟨by omega,by omega,h2,fun k h3 h4=>by omega⟩
   ·rename_i h1 h2
    obtain⟨a,b,c1,d⟩:=nO m j h
    refine⟨a,by omega,c1,fun k h3 h4=>?_⟩
    by_cases e:k=m+1
    ·subst e;simpa using h2
    ·exact d k h3 (by omega)
theorem jt{c:Nat→Bool}{i:Nat}:∀m,kI c i m=none→∀k,i<k→k≤m→c k=false
 |0,_,k,h1,h2=>by omega
 |m+1,h,k,h1,h2=>by
  unfold kI at h
  split at h
  ·omega
  ·split at h
   ·cases h
   ·rename_i h3 h4
    by_cases e:k=m+1
    ·subst e;simpa using h4
    ·exact jt m h k h1 (by omega)
noncomputable def ik(T:ai)(D:List Bool)(n:Int)(p:List Int):Nat→Nat→List b7
 |0,_=>[]
 |f+1,i=>if i<p.length then(match kI (fr T D n p i) i p.length with
  |some j=>⟨1,cE T n (p.take j)⟩::ik T D n p f j
  |none=>⟨2,p.getD i 0⟩::ik T D n p f (i+1)) else []
noncomputable def iE(T:ai)(D:List Bool)(n:Int)(p:List Int):List b7:=ik T D n p p.length 0
section
variable {T:ai} {D:List Bool} {n:Int} {p:List Int}
theorem nF(f i:Nat)(h:p.length≤i):ik T D n p f i=[]:=by
 cases f with
 |zero=>rfl
 |succ f=>simp only[ik];rw[if_neg (by omega)]
theorem jM{f i j:Nat}(hi:i<p.length)(hij:i<j)(hj:j≤p.length)(hc:fr T D n p i j=true)(hno:∀k,j<k→k≤p.length→fr T D n p i k=false):ik T D n p (f+1) i=⟨1,cE T n (p.take j)⟩::ik T D n p f j:=by
 simp only[ik]
 rw[if_pos hi,tj hij hc p.length hj hno]
theorem lB{f i:Nat}(hi:i<p.length)(hno:∀k,i<k→k≤p.length→fr T D n p i k=false):ik T D n p (f+1) i=⟨2,p.getD i 0⟩::ik T D n p f (i+1):=by
 simp only[ik]
 rw[if_pos hi,sa p.length hno]
theorem oD:∀ {f:Bool} {x:Int} {l m:List Int},ec T f x (l++m)=0→ec T f x l=0∧∃g,ec T g (cE T x l) m=0
 |f,x,[],m,h=>⟨rfl,f,h⟩
 |f,x,a::l,m,h=>by
  simp only[List.cons_append,ec]at h ⊢
  split at h
  ·omega
  ·rename_i h1
   rw[if_neg h1]
   split at h
   ·omega
   ·rename_i h2
    rw[if_neg h2]
    exact oD h
theorem zp(hv:ao T=true):∀ {f:Bool} {x:Nat} {l:List Int} {y:Nat},ec T f x l=0→(∀a∈l,aM D a.toNat=false)→cE T x l=(y:Int)→Ch T D y x l
 |f,x,[],y,_,_,he=>by
  have:y=x:=by simp only[cE]at he;omega
  subst this
  exact .nil
 |f,x,a::l,y,h,hd,he=>by
  simp only[ec]at h
  split at h
  ·omega
  ·rename_i h1
   split at h
   ·omega
   ·rename_i h2
    have hab:fB T a=true:=by simpa using h1
    obtain⟨_,m,hm,hmN⟩:=jG hv hab
    simp only[fB,decide_eq_true_eq]at hab
    obtain⟨b,rfl⟩:=Int.eq_ofNat_of_zero_le hab.1
    rw[Int.toNat_natCast]at hm
    simp only[cE,Int.toNat_natCast]at he h2 h
    rw[hm]at he h
    have hch:=zp hv h (fun c hc=>hd c (by simp[hc])) he
    refine .cons (by omega) (Classical.byContradiction fun hn=>h2 (.inl hn)) (hd b (by simp)) hm ?_ hch
    cases l with
    |nil=>exact .inl rfl
    |cons c l=>
     right
     simp only[ec]at h
     split at h
     ·omega
     ·split at h
      ·omega
      ·rename_i h4
       simp only[Int.toNat_natCast]at h4
       cases ho:cR T m with
       |false=>rfl
       |true=>exact absurd (.inr ⟨trivial,ho⟩) h4
structure pA (T:ai) (D:List Bool) (n:Int) (p:List Int):Prop where
 valid:ao T=true
 fits:bP T D=true
 node:bn T n=true
 walk:ec T true n p=0
 up:∀a∈p,aM D a.toNat=false
theorem D7(h:fA T D n p=0):pA T D n p:=by
 unfold fA at h
 split at h
 ·rename_i h1
  obtain⟨hv,hf⟩:=Bool.and_eq_true_iff.1 h1
  split at h
  ·rename_i h2
   obtain⟨_,hn,hw⟩:=mI h2
   split at h
   ·omega
   ·rename_i h3
    exact⟨hv,hf,hn,hw,fun a ha=>by
     cases hd:aM D a.toNat with
     |false=>rfl
     |true=>exact absurd (List.any_eq_true.2 ⟨a,ha,hd⟩) h3⟩
  ·omega
 ·omega
theorem pA.aI(h:pA T D n p):∀a∈p,fB T a=true:=lJ h.walk
def eH(p:List Int)(i j:Nat):List Int:=(p.drop i).take (j - i)
theorem iP(p:List Int){i j:Nat}(hij:i≤j):p.take j=p.take i++eH p i j:=by
 unfold eH
 have h:(p.take j)=(p.take j).take i++(p.take j).drop i:=(List.take_append_drop i _).symm
 rw[h,List.take_take,Nat.min_eq_left hij,List.drop_take]
theorem nX(p:List Int){i j:Nat}(hij:i≤j)(hj:j≤p.length):(eH p i j).length=j - i:=by unfold eH;simp;omega
theorem pA.ch(h:pA T D n p){i j u y:Nat}(hij:i≤j)(hj:j≤p.length)(hu:cE T n (p.take i)=(u:Int))(hy:cE T n (p.take j)=(y:Int)):Ch T D y u (eH p i j):=by
 have h1:ec T true n (p.take j)=0:=(oD (l:=p.take j) (m:=p.drop j) (by rw[List.take_append_drop];exact h.walk)).1
 rw[iP p hij]at h1
 obtain⟨_,g,hg⟩:=oD h1
 rw[hu]at hg
 refine zp h.valid hg (fun a ha=>h.up a ?_) ?_
 ·exact List.mem_of_mem_drop (List.mem_of_mem_take ha)
 ·rw[←hu,←lE,←iP p hij];exact hy
theorem BO(T:ai)(p:List Int){i j:Nat}(hij:i≤j):cY T (p.take j) - cY T (p.take i)=cY T (eH p i j):=by
 rw[iP p hij,gu];omega
theorem lV(h:pA T D n p){i j u y:Nat}(hij:i≤j)(hj:j≤p.length)(hu:cE T n (p.take i)=(u:Int))(hy:cE T n (p.take j)=(y:Int)):fr T D n p i j=true↔SP T D y u (eH p i j)∧dK T D y u=1:=by
 have hch:=h.ch hij hj hu hy
 have ha:=h.aI
 obtain⟨u',hu',huN⟩:=cq h.valid h.node ha i (by omega)
 obtain⟨y',hy',hyN⟩:=cq h.valid h.node ha j hj
 have e1:u'=u:=by omega
 have e2:y'=y:=by omega
 subst e1
 subst e2
 have hne:cc T D (u':Int) (y':Int)=0:=by
  unfold cc
  rw[if_pos (tF h.valid h.fits hyN),aV.2 ⟨by omega,huN⟩]
  rfl
 unfold fr fy
 rw[hu,hy,Int.toNat_natCast,Int.toNat_natCast,BO T p hij,hne]
 simp only[decide_true,Bool.true_and,Bool.and_eq_true,decide_eq_true_eq]
 constructor
 ·rintro⟨h1,h2⟩;exact⟨hch.sp h.valid hyN h1,h2⟩
 ·rintro⟨h1,h2⟩;exact⟨(h1.cost h.valid hyN).1,h2⟩
theorem Fh(h:pA T D n p){i j:Nat}(hij:i≤j)(hj:j≤p.length)(hc:fr T D n p i j=true):(j:Int) - i<T.nodes:=by
 have ha:=h.aI
 obtain⟨u,hu,huN⟩:=cq h.valid h.node ha i (by omega)
 obtain⟨y,hy,hyN⟩:=cq h.valid h.node ha j hj
 have:=((lV h hij hj hu hy).1 hc).1.Cq h.valid hyN
 rw[nX p hij hj]at this
 omega
end
def th(e:Int)(l:List b7):PV:=.tuple [cI (if e=0 then l else []),num e]
def uW(l:List b7):Option cT:=some (.row 103 2 l.length (eL l))
theorem Aq(l:List b7):kG (uW l):=fun b hb=>by cases hb;exact(inferInstance:aJ (eL l))
theorem xx(T:ai)(D:List Bool)(p:List Int)(n:Int)(hp:p.length≤1000)(hlk:T.af.length≤256):bT Tryz.prog 111 [aP T,aY D,aw p,num n] [] (fun r σ'=>∃x,r= .tuple [x,num (fA T D n p)]∧(fA T D n p=0→x= .ptr 4 0∧σ'=BS T D p (ui T n p) (tv T p) [] [])):=
 bT.mono (xk T D p n hp hlk) fun r σ' h=>by
  rcases h with⟨he,rfl⟩|⟨he,rfl,rfl⟩
  ·exact⟨_,rfl,fun h=>absurd h he⟩
  ·exact⟨_,by rw[he],fun _=>⟨rfl,rfl⟩⟩
set_option maxHeartbeats 2000000 in
theorem Ak(T:ai)(D:List Bool)(p:List Int)(n:Int)(hp:p.length≤1000)(hlk:T.af.length≤256)(h12:T.nodes≤12):Can Tryz.prog 54 [aP T,aY D,aw p,num n] (· =th (fA T D n p) (iE T D n p)):=by
  refine aE Tryz.func54 rfl Tryz.ntmps54 rfl<|ab (.a 3 rfl<|.k [1,2,3,4] rfl)<|zt ?_
  refine aQ<|au 4 rfl<|cS rfl rfl (bT.mono (xx T D p n hp hlk) (fun r σ' h=>?_))
  obtain⟨x,rfl,hx⟩:=h
  refine au 5 rfl<|aH [2,4,10,11] rfl ?_
  refine aj<|ab (.a 2 rfl<|.k [2,4,10,11,24] rfl)<|ah rfl (fun hc=>?_) (fun hc=>?_)
  · have he:fA T D n p≠0:=tt hc
    exact ab (.a 3 rfl<|.k [8,9] rfl)<|aq<|⟨_,_,ay.of rfl,aB.bG (an.cons aB.bZ (an.cons aB.pure an.nil)),by unfold th;rw[if_neg he];rfl⟩
  · have he:fA T D n p=0:=Classical.byContradiction (ff hc)
    obtain⟨rfl,rfl⟩:=hx he
    have hF:=D7 he
    have hv:=hF.valid
    have hS:=aK hv
    have hN:=hS.nodes
    have ha:=hF.aI
    obtain⟨N,hNN⟩:∃N:Nat,T.nodes=(N:Int):=⟨T.nodes.toNat,by omega⟩
    rw[he]
    clear hc
    refine ak<|ab (.a 1 rfl<|.k [2,4,10,12] rfl)<|gQ 12 103 2 rfl ?_
    refine ab (.a 1 rfl<|.k [2,4,10,12,13] rfl)<|aj<|zB ?_
    refine aj<|av<|ft [2,4,10,12,13] rfl<|br (fun r st=>∃(l:List b7) (i f:Nat) (dm:List (Int×PV)) (um:List ((Int×Int)×PV)),i≤p.length∧p.length - i≤f∧l.length≤i∧r=p.length - i∧iE T D n p=l++ik T D n p f i∧jU T D dm∧ke T D um∧st=⟨[(2,aw p),(4,.aX (bx T) 0),(10,.ptr 4 0),(12,.own 5),(13,num i)],BS T D p (ui T n p) (tv T p) dm um++[uW l]⟩) p.length ⟨[],0,p.length,[],[],by omega,by omega,by simp,by omega,rfl,(fun _ _ h=>by cases h),(fun _ _ h=>by cases h),rfl⟩ ?_
    rintro r st ⟨l,i,f,dm,um,hi,hif,hli,rfl,hl,hdm,hum,rfl⟩
    refine aj<|ab (.a 4 rfl<|.k [2,4,10,12,13,29] rfl)<|ah rfl (fun h1=>?_) (fun h1=>?_)
    · have hlt:i<p.length:=by have:=tt h1;omega
      refine ak<|av<|aj ?_
      obtain⟨m,hm⟩:∃m:Nat,min (p.length:Int) ((i:Int)+(N:Int) - 1)=(m:Int):=⟨(min (p.length:Int) ((i:Int)+(N:Int) - 1)).toNat,by omega⟩
      have hfar:∀k,m<k→k≤p.length→fr T D n p i k=false:=fun k h2 h3=>by
        cases hcv:fr T D n p i k with
        |false=>rfl
        |true=>
          have:=Fh hF (i:=i) (j:=k) (by omega) h3 hcv
          omega
      refine ab (.a 4 rfl<|.v (aN rfl ((show some (num T.nodes)=some (num (N:Int)) by rw[hNN]))) rfl<|.v (aS rfl) rfl<|.v (aS rfl) rfl<|.v (zS rfl rfl rfl (hm)) rfl<|.a 1 rfl<|.k [2,4,10,12,13,14] rfl)<|av<|ft [2,4,10,12,13,14] rfl<|br (fun r st=>∃(j:Nat) (dm:List (Int×PV)) (um:List ((Int×Int)×PV)),i≤j∧j≤p.length∧r=j∧(∀k,j<k→k≤p.length→fr T D n p i k=false)∧jU T D dm∧ke T D um∧st=⟨[(2,aw p),(4,.aX (bx T) 0),(10,.ptr 4 0),(12,.own 5),(13,num i),(14,num j)],BS T D p (ui T n p) (tv T p) dm um++[uW l]⟩) m ⟨m,dm,um,by omega,by omega,rfl,hfar,hdm,hum,rfl⟩ ?_
      clear hdm hum
      rintro r st ⟨j,dm,um,hij,hj,rfl,hno,hdm,hum,rfl⟩
      refine aj<|ab (.a 3 rfl<|.k [2,4,10,12,13,14,40] rfl)<|ah rfl (fun h2=>?_) (fun h2=>?_)
      · have hlt2:i<r:=by have:=tt h2;omega
        refine ak<|aj<|av<|aQ<|au 3 rfl<|cS rfl rfl (bT.mono (vW T D p n dm um (uW l) (Aq l) hv hF.fits h12 hF.node ha hp i r (by omega) hj hdm hum) (fun _ σ' h=>?_))
        obtain⟨rfl,dm1,um1,hdm1,hum1,rfl⟩:=h
        refine aH [2,4,10,12,13,14,46] rfl ?_
        refine ah rfl (fun h3=>?_) (fun h3=>?_)
        · have hgj:=uH T n p r hj
          have hl1:=tV T n p
          refine aQ<|au 6 rfl<|bE (aL (r) rfl) rfl<|bE (aN rfl ((aA _ r (by omega)).trans (by rw[hgj]))) rfl<|au 2 rfl<|cn (bA rfl (bI.rk.get rfl) rfl rfl rfl rfl (by unfold maxLen;omega)) rfl<|au 1 rfl ?_
          refine ep [0,1,2,3,4,6] (.c 2<|.c 4<|.c 10<|.c 12<|.c 14<|.nil) (.kept rfl (.row aD.pure)<|.kept rfl (.row aD.pure)<|.same (jU.pure hdm1) rfl<|.same (ke.pure hum1) rfl<|.kept rfl (.cells (aD.c<|aD.c<|aD.c<|aD.c<|aD.c<|aD.c<|aD.c<|aD.c<|aD.c<|aD.nil))<|.kept rfl (.fj rfl (qK _ ⟨1,cE T n (p.take r)⟩))<|.nil) rfl rfl (aZ ?_)
          refine ab (.a 2 rfl<|.k [2,4,10,12,13] rfl)<|bg ?_
          cases f with
          |zero=>omega
          |succ f=>
            first
              | (refine ⟨p.length - r, by omega, l ++ [⟨1, cE T n (p.take r)⟩], r, f, dm1, um1, by omega, by omega, by simp; omega, rfl, ?_, hdm1, hum1, ?_⟩
                 · rw[hl,jM hlt hlt2 hj h3 hno,List.append_assoc];rfl
                 · unfold uW;simp only[List.length_append,List.length_singleton];rfl)
              | (refine ⟨p.length - (i + 1), by omega, l ++ [⟨2, p.getD i 0⟩], i + 1, f, dm, um, by omega, by omega, by simp; omega, rfl, ?_, hdm, hum, ?_⟩
                 · rw[hl,lB hlt hno2,List.append_assoc];rfl
                 · unfold uW;simp only[List.length_append,List.length_singleton];rfl)
        · skip
          refine ak<|az (.a 1 rfl<|.v (aS rfl) rfl<|.a 1 rfl<|.k [2,4,10,12,13,14] rfl) ?_
          refine⟨r - 1,by omega,r - 1,dm1,um1,by omega,by omega,rfl,fun k h4 h5=>?_,hdm1,hum1,?_⟩
          · by_cases e:k=r
            · rw[e];exact h3
            · exact hno k (by omega) h5
          · rw[show((r - 1:Nat):Int)=(r:Int) - 1 by omega]
      · have hno2:∀k,i<k→k≤p.length→fr T D n p i k=false:=fun k h3 h4=>hno k (by have:=ff h2;omega) h4
        refine bg<|aQ<|au 3 rfl<|bE (aL (i) rfl) rfl<|bE (aN rfl (aA _ i hlt)) rfl<|au 2 rfl<|cn (bA rfl (bI.rk.get rfl) rfl rfl rfl rfl (by unfold maxLen;omega)) rfl<|au 1 rfl ?_
        refine ep [0,1,2,3,4,6] (.c 2<|.c 4<|.c 10<|.c 12<|.c 13<|.nil) (.kept rfl (.row aD.pure)<|.kept rfl (.row aD.pure)<|.same (jU.pure hdm) rfl<|.same (ke.pure hum) rfl<|.kept rfl (.cells (aD.c<|aD.c<|aD.c<|aD.c<|aD.c<|aD.c<|aD.c<|aD.c<|aD.c<|aD.nil))<|.kept rfl (.fj rfl (qK _ ⟨2,p.getD i 0⟩))<|.nil) rfl rfl (aZ ?_)
        refine az (.a 1 rfl<|.v (aS rfl) rfl<|.a 1 rfl<|.k [2,4,10,12,13] rfl) ?_
        cases f with
        |zero=>omega
        |succ f=>
          first
            | (refine ⟨p.length - r, by omega, l ++ [⟨1, cE T n (p.take r)⟩], r, f, dm1, um1, by omega, by omega, by simp; omega, rfl, ?_, hdm1, hum1, ?_⟩
               · rw[hl,jM hlt hlt2 hj h3 hno,List.append_assoc];rfl
               · unfold uW;simp only[List.length_append,List.length_singleton];rfl)
            | (refine ⟨p.length - (i + 1), by omega, l ++ [⟨2, p.getD i 0⟩], i + 1, f, dm, um, by omega, by omega, by simp; omega, rfl, ?_, hdm, hum, ?_⟩
               · rw[hl,lB hlt hno2,List.append_assoc];rfl
               · unfold uW;simp only[List.length_append,List.length_singleton];rfl)
    · have hie:i=p.length:=by have:=ff h1;omega
      rw[nF f i (by omega),List.append_nil]at hl
      exact bg<|ab (.a 3 rfl<|.k [8,9] rfl)<|aq<|⟨_,_,ay.of rfl,aB.bG (an.cons (aB.ew rfl an.pure) (an.cons aB.pure an.nil)),by unfold th;rw[if_pos rfl,hl];rfl⟩
end PW
end Go.Proofs.YtnegbdpggideiaaGreatDoor
namespace Go.Proofs.YtnegbdpggideiaaGreatDoor
namespace PW
open Go.RowKit cB Mem Net
section
variable {T:ai} {D:List Bool} {d:Nat}
theorem zA(hv:ao T=true)(hd:(d:Int)<T.nodes):∀(K m:Nat),(m:Int)<T.nodes→0≤dN T D d m→dN T D d m≤K→dK T D d m≠1→∃p q,SP T D d m p∧SP T D d m q∧p≠q
 |K,m,hmN,h0,hK,hc=>by
  by_cases hmd:m=d
  ·subst hmd;exact absurd (nh m) hc
  ·obtain⟨k,hk⟩:=jo (D:=D) hv hmN hd hmd h0
   have hmem:=eU hk ((aK hv).cost k hk.fx).1
   cases hx:bz T D m d with
   |nil=>rw[hx]at hmem;cases hmem
   |cons a l=>
    obtain⟨b,rfl,hb⟩:=cP (T:=T) (D:=D) (n:=m) (d:=d) (a:=a) (by rw[hx];simp)
    obtain⟨x,hxh,hxN⟩:=dB hv hb.fx
    have gx:=hb.dN hxh
    have cx:=(aK hv).cost b hb.fx
    cases l with
    |nil=>
     cases K with
     |zero=>omega
     |succ K=>
      have hcx:dK T D d x≠1:=fun h=>hc (yA hv hd hmN hmd hx hxh h)
      obtain⟨p,q,h1,h2,h3⟩:=zA hv hd K x hxN gx.1 (by omega) hcx
      exact⟨b::p,b::q,.cons hb hxh h1,.cons hb hxh h2,fun e=>h3 (List.cons.inj e).2⟩
    |cons a2 l=>
     obtain⟨b2,rfl,hb2⟩:=cP (T:=T) (D:=D) (n:=m) (d:=d) (a:=a2) (by rw[hx];simp)
     obtain⟨x2,hxh2,hxN2⟩:=dB hv hb2.fx
     have gx2:=hb2.dN hxh2
     refine⟨b::cg T D x d,b2::cg T D x2 d,.cons hb hxh (eo hv hd hxN gx.1),.cons hb2 hxh2 (eo hv hd hxN2 gx2.1),fun e=>?_⟩
     have he:=(List.cons.inj e).1
     have hlt:=kX T D m d
     rw[hx]at hlt
     have:=(List.pairwise_cons.1 hlt).1 (b2:Int) (by simp)
     omega
theorem Ch.append{e n:Nat}{p q:List Int}(h:Ch T D e n p)(hq:Ch T D d e q)(ho:q=[]∨cR T e=false):Ch T D d n (p++q):=by
 induction h with
 |nil=>exact hq
 | @cons n a m p ha ht hu hm hov hp ih=>
  refine .cons ha ht hu hm ?_ ih
  rcases hov with h|h
  ·subst h
   have:=hp.to rfl
   subst this
   rcases ho with h|h
   ·subst h;exact .inl rfl
   ·exact .inr h
  ·exact .inr h
theorem SP.suffix(hv:ao T=true)(hd:(d:Int)<T.nodes){e:Nat}:∀ {n:Nat} {p q:List Int},SP T D d n (p++q)→dK T D d n=1→Ch T D e n p→SP T D d e q∧dK T D d e=1
 |n,[],q,h,hc,hch=>by
  have:=hch.to rfl
  subst this
  exact⟨h,hc⟩
 |n,a::p,q,h,hc,hch=>by
  cases h with
  | @cons _ b m _ h1 hm hp=>
   cases hch with
   | @cons _ b2 m2 _ _ _ _ hm2 _ hch2=>
    have:m2=m:=by rw[hm]at hm2;omega
    subst this
    obtain⟨b3,h3,_,h4⟩:=ug hv hd (h1.node hv) h1.ne hc
    have e1:=eU h1 ((aK hv).cost b h1.fx).1
    rw[h3]at e1
    simp only[List.mem_singleton]at e1
    have:b3=b:=by omega
    subst this
    exact SP.suffix hv hd hp (h4 m2 hm) hch2
theorem SP.pre(hv:ao T=true)(hd:(d:Int)<T.nodes){e n:Nat}{p q:List Int}(he:(e:Int)<T.nodes)(h:SP T D d n (p++q))(hc:dK T D d n=1)(hp:Ch T D e n p)(hq:Ch T D d e q)(ho:q=[]∨cR T e=false):SP T D e n p∧dK T D e n=1:=by
 have hcost:=(h.cost hv hd).1
 rw[gu]at hcost
 have hle:=hp.le hv he
 have hn:=hp.node hv he
 have hspe:SP T D e n p:=by
  refine hp.sp hv he ?_
  have hs:=eo hv he hn hle.1
  have hc2:=(hs.cost hv he).1
  have:=((hs.ch).append hq ho).le hv hd
  rw[gu]at this
  omega
 refine⟨hspe,Classical.byContradiction fun h1=>?_⟩
 obtain⟨p1,p2,g1,g2,g3⟩:=zA hv he (dN T D e n).toNat n hn hle.1 (by omega) h1
 have key:∀r,SP T D e n r→SP T D d n (r++q):=fun r hr=>by
  refine((hr.ch).append hq ho).sp hv hd ?_
  rw[gu,hcost,←(hr.cost hv he).1,(hspe.cost hv he).1]
 have:=(key p1 g1).unique hv hd (key p2 g2) hc
 exact g3 (List.append_cancel_right this)
theorem Ch.JW{e:Nat}:∀ {n:Nat} {p q:List Int},Ch T D d n (p++q)→p≠[]→Ch T D e n p→q=[]∨cR T e=false
 |n,[],q,_,h,_=>absurd rfl h
 |n,a::p,q,h,_,hch=>by
  cases h with
  | @cons _ b m _ _ _ _ hm hov hp=>
   cases hch with
   | @cons _ b2 m2 _ _ _ _ hm2 _ hch2=>
    have:m2=m:=by rw[hm]at hm2;omega
    subst this
    cases p with
    |nil=>
     have:=hch2.to rfl
     subst this
     exact hov
    |cons c p=>exact Ch.JW hp (by simp) hch2
variable {n:Int} {p:List Int}
theorem kz(p:List Int){i j k:Nat}(h1:i≤j)(h2:j≤k):eH p i k=eH p i j++eH p j k:=by
 have e1:=iP p (show i≤k by omega)
 have e2:=iP p h2
 rw[iP p h1,List.append_assoc]at e2
 rw[e1]at e2
 exact List.append_cancel_left e2
theorem FJ(h:pA T D n p){i j i' j':Nat}(h1:i≤i')(h2:i'<j')(h3:j'≤j)(hj:j≤p.length)(hc:fr T D n p i j=true):fr T D n p i' j'=true:=by
 have ha:=h.aI
 have hv:=h.valid
 obtain⟨u,hu,huN⟩:=cq hv h.node ha i (by omega)
 obtain⟨y,hy,hyN⟩:=cq hv h.node ha j hj
 obtain⟨u',hu',huN'⟩:=cq hv h.node ha i' (by omega)
 obtain⟨y',hy',hyN'⟩:=cq hv h.node ha j' (by omega)
 obtain⟨c1,c2⟩:=(lV h (by omega) hj hu hy).1 hc
 rw[kz p h1 (show i'≤j by omega)]at c1
 obtain⟨c3,c4⟩:=c1.suffix hv hyN c2 (h.ch h1 (by omega) hu hu')
 rw[kz p (show i'≤j' by omega) h3]at c3
 have hp:=h.ch (show i'≤j' by omega) (by omega) hu' hy'
 have hq:=h.ch h3 hj hy' hy
 have ho:=c3.ch.JW (e:=y') (by
  intro e
  have:=nX p (show i'≤j' by omega) (by omega)
  rw[e]at this
  simp at this
  omega) hp
 exact(lV h (by omega) (by omega) hu' hy').2 (c3.pre hv hyN hyN' c4 hp hq ho)
end
end PW
end Go.Proofs.YtnegbdpggideiaaGreatDoor
namespace Go.Proofs.YtnegbdpggideiaaGreatDoor
namespace PW
open Go.RowKit cB Mem Net
section
variable {T:ai} {D:List Bool} {n:Int} {p:List Int}
theorem CR{i k:Nat}{a:Int}(h:a∈eH p i k):a∈p:=List.mem_of_mem_drop (List.mem_of_mem_take h)
theorem oZ(h:pA T D n p){i:Nat}(hi:i<p.length){x:Nat}(hx:cE T n (p.take i)=(x:Int)):bb T (p.getD i 0).toNat=(x:Int):=by
 have ha:=h.aI
 obtain⟨y,hy,hyN⟩:=cq h.valid h.node ha (i+1) hi
 have hch:=h.ch (i:=i) (j:=i+1) (by omega) hi hx hy
 have hp:eH p i (i+1)=[p.getD i 0]:=by
  unfold eH
  rw[drop_cons p i hi,show i+1 - i=1 by omega]
  rfl
 rw[hp]at hch
 generalize p.getD i 0=a at hch
 cases hch with
 |cons _ h2 _ _ _ _=>exact h2
end
section
variable {T:ai} {D:List Bool} {n:Int} {p:List Int}
end
end PW
end Go.Proofs.YtnegbdpggideiaaGreatDoor
namespace Go.Proofs.YtnegbdpggideiaaGreatDoor
namespace PW
open Go.RowKit cB Mem Net
def xu(T:ai)(s:b7)(n:Int):Int×Int:=if nT T s=false then(0,1) else if bn T n=false then(0,2) else if s.kind=1 then(s.num,0) else if s.kind=2 then(if bb T s.num.toNat≠n then(0,4) else(aT T s.num.toNat,0)) else(0,7)
theorem AX(l:List b7)(k:Nat)(h:k<l.length):∃s,l[k]? =some s∧l.drop k=s::l.drop (k+1):=⟨l[k],List.getElem?_eq_getElem h,List.drop_eq_getElem_cons h⟩
end PW
end Go.Proofs.YtnegbdpggideiaaGreatDoor
namespace Go.Proofs.YtnegbdpggideiaaGreatDoor
namespace PW
open Go.RowKit cB Mem Net
def mK(T:ai)(n:Int)(p:List Int)(x:Int):Nat→Nat→Nat
 |0,i=>i
 |f+1,i=>if cE T n (p.take i)=x then i else mK T n p x f (i+1)
noncomputable def jq(T:ai)(D:List Bool)(n:Int)(p:List Int)(i:Nat)(s:b7):Option Nat:=
 if s.kind=2∧i<p.length∧p.getD i 0=s.num then some (i+1)
 else if s.kind=1 then(if cE T n (p.take (mK T n p s.num (p.length - i) i))=s.num∧fr T D n p i (mK T n p s.num (p.length - i) i)=true then some (mK T n p s.num (p.length - i) i) else none)
 else none
noncomputable def Ho(T:ai)(D:List Bool)(n:Int)(p:List Int):Nat→List b7→Bool
 |i,[]=>decide (i=p.length)
 |i,s::l=>match jq T D n p i s with
  |some j=>Ho T D n p j l
  |none=>false
section
variable {T:ai} {D:List Bool} {n:Int} {p:List Int}
theorem yr(x:Int):∀f i,i≤mK T n p x f i∧mK T n p x f i≤i+f
 |0,i=>by simp[mK]
 |f+1,i=>by
  simp only[mK]
  split
  ·omega
  ·have:=yr x f (i+1);omega
theorem CI(x:Int):∀f i k,i≤k→k<mK T n p x f i→cE T n (p.take k)≠x
 |0,i,k,h1,h2=>by simp only[mK]at h2;omega
 |f+1,i,k,h1,h2=>by
  simp only[mK]at h2
  split at h2
  ·omega
  ·rename_i h3
   by_cases e:k=i
   ·subst e;exact h3
   ·exact CI x f (i+1) k (by omega) h2
theorem uj(x:Int):∀f i j,i≤j→j≤i+f→cE T n (p.take j)=x→(∀k,i≤k→k<j→cE T n (p.take k)≠x)→mK T n p x f i=j
 |0,i,j,h1,h2,_,_=>by simp only[mK];omega
 |f+1,i,j,h1,h2,h3,h4=>by
  simp only[mK]
  by_cases e:i=j
  ·subst e;rw[if_pos h3]
  ·rw[if_neg (h4 i (Nat.le_refl _) (by omega))]
   exact uj x f (i+1) j (by omega) (by omega) h3 (fun k h5 h6=>h4 k (by omega) h6)
theorem Ch.fin{d:Nat}{m:Nat}{q:List Int}(h:Ch T D d m q):cE T (m:Int) q=(d:Int):=by
 induction h with
 |nil=>rfl
 | @cons n a m p ha ht hu hm ho hp ih=>simp only[cE,Int.toNat_natCast,hm];exact ih
theorem oR(h:pA T D n p){i j:Nat}(hij:i≤j)(hj:j≤p.length)(hc:fr T D n p i j=true):mK T n p (cE T n (p.take j)) (p.length - i) i=j:=by
 have ha:=h.aI
 have hv:=h.valid
 refine uj _ _ _ _ hij (by omega) rfl fun k h1 h2 he=>?_
 obtain⟨u,hu,huN⟩:=cq hv h.node ha i (by omega)
 obtain⟨y,hy,hyN⟩:=cq hv h.node ha j hj
 obtain⟨z,hz,hzN⟩:=cq hv h.node ha k (by omega)
 have hzy:z=y:=by omega
 subst hzy
 obtain⟨c1,c2⟩:=(lV h hij hj hu hy).1 hc
 rw[kz p h1 (show k≤j by omega)]at c1
 obtain⟨c3,c4⟩:=c1.suffix hv hyN c2 (h.ch h1 (by omega) hu hz)
 have:=c3.self
 have hl:=nX p (show k≤j by omega) hj
 rw[this]at hl
 simp at hl
 omega
theorem jO{x y:Nat}(hv:ao T=true)(hf:bP T D=true)(hx:(x:Int)<T.nodes)(hy:(y:Int)<T.nodes):gv T D x y=if dN T D y x<0 then 11 else 0:=by
 have hne:cc T D (x:Int) (y:Int)=0:=by
  unfold cc
  rw[if_pos (tF hv hf hy),aV.2 ⟨by omega,hx⟩]
  rfl
 unfold gv;rw[if_pos hne];simp only[Int.toNat_natCast]
theorem vK{x y:Nat}(hv:ao T=true)(hf:bP T D=true)(hx:(x:Int)<T.nodes)(hy:(y:Int)<T.nodes):fy T D x y=true↔dK T D y x=1:=by
 have hne:cc T D (x:Int) (y:Int)=0:=by
  unfold cc
  rw[if_pos (tF hv hf hy),aV.2 ⟨by omega,hx⟩]
  rfl
 unfold fy
 rw[hne]
 simp
theorem Ir(h:pA T D n p){i j x y:Nat}(hij:i≤j)(hj:j≤p.length)(hx:cE T n (p.take i)=(x:Int))(hy:cE T n (p.take j)=(y:Int)):fr T D n p i j=true↔gv T D x y=0∧fy T D x y=true∧cg T D x y=eH p i j:=by
 have ha:=h.aI
 have hv:=h.valid
 obtain⟨x',hx',hxN⟩:=cq hv h.node ha i (by omega)
 obtain⟨y',hy',hyN⟩:=cq hv h.node ha j hj
 have e1:x'=x:=by omega
 have e2:y'=y:=by omega
 subst e1
 subst e2
 rw[lV h hij hj hx hy,jO hv h.fits hxN hyN,vK hv h.fits hxN hyN]
 constructor
 ·rintro⟨h1,h2⟩
  have h0:=(h1.cost hv hyN).2
  exact⟨by rw[if_neg (by omega)],h2,(eo hv hyN hxN h0).unique hv hyN h1 h2⟩
 ·rintro⟨h1,h2,h3⟩
  have h0:0≤dN T D y' x':=by
   split at h1
   ·omega
   ·omega
  exact⟨by rw[←h3];exact eo hv hyN hxN h0,h2⟩
theorem yb(h:pA T D n p):∀(f i:Nat),i≤p.length→p.length - i≤f→Ho T D n p i (ik T D n p f i)=true
 |f,i,hi,hf=>by
  by_cases hlt:i<p.length
  ·cases f with
   |zero=>omega
   |succ f=>
    cases ht:kI (fr T D n p i) i p.length with
    |none=>
     rw[lB hlt (fun k h1 h2=>jt _ ht k h1 h2)]
     simp only[Ho]
     have hst:jq T D n p i ⟨2,p.getD i 0⟩=some (i+1):=by unfold jq;rw[if_pos ⟨rfl,hlt,rfl⟩]
     rw[hst]
     exact yb h f (i+1) (by omega) (by omega)
    |some j=>
     obtain⟨t1,t2,t3,t4⟩:=nO _ _ ht
     rw[jM hlt t1 t2 t3 t4]
     simp only[Ho]
     have hst:jq T D n p i ⟨1,cE T n (p.take j)⟩=some j:=by
      unfold jq
      simp only
      rw[if_neg (by omega),if_pos trivial,oR h (by omega) t2 t3,if_pos ⟨rfl,t3⟩]
     rw[hst]
     exact yb h f j t2 (by omega)
  ·rw[nF f i (by omega)]
   simp only[Ho,decide_eq_true_eq]
   omega
theorem Fl:∀f i,(ik T D n p f i).length≤f:=fun f=>by
 induction f with
 |zero=>intro i;simp[ik]
 |succ f ih=>
  intro i
  simp only[ik]
  split
  ·split
   ·have:=ih ‹Nat›;simp only[List.length_cons];omega
   ·have:=ih (i+1);simp only[List.length_cons];omega
  ·simp
theorem wg(h:pA T D n p):fA T D n p=0:=by
 unfold fA
 have h2:fe T n p=0:=by unfold fe;rw[if_pos h.valid,if_pos h.node];exact h.walk
 rw[if_pos (by rw[h.valid,h.fits];rfl),if_pos h2,if_neg]
 intro e
 obtain⟨x,h3,h4⟩:=List.any_eq_true.1 e
 rw[h.up x h3]at h4
 cases h4
end
end PW
end Go.Proofs.YtnegbdpggideiaaGreatDoor
namespace Go.Proofs.YtnegbdpggideiaaGreatDoor
namespace PW
open Go.RowKit cB Mem Net
def jz(D:List Bool)(q:List Int):Bool:= !q.any fun a=>aM D a.toNat
theorem oh{D:List Bool}{q:List Int}:jz D q=true↔∀a∈q,aM D a.toNat=false:=by
 unfold jz
 rw[Bool.not_eq_true',List.any_eq_false]
 constructor
 ·intro h a ha
  have:=h a ha
  simpa using this
 ·intro h a ha
  rw[h a ha]
  simp
theorem BX{D:List Bool}{q:List Int}{a:Int}(ha:a∈q)(h:aM D a.toNat=true):jz D q=false:=by
 unfold jz
 rw[Bool.not_eq_false',List.any_eq_true]
 exact⟨a,ha,h⟩
theorem HU(T:ai)(D:List Bool)(q:List Int)(hf:bP T D=true)(ha:∀a∈q,fB T a=true)(hq:q.length≤1000):Can Tryz.prog 121 [aY D,aw q] (· =flag (jz D q)):=by
 refine aE Tryz.func121 rfl Tryz.ntmps121 rfl<|ab (.a 1 rfl<|.k [0,1] rfl)<|aj<|ab (.a 3 rfl<|.k [0,7,8,9] rfl)<|av<|ft [0,7,8,9] rfl<|br (fun r st=>∃k:Nat,k≤q.length∧r=q.length - k∧(∀a∈q.take k,aM D a.toNat=false)∧st=⟨[(0,aY D),(7,aw q),(8,num q.length),(9,num k)],[]⟩) q.length ⟨0,by omega,by omega,by simp,rfl⟩ ?_
 rintro r st ⟨k,hk,rfl,hdn,rfl⟩
 refine ab (.a 1 rfl<|.k [0,7,8,9,10] rfl)<|aj<|ah rfl (fun hy=>?_) (fun hy=>?_)
 ·have hlt:k<q.length:=by have:=tt hy;omega
  have hmem:=bX (d:=0) hlt
  have hab:=ha _ hmem
  simp only[fB,decide_eq_true_eq]at hab
  obtain⟨a,hae⟩:∃a:Nat,q.getD k 0=(a:Int):=⟨(q.getD k 0).toNat,by omega⟩
  have hD:D.length=0∨a<D.length:=by simp only[bP,decide_eq_true_eq]at hf;omega
  refine ak<|aj<|av<|ab (.v (aL (k) rfl) rfl<|.v (aN rfl ((aA q k hlt).trans (by rw[hae]))) rfl<|.a 1 rfl<|.k [0,6,7,8,9] rfl)<|ab (.a 2 rfl<|.c rfl (je D a hD) rfl<|.k [0,7,8,9,15] rfl)<|ah rfl (fun hz=>?_) (fun hz=>?_)
  ·have he:=BX (D:=D) hmem (by rw[hae];exact hz)
   exact ab (.a 1 rfl<|.k [4] rfl)<|aq<|⟨_,_,ay.of rfl,aB.pure,by rw[he];rfl⟩
  ·skip
   refine ak<|az (.v (aS rfl) rfl<|.a 1 rfl<|.k [0,7,8,9] rfl) ?_
   refine⟨q.length - (k+1),by omega,k+1,by omega,rfl,fun x hx=>?_,rfl⟩
   rw[dH q k 0 hlt]at hx
   rcases List.mem_append.1 hx with h|h
   ·exact hdn x h
   ·simp only[List.mem_singleton]at h;rw[h,hae];exact hz
 ·have hke:k=q.length:=by have:=ff hy;omega
  subst hke
  rw[List.take_length]at hdn
  exact bg<|ab (.a 1 rfl<|.k [4] rfl)<|aq<|⟨_,_,ay.of rfl,aB.pure,by rw[oh.2 hdn];rfl⟩
theorem DH{T:ai}{D:List Bool}{n:Int}{p:List Int}(hvf:(ao T&&bP T D)=true)(h:fe T n p≠0):fA T D n p=fe T n p:=by unfold fA;rw[if_pos hvf,if_neg h]
theorem Bi{T:ai}{D:List Bool}{n:Int}{p:List Int}(hvf:(ao T&&bP T D)=true)(h:fe T n p=0):fA T D n p=if jz D p=true then 0 else 7:=by
 unfold fA jz
 rw[if_pos hvf,if_pos h]
 cases p.any fun a=>aM D a.toNat<;>rfl
theorem yp(T:ai)(D:List Bool)(p:List Int)(n:Int)(hp:p.length≤1000)(hlk:T.af.length≤256):Can Tryz.prog 63 [aP T,aY D,aw p,num n] (· =num (fA T D n p)):=by
 obtain⟨q1,hq1⟩:∃q,ao T=q:=⟨_,rfl⟩
 obtain⟨q2,hq2⟩:∃q,bP T D=q:=⟨_,rfl⟩
 refine aE Tryz.func63 rfl Tryz.ntmps63 rfl<|ab (.a 2 rfl<|.k [1,2,3,4] rfl)<|aj<|bp 20 (.raw (.bool ((!q1)|| !q2))) [1,2,3,4] rfl ?_ ?_
 ·refine .a 1 rfl<|.c rfl (hq1▸eh T) rfl<|.a 2 rfl<|?_
  cases q1
  ·exact .a 5 rfl<|.k [20,1,2,3,4] rfl
  ·exact .a 2 rfl<|.c rfl (hq2▸kY T D (by omega)) rfl<|.a 2 rfl<|.k [20,1,2,3,4] rfl
 refine ah rfl (fun hc=>?_) (fun hc=>?_)
 ·have he:fA T D n p=1:=by unfold fA;rw[hq1,hq2];cases q1<;>cases q2<;>first|rfl|cases hc
  exact ab (.a 1 rfl<|.k [8] rfl)<|aq<|⟨_,_,ay.of rfl,aB.pure,by rw[he];rfl⟩
 ·have hv:ao T=true:=by rw[hq1];cases q1;cases hc;rfl
  have hf:bP T D=true:=by rw[hq2];cases q2;cases q1<;>cases hc;rfl
  have hvf:(ao T&&bP T D)=true:=by rw[hv,hf];rfl
  refine ak<|aj<|ab (.a 3 rfl<|.c rfl (uN T n p (by omega)) rfl<|.a 7 rfl<|.k [1,2,11] rfl)<|ab (.a 2 rfl<|.k [1,2,11,30] rfl)<|ah rfl (fun hx=>?_) (fun hx=>?_)
  ·have hx1:fe T n p≠0:=tt hx
   exact ab (.a 2 rfl<|.k [8] rfl)<|aq<|⟨_,_,ay.of rfl,aB.pure,by rw[DH hvf hx1];rfl⟩
  ·have hx1:fe T n p=0:=Classical.byContradiction (ff hx)
   obtain⟨_,hn,hw⟩:=mI hx1
   have ha:=lJ hw
   rw[Bi hvf hx1]
   refine ak<|aj<|ab (.a 2 rfl<|.c rfl (HU T D p hf ha hp) rfl<|.a 1 rfl<|.k [35] rfl)<|ah rfl (fun hy=>?_) (fun hy=>?_)
   ·have hy1:jz D p=false:=by simpa using hy
    exact ab (.a 1 rfl<|.k [8] rfl)<|aq<|⟨_,_,ay.of rfl,aB.pure,by rw[hy1];rfl⟩
   ·have hy1:jz D p=true:=by simpa using hy
    exact ak<|ab (.a 1 rfl<|.k [8] rfl)<|aq<|⟨_,_,ay.of rfl,aB.pure,by rw[hy1];rfl⟩
section
variable {T:ai} {D:List Bool} {n:Int} {p:List Int}
theorem j8(T:ai):bP T []=true:=by simp[bP]
theorem pA.bare(h:pA T D n p):pA T [] n p:=⟨h.valid,j8 T,h.node,h.walk,fun a _=>by simp[aM]⟩
theorem Jr{n:Int}{p:List Int}(h:fA T D n p=0):fA T [] n p=0:=wg (D7 h).bare
end
theorem Ar(T:ai)(D:List Bool)(p:List Int)(n:Int)(hp:p.length≤1000)(hlk:T.af.length≤256)(h12:T.nodes≤12):Can Tryz.prog 18 [aP T,aY D,aw p,num n] (· =th (fA T D n p) (iE T [] n p)):=by
 refine aE Tryz.func18 rfl Tryz.ntmps18 rfl<|ab (.a 3 rfl<|.k [1,2,3,4] rfl)<|aj<|ab (.a 4 rfl<|.c rfl (yp T D p n hp hlk) rfl<|.a 1 rfl<|.k [2,3,4,10] rfl)<|ab (.a 2 rfl<|.k [2,3,4,10,17] rfl)<|ah rfl (fun hc=>?_) (fun hc=>?_)
 ·have he:fA T D n p≠0:=tt hc
  exact ab (.a 3 rfl<|.k [8,9] rfl)<|aq<|⟨_,_,ay.of rfl,aB.bG (an.cons aB.bZ (an.cons aB.pure an.nil)),by unfold th;rw[if_neg he];rfl⟩
 ·have he:fA T D n p=0:=Classical.byContradiction (ff hc)
  have hl:=Ak T [] p n hp hlk h12
  rw[Jr he]at hl
  rw[he]
  exact ak<|ab (.a 3 rfl<|.v (Dy rfl (an.cons aB.pure<|an.cons aB.bZ<|an.cons aB.pure<|an.cons aB.pure an.nil) (hl)) rfl<|.a 4 rfl<|.k [8,9] rfl)<|aq<|⟨_,_,ay.of rfl,aB.pure,rfl⟩
end PW
end Go.Proofs.YtnegbdpggideiaaGreatDoor
namespace Go.Proofs.YtnegbdpggideiaaGreatDoor
namespace PW
open Go.RowKit cB Mem Net
def G7(K:St→Prop):Exit→St→Prop
 | .normal,s=>K s
 |_,_=>False
theorem uF{P:Program}{N L:Nat}{x y:Code}{st:St}{Q:Exit→St→Prop}{Q1:St→Prop}(h:W P N L x st (G7 Q1))(k:∀s,Q1 s→W P N L y s Q):W P N L (.seq x y) st Q:=
 aj (h.mono fun e s hq=>by
  cases e<;>first|exact k s hq|exact hq.elim)
section
variable {T:ai} {D:List Bool} {n:Int} {p:List Int}
end
end PW
end Go.Proofs.YtnegbdpggideiaaGreatDoor
namespace Go.Proofs.YtnegbdpggideiaaGreatDoor
namespace PW
open Go.RowKit cB Mem Net
section
variable {T:ai} {D:List Bool}
theorem Ch.aI{d m:Nat}{q:List Int}(h:Ch T D d m q):∀a∈q,fB T a=true:=by
 induction h with
 |nil=>intro a ha;cases ha
 | @cons n a m p ha ht hu hm ho hp ih=>
  intro b hb
  rcases List.mem_cons.1 hb with rfl|hb
  ·exact dc.2 ⟨by omega,by omega⟩
  ·exact ih b hb
theorem lN{x y:Int}(h:gv T D x y=0):∃a b:Nat,x=(a:Int)∧y=(b:Int)∧(a:Int)<T.nodes∧(b:Int)<T.nodes∧ao T=true∧SP T D b a (cg T D x.toNat y.toNat):=by
 unfold gv at h
 split at h
 ·rename_i he
  obtain⟨hv,hf,hn,hd⟩:=fm he
  rw[aV]at hn hd
  obtain⟨a,rfl⟩:=Int.eq_ofNat_of_zero_le hn.1
  obtain⟨b,rfl⟩:=Int.eq_ofNat_of_zero_le hd.1
  refine⟨a,b,rfl,rfl,hn.2,hd.2,hv,?_⟩
  simp only[Int.toNat_natCast]at h ⊢
  exact eo hv hd.2 hn.2 (by split at h<;>omega)
 ·rename_i he
  exact absurd h he
end
theorem Ii(l:List b7)(k:Nat)(s:b7)(h:l[k]? =some s):(eL l)[k*2+0]? =some (num s.kind):=uM l k 0 s h (by omega)
theorem H0(l:List b7)(k:Nat)(s:b7)(h:l[k]? =some s):(eL l)[k*2+1]? =some (num s.num):=uM l k 1 s h (by omega)
instance (T:ai) (n:Int) (l:List Int):la (pa T n l):=by unfold pa;infer_instance
end PW
end Go.Proofs.YtnegbdpggideiaaGreatDoor
namespace Go.Proofs.YtnegbdpggideiaaGreatDoor
namespace PW
open Go.RowKit cB Mem Net
noncomputable def I6(T:ai)(D:List Bool)(x y:Int):Bool:=(((ao T&&bP T D)&& !decide (x=y))&&fy T [] x y)&&jz D (cg T [] x.toNat y.toNat)
theorem uc{T:ai}{D:List Bool}{x y:Int}(h:fy T D x y=true):gv T D x y=0:=by
 unfold fy at h
 rw[Bool.and_eq_true,decide_eq_true_eq,decide_eq_true_eq]at h
 obtain⟨h1,h2⟩:=h
 obtain⟨hv,hf,hn,hd⟩:=fm h1
 rw[aV]at hn hd
 obtain⟨a,rfl⟩:=Int.eq_ofNat_of_zero_le hn.1
 obtain⟨b,rfl⟩:=Int.eq_ofNat_of_zero_le hd.1
 simp only[Int.toNat_natCast]at h2
 unfold gv
 rw[if_pos h1,if_neg]
 simp only[Int.toNat_natCast]
 intro h0
 rw[ze hv hd.2 hn.2 h0]at h2
 omega
section
variable {T:ai} {D:List Bool} {n:Int} {p:List Int}
theorem qv(h:pA T D n p){i k x y:Nat}(hik:i<k)(hk:k≤p.length)(hx:cE T n (p.take i)=(x:Int))(hy:cE T n (p.take k)=(y:Int)):(I6 T D x y&&mz (cg T [] x y) (eH p i k))=fr T [] n p i k:=by
 have hb:=h.bare
 have ha:=h.aI
 have hv:=h.valid
 obtain⟨x',hx',hxN⟩:=cq hv h.node ha i (by omega)
 obtain⟨y',hy',hyN⟩:=cq hv h.node ha k hk
 have e1:x'=x:=by omega
 have e2:y'=y:=by omega
 subst e1
 subst e2
 rw[Bool.eq_iff_iff,Ir hb (by omega) hk hx hy]
 unfold I6 mz
 simp only[Int.toNat_natCast,Bool.and_eq_true,Bool.not_eq_true',decide_eq_true_eq,decide_eq_false_iff_not]
 constructor
 ·rintro⟨⟨⟨_,h3⟩,h4⟩,h5⟩
  exact⟨uc h3,h3,h5⟩
 ·rintro⟨h1,h2,h3⟩
  refine⟨⟨⟨⟨⟨hv,h.fits⟩,fun e=>?_⟩,h2⟩,?_⟩,h3⟩
  ·have e2:x'=y':=by omega
   subst e2
   rw[jO hv (j8 T) hxN hxN]at h1
   have hsp:=eo (D:=[]) hv hxN hxN (by split at h1<;>omega)
   have h6:=hsp.self
   rw[h6]at h3
   have:=nX p (show i≤k by omega) hk
   rw[←h3]at this
   simp at this
   omega
  ·rw[h3,oh]
   exact fun a ha=>h.up a (CR ha)
end
section
variable {P:Program} {σ:cd} {t:bY} {o:Oper}
end
end PW
end Go.Proofs.YtnegbdpggideiaaGreatDoor
namespace Go.Proofs.YtnegbdpggideiaaGreatDoor
namespace PW
open Go.RowKit cB Mem Net
noncomputable def yI(T:ai)(n:Int)(p:List Int)(x:Int)(i:Nat):Nat→Nat→Option Nat
 |0,_=>none
 |f+1,j=>if cE T n (p.take j)=x∧fr T [] n p i j=true then some j else yI T n p x i f (j+1)
noncomputable def qG(T:ai)(n:Int)(p:List Int)(i:Nat)(s:b7):Option Nat:=
 if s.kind=2∧i<p.length∧p.getD i 0=s.num then some (i+1)
 else if s.kind=1 then yI T n p s.num i (p.length - i) (i+1)
 else none
noncomputable def IC(T:ai)(n:Int)(p:List Int):Nat→List b7→Bool
 |i,[]=>decide (i=p.length)
 |i,s::l=>match qG T n p i s with
  |some j=>IC T n p j l
  |none=>false
def rG(T:ai):Int→List b7→Bool
 |_,[]=>true
 |x,s::l=>if s.kind=1∧s.num=x then false else rG T (xu T s x).1 l
section
variable {T:ai} {n:Int} {p:List Int}
theorem su{x:Int}{i:Nat}:∀(f j k:Nat),yI T n p x i f j=some k→j≤k∧k<j+f∧cE T n (p.take k)=x∧fr T [] n p i k=true∧∀m,j≤m→m<k→¬(cE T n (p.take m)=x∧fr T [] n p i m=true)
 |0,j,k,h=>by simp[yI]at h
 |f+1,j,k,h=>by
  simp only[yI]at h
  split at h
  ·rename_i h1;cases h;exact⟨Nat.le_refl _,by omega,h1.1,h1.2,fun m h2 h3=>by omega⟩
  ·rename_i h1
   obtain⟨a,b,c,d,e⟩:=su f (j+1) k h
   refine⟨by omega,by omega,c,d,fun m h2 h3=>?_⟩
   by_cases hm:m=j
   ·subst hm;exact h1
   ·exact e m (by omega) h3
theorem zP{x:Int}{i:Nat}:∀(f j k:Nat),j≤k→k<j+f→cE T n (p.take k)=x→fr T [] n p i k=true→(∀m,j≤m→m<k→¬(cE T n (p.take m)=x∧fr T [] n p i m=true))→yI T n p x i f j=some k
 |0,j,k,h1,h2,_,_,_=>by omega
 |f+1,j,k,h1,h2,h3,h4,h5=>by
  simp only[yI]
  by_cases e:j=k
  ·subst e;rw[if_pos ⟨h3,h4⟩]
  ·rw[if_neg (h5 j (Nat.le_refl _) (by omega))]
   exact zP f (j+1) k (by omega) (by omega) h3 h4 (fun m h6 h7=>h5 m (by omega) h7)
theorem qN(h:pA T [] n p){i:Nat}(hi:i≤p.length)(s:b7)(j:Nat):qG T n p i s=some j↔jq T [] n p i s=some j∧¬(s.kind=1∧s.num=cE T n (p.take i)):=by
 unfold qG jq
 by_cases h1:s.kind=2∧i<p.length∧p.getD i 0=s.num
 ·rw[if_pos h1,if_pos h1]
  constructor
  ·intro e;exact⟨e,fun e2=>by omega⟩
  ·intro e;exact e.1
 ·rw[if_neg h1,if_neg h1]
  by_cases h2:s.kind=1
  ·rw[if_pos h2,if_pos h2]
   constructor
   ·intro e
    obtain⟨a,b,c,d,_⟩:=su _ _ _ e
    have hf:=oR h (show i≤j by omega) (by omega) d
    rw[c]at hf
    rw[hf,if_pos ⟨c,d⟩]
    refine⟨rfl,fun e2=>?_⟩
    have:=uj (T:=T) (n:=n) (p:=p) s.num (p.length - i) i i (Nat.le_refl _) (by omega) e2.2.symm (fun k h3 h4=>by omega)
    omega
   ·rintro⟨e1,e2⟩
    split at e1
    ·rename_i h3
     simp only[Option.some.injEq]at e1
     have hge:=yr (T:=T) (n:=n) (p:=p) s.num (p.length - i) i
     have hno:=CI (T:=T) (n:=n) (p:=p) s.num (p.length - i) i
     rw[e1]at h3 hge hno
     have hne:i≠j:=fun e=>e2 ⟨h2,by rw[e];exact h3.1.symm⟩
     exact zP _ _ _ (by omega) (by omega) h3.1 h3.2 (fun m h4 h5 h6=>hno m (by omega) h5 h6.1)
    ·cases e1
  ·rw[if_neg h2,if_neg h2]
   simp
theorem step_end(h:pA T [] n p){i j:Nat}(hi:i≤p.length){s:b7}(hst:jq T [] n p i s=some j):(xu T s (cE T n (p.take i))).1=cE T n (p.take j)∧(xu T s (cE T n (p.take i))).2=0∧j≤p.length:=by
 have ha:=h.aI
 have hv:=h.valid
 obtain⟨x,hx,hxN⟩:=cq hv h.node ha i hi
 have hnb:bn T (x:Int)=true:=aV.2 ⟨by omega,hxN⟩
 rw[hx]
 have hss:=hst
 unfold jq at hst
 split at hst
 ·rename_i h1
  cases hst
  have hab:=ha _ (bX (d:=0) h1.2.1)
  have htl:=oZ h h1.2.1 hx
  have hed:=gA T n p i h1.2.1
  rw[h1.2.2]at hab htl hed
  have hsg:nT T s=true:=by unfold nT;rw[if_neg (by omega),if_pos h1.1];exact hab
  have hes:xu T s x=(cE T n (p.take (i+1)),0):=by
   unfold xu
   rw[if_neg (by rw[hsg];simp),if_neg (by rw[hnb];simp),if_neg (by omega),if_pos h1.1,if_neg (by rw[htl];simp),hed]
  rw[hes]
  exact⟨rfl,rfl,h1.2.1⟩
 ·split at hst
  ·rename_i h2
   split at hst
   ·rename_i h3
    simp only[Option.some.injEq]at hst
    have hge:=yr (T:=T) (n:=n) (p:=p) s.num (p.length - i) i
    rw[hst]at h3 hge
    obtain⟨y,hy,hyN⟩:=cq hv h.node ha j (by omega)
    have hsy:s.num=(y:Int):=by rw[←h3.1];exact hy
    have hsg:nT T s=true:=by unfold nT;rw[if_pos h2,hsy];exact aV.2 ⟨by omega,hyN⟩
    have hes:xu T s x=(s.num,0):=by
     unfold xu
     rw[if_neg (by rw[hsg];simp),if_neg (by rw[hnb];simp),if_pos h2]
    rw[hes]
    exact⟨h3.1.symm,rfl,by omega⟩
   ·cases hst
  ·cases hst
theorem DM(h:pA T [] n p):∀(l:List b7) (i:Nat),i≤p.length→IC T n p i l=(Ho T [] n p i l&&rG T (cE T n (p.take i)) l)
 | [],i,hi=>by simp[IC,Ho,rG]
 |s::l,i,hi=>by
  simp only[IC,Ho,rG]
  cases hX:jq T [] n p i s with
  |none=>
   have hP:qG T n p i s=none:=by
    cases hP:qG T n p i s with
    |none=>rfl
    |some j=>have:=((qN h hi s j).1 hP).1;rw[hX]at this;cases this
   rw[hP]
   rfl
  |some j=>
   obtain⟨e1,e2,e3⟩:=step_end h hi hX
   by_cases hd:s.kind=1∧s.num=cE T n (p.take i)
   ·have hP:qG T n p i s=none:=by
     cases hP:qG T n p i s with
     |none=>rfl
     |some j=>exact absurd hd ((qN h hi s j).1 hP).2
    rw[hP,if_pos hd]
    simp
   ·rw[(qN h hi s j).2 ⟨hX,hd⟩,if_neg hd,e1]
    simp only
    exact DM h l j e3
theorem uh(h:pA T [] n p):∀(f i:Nat),i≤p.length→rG T (cE T n (p.take i)) (ik T [] n p f i)=true
 |f,i,hi=>by
  by_cases hlt:i<p.length
  ·cases f with
   |zero=>rfl
   |succ f=>
    cases ht:kI (fr T [] n p i) i p.length with
    |none=>
     rw[lB hlt (fun k h1 h2=>jt _ ht k h1 h2)]
     have hst:jq T [] n p i ⟨2,p.getD i 0⟩=some (i+1):=by unfold jq;rw[if_pos ⟨rfl,hlt,rfl⟩]
     simp only[rG]
     rw[if_neg (by rintro⟨h1,_⟩;omega),(step_end h hi hst).1]
     exact uh h f (i+1) (by omega)
    |some j=>
     obtain⟨t1,t2,t3,t4⟩:=nO _ _ ht
     rw[jM hlt t1 t2 t3 t4]
     have hf:=oR h (show i≤j by omega) t2 t3
     have hst:jq T [] n p i ⟨1,cE T n (p.take j)⟩=some j:=by
      unfold jq
      simp only
      rw[if_neg (by omega),if_pos trivial,hf,if_pos ⟨rfl,t3⟩]
     simp only[rG]
     rw[if_neg,(step_end h hi hst).1]
     ·exact uh h f j t2
     ·rintro⟨_,h2⟩
      have:=uj (T:=T) (n:=n) (p:=p) (cE T n (p.take j)) (p.length - i) i i (Nat.le_refl _) (by omega) h2.symm (fun k h3 h4=>by omega)
      omega
  ·rw[nF f i (by omega)]
   rfl
end
noncomputable def Ji(T:ai)(D:List Bool)(l:List b7)(n:Int)(p:List Int):Bool:=if fA T D n p=0 then IC T n p 0 l else false
end PW
end Go.Proofs.YtnegbdpggideiaaGreatDoor
namespace Go.Proofs.YtnegbdpggideiaaGreatDoor
namespace PW
open Go.RowKit cB Mem Net eW
theorem xc(p:List Int)(u:PV):bT Tryz.prog 190 [aw p,.ptr 0 0] [some (.cells 37 [u])] (fun r σ'=>r= .tuple []∧σ'=[some (.cells 37 [aw p])]):=by
 refine ct Tryz.func190 rfl Tryz.ntmps190 rfl<|bF<|au 2 rfl<|aH [] rfl ?_
 exact⟨_,ay.of rfl,rfl,rfl⟩
theorem xo(T:ai)(D:List Bool)(n d:Int):bT Tryz.prog 184 [aP T,aY D,num n,num d,.func 190 [.ptr 0 0]] [some (.cells 37 [.raw (.slice none 0 0)])] (fun r σ'=>r=num (gv T D n d)∧σ'=[some (.cells 37 [if gv T D n d=0 then aw (cg T D n.toNat d.toNat) else .raw (.slice none 0 0)])]):=by
 refine ct Tryz.func184 rfl Tryz.ntmps184 rfl<|ab (.a 2 rfl<|.k [1,2,3,4,5] rfl)<|ab (.a 4 rfl<|.c rfl (sc T D n d) rfl<|.a 5 rfl<|.k [4,11,12] rfl)<|aj<|ab (.a 2 rfl<|.k [4,11,12,22] rfl)<|ah rfl (fun h1=>?_) (fun h1=>?_)
 ·have he:gv T D n d=0:=tt h1
  refine bF<|au 2 rfl<|cS rfl rfl (bT.mono (xc _ _) (fun r σ' h=>?_))
  obtain⟨rfl,rfl⟩:=h
  refine aH [12] rfl ?_
  refine ab (.a 2 rfl<|.k [10] rfl)<|aq ?_
  first
   |exact⟨_,ay.of rfl,rfl,by rw[if_neg he]⟩
   |exact⟨_,ay.of rfl,rfl,by simp only[if_pos he]⟩
 ·have he:¬gv T D n d=0:=ff h1
  refine ak<|ab (.a 2 rfl<|.k [10] rfl)<|aq ?_
  first
   |exact⟨_,ay.of rfl,rfl,by rw[if_neg he]⟩
   |exact⟨_,ay.of rfl,rfl,by simp only[if_pos he]⟩
theorem xF(T:ai)(D:List Bool)(n d:Int):Can Tryz.prog 162 [aP T,aY D,num n,num d] (· =dx (gv T D n d) (cg T D n.toNat d.toNat)):=by
 obtain⟨u,hu⟩:∃u:PV,(if gv T D n d=0 then aw (cg T D n.toNat d.toNat) else .raw (.slice none 0 0))=u:=⟨_,rfl⟩
 have hf:=xo T D n d
 rw[hu]at hf
 refine aE Tryz.func162 rfl Tryz.ntmps162 rfl<|ab (.a 3 rfl<|.k [1,2,3,4] rfl)<|aQ<|au 1 rfl<|aH [1,2,3,4,10] rfl ?_
 refine aQ<|au 5 rfl<|cS rfl rfl (bT.mono hf (fun r σ' h=>?_))
 obtain⟨rfl,rfl⟩:=h
 refine au 1 rfl<|aH [10,11] rfl ?_
 refine ab (.v (aN rfl ((show some u=some u from rfl))) rfl<|.a 3 rfl<|.k [8,9] rfl)<|aq<|⟨_,_,ay.of rfl,aB.bG (an.cons (y:=aw (if gv T D n d=0 then cg T D n.toNat d.toNat else [])) ?_ (an.cons aB.pure an.nil)),rfl⟩
 rw[←hu]
 by_cases he:gv T D n d=0
 ·rw[if_pos he,if_pos he];exact aB.pure
 ·rw[if_neg he,if_neg he];exact aB.bZ
end PW
end Go.Proofs.YtnegbdpggideiaaGreatDoor
namespace Go.Proofs.YtnegbdpggideiaaGreatDoor
namespace PW
open Go.RowKit cB Mem Net
section
variable {T:ai} {D:List Bool}
theorem u7{d:Nat}:∀ {m:Nat} {q:List Int},Ch T D d m q→(q=[]∨cR T m=false)→ec T false m q=0
 |m,[],_,_=>rfl
 |m,a::q,h,ho=>by
  cases h with
  | @cons _ b k _ ha ht hu hm hov hp=>
   rw[oV (dc.2 ⟨by omega,by omega⟩) (by rw[Int.toNat_natCast];exact ht) (.inr (by rcases ho with h|h;cases h;rw[Int.toNat_natCast];exact h)),Int.toNat_natCast,hm]
   exact u7 hp hov
theorem zF{d m:Nat}{q:List Int}(h:Ch T D d m q):ec T true m q=0:=by
 cases h with
 |nil=>rfl
 | @cons _ b k q ha ht hu hm hov hp=>
  rw[oV (dc.2 ⟨by omega,by omega⟩) (by rw[Int.toNat_natCast];exact ht) (.inl rfl),Int.toNat_natCast,hm]
  exact u7 hp hov
theorem Ch.bare{d m:Nat}{q:List Int}(h:Ch T D d m q):Ch T [] d m q:=by
 induction h with
 |nil=>exact .nil
 |cons ha ht hu hm ho hp ih=>exact .cons ha ht (by simp[aM]) hm ho ih
theorem Ch.mask{d m:Nat}{q:List Int}(h:Ch T [] d m q)(hc:∀a∈q,aM D a.toNat=false):Ch T D d m q:=by
 induction h with
 |nil=>exact .nil
 | @cons n a m p ha ht hu hm ho hp ih=>exact .cons ha ht (by have:=hc a (by simp);rw[Int.toNat_natCast]at this;exact this) hm ho (ih fun b hb=>hc b (by simp[hb]))
structure il (T:ai) (D:List Bool) (x y:Nat) (p:List Int):Prop where
 valid:ao T=true
 fits:bP T D=true
 ne:x≠y
 hx:(x:Int)<T.nodes
 hy:(y:Int)<T.nodes
 uniq:fy T [] x y=true
 sp:SP T [] y x p
 up:∀a∈p,aM D a.toNat=false
theorem zd{x y:Int}(h:I6 T D x y=true):∃a b:Nat,x=(a:Int)∧y=(b:Int)∧il T D a b (cg T [] a b)∧gv T [] x y=0:=by
 unfold I6 at h
 simp only[Bool.and_eq_true,Bool.not_eq_true',decide_eq_false_iff_not]at h
 obtain⟨⟨⟨⟨hv,hf⟩,hne⟩,hu⟩,hc⟩:=h
 obtain⟨a,b,rfl,rfl,ha,hb,_,hsp⟩:=lN (uc hu)
 simp only[Int.toNat_natCast]at hsp hc
 exact⟨a,b,rfl,rfl,⟨hv,hf,fun e=>hne (by rw[e]),ha,hb,hu,hsp,oh.1 hc⟩,uc hu⟩
variable {x y:Nat} {p:List Int}
theorem il.pos(h:il T D x y p):0<p.length:=by
 have hsp:=h.sp
 cases hsp with
 |nil=>exact absurd rfl h.ne
 |cons _ _ _=>simp
theorem il.Ha(h:il T D x y p):pA T D x p:=⟨h.valid,h.fits,aV.2 ⟨by omega,h.hx⟩,zF h.sp.ch,h.up⟩
theorem il.mj(h:il T D x y p):dK T [] y x=1:=(vK h.valid (j8 T) h.hx h.hy).1 h.uniq
theorem il.Jl(h:il T D x y p):fr T [] x p 0 p.length=true:=by
 have he:cE T (x:Int) (p.take p.length)=(y:Int):=by rw[List.take_length];exact h.sp.ch.fin
 rw[lV h.Ha.bare (Nat.zero_le _) (Nat.le_refl _) (u:=x) rfl he]
 have:eH p 0 p.length=p:=by unfold eH;simp
 rw[this]
 exact⟨h.sp,h.mj⟩
theorem il.part(h:il T D x y p){i k:Nat}(hik:i≤k)(hk:k<p.length):I6 T D (bb T (p.getD i 0).toNat) (aT T (p.getD k 0).toNat)=true:=by
 have hF:=h.Ha
 have ha:=hF.aI
 have hc:=FJ hF.bare (i:=0) (j:=p.length) (i':=i) (j':=k+1) (Nat.zero_le _) (by omega) (by omega) (Nat.le_refl _) h.Jl
 obtain⟨u,hu,huN⟩:=cq h.valid hF.node ha i (by omega)
 obtain⟨v,hv,hvN⟩:=cq h.valid hF.node ha (k+1) (by omega)
 rw[oZ hF (by omega) hu,←gA T x p k hk,hv]
 rw[←qv hF (by omega) (by omega) hu hv,Bool.and_eq_true]at hc
 exact hc.1
theorem il.next(h:il T D x y p){i u:Nat}(hi:i<p.length)(hu:cE T x (p.take i)=(u:Int)):bz T [] u y=[p.getD i 0]∧bz T D u y=[p.getD i 0]∧(u:Int)<T.nodes:=by
 have hF:=h.Ha
 have hv:=h.valid
 have ha:=hF.aI
 obtain⟨u',hu',huN⟩:=cq hv hF.node ha i (by omega)
 have:u'=u:=by omega
 subst this
 have hfin:cE T (x:Int) (p.take p.length)=(y:Int):=by rw[List.take_length];exact h.sp.ch.fin
 have hch:=hF.bare.ch (i:=0) (j:=i) (Nat.zero_le _) (by omega) (u:=x) rfl hu
 have hpp:eH p 0 i++eH p i p.length=p:=by rw[←kz p (Nat.zero_le _) (by omega)];unfold eH;simp
 have hsp:=h.sp
 rw[←hpp]at hsp
 obtain⟨s1,s2⟩:=hsp.suffix hv h.hy h.mj hch
 have hdr:eH p i p.length=p.getD i 0::p.drop (i+1):=by
  unfold eH
  rw[List.take_of_length_le (by simp),drop_cons p i hi]
 rw[hdr]at s1
 have hup:∀c∈p.getD i 0::p.drop (i+1),aM D c.toNat=false:=fun c hc=>by
  rw[←drop_cons p i hi]at hc
  exact h.up c (List.mem_of_mem_drop hc)
 have hchD:=s1.ch.mask hup
 have hd0:=s1.cost hv h.hy
 generalize p.getD i 0=a0 at*
 generalize p.drop (i+1)=q at*
 cases s1 with
 | @cons _ a m _ hn hm hq=>
  obtain⟨b,hb,_,_⟩:=ug hv h.hy huN hn.ne s2
  have hab:=eU hn ((aK hv).cost a hn.fx).1
  rw[hb]at hab
  simp only[List.mem_singleton]at hab
  rw[←hab]at hb
  refine⟨hb,?_,huN⟩
  have hDle:=hchD.le hv h.hy
  have mono:∀k:Nat,(k:Int)<T.nodes→0≤dN T D y k→0≤dN T [] y k∧dN T [] y k≤dN T D y k:=fun k hk h0=>by
   have hs:=eo hv h.hy hk h0
   have:=hs.ch.bare.le hv h.hy
   rw[←(hs.cost hv h.hy).1]at this
   exact this
  have hmu:=mono u' huN hDle.1
  have heq:dN T D y u'=dN T [] y u':=by omega
  have hall:∀c∈bz T D u' y,c=(a:Int):=fun c hc=>by
   obtain⟨k,rfl,hk⟩:=cP hc
   obtain⟨z,hz,hzN⟩:=dB hv hk.fx
   have g:=hk.dN hz
   have g2:=mono z hzN g.1
   have hs:=eo (D:=[]) hv h.hy hzN g2.1
   have hch2:Ch T [] y u' ((k:Int)::cg T [] z y):=.cons hk.fx hk.tail (by simp[aM]) hz (by
    rcases hk.pass with e|e
    ·left
     have:z=y:=by omega
     subst this
     exact hs.self
    ·right
     rw[hz,Int.toNat_natCast]at e
     exact e) hs.ch
   have g3:=hch2.le hv h.hy
   rw[fL,←(hs.cost hv h.hy).1,Int.toNat_natCast]at g3
   have hnr:iS T [] u' y k:=⟨hk.fx,hk.tail,by simp[aM],hk.ne,by rw[hz,Int.toNat_natCast];exact g2.1,hk.pass,by
    rw[hz,Int.toNat_natCast]
    show dN T [] y u'=dN T [] y z+ca T k
    omega⟩
   have:=eU hnr ((aK hv).cost k hk.fx).1
   rw[hb]at this
   simpa using this
  obtain⟨k,hk⟩:=jo (D:=D) hv huN h.hy hn.ne hDle.1
  have hmem:=eU hk ((aK hv).cost k hk.fx).1
  have hso:=kX T D u' y
  cases hx:bz T D u' y with
  |nil=>rw[hx]at hmem;cases hmem
  |cons c l=>
   rw[hx]at hall hso
   have hc:=hall c (by simp)
   subst hc
   cases l with
   |nil=>rfl
   |cons c2 l=>
    have:=hall c2 (by simp)
    have h3:=(List.pairwise_cons.1 hso).1 c2 (by simp)
    omega
end
end PW
end Go.Proofs.YtnegbdpggideiaaGreatDoor
namespace Go.Proofs.YtnegbdpggideiaaGreatDoor
namespace PW
open Go.RowKit cB Mem Net
def sU(k:Nat):List mD:=(List.range k).map fun(i:Nat)=>⟨(i:Int),(((i+1) % 4:Nat):Int),1,1,0,1,0⟩
def cM:ai:=⟨4,[],sU 4⟩
def Cg(d:Nat):List Int:=match d with
 |0=>[0,1,2,1]
 |1=>[1,0,1,2]
 |2=>[2,1,0,1]
 |_=>[1,2,1,0]
theorem kd:ao cM=true:=by kernel_rfl
def IN(T:ai)(n:Nat)(out:List Int)(a:Nat):Bool:=decide (0≤at' out (cK T false a))&&(decide (cK T false a=(n:Int))|| !cR T (cK T false a).toNat)
theorem uf(n:Nat)(out:List Int)(a:Nat):Net.Way cM [] n false out a↔IN cM n out a=true:=by
 unfold Net.Way IN
 have:aM [] a=false:=by simp[aM]
 simp[this]
theorem xP(l:List mD)(e:mD):gz l++jh e=gz (l++[e]):=by simp[gz]
theorem xN(k:Nat):sU (k+1)=sU k++[⟨(k:Int),(((k+1) % 4:Nat):Int),1,1,0,1,0⟩]:=by simp[sU,List.range_succ]
theorem DP{P:Program}{σ:cd}{t:bY}{o:Oper}{ty:TypeId}{v0 v1 c0 c1:Value}(ho:o.op= .build ty #[(0,.const v0),(1,.const v1)])(hb:P.built ty [(0,v0),(1,v1)]=some #[c0,c1]):bm P σ t o (.agg [.raw c0,.raw c1]):=by
 intro F base E ρ w hρ hS hT
 have hrun:=run_build (P:=P) w ty #[(0,v0),(1,v1)] #[c0,c1] hb
 have h0:ρ (.const v0)=v0:=hρ.const v0
 have h1:ρ (.const v1)=v1:=hρ.const v1
 have hr:(execOp ρ o).run P w= .ok (.value (.agg #[c0,c1])) w:=by
  simp only[execOp,ho,Sem.run_bind,List.map_toArray,List.map_cons,List.map_nil,h0,h1,hrun,Result.andThen_ok,Sem.run_pure]
 rw[hr]
 refine bh (.agg #[c0,c1] _ rfl (fun i x u k1 k2=>?_))
 match i,k1,k2 with
 |0,k1,k2=>simp at k1 k2;subst k1;subst k2;exact .raw _
 |1,k1,k2=>simp at k1 k2;subst k1;subst k2;exact .raw _
 |_+2,k1,k2=>simp at k2
end PW
end Go.Proofs.YtnegbdpggideiaaGreatDoor
namespace Go.Proofs.YtnegbdpggideiaaGreatDoor
namespace PW
open Go.RowKit cB Mem Net
end PW
end Go.Proofs.YtnegbdpggideiaaGreatDoor
namespace Go.Proofs.YtnegbdpggideiaaGreatDoor
namespace PW
open Go.RowKit cB Mem Net
section
variable {P:Program} {σ:cd} {t:bY} {o:Oper}
end
end PW
end Go.Proofs.YtnegbdpggideiaaGreatDoor
namespace Go.Proofs.YtnegbdpggideiaaGreatDoor
namespace PW
open Go.RowKit cB Mem Net
def kF(T:ai)(D:List Bool)(L:List Int)(m d:Nat):List Int:=if m=d∨L.getD m 0<0 then [] else kC T D L (L.getD m 0) d (bJ T m)
def xR(T:ai)(D:List Bool)(L:List Int)(d:Nat):Nat→Nat→Int
 |0,m=>if m=d then 1 else 0
 |f+1,m=>if m=d then 1 else(kF T D L m d).foldl (fun c a=>min 2 (c+xR T D L d f (aT T a.toNat).toNat)) 0
def BE(y u:Nat)(c:Int):Bool:=decide ((Cg y).getD u 0=c)&&(decide (cc cM [] (u:Int) (y:Int)=0)&&decide (xR cM [] (Cg y) y ((Cg y).getD u 0).toNat u=1))
end PW
end Go.Proofs.YtnegbdpggideiaaGreatDoor
namespace Go.Proofs.YtnegbdpggideiaaGreatDoor
namespace PW
open Go.RowKit cB Mem Net
instance (l:List b7):lO (eL l):=⟨fun i u h=>by
 obtain⟨s,_,hs⟩:=List.mem_flatMap.1 (List.mem_of_getElem? h)
 simp only[mY,List.mem_cons,List.not_mem_nil,or_false]at hs
 rcases hs with rfl|rfl
 ·infer_instance
 ·infer_instance⟩
end PW
end Go.Proofs.YtnegbdpggideiaaGreatDoor
namespace Go.Proofs.YtnegbdpggideiaaGreatDoor
namespace PW
open Go.RowKit cB Mem Net Go.WideShapes
section
variable {H:Type} {enc:TypeId×Value→H} {W:World}
end
end PW
end Go.Proofs.YtnegbdpggideiaaGreatDoor
namespace Go.Proofs.YtnegbdpggideiaaGreatDoor
namespace PW
open Go.RowKit cB Mem Net
end PW
end Go.Proofs.YtnegbdpggideiaaGreatDoor
namespace Go.Proofs.YtnegbdpggideiaaGreatDoor
namespace PW
open Go.RowKit cB Mem Net
theorem Ch.Ks{T:ai}{D:List Bool}{d m:Nat}{q:List Int}(h:Ch T D d m q):∀a∈q,aM D a.toNat=false:=by
 induction h with
 |nil=>intro z hz;cases hz
 | @cons n a m p ha ht hu hm ho hp ih=>
  intro z hz
  rcases List.mem_cons.1 hz with rfl|hz
  ·rw[Int.toNat_natCast];exact hu
  ·exact ih z hz
theorem w7(T:ai)(D:List Bool)(x y:Int):Can Tryz.prog 34 [aP T,aY D,num x,num y] (· =dx (gv T D x y) (cg T D x.toNat y.toNat)):=by
 exact aE Tryz.func34 rfl Tryz.ntmps34 rfl<|ab (.a 3 rfl<|.k [1,2,3,4] rfl)<|ab (.a 4 rfl<|.c rfl (xD T D x y) rfl<|.a 4 rfl<|.k [8,9] rfl)<|aq<|⟨_,_,ay.of rfl,aB.pure,rfl⟩
theorem Gx{T:ai}{D:List Bool}{n:Int}{p:List Int}(hp:0<p.length):0<(iE T D n p).length:=by
 unfold iE
 obtain⟨f,hf⟩:∃f,p.length=f+1:=⟨p.length - 1,by omega⟩
 rw[hf]
 simp only[ik]
 rw[if_pos (by omega)]
 cases kI (fr T D n p 0) 0 p.length<;>simp
end PW
end Go.Proofs.YtnegbdpggideiaaGreatDoor
namespace Go.Proofs.YtnegbdpggideiaaGreatDoor
namespace PW
open Go.RowKit cB Mem Net
def jm:List b7→List b7
 | []=>[]
 |s::l=>if s.kind=2 then l else s::l
noncomputable def jB(T:ai)(D:List Bool)(n d:Int):iC:=
 if gv T D n d=0∧n≠d then⟨[(cg T D n.toNat d.toNat).getD 0 0],true,jm (iE T [] n (cg T D n.toNat d.toNat))⟩ else⟨[],false,[]⟩
structure oA (T:ai) (D:List Bool) (x y:Nat) (p:List Int):Prop where
 valid:ao T=true
 fits:bP T D=true
 ne:x≠y
 hx:(x:Int)<T.nodes
 hy:(y:Int)<T.nodes
 sp:SP T D y x p
theorem uq{T:ai}{D:List Bool}{n d:Int}(h:gv T D n d=0)(hne:n≠d):∃a b:Nat,n=(a:Int)∧d=(b:Int)∧oA T D a b (cg T D a b):=by
 have hf:bP T D=true:=by
  have h':=h
  unfold gv at h'
  split at h'
  ·rename_i h1;exact(fm h1).2.1
  ·rename_i h1;exact absurd h' h1
 obtain⟨a,b,rfl,rfl,ha,hb,hv,hsp⟩:=lN h
 simp only[Int.toNat_natCast]at hsp
 exact⟨a,b,rfl,rfl,hv,hf,fun e=>hne (by rw[e]),ha,hb,hsp⟩
section
variable {T:ai} {D:List Bool} {x y:Nat} {p:List Int}
theorem oA.pos(h:oA T D x y p):0<p.length:=by
 have hsp:=h.sp
 cases hsp with
 |nil=>exact absurd rfl h.ne
 |cons _ _ _=>simp
theorem oA.Ha(h:oA T D x y p):pA T D x p:=⟨h.valid,h.fits,aV.2 ⟨by omega,h.hx⟩,zF h.sp.ch,h.sp.ch.Ks⟩
theorem oA.zero(h:oA T D x y p):fA T D x p=0:=wg h.Ha
theorem oA.len(h:oA T D x y p):(p.length:Int)<T.nodes:=h.sp.Cq h.valid h.hy
theorem oA.head(h:oA T D x y p):p.getD 0 0∈bz T D x y:=by
 have hsp:=h.sp
 cases hsp with
 |nil=>exact absurd rfl h.ne
 | @cons n a m q h1 hm hq=>exact eU h1 ((aK h.valid).cost a h1.fx).1
theorem oA.JT(h:oA T D x y p):∃a:Nat,p.getD 0 0=(a:Int)∧iS T D x y a:=cP h.head
theorem oA.EL(h:oA T D x y p):0<(iE T [] x p).length∧(iE T [] x p).length≤p.length:=⟨Gx h.pos,Fl _ _⟩
theorem oA.ck(h:oA T D x y p):Ji T D (iE T [] x p) x p=true:=by
 have hF:=h.Ha
 unfold Ji
 rw[if_pos h.zero,DM hF.bare _ 0 (Nat.zero_le _),Bool.and_eq_true]
 exact⟨yb hF.bare _ 0 (Nat.zero_le _) (by omega),uh hF.bare _ 0 (Nat.zero_le _)⟩
theorem vU{n:Int}(hp:0<p.length):∃s l,iE T [] n p=s::l∧(s.kind=1∨s=⟨2,p.getD 0 0⟩):=by
 unfold iE
 obtain⟨f,hf⟩:∃f,p.length=f+1:=⟨p.length - 1,by omega⟩
 rw[hf]
 simp only[ik]
 rw[if_pos (by omega)]
 cases kI (fr T [] n p 0) 0 p.length with
 |none=>exact⟨_,_,rfl,.inr rfl⟩
 |some j=>exact⟨_,_,rfl,.inl rfl⟩
theorem FL(l:List b7):(jm l).length≤l.length:=by
 cases l with
 |nil=>simp[jm]
 |cons s l=>simp only[jm];split<;>simp
theorem Fs{l:List b7}{s:b7}(h:s∈jm l):s∈l:=by
 cases l with
 |nil=>cases h
 |cons a l=>simp only[jm]at h;split at h<;>simp_all
theorem xY(hF:pA T D x p):∀(f i:Nat),∀s∈ik T [] x p f i,nT T s=true
 |0,i,s,hs=>by simp[ik]at hs
 |f+1,i,s,hs=>by
  simp only[ik]at hs
  split at hs
  ·rename_i hi
   cases ht:kI (fr T [] x p i) i p.length with
   |none=>
    rw[ht]at hs
    simp only[List.mem_cons]at hs
    rcases hs with rfl|hs
    ·unfold nT;simp only[if_neg (show ¬(2:Int)=1 by decide),if_pos rfl];exact hF.aI _ (bX hi)
    ·exact xY hF f (i+1) s hs
   |some j=>
    rw[ht]at hs
    simp only[List.mem_cons]at hs
    obtain⟨h1,h2,h3,h4⟩:=nO _ _ ht
    rcases hs with rfl|hs
    ·obtain⟨u,hu,huN⟩:=cq hF.valid hF.node hF.aI j h2
     unfold nT;simp only[if_pos rfl];rw[hu];exact aV.2 ⟨by omega,huN⟩
    ·exact xY hF f j s hs
  ·cases hs
theorem oA.whole(h:oA T D x y p):Ji T D (jm (iE T [] x p)) x p=true∨Ji T D (⟨2,p.getD 0 0⟩::jm (iE T [] x p)) x p=true:=by
 obtain⟨s,l,hl,hs⟩:=vU (T:=T) (n:=(x:Int)) h.pos
 have hc:=h.ck
 rw[hl]at hc ⊢
 rcases hs with hs|rfl
 ·left
  simp only[jm]
  rw[if_neg (by omega)]
  exact hc
 ·right
  exact hc
end
theorem pT{T:ai}{D:List Bool}{x y:Nat}(h:oA T D x y (cg T D x y)):jB T D x y=⟨[(cg T D x y).getD 0 0],true,jm (iE T [] x (cg T D x y))⟩:=by
 unfold jB
 rw[if_pos]
 ·simp only[Int.toNat_natCast]
 ·refine⟨?_,fun e=>h.ne (by omega)⟩
  rw[jO h.valid h.fits h.hx h.hy,if_neg]
  have:=(h.sp.cost h.valid h.hy).2
  omega
theorem yS{T:ai}{D:List Bool}{n d:Int}(h:¬(gv T D n d=0∧n≠d)):jB T D n d=⟨[],false,[]⟩:=if_neg h
theorem sh(T:ai)(D:List Bool)(n d:Int):(jB T D n d=⟨[],false,[]⟩∧¬(gv T D n d=0∧n≠d))∨∃a b:Nat,n=(a:Int)∧d=(b:Int)∧oA T D a b (cg T D a b)∧jB T D n d=⟨[(cg T D a b).getD 0 0],true,jm (iE T [] a (cg T D a b))⟩:=by
 by_cases h:gv T D n d=0∧n≠d
 ·obtain⟨a,b,rfl,rfl,hp⟩:=uq h.1 h.2
  exact .inr ⟨a,b,rfl,rfl,hp,pT hp⟩
 ·exact .inl ⟨yS h,h⟩
theorem vo(T:ai)(D:List Bool)(n d:Int)(h12:T.nodes≤12):(jB T D n d).push.length≤32:=by
 rcases sh T D n d with⟨h,_⟩|⟨a,b,rfl,rfl,hp,h⟩
 ·rw[h];simp
 ·rw[h]
  have:=FL (iE T [] a (cg T D a b))
  have:=hp.EL.2
  have:=hp.len
  show(jm _).length≤32
  omega
theorem C2(T:ai)(D:List Bool)(n d:Int)(h12:T.nodes≤12):jb T n d (jB T D n d)=true:=by
 have hpl:=vo T D n d h12
 rcases sh T D n d with⟨h,_⟩|⟨a,b,rfl,rfl,hp,h⟩
 ·rw[h]
  unfold jb
  have:eP T n []=true:=decide_eq_true fun i hi=>by simp at hi
  simp only[this]
  simp
 ·rw[h]at hpl ⊢
  obtain⟨k,hk,hn⟩:=hp.JT
  have h1:eP T (a:Int) [(cg T D a b).getD 0 0]=true:=rz (by simp) fun c hc=>by
   simp only[List.mem_singleton]at hc
   subst hc
   rw[hk]
   exact⟨dc.2 ⟨by omega,by have:=hn.fx;omega⟩,by rw[Int.toNat_natCast];exact hn.tail⟩
  have h2:decide (((b:Nat):Int)=(a:Int))=false:=decide_eq_false (by have:=hp.ne;omega)
  have h3:(jm (iE T [] a (cg T D a b))).all (nT T)=true:=List.all_eq_true.2 fun s hs=>xY hp.Ha _ 0 s (Fs hs)
  unfold jb
  simp only[h1,h2,h3,if_true]
  simp only[Bool.true_and,Bool.false_and,Bool.not_false,Bool.and_true,Bool.and_eq_true,decide_eq_true_eq]
  exact⟨rfl,by have:(jm (iE T [] a (cg T D a b))).length≤32:=hpl;omega⟩
noncomputable def rV(T:ai)(D:List Bool)(n:Int)(k:Nat):List iC:=(List.range k).map fun(d:Nat)=>jB T D n (d:Int)
theorem ri(T:ai)(D:List Bool)(n:Int)(k:Nat):(rV T D n k).length=k:=by simp[rV]
theorem vJ{T:ai}{D:List Bool}{n:Int}{k d:Nat}(h:d<k):(rV T D n k)[d]? =some (jB T D n (d:Int)):=by simp[rV,h]
theorem FB{T:ai}{D:List Bool}{n k d:Nat}(h:d<k):(oa T D n k)[d]? =some ⟨bz T D n d,false,[]⟩:=by simp[oa,h]
noncomputable def uu(T:ai)(D:List Bool)(n:Nat):ee:=⟨n,rV T D n T.nodes.toNat,cF D (bJ T n)⟩
theorem oI{T:ai}{D:List Bool}(hv:ao T=true)(h12:T.nodes≤12){n:Nat}(hn:(n:Int)<T.nodes):ed T (uu T D n)=true:=by
 unfold ed uu
 have h1:bn T (n:Int)=true:=aV.2 ⟨by omega,hn⟩
 have hN:=(aK hv).nodes
 have h2:decide (((rV T D n T.nodes.toNat).length:Int)=T.nodes)=true:=decide_eq_true (by rw[ri];omega)
 have h3:eP T n (cF D (bJ T n))=true:=lI T n _
 have h4:mO T n (rV T D n T.nodes.toNat)=true:=jf fun d e he=>by
  have hd:d<T.nodes.toNat:=by
   have:=(List.getElem?_eq_some_iff.1 he).1
   rwa [ri]at this
  rw[vJ hd]at he
  cases he
  exact C2 T D n d h12
 rw[hv,h1,h2,h3,h4]
 rfl
theorem il.same{T:ai}{D:List Bool}{x y:Nat}{p:List Int}(h:il T D x y p):cg T D x y=p∧oA T D x y p∧iE T [] x p=[⟨1,(y:Int)⟩]:=by
 have hv:=h.valid
 have hch:=h.sp.ch.mask h.up
 have h1:=hch.le hv h.hy
 have h0:=h.sp.cost hv h.hy
 have hq:=eo (D:=D) hv h.hy h.hx h1.1
 have hqc:=hq.cost hv h.hy
 have hqb:=hq.ch.bare
 have h2:=hqb.le hv h.hy
 have hq':=hqb.sp hv h.hy (by omega)
 have he:cg T D x y=p:=hq'.unique hv h.hy h.sp h.mj
 have hP:oA T D x y p:=⟨hv,h.fits,h.ne,h.hx,h.hy,by rw[←he];exact hq⟩
 refine⟨he,hP,?_⟩
 unfold iE
 obtain⟨f,hf⟩:∃f,p.length=f+1:=⟨p.length - 1,by have:=h.pos;omega⟩
 rw[hf,jM (j:=p.length) h.pos h.pos (Nat.le_refl _) h.Jl (fun k h3 h4=>by omega),nF _ _ (Nat.le_refl _),List.take_length,h.sp.ch.fin]
theorem il.D1{T:ai}{D:List Bool}{x y:Nat}{p:List Int}(h:il T D x y p):bz T [] x y=[p.getD 0 0]∧bz T D x y=[p.getD 0 0]∧jB T D x y=⟨[p.getD 0 0],true,[⟨1,(y:Int)⟩]⟩:=by
 obtain⟨h1,h2,h3⟩:=h.same
 obtain⟨h4,h5,_⟩:=h.next (i:=0) h.pos (u:=x) rfl
 refine⟨h4,h5,?_⟩
 rw[←h1]at h2
 rw[pT h2,h1,h3]
 rfl
theorem As{T:ai}{D D':List Bool}(hv:ao T=true){d:Nat}(hd:(d:Int)<T.nodes)(dir:Bool)(hD:∀a,aM D a=aM D' a):bu T D d dir=bu T D' d dir:=by
 have hI:=iW (aK hv) D' dir hd
 refine jF (aK hv) ⟨hI.len,hI.root,hI.ge,fun a ha hw=>hI.closed a ha ?_,fun x hx h0=>?_⟩
 ·exact⟨(hD a).symm.trans hw.1,hw.2⟩
 ·rcases hI.my x hx h0 with h|⟨a,h1,h2,h3,h4⟩
  ·exact .inl h
  ·exact .inr ⟨a,h1,h2,⟨(hD a).trans h3.1,h3.2⟩,h4⟩
end PW
end Go.Proofs.YtnegbdpggideiaaGreatDoor
namespace Go.Proofs.YtnegbdpggideiaaGreatDoor
namespace PW
open Go.RowKit cB Mem Net eW
section
variable {P:Program} {σ:cd} {t:bY} {o:Oper} {N L:Nat} {ops:Array Oper}
theorem uB{rest:List Oper}{K:St→Prop}{d:Nat}{x y:Operand}{ty tz:TypeId}{xs:List PV}(ho:o.op= .binOp .eql ty x y tz)(hk:wF P ty=true)(hx:aC t x=some (.slice 0 xs))(hy:aC t y=some (.raw (.slice none 0 0)))(hd:o.dst=some d)(hw:eK ops t o=some true)(hN:Nat.blt d N=true)
  (h:∀b,WR P N L ops rest ⟨(d,.raw (.bool b))::t,σ⟩ K):WR P N L ops (o::rest) ⟨t,σ⟩ K:=by
 refine nk hw fun F base E a w hs next Q hn=>?_
 obtain⟨e,hu⟩:=oc hk
 have h1:=ax (gi a) hs.tmp hx
 have h2:=ax (gi a) hs.tmp hy
 generalize hz:a.eval x=z at h1
 generalize hz':a.eval y=z' at h2
 cases h2
 obtain⟨p,c,rfl,_,_⟩:=pJ h1
 have hrun:=Lib.run_eql_slice_nil w ty e p 0 c 0 0 hu
 have hg:∀a n c b m d,(eqGuard .eql ty x y (.slice a n c) (.slice b m d)).run P w= .ok () w:=fun _ _ _ _ _ _=>rfl
 have hU:fW P w (fun v w'=>cD E w' v (.raw (.bool p.isNone))) ((execOp a.eval o).run P w):=by
  simp only[execOp,ho,hz,hz',Sem.run_bind,Sem.run_pure,Result.andThen_ok,hg,hrun]
  exact bh (.raw _)
 refine pH hU fun v w' hE hv=>hn _ _ _ E (h p.isNone) ?_ (.ext hE) (Below.iv hE hs.sat.bl)
 rw[hd]
 exact hs.put (hs.sat.ext hE) (.ext hE) hN hv
theorem rp{ty e s n h:Nat}{x hi' mx:Operand}{xs:List PV}{k k':IntKind}{hii mi:Int}(ho:o.op= .slice ty x none (some hi') (some mx))(he:xg P ty=some (e,s))(hx:aC t x=some (.slice n xs))(hhi:aC t hi'=some (.raw (.int k hii)))(hmx:aC t mx=some (.raw (.int k' mi)))(hxl:xs.length=n*s)(hli:hii=(h:Int))(hmi:mi=(h:Int))(hl:h≤n):
  bm P σ t o (.slice h (xs.take (h*s))):=by
 intro F base E ρ w hρ hS hT
 have h1:=ax hρ hT hx
 have h2:=ax hρ hT hhi
 have h3:=ax hρ hT hmx
 obtain⟨hu,i,hi,hs⟩:=gh he
 generalize hz:ρ x=v at h1
 generalize hz':ρ hi'=u at h2
 generalize hz2:ρ mx=u2 at h3
 cases h2
 cases h3
 subst hli
 subst hmi
 obtain⟨a,c,rfl,hc1,hc2⟩:=pJ h1
 have hR:=qQ (s:=s) (l:=0) h1 hxl (Nat.zero_le _) hl (Nat.le_refl h) (Nat.le_trans hl hc1)
 have hrun:(Instr.sliceAt ty (.slice a n c) none (some (.int k (h:Int))) (some (.int k' (h:Int)))).run P w= .ok (.slice (if h=0 then a else a.map (·.add (0*s))) (h - 0) (h - 0)) w:=by
  have:h≤c:=Nat.le_trans hl hc1
  simp[Instr.sliceAt,run_underlying hu,Instr.slice,Instr.sliceBounds,Instr.sliceBound,asIntOf,this,sizeOf,typeInfo,hi]
 simp only[execOp,ho,hz,hz',hz2,Option.map_some,Option.map_none,Sem.run_bind,hrun,Result.andThen_ok,Sem.run_pure]
 refine bh ?_
 simpa using hR
end
theorem J0:wF Tryz.prog 39=true:=by kernel_rfl
theorem mT(l:List b7)(hl:l.length≤1000):Can Tryz.prog 142 [cI l] (· =cI l):=by
 refine aE Tryz.func142 rfl Tryz.ntmps142 rfl<|ab (.a 1 rfl<|.k [0] rfl)<|aj<|aQ (WR.mono (K:=fun s=>∃b:Bool,s=⟨[(0,cI l),(4,.raw (.bool b))],[]⟩∧(b=true→l=[])) ?_ ?_)
 ·cases l with
  |nil=>exact au 1 rfl<|uB rfl J0 rfl rfl rfl rfl rfl fun b=>aH [0,4] rfl ⟨b,rfl,fun _=>rfl⟩
  |cons a l=>exact au 1 rfl<|bH (nG rfl J0 rfl rfl (Nat.succ_pos _)) rfl rfl rfl<|aH [0,4] rfl ⟨_,rfl,fun h=>by cases h⟩
 rintro _ ⟨b,rfl,hb⟩
 refine ah rfl (fun hc=>?_) (fun hc=>?_)
 ·have:l=[]:=hb hc
  subst this
  exact ab (.a 1 rfl<|.k [2] rfl)<|aq<|⟨_,_,ay.of rfl,aB.bZ,rfl⟩
 ·refine ak<|aQ<|cn (gb rfl (bI.sl.get rfl)) rfl<|au 1 rfl<|cn (bA rfl (bI.rk.get rfl) rfl rfl rfl (lP l) (by unfold maxLen;omega)) rfl<|au 1 rfl<|aH [2] rfl ?_
  refine aq<|⟨_,_,ay.of rfl,aB.ew (xs:=eL l) (ys:=eL l) rfl an.pure,?_⟩
  rw[Nat.zero_add];rfl
theorem mc{P:Program}{σ:cd}{t:bY}{o:Oper}{ty:TypeId}{x lo:Operand}{s:b7}{l:List b7}{k:IntKind}(ho:o.op= .slice ty x (some lo) none none)(he:xg P ty=some (103,2))(hx:aC t x=some (.slice (s::l).length (eL (s::l))))(hlo:aC t lo=some (.raw (.int k 1))):bm P σ t o (.slice l.length (eL l)):=by
 have h:=A1 (l:=1) (σ:=σ) ho he hx hlo (lP _) rfl (by simp)
 have e:((eL (s::l)).drop (1*2)).take (((s::l).length - 1)*2)=eL l:=by
  show(eL l).take _=_
  refine List.take_of_length_le ?_
  rw[lP];simp
 rw[e]at h
 exact h
theorem FT{T:ai}{D:List Bool}{n d:Int}(h:gv T D n d≠0):jB T D n d=⟨[],false,[]⟩:=yS fun hh=>h hh.1
theorem G4{T:ai}{D:List Bool}{n d:Int}(h:gv T D n d≠0)(h':gv T D n d≠11):cc T D n d=gv T D n d:=by
 unfold gv at*
 split at h<;>simp_all
theorem HZ{T:ai}{D:List Bool}{n d:Int}(h:gv T D n d=0∨gv T D n d=11):cc T D n d=0:=by
 unfold gv at h
 split at h
 ·assumption
 ·rename_i hh
  rcases h with h|h
  ·exact h
  ·exfalso
   unfold cc cw at h
   split at h<;>(try split at h)<;>(try split at h)<;>omega
def JQ(e:Int)(x:iC):PV:=.tuple [wN x,num e]
theorem we(T:ai)(D:List Bool)(n d:Int)(hlk:T.af.length≤256)(h12:T.nodes≤12):Can Tryz.prog 124 [aP T,aY D,num n,num d] (· =JQ (cc T D n d) (jB T D n d)):=by
 obtain⟨c1,hc1⟩:∃q,decide (gv T D n d≠0)=q:=⟨_,rfl⟩
 obtain⟨c2,hc2⟩:∃q,decide (gv T D n d≠11)=q:=⟨_,rfl⟩
 refine aE Tryz.func124 rfl Tryz.ntmps124 rfl<|aQ<|au 3 rfl<|aH [1,2,3,4,8] rfl ?_
 refine ab (.a 4 rfl<|.c rfl (xF T D n d) rfl<|.a 5 rfl<|.k [1,2,4,8,10,11] rfl)<|aj<|bp 27 (.raw (.bool (c1&&c2))) [1,2,4,8,10,11] rfl ?_ ?_
 ·refine .a 1 rfl<|.v (cb rfl (hc1)) rfl<|.a 1 rfl<|?_
  cases c1
  ·exact .a 3 rfl<|.k [27,1,2,4,8,10,11] rfl
  ·exact .a 1 rfl<|.v (cb rfl (hc2)) rfl<|.a 1 rfl<|.k [27,1,2,4,8,10,11] rfl
 refine ah rfl (fun h1=>?_) (fun h1=>?_)
 ·obtain⟨rfl,rfl⟩:=Bool.and_eq_true_iff.1 h1
  have e1:=tt hc1
  rw[FT e1,G4 e1 (tt hc2)]
  refine aQ<|au 4 rfl<|aH [8,9] rfl ?_
  exact aq<|⟨_,_,ay.of rfl,aB.bG (an.cons (aB.iH (an.cons aB.bZ<|an.cons aB.pure<|an.cons aB.bZ an.nil)) (an.cons aB.pure an.nil)),rfl⟩
 ·have e2:gv T D n d=0∨gv T D n d=11:=by
   rcases Bool.and_eq_false_iff.1 h1 with h|h
   ·subst h;exact .inl (Classical.byContradiction (ff hc1))
   ·subst h;exact .inr (Classical.byContradiction (ff hc2))
  rw[HZ e2]
  clear h1 hc1 hc2
  obtain⟨P,hP⟩:∃P,(if gv T D n d=0 then cg T D n.toNat d.toNat else [])=P:=⟨_,rfl⟩
  rw[hP]
  refine ak<|aj<|ab (.a 3 rfl<|.k [1,2,4,8,10,32] rfl)<|ah rfl (fun h2=>?_) (fun h2=>?_)
  ·have hno:¬(gv T D n d=0∧n≠d):=by
    rintro⟨h3,h4⟩
    rw[if_pos h3]at hP
    obtain⟨a,b,rfl,rfl,hp⟩:=uq h3 h4
    have:=tt h2
    have:=hp.pos
    rw[←hP]at*
    simp only[Int.toNat_natCast]at*
    omega
   rw[yS hno]
   refine aQ<|au 3 rfl<|aH [8,9] rfl ?_
   exact aq<|⟨_,_,ay.of rfl,aB.bG (an.cons (aB.iH (an.cons aB.bZ<|an.cons aB.pure<|an.cons aB.bZ an.nil)) (an.cons aB.pure an.nil)),rfl⟩
  ·obtain⟨p0,q,rfl⟩:∃p0 q,P=p0::q:=by
    cases P with
    |nil=>exact absurd rfl (ff h2)
    |cons p0 q=>exact⟨_,_,rfl⟩
   have h3:gv T D n d=0:=by
    rcases e2 with h|h
    ·exact h
    ·rw[h]at hP;simp at hP
   rw[if_pos h3]at hP
   have h4:n≠d:=by
    rintro rfl
    obtain⟨a,b,ha,hb,_,_,hv',hsp⟩:=lN h3
    have:a=b:=by omega
    subst this
    have:=hsp.self
    rw[this]at hP
    cases hP
   obtain⟨a,b,rfl,rfl,hp⟩:=uq h3 h4
   simp only[Int.toNat_natCast]at hP
   have hent:=pT hp
   rw[hP]at hp hent
   have hpl:=hp.len
   obtain⟨s,l,hl,hs⟩:=vU (T:=T) (n:=(a:Int)) hp.pos
   have hll:=hp.EL.2
   rw[hl]at hent hll
   have hsl:=Ar T D (p0::q) a (by simp only[List.length_cons]at hpl ⊢;omega) hlk h12
   rw[hl]at hsl
   unfold th at hsl
   rw[hp.zero,if_pos rfl]at hsl
   clear h2 e2 hl hs hp hP h3 h4
   simp only[List.length_cons]at hll hpl
   rw[show(p0::q).getD 0 0=p0 from rfl]at hent
   refine ak<|ab (.a 4 rfl<|.c rfl (hsl) rfl<|.a 5 rfl<|.k [8,10,12] rfl)<|aj<|ab (.a 1 rfl<|.v (aL (0) rfl (by omega) (by simp only[List.length_cons];omega)) rfl<|.a 1 rfl<|.v (aN rfl ((show(eL (s::l))[0]? =some (num s.kind) from rfl))) rfl<|.a 1 rfl<|.k [8,10,12,46] rfl)<|ah rfl (fun h5=>?_) (fun h5=>?_)
   ·have hc:jm (s::l)=l:=if_pos (tt h5)
    rw[hc]at hent
    have hlm:l.length≤32:=by omega
    refine az (.a 1 rfl<|.v (mc rfl (bI.el.get rfl) rfl rfl) rfl<|.a 1 rfl<|.k [8,10,12] rfl) ?_
    refine aj<|ab (.a 3 rfl<|.k [8,10,12,51] rfl)<|ah rfl (fun h6=>?_) (fun h6=>?_)
    ·exact absurd (tt h6) (by omega)
    ·clear h6
     refine ak<|lj 5 20 mixed (
      .val [10] rfl (bw rfl) rfl rfl<|
      .val [53] rfl (rp (h:=1) rfl (bI.el.get rfl) rfl rfl rfl (show(aO (p0::q)).length=_ by simp[aO]) rfl rfl (by simp)) rfl rfl<|
      .val [12] rfl (bw rfl) rfl rfl<|
      .val [55] rfl (dR rfl (mT _ (by omega))) rfl rfl<|
      .val [54,56] rfl (bw rfl) rfl rfl<|
      .nil) (by kernel_rfl) rfl rfl (bd (ks:=[8,57]) rfl) ?_
     refine au 2 rfl<|aH [8,9] rfl ?_
     exact aq<|⟨_,_,ay.of rfl,aB.bG (an.cons (aB.iH (an.cons (aB.pure (p:=aw [p0]))<|an.cons aB.pure<|an.cons (aB.pure (p:=cI _)) an.nil)) (an.cons aB.pure an.nil)),by rw[hent];rfl⟩
   ·have hc:jm (s::l)=s::l:=if_neg (ff h5)
    rw[hc]at hent
    have hlm:(s::l).length≤32:=by simp only[List.length_cons];omega
    refine ak<|aj<|ab (.a 3 rfl<|.k [8,10,12,51] rfl)<|ah rfl (fun h6=>?_) (fun h6=>?_)
    ·exact absurd (tt h6) (by omega)
    ·clear h6
     refine ak<|lj 5 20 mixed (
      .val [10] rfl (bw rfl) rfl rfl<|
      .val [53] rfl (rp (h:=1) rfl (bI.el.get rfl) rfl rfl rfl (show(aO (p0::q)).length=_ by simp[aO]) rfl rfl (by simp)) rfl rfl<|
      .val [12] rfl (bw rfl) rfl rfl<|
      .val [55] rfl (dR rfl (mT _ (by omega))) rfl rfl<|
      .val [54,56] rfl (bw rfl) rfl rfl<|
      .nil) (by kernel_rfl) rfl rfl (bd (ks:=[8,57]) rfl) ?_
     refine au 2 rfl<|aH [8,9] rfl ?_
     exact aq<|⟨_,_,ay.of rfl,aB.bG (an.cons (aB.iH (an.cons (aB.pure (p:=aw [p0]))<|an.cons aB.pure<|an.cons (aB.pure (p:=cI _)) an.nil)) (an.cons aB.pure an.nil)),by rw[hent];rfl⟩
end PW
end Go.Proofs.YtnegbdpggideiaaGreatDoor
namespace Go.Proofs.YtnegbdpggideiaaGreatDoor
namespace PW
open Go.RowKit cB Mem
section
variable {P:Program} {σ:cd} {t:bY} {o:Oper}
theorem wG{ty e s:Nat}{x:Operand}(ho:o.op= .call {callee:=.builtin .cap,args:= #[x],argTypes:= #[ty]})(he:xg P ty=some (e,s))(hx:aC t x=some (.raw (.slice none 0 0))):bm P σ t o (.raw (.int .i64 0)):=by
 intro F base E ρ w hρ _ hT
 have h1:=ax hρ hT hx
 obtain⟨hu,_⟩:=gh he
 generalize hz:ρ x=z at h1
 cases h1
 simp[execOp,ho,resolve,invoke,builtin,Builtin.cap_,hz,run_underlying hu,goInt]
 exact bh (.raw _)
theorem yU{ty e s:Nat}{x hi':Operand}{k:IntKind}(ho:o.op= .slice ty x none (some hi') none)(he:xg P ty=some (e,s))(hx:aC t x=some (.raw (.slice none 0 0)))(hhi:aC t hi'=some (.raw (.int k 0))):bm P σ t o (.raw (.slice none 0 0)):=by
 intro F base E ρ w hρ _ hT
 have h1:=ax hρ hT hx
 have h2:=ax hρ hT hhi
 obtain⟨hu,inf,hinf,hs⟩:=gh he
 generalize hz:ρ x=z at h1
 generalize hz':ρ hi'=z' at h2
 cases h1
 cases h2
 have hr:(execOp ρ o).run P w= .ok (.value (.slice none 0 0)) w:=by
  simp[execOp,ho,hz,hz',Instr.sliceAt,run_underlying hu,Instr.slice,Instr.sliceBounds,Instr.sliceBound,asIntOf,sizeOf,typeInfo,hinf]
 rw[hr]
 exact bh (.raw _)
theorem u6{P:Program}(w:World)(t tx ty e:TypeId)(i:TypeInfo)(z:Value)(ht:P.underlying t=some (.slice e))(hx:P.underlying tx=some (.int .i64))(hi:P.info? e=some i)(hz:i.zero=some z)(hp:0<i.size)(n:Nat)
  (h0:0<n) (h63:(n:Int)≤9223372036854775807) (h48:n*i.bytes≤281474976710656):
  (Builtin.append_ #[t,tx] ty #[.slice none 0 0,.int .i64 (n:Int)]).run P w=
   .ok (.slice (some ⟨w.heap.size,0,none⟩) n (grownCap w n 0 e)) (w.drew.alloc (.cells (Builtin.zeroCells z.cells n++Builtin.zeroCells z.cells (grownCap w n 0 e - n)) e)):=by
 have hn:n≠0:=by omega
 have hp':i.size≠0:=by omega
 have h63':¬(9223372036854775807<(n:Int)):=by omega
 have h48':¬(281474976710656<Builtin.nextslicecap n 0*i.bytes):=by rw[nextslicecap_zero h0];omega
 have hw:IntKind.i64.wrap (n:Int)=n:=ju (by unfold In64;omega)
 have hb:¬(281474976710656<(n:Int)*(i.bytes:Int)):=by
  have:((n*i.bytes:Nat):Int)≤281474976710656:=by omega
  rw[Int.natCast_mul]at this
  omega
 have rM:¬((n:Int)<0):=by omega
 simp[Builtin.append_,run_underlying ht,run_underlying hx,sizeOf,typeInfo,zeroValue,hi,hz,asInt,asIntOf,hw,hb,rM,hn,hp',h63',h48',Question.forced,run_firstCells_none,newRow,grownCap]
 exact fun h=>absurd h (Nat.mul_ne_zero hn hp')
theorem zU{ty tx e s by':Nat}{z:List Value}{x y:Operand}{n:Nat}{m:Int}(ho:o.op= .call {callee:=.builtin .append,args:= #[x,y],argTypes:= #[ty,tx]})(hk:vL P ty=some (e,s,by',z))(htx:P.underlying tx=some (.int .i64))(hx:aC t x=some (.raw (.slice none 0 0)))(hy:aC t y=some (.raw (.int .i64 m)))(hm:m=(n:Int))(h0:0<n)(hn:n≤maxLen∧n*by'≤281474976710656):
  cJ P σ t o (.own σ.length) (σ++[some (.row e s n (dz (z.map .raw) n))]):=by
 intro F base E ρ w hρ hS hT
 have h1:=ax hρ hT hx
 have h2:=ax hρ hT hy
 generalize hz1:ρ x=v1 at h1
 generalize hz2:ρ y=v2 at h2
 cases h1;cases h2
 subst hm
 obtain⟨hu,i,z',hi,hs,hby,hz,hzz,hzs,hpos⟩:=oG hk
 have hsm:n≤9223372036854775807:=by have:=hn.1;simp only[maxLen]at this;omega
 have hrun:=u6 (P:=P) w ty tx o.type e i z' hu htx hi hz (by omega) n h0 (by omega) (by rw[hby];exact hn.2)
 have hr:(execOp ρ o).run P w= .ok (.value (.slice (some ⟨w.heap.size,0,none⟩) n (grownCap w n 0 e))) (w.drew.alloc (.cells (Builtin.zeroCells z'.cells n++Builtin.zeroCells z'.cells (grownCap w n 0 e - n)) e)):=by
  simp only[execOp,ho,resolve,invoke,builtin,Sem.run_bind,Sem.run_pure,Result.andThen_ok,List.map_toArray,List.map_cons,List.map_nil,hz1,hz2,hrun]
 have hge:=grownCap_ge w n 0 e
 have hcm:grownCap w n 0 e≤maxLen:=grownCap_le_maxLen w n 0 e hn.1
 have hzc:(Builtin.zeroCells z'.cells n).size=n*s:=by rw[size_zeroCells,hzs]
 have hown:(w.drew.alloc (.cells (Builtin.zeroCells z'.cells n++Builtin.zeroCells z'.cells (grownCap w n 0 e - n)) e)).ownsRow base e s (.slice (some ⟨w.heap.size,0,none⟩) n (grownCap w n 0 e)) n (Builtin.zeroCells z'.cells n).toList:=by
  refine⟨by rw[Array.length_toList,hzc],.inr ⟨w.heap.size,_,_,rfl,hS.bl,heap_alloc_new w.drew _,hge,hcm,?_,?_⟩⟩
  ·simp only[Array.size_append,size_zeroCells,hzs,←Nat.add_mul]
   congr 1
   omega
  ·simp only[Array.toList_append]
   rw[←hzc,←Array.length_toList]
   exact List.take_left
 have hg:w.grownBy (w.drew.alloc (.cells (Builtin.zeroCells z'.cells n++Builtin.zeroCells z'.cells (grownCap w n 0 e - n)) e)) none:=⟨rfl,rfl,rfl,by simp,fun k hk _=>heap_alloc_old w.drew _ hk⟩
 have hR:aU E w (Builtin.zeroCells z'.cells n).toList (dz (z.map .raw) n):=by
  rw[←hzz];exact mg z'.cells n (n*z'.cells.size) rfl
 obtain⟨a1,a2,a3,a4⟩:=nt hS (nm hg) (fun b h=>by simp[bq]at h;omega) hown hR
 exact⟨_,_,_,.inl hr,a1,a2,a3,a4⟩
end
end PW
end Go.Proofs.YtnegbdpggideiaaGreatDoor
namespace Go.Proofs.YtnegbdpggideiaaGreatDoor
namespace PW
open Go.RowKit cB Mem Net eW
theorem qY(l:List Int)(hl:l.length≤1000):Can Tryz.prog 144 [aw l] (· =aw l):=by
 refine aE Tryz.func144 rfl Tryz.ntmps144 rfl<|ab (.a 1 rfl<|.k [0] rfl)<|aj<|aQ (WR.mono (K:=fun s=>∃b:Bool,s=⟨[(0,aw l),(4,.raw (.bool b))],[]⟩∧(b=true→l=[])) ?_ ?_)
 ·cases l with
  |nil=>exact au 1 rfl<|uB rfl I2 rfl rfl rfl rfl rfl fun b=>aH [0,4] rfl ⟨b,rfl,fun _=>rfl⟩
  |cons a l=>exact au 1 rfl<|bH (nG rfl I2 rfl rfl (Nat.succ_pos _)) rfl rfl rfl<|aH [0,4] rfl ⟨_,rfl,fun h=>by cases h⟩
 rintro _ ⟨b,rfl,hb⟩
 refine ah rfl (fun hc=>?_) (fun hc=>?_)
 ·have:l=[]:=hb hc
  subst this
  exact ab (.a 1 rfl<|.k [2] rfl)<|aq<|⟨_,_,ay.of rfl,aB.bZ,rfl⟩
 ·refine ak<|aQ<|cn (gb rfl (bI.sl.get rfl)) rfl<|au 1 rfl<|cn (bA rfl (bI.rk.get rfl) rfl rfl rfl (show(aO l).length=l.length*1 by simp[aO]) (by unfold maxLen;omega)) rfl<|au 1 rfl<|aH [2] rfl ?_
  refine aq<|⟨_,_,ay.of rfl,aB.ew (xs:=aO l) (ys:=aO l) rfl an.pure,?_⟩
  rw[Nat.zero_add];rfl
theorem Ba(n:Nat)(hn:n≤1000):bT Tryz.prog 172 [.raw (.slice none 0 0),num n] [] (fun r σ'=>r= .own 0∧σ'=[some (.row 103 2 0 [])]):=by
 refine ct Tryz.func172 rfl Tryz.ntmps172 rfl<|ab (.a 1 rfl<|.k [0,1] rfl)<|aj<|ab (.a 2 rfl<|.k [0,1,6] rfl)<|ah rfl (fun h1=>?_) (fun h1=>?_)
 ·exact absurd (tt h1) (by omega)
 ·clear h1
  refine ak<|aj<|ab (.a 2 rfl<|.v (wG rfl (bI.el.get rfl) rfl) rfl<|.a 1 rfl<|.v (qD rfl (bI.el.get rfl) rfl) rfl<|.v (aS rfl) rfl<|.v (aS rfl) rfl<|.a 1 rfl<|.k [0,1] rfl)<|ab (.a 2 rfl<|.k [0,1,16] rfl)<|ah rfl (fun h2=>?_) (fun h2=>?_)
  ·have hpos:0<n:=by have:=tt h2;omega
   refine bF<|au 2 rfl<|bE (wG rfl (bI.el.get rfl) rfl) rfl<|bE (yU rfl (bI.el.get rfl) rfl rfl) rfl<|au 1 rfl<|cn (zU (n:=n) rfl (bI.rk.get rfl) Tryz.underlying3 rfl rfl (by omega) hpos (by unfold maxLen;omega)) rfl<|au 1 rfl<|bE (qD rfl (bI.el.get rfl) rfl) rfl<|cn (nL (h:=0) rfl (bI.el.get rfl) rfl rfl rfl rfl (by omega)) rfl<|au 1 rfl<|aH [0] rfl ?_
   refine cZ [1] (.c 0<|.nil) (.kept rfl (.row aD.nil)<|.nil) rfl rfl ?_
   exact ab (.a 2 rfl<|.k [4] rfl)<|aq<|⟨_,ay.of rfl,rfl,rfl⟩
  ·refine gQ 0 103 2 rfl ?_
   exact ak<|ab (.a 2 rfl<|.k [4] rfl)<|aq<|⟨_,ay.of rfl,rfl,rfl⟩
def qe(A B:List b7)(i:Nat):List b7:=if i=0 then [] else if i=1 then A else A++B
def Fi(A B:List b7)(i:Nat):List b7:=if i=0 then A else B
theorem wB(A B:List b7){i:Nat}(h:i<2):qe A B (i+1)=qe A B i++Fi A B i:=by
 rcases(show i=0∨i=1 by omega)with rfl|rfl<;>rfl
theorem pQ(A B:List b7)(i:Nat):(qe A B i).length≤A.length+B.length:=by
 unfold qe
 split
 ·simp
 ·split<;>simp
theorem pr(A B:List b7)(hl:A.length+B.length≤1000):Can Tryz.prog 145 [.slice 2 [cI A,cI B]] (· =cI (A++B)):=by
 refine aE Tryz.func145 rfl Tryz.ntmps145 rfl ?_
 have hg:=Ba (A++B).length (by simpa using hl)
 refine ab (.a 1 rfl<|.k [0] rfl)<|ab (.a 1 rfl<|.k [0,3] rfl)<|aj<|ab (.a 3 rfl<|.k [0,3,9,10,11] rfl)<|av<|ft [0,3,9,10,11] rfl<|br (fun r s=>∃i,i≤2∧r=2 - i∧s=⟨[(0,.slice 2 [cI A,cI B]),(3,num (qe A B i).length),(9,.slice 2 [cI A,cI B]),(10,num 2),(11,num i)],[]⟩) 2 ⟨0,by omega,by omega,rfl⟩ ?_
 rintro r s ⟨i,hi,rfl,rfl⟩
 refine ab (.a 1 rfl<|.k [0,3,9,10,11,12] rfl)<|aj<|ah rfl (fun h1=>?_) (fun h1=>?_)
 ·have hlt:i<2:=by have:=tt h1;omega
  have hc1:=pQ A B i
  have hc2:=pQ A B (i+1)
  have hst:=congrArg List.length (wB A B hlt)
  rw[List.length_append]at hst
  have hget:[cI A,cI B][i]? =some (cI (Fi A B i)):=by
   rcases(show i=0∨i=1 by omega)with rfl|rfl<;>rfl
  clear h1
  refine ak<|aj<|av<|ab (.v (aL (i) rfl) rfl<|.v (aN rfl (hget)) rfl<|.a 1 rfl<|.k [0,3,5,9,10,11] rfl)<|ab (.a 3 rfl<|.v (aS rfl (hc:=(show((qe A B i).length:Int)+((Fi A B i).length:Int)=((qe A B (i+1)).length:Int) by omega)) (hn:=(by unfold In64;omega))) rfl<|.a 1 rfl<|.k [0,3,9,10,11] rfl)<|ab (.a 2 rfl<|.k [0,3,9,10,11,20] rfl)<|ah rfl (fun h2=>?_) (fun h2=>?_)
  ·exact absurd (tt h2) (by omega)
  ·clear h2
   refine ak<|az (.v (aS rfl) rfl<|.a 1 rfl<|.k [0,3,9,10,11] rfl) ?_
   exact⟨2 - (i+1),by omega,i+1,by omega,rfl,rfl⟩
 ·have hie:i=2:=by have:=ff h1;omega
  subst hie
  have hcat:qe A B 2=A++B:=rfl
  rw[hcat]
  clear h1
  refine bg<|aQ<|au 1 rfl<|cS rfl rfl (bT.mono hg (fun r σ' h=>?_))
  obtain⟨rfl,rfl⟩:=h
  refine au 1 rfl<|aH [0,6] rfl ?_
  refine aj<|ab (.a 3 rfl<|.k [6,25,26,27] rfl)<|av<|ft [6,25,26,27] rfl<|br (fun r s=>∃i,i≤2∧r=2 - i∧s=⟨[(6,.own 0),(25,.slice 2 [cI A,cI B]),(26,num 2),(27,num i)],[some (.row 103 2 (qe A B i).length (eL (qe A B i)))]⟩) 2 ⟨0,by omega,by omega,rfl⟩ ?_
  rintro r s ⟨i,hi,rfl,rfl⟩
  refine ab (.a 1 rfl<|.k [6,25,26,27,28] rfl)<|aj<|ah rfl (fun h1=>?_) (fun h1=>?_)
  ·have hlt:i<2:=by have:=tt h1;omega
   have hc1:=pQ A B i
   have hc2:=pQ A B (i+1)
   have hst:=wB A B hlt
   have hsl:=congrArg List.length hst
   rw[List.length_append]at hsl
   have hget:[cI A,cI B][i]? =some (cI (Fi A B i)):=by
    rcases(show i=0∨i=1 by omega)with rfl|rfl<;>rfl
   clear h1
   refine ak<|aj<|av<|ab (.v (aL (i) rfl) rfl<|.v (aN rfl (hget)) rfl<|.a 1 rfl<|.k [6,8,25,26,27] rfl)<|bF<|au 2 rfl<|cn (bA rfl (bI.rk.get rfl) rfl rfl rfl (lP _) (show _≤maxLen∧_*16≤140737488355328 by unfold maxLen;omega)) rfl<|au 1 rfl ?_
   refine ep [1] (.c 6<|.c 25<|.c 26<|.c 27<|.nil) (.kept rfl (.fj rfl (rfl))<|.nil) rfl rfl (aZ ?_)
   refine az (.v (aS rfl) rfl<|.a 1 rfl<|.k [6,25,26,27] rfl) ?_
   refine⟨2 - (i+1),by omega,i+1,by omega,rfl,?_⟩
   rw[hst,List.length_append]
   unfold eL
   rw[List.flatMap_append]
   rfl
  ·have hie:i=2:=by have:=ff h1;omega
   subst hie
   have hcat:qe A B 2=A++B:=rfl
   rw[hcat]
   clear h1
   exact bg<|ab (.a 2 rfl<|.k [2] rfl)<|aq<|⟨_,_,ay.of rfl,aB.ew rfl an.pure,rfl⟩
end PW
end Go.Proofs.YtnegbdpggideiaaGreatDoor
namespace Go.Proofs.YtnegbdpggideiaaGreatDoor
namespace PW
open Go.RowKit cB Mem Net eW
def FM(v:Int):List Int→Nat→Int
 | [],_=> -1
 |a::l,i=>bif decide (v=a) then(i:Int) else FM v l (i+1)
theorem yW(v:Int):∀(l:List Int) (i:Nat),0≤FM v l i↔v∈l
 | [],i=>by simp[FM]
 |a::l,i=>by
  simp only[FM]
  by_cases h:v=a
  ·rw[decide_eq_true h,cond_true]
   exact⟨fun _=>by rw[h];exact List.mem_cons_self,fun _=>by omega⟩
  ·rw[decide_eq_false h,cond_false,yW v l (i+1),List.mem_cons]
   exact⟨.inr,fun h'=>h'.resolve_left h⟩
theorem GF(v:Int)(l:List Int)(i:Nat):decide (0≤FM v l i)=decide (v∈l):=decide_eq_decide.2 (yW v l i)
theorem xj(l:List Int)(v:Int)(hl:l.length≤1000):Can Tryz.prog 143 [aw l,num v] (· =num (FM v l 0)):=by
 refine aE Tryz.func143 rfl Tryz.ntmps143 rfl<|ab (.a 1 rfl<|.k [0,1] rfl)<|aj<|ab (.a 3 rfl<|.k [0,1,7,8] rfl)<|av<|ft [0,1,7,8] rfl<|br (fun r s=>∃i,i≤l.length∧r=l.length - i∧FM v l 0=FM v (l.drop i) i∧s=⟨[(0,aw l),(1,num v),(7,num l.length),(8,num i)],[]⟩) l.length ⟨0,by omega,by omega,rfl,rfl⟩ ?_
 rintro r s ⟨i,hi,rfl,hx,rfl⟩
 refine ab (.a 1 rfl<|.k [0,1,7,8,9] rfl)<|aj<|ah rfl (fun h1=>?_) (fun h1=>?_)
 ·have hlt:i<l.length:=by have:=tt h1;omega
  rw[drop_cons l i hlt]at hx
  simp only[FM]at hx
  obtain⟨q,hq⟩:∃q,decide (v=l.getD i 0)=q:=⟨_,rfl⟩
  rw[hq]at hx
  refine ak<|aj<|av<|ab (.a 2 rfl<|.k [0,1,5,7,8] rfl)<|ab (.a 3 rfl<|.v (aL (i) rfl) rfl<|.v (aN rfl (aA l i hlt)) rfl<|.v (cb rfl (hq)) rfl<|.k [0,1,5,7,8,16] rfl)<|ah rfl (fun h2=>?_) (fun h2=>?_)
  ·subst h2
   rw[cond_true]at hx
   rw[hx]
   exact ab (.a 2 rfl<|.k [4] rfl)<|aq<|⟨_,_,ay.of rfl,aB.pure,rfl⟩
  ·subst h2
   rw[cond_false]at hx
   refine ak<|az (.v (aS rfl) rfl<|.a 1 rfl<|.k [0,1,7,8] rfl) ?_
   exact⟨l.length - (i+1),by omega,i+1,by omega,rfl,hx,rfl⟩
 ·have hie:i=l.length:=by have:=ff h1;omega
  subst hie
  rw[List.drop_length]at hx
  rw[hx]
  exact bg<|ab (.a 1 rfl<|.k [4] rfl)<|aq<|⟨_,_,ay.of rfl,aB.pure,rfl⟩
theorem rK(l:List Int)(v:Int)(hl:l.length≤1000):Can Tryz.prog 104 [aw l,num v] (· =flag (decide (v∈l))):=by
 obtain⟨q,hq⟩:∃q,decide (v∈l)=q:=⟨_,rfl⟩
 have hm:=(GF v l 0).trans hq
 rw[hq]
 exact aE Tryz.func104 rfl Tryz.ntmps104 rfl<|ab (.a 1 rfl<|.k [0,1] rfl)<|ab (.a 2 rfl<|.c rfl (xj l v hl) rfl<|.v (cb rfl (hm)) rfl<|.a 1 rfl<|.k [4] rfl)<|aq<|⟨_,_,ay.of rfl,aB.pure,rfl⟩
structure eC where
 id:Int
 src:Int
 dst:Int
 pC:Int
 stack:List b7
 db:Int
def cX(p:eC):List PV:=[num p.id,num p.src,num p.dst,num p.pC,cI p.stack,num p.db]
def eI(p:eC):PV:=.agg (cX p)
instance (p:eC):aJ (cX p):=by unfold cX;infer_instance
instance (p:eC):IsPure (eI p):=by unfold eI;infer_instance
structure Out where
 aI:List Int
 eQ:eC
 dt:Int
def An(r:Out):PV:=.tuple [aw r.aI,eI r.eQ,num r.dt]
def fY(p:eC)(r:Int):Out:=⟨[],p,r⟩
def cH(p:eC)(s:List b7)(aI:List Int):Out:=⟨aI,⟨p.id,p.src,p.dst,p.pC,s,p.db+1⟩,0⟩
def gE(p:eC)(s:List b7)(e:iC):Out:=
 if e.rep then(if 32<(e.push++s.drop 1).length then fY p 5 else cH p (e.push++s.drop 1) e.aI) else cH p s e.aI
theorem rb(p:eC)(s:List b7)(hl:s.length≤1000):Can Tryz.prog 102 [eI p,cI s] (· =eI ⟨p.id,p.src,p.dst,p.pC,s,p.db⟩):=by
 refine aE Tryz.func102 rfl Tryz.ntmps102 rfl<|aQ<|cn (fF rfl rfl rfl) rfl<|au 1 rfl<|aH [1,2,4] rfl ?_
 refine aQ<|au 1 rfl<|eA rfl (mT s hl) rfl<|au 2 rfl<|aH [2,4] rfl ?_
 refine aQ<|au 2 rfl<|aH [4] rfl ?_
 exact aq<|⟨_,_,ay.of rfl,aB.pure (p:=eI ⟨p.id,p.src,p.dst,p.pC,s,p.db⟩),rfl⟩
theorem fZ(p:eC)(r:Int)(hl:p.stack.length≤1000):Can Tryz.prog 101 [eI p,num r] (· =An (fY p r)):=by
 refine aE Tryz.func101 rfl Tryz.ntmps101 rfl<|aQ<|au 4 rfl<|aH [1,2,5] rfl ?_
 refine aQ<|au 2 rfl<|bE (aN rfl ((rfl:(cX p)[4]? =some (cI p.stack)))) rfl<|eA rfl (rb p p.stack hl) rfl<|au 4 rfl<|aH [4,5,6] rfl ?_
 exact aq<|⟨_,_,ay.of rfl,aB.bG (an.cons aB.bZ<|an.cons (aB.pure (p:=eI p))<|an.cons aB.pure an.nil),rfl⟩
theorem lH(p:eC)(s:List b7)(aI:List Int)(hl:s.length≤1000)(ha:aI.length≤1000)(hh:0≤p.db∧p.db≤1000):Can Tryz.prog 105 [eI p,cI s,aw aI] (· =An (cH p s aI)):=by
 refine aE Tryz.func105 rfl Tryz.ntmps105 rfl<|aQ<|cn (fF rfl rfl rfl) rfl<|au 3 rfl<|aH [1,2,3,7] rfl ?_
 refine aQ<|au 2 rfl<|eA rfl (rb p s hl) rfl<|au 1 rfl<|aH [2,3,7] rfl ?_
 refine aQ<|au 2 rfl<|bE (aS rfl (hn:=(show In64 (p.db+1) by unfold In64;omega))) rfl<|au 2 rfl<|aH [2,3,7] rfl ?_
 refine lj 4 20 mixed (
  .val [2] rfl (bw rfl) rfl rfl<|
  .val [16] rfl (dR rfl (qY aI ha)) rfl rfl<|
  .val [3] rfl (bw rfl) rfl rfl<|
  .val [17] rfl (bw rfl) rfl rfl<|
  .nil) (by kernel_rfl) rfl rfl (bd (ks:=[6,7,18]) rfl) ?_
 refine au 2 rfl<|aH [6,7,8] rfl ?_
 exact aq<|⟨_,_,ay.of rfl,aB.bG (an.cons (aB.pure (p:=aw aI))<|an.cons (aB.pure (p:=eI ⟨p.id,p.src,p.dst,p.pC,s,p.db+1⟩))<|an.cons aB.pure an.nil),rfl⟩
end PW
end Go.Proofs.YtnegbdpggideiaaGreatDoor
