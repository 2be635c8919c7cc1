/- Texts of the proof, part 9. -/
import Derived.WideShapes
import Derived.Deep.AppendSrc
import Derived.Test.YtnegbdpggideiaaGreatDoorCardXEB8
set_option linter.unusedVariables false
set_option linter.unusedSimpArgs false
set_option maxRecDepth 10000
set_option maxHeartbeats 1000000
namespace Go.Proofs.YtnegbdpggideiaaGreatDoor
namespace PW
section
open Go.RowKit cG Mem Net
theorem sj(l:List bV)(e:bV):dR l++oN e=dR (l++[e]):=by simp[dR]
theorem fN(l:List bV):(dR l).length=l.length*2:=by
 induction l with
 |nil=>rfl
 |cons a l ih=>simp only[dR,List.flatMap_cons,List.length_append,List.length_cons]at*;rw[ih];simp[oN];omega
def lH(c:Nat→Bool)(i:Nat):Nat→Option Nat
 |0=>none
 |m+1=>if m+1≤i then none else if c (m+1) then some (m+1) else lH c i m
theorem uz{c:Nat→Bool}{i j:Nat}(hij:i<j)(hc:c j=true):∀m,j≤m→(∀k,j<k→k≤m→c k=false)→lH c i m=some j
 |0,h,_=>by omega
 |m+1,h,hn=>by
  unfold lH
  rw[if_neg (by omega)]
  by_cases e:j=m+1
  ·subst e;rw[if_pos hc]
  ·rw[if_neg (by rw[hn (m+1) (by omega) (by omega)];simp)]
   exact uz hij hc m (by omega) (fun k h1 h2=>hn k h1 (by omega))
theorem tg{c:Nat→Bool}{i:Nat}:∀m,(∀k,i<k→k≤m→c k=false)→lH c i m=none
 |0,_=>rfl
 |m+1,hn=>by
  unfold lH
  by_cases e:m+1≤i
  ·rw[if_pos e]
  ·rw[if_neg e,if_neg (by rw[hn (m+1) (by omega) (by omega)];simp)]
   exact tg m (fun k h1 h2=>hn k h1 (by omega))
theorem ob{c:Nat→Bool}{i:Nat}:∀m j,lH c i m=some j→i<j∧j≤m∧c j=true∧∀k,j<k→k≤m→c k=false
 |0,j,h=>by cases h
 |m+1,j,h=>by
  unfold lH at h
  split at h
  ·cases h
  ·split at h
   ·cases h;rename_i h1 h2;exact⟨by omega,by omega,h2,fun k h3 h4=>by omega⟩
   ·rename_i h1 h2
    obtain⟨a,b,c1,d⟩:=ob m j h
    refine⟨a,by omega,c1,fun k h3 h4=>?_⟩
    by_cases e:k=m+1
    ·subst e;simpa using h2
    ·exact d k h3 (by omega)
theorem jU{c:Nat→Bool}{i:Nat}:∀m,lH c i m=none→∀k,i<k→k≤m→c k=false
 |0,_,k,h1,h2=>by omega
 |m+1,h,k,h1,h2=>by
  unfold lH at h
  split at h
  ·omega
  ·split at h
   ·cases h
   ·rename_i h3 h4
    by_cases e:k=m+1
    ·subst e;simpa using h4
    ·exact jU m h k h1 (by omega)
noncomputable def iR(T:ak)(D:List Bool)(n:Int)(p:List Int):Nat→Nat→List bV
 |0,_=>[]
 |f+1,i=>if i<p.length then(match lH (fI T D n p i) i p.length with
  |some j=>⟨1,cO T n (p.take j)⟩::iR T D n p f j
  |none=>⟨2,p.getD i 0⟩::iR T D n p f (i+1)) else []
noncomputable def jb(T:ak)(D:List Bool)(n:Int)(p:List Int):List bV:=iR T D n p p.length 0
section
variable {T:ak} {D:List Bool} {n:Int} {p:List Int}
theorem oP(f i:Nat)(h:p.length≤i):iR T D n p f i=[]:=by
 cases f with
 |zero=>rfl
 |succ f=>simp only[iR];rw[if_neg (by omega)]
theorem kL{f i j:Nat}(hi:i<p.length)(hij:i<j)(hj:j≤p.length)(hc:fI T D n p i j=true)(hno:∀k,j<k→k≤p.length→fI T D n p i k=false):iR T D n p (f+1) i=⟨1,cO T n (p.take j)⟩::iR T D n p f j:=by
 simp only[iR]
 rw[if_pos hi,uz hij hc p.length hj hno]
theorem mq{f i:Nat}(hi:i<p.length)(hno:∀k,i<k→k≤p.length→fI T D n p i k=false):iR T D n p (f+1) i=⟨2,p.getD i 0⟩::iR T D n p f (i+1):=by
 simp only[iR]
 rw[if_pos hi,tg p.length hno]
theorem pB:∀ {f:Bool} {x:Int} {l m:List Int},eG T f x (l++m)=0→eG T f x l=0∧∃g,eG T g (cO T x l) m=0
 |f,x,[],m,h=>⟨rfl,f,h⟩
 |f,x,a::l,m,h=>by
  simp only[List.cons_append,eG]at h ⊢
  split at h
  ·omega
  ·rename_i h1
   rw[if_neg h1]
   split at h
   ·omega
   ·rename_i h2
    rw[if_neg h2]
    exact pB h
theorem A2(hv:aq T=true):∀ {f:Bool} {x:Nat} {l:List Int} {y:Nat},eG T f x l=0→(∀a∈l,aQ D a.toNat=false)→cO T x l=(y:Int)→Ch T D y x l
 |f,x,[],y,_,_,he=>by
  have:y=x:=by simp only[cO]at he;omega
  subst this
  exact .nil
 |f,x,a::l,y,h,hd,he=>by
  simp only[eG]at h
  split at h
  ·omega
  ·rename_i h1
   split at h
   ·omega
   ·rename_i h2
    have hab:eQ T a=true:=by simpa using h1
    obtain⟨_,m,hm,hmN⟩:=kg hv hab
    simp only[eQ,decide_eq_true_eq]at hab
    obtain⟨b,rfl⟩:=Int.eq_ofNat_of_zero_le hab.1
    rw[Int.toNat_natCast]at hm
    simp only[cO,Int.toNat_natCast]at he h2 h
    rw[hm]at he h
    have hch:=A2 hv h (fun c hc=>hd c (by simp[hc])) he
    refine .cons (by omega) (Classical.byContradiction fun hn=>h2 (.inl hn)) (hd b (by simp)) hm ?_ hch
    cases l with
    |nil=>exact .inl rfl
    |cons c l=>
     right
     simp only[eG]at h
     split at h
     ·omega
     ·split at h
      ·omega
      ·rename_i h4
       simp only[Int.toNat_natCast]at h4
       cases ho:dp T m with
       |false=>rfl
       |true=>exact absurd (.inr ⟨trivial,ho⟩) h4
structure qh (T:ak) (D:List Bool) (n:Int) (p:List Int):Prop where
 valid:aq T=true
 fits:bW T D=true
 node:bu T n=true
 walk:eG T true n p=0
 up:∀a∈p,aQ D a.toNat=false
theorem DS(h:fU T D n p=0):qh T D n p:=by
 unfold fU at h
 split at h
 ·rename_i h1
  obtain⟨hv,hf⟩:=Bool.and_eq_true_iff.1 h1
  split at h
  ·rename_i h2
   obtain⟨_,hn,hw⟩:=nI h2
   split at h
   ·omega
   ·rename_i h3
    exact⟨hv,hf,hn,hw,fun a ha=>by
     cases hd:aQ D a.toNat with
     |false=>rfl
     |true=>exact absurd (List.any_eq_true.2 ⟨a,ha,hd⟩) h3⟩
  ·omega
 ·omega
theorem qh.ax(h:qh T D n p):∀a∈p,eQ T a=true:=nf h.walk
def fm(p:List Int)(i j:Nat):List Int:=(p.drop i).take (j - i)
theorem je(p:List Int){i j:Nat}(hij:i≤j):p.take j=p.take i++fm p i j:=by
 unfold fm
 have h:(p.take j)=(p.take j).take i++(p.take j).drop i:=(List.take_append_drop i _).symm
 rw[h,List.take_take,Nat.min_eq_left hij,List.drop_take]
theorem oa(p:List Int){i j:Nat}(hij:i≤j)(hj:j≤p.length):(fm p i j).length=j - i:=by unfold fm;simp;omega
theorem qh.ch(h:qh T D n p){i j u y:Nat}(hij:i≤j)(hj:j≤p.length)(hu:cO T n (p.take i)=(u:Int))(hy:cO T n (p.take j)=(y:Int)):Ch T D y u (fm p i j):=by
 have h1:eG T true n (p.take j)=0:=(pB (l:=p.take j) (m:=p.drop j) (by rw[List.take_append_drop];exact h.walk)).1
 rw[je p hij]at h1
 obtain⟨_,g,hg⟩:=pB h1
 rw[hu]at hg
 refine A2 h.valid hg (fun a ha=>h.up a ?_) ?_
 ·exact List.mem_of_mem_drop (List.mem_of_mem_take ha)
 ·rw[←hu,←mv,←je p hij];exact hy
theorem Cm(T:ak)(p:List Int){i j:Nat}(hij:i≤j):dw T (p.take j) - dw T (p.take i)=dw T (fm p i j):=by
 rw[je p hij,gM];omega
theorem mF(h:qh T D n p){i j u y:Nat}(hij:i≤j)(hj:j≤p.length)(hu:cO T n (p.take i)=(u:Int))(hy:cO T n (p.take j)=(y:Int)):fI T D n p i j=true↔SP T D y u (fm p i j)∧ei T D y u=1:=by
 have hch:=h.ch hij hj hu hy
 have ha:=h.ax
 obtain⟨u',hu',huN⟩:=cE h.valid h.node ha i (by omega)
 obtain⟨y',hy',hyN⟩:=cE h.valid h.node ha j hj
 have e1:u'=u:=by omega
 have e2:y'=y:=by omega
 subst e1
 subst e2
 have hne:cu T D (u':Int) (y':Int)=0:=by
  unfold cu
  rw[if_pos (vQ h.valid h.fits hyN),aT.2 ⟨by omega,huN⟩]
  rfl
 unfold fI fT
 rw[hu,hy,Int.toNat_natCast,Int.toNat_natCast,Cm T p hij,hne]
 simp only[decide_true,Bool.true_and,Bool.and_eq_true,decide_eq_true_eq]
 constructor
 ·rintro⟨h1,h2⟩;exact⟨hch.sp h.valid hyN h1,h2⟩
 ·rintro⟨h1,h2⟩;exact⟨(h1.cost h.valid hyN).1,h2⟩
theorem Hc(h:qh T D n p){i j:Nat}(hij:i≤j)(hj:j≤p.length)(hc:fI T D n p i j=true):(j:Int) - i<T.nodes:=by
 have ha:=h.ax
 obtain⟨u,hu,huN⟩:=cE h.valid h.node ha i (by omega)
 obtain⟨y,hy,hyN⟩:=cE h.valid h.node ha j hj
 have:=((mF h hij hj hu hy).1 hc).1.Ez h.valid hyN
 rw[oa p hij hj]at this
 omega
end
def tQ(e:Int)(l:List bV):PV:=.tuple [cc (if e=0 then l else []),num e]
def wI(l:List bV):Option cK:=some (.row 103 2 l.length (dR l))
theorem CU(l:List bV):lq (wI l):=fun b hb=>by cases hb;exact(inferInstance:aL (dR l))
theorem zP(T:ak)(D:List Bool)(p:List Int)(n:Int)(hp:p.length≤1000)(hlk:T.ae.length≤256):bU Tryz.prog 111 [aP T,bn D,av p,num n] [] (fun r σ'=>∃x,r= .tuple [x,num (fU T D n p)]∧(fU T D n p=0→x= .ptr 4 0∧σ'=B0 T D p (vy T n p) (vu T p) [] [])):=
 bU.mono (Ae T D p n hp hlk) fun r σ' h=>by
  rcases h with⟨he,rfl⟩|⟨he,rfl,rfl⟩
  ·exact⟨_,rfl,fun h=>absurd h he⟩
  ·exact⟨_,by rw[he],fun _=>⟨rfl,rfl⟩⟩
set_option maxHeartbeats 2000000 in
theorem BQ(T:ak)(D:List Bool)(p:List Int)(n:Int)(hp:p.length≤1000)(hlk:T.ae.length≤256)(h12:T.nodes≤12):Can Tryz.prog 54 [aP T,bn D,av p,num n] (· =tQ (fU T D n p) (jb T D n p)):=by
  refine aH Tryz.func54 I Tryz.ntmps54 I<|ab (.a 3 I<|.k [1,2,3,4] I)<|AJ ?_
  refine aO<|aw 4 I<|cN I I (bU.mono (zP T D p n hp hlk) (fun r σ' h=>?_))
  obtain⟨x,rfl,hx⟩:=h
  refine aw 5 I<|aE [2,4,10,11] I ?_
  refine aj<|ab (.a 2 I<|.k [2,4,10,11,24] I)<|ag I (fun hc=>?_) (fun hc=>?_)
  · have he:fU T D n p≠0:=tt hc
    exact ab (.a 3 I<|.k [8,9] I)<|ao<|⟨_,_,az.of I,ay.aX (ah.cons ay.bM (ah.cons ay.pure ah.nil)),by unfold tQ;rw[if_neg he];rfl⟩
  · have he:fU T D n p=0:=Classical.byContradiction (ff hc)
    obtain⟨rfl,rfl⟩:=hx he
    have hF:=DS he
    have hv:=hF.valid
    have hS:=aM hv
    have hN:=hS.nodes
    have ha:=hF.ax
    obtain⟨N,hNN⟩:∃N:Nat,T.nodes=(N:Int):=⟨T.nodes.toNat,by omega⟩
    rw[he]
    clear hc
    refine ai<|ab (.a 1 I<|.k [2,4,10,12] I)<|gH 12 103 2 I ?_
    refine ab (.a 1 I<|.k [2,4,10,12,13] I)<|aj<|AK ?_
    refine aj<|au<|eH [2,4,10,12,13] I<|bq (fun r st=>∃(l:List bV) (i f:Nat) (dm:List (Int×PV)) (um:List ((Int×Int)×PV)),i≤p.length∧p.length - i≤f∧l.length≤i∧r=p.length - i∧jb T D n p=l++iR T D n p f i∧kr T D dm∧kO T D um∧st=⟨[(2,av p),(4,.bb (bC T) 0),(10,.ptr 4 0),(12,.own 5),(13,num i)],B0 T D p (vy T n p) (vu T p) dm um++[wI l]⟩) p.length ⟨[],0,p.length,[],[],by omega,by omega,by simp,by omega,rfl,(fun _ _ h=>by cases h),(fun _ _ h=>by cases h),rfl⟩ ?_
    rintro r st ⟨l,i,f,dm,um,hi,hif,hli,rfl,hl,hdm,hum,rfl⟩
    refine aj<|ab (.a 4 I<|.k [2,4,10,12,13,29] I)<|ag I (fun h1=>?_) (fun h1=>?_)
    · have hlt:i<p.length:=by have:=tt h1;omega
      refine ai<|au<|aj ?_
      obtain⟨m,hm⟩:∃m:Nat,min (p.length:Int) ((i:Int)+(N:Int) - 1)=(m:Int):=⟨(min (p.length:Int) ((i:Int)+(N:Int) - 1)).toNat,by omega⟩
      have hfar:∀k,m<k→k≤p.length→fI T D n p i k=false:=fun k h2 h3=>by
        cases hcv:fI T D n p i k with
        |false=>rfl
        |true=>
          have:=Hc hF (i:=i) (j:=k) (by omega) h3 hcv
          omega
      refine ab (.a 4 I<|.v (aJ I ((show some (num T.nodes)=some (num (N:Int)) by rw[hNN]))) I<|.v (aU I) I<|.v (aU I) I<|.v (td I I I (hm)) I<|.a 1 I<|.k [2,4,10,12,13,14] I)<|au<|eH [2,4,10,12,13,14] I<|bq (fun r st=>∃(j:Nat) (dm:List (Int×PV)) (um:List ((Int×Int)×PV)),i≤j∧j≤p.length∧r=j∧(∀k,j<k→k≤p.length→fI T D n p i k=false)∧kr T D dm∧kO T D um∧st=⟨[(2,av p),(4,.bb (bC T) 0),(10,.ptr 4 0),(12,.own 5),(13,num i),(14,num j)],B0 T D p (vy T n p) (vu T p) dm um++[wI l]⟩) m ⟨m,dm,um,by omega,by omega,rfl,hfar,hdm,hum,rfl⟩ ?_
      clear hdm hum
      rintro r st ⟨j,dm,um,hij,hj,rfl,hno,hdm,hum,rfl⟩
      refine aj<|ab (.a 3 I<|.k [2,4,10,12,13,14,40] I)<|ag I (fun h2=>?_) (fun h2=>?_)
      · have hlt2:i<r:=by have:=tt h2;omega
        refine ai<|aj<|au<|aO<|aw 3 I<|cN I I (bU.mono (xr T D p n dm um (wI l) (CU l) hv hF.fits h12 hF.node ha hp i r (by omega) hj hdm hum) (fun _ σ' h=>?_))
        obtain⟨rfl,dm1,um1,hdm1,hum1,rfl⟩:=h
        refine aE [2,4,10,12,13,14,46] I ?_
        refine ag I (fun h3=>?_) (fun h3=>?_)
        · have hgj:=vb T n p r hj
          have hl1:=u7 T n p
          refine aO<|aw 6 I<|bw (aN (r) I) I<|bw (aJ I ((aB _ r (by omega)).trans (by rw[hgj]))) I<|aw 2 I<|b7 (bh I (ba.rk.get I) I I I I (by unfold maxLen;omega)) I<|aw 1 I ?_
          refine eR [0,1,2,3,4,6] (.c 2<|.c 4<|.c 10<|.c 12<|.c 14<|.nil) (.kept rfl (.row aI.pure)<|.kept rfl (.row aI.pure)<|.same (kr.pure hdm1) I<|.same (kO.pure hum1) I<|.kept rfl (.cells (aI.c<|aI.c<|aI.c<|aI.c<|aI.c<|aI.c<|aI.c<|aI.c<|aI.c<|aI.nil))<|.kept rfl (.fF rfl (sj _ ⟨1,cO T n (p.take r)⟩))<|.nil) I I (bp ?_)
          refine ab (.a 2 I<|.k [2,4,10,12,13] I)<|bd ?_
          cases f with
          |zero=>omega
          |succ f=>
            first
              | (refine ⟨p.length - r, by omega, l ++ [⟨1, cO T n (p.take r)⟩], r, f, dm1, um1, by omega, by omega, by simp; omega, rfl, ?_, hdm1, hum1, ?_⟩
                 · rw[hl,kL hlt hlt2 hj h3 hno,List.append_assoc];rfl
                 · unfold wI;simp only[List.length_append,List.length_singleton];rfl)
              | (refine ⟨p.length - (i + 1), by omega, l ++ [⟨2, p.getD i 0⟩], i + 1, f, dm, um, by omega, by omega, by simp; omega, rfl, ?_, hdm, hum, ?_⟩
                 · rw[hl,mq hlt hno2,List.append_assoc];rfl
                 · unfold wI;simp only[List.length_append,List.length_singleton];rfl)
        · skip
          refine ai<|aC (.a 1 I<|.v (aU I) I<|.a 1 I<|.k [2,4,10,12,13,14] I) ?_
          refine⟨r - 1,by omega,r - 1,dm1,um1,by omega,by omega,rfl,fun k h4 h5=>?_,hdm1,hum1,?_⟩
          · by_cases e:k=r
            · rw[e];exact h3
            · exact hno k (by omega) h5
          · rw[show((r - 1:Nat):Int)=(r:Int) - 1 by omega]
      · have hno2:∀k,i<k→k≤p.length→fI T D n p i k=false:=fun k h3 h4=>hno k (by have:=ff h2;omega) h4
        refine bd<|aO<|aw 3 I<|bw (aN (i) I) I<|bw (aJ I (aB _ i hlt)) I<|aw 2 I<|b7 (bh I (ba.rk.get I) I I I I (by unfold maxLen;omega)) I<|aw 1 I ?_
        refine eR [0,1,2,3,4,6] (.c 2<|.c 4<|.c 10<|.c 12<|.c 13<|.nil) (.kept rfl (.row aI.pure)<|.kept rfl (.row aI.pure)<|.same (kr.pure hdm) I<|.same (kO.pure hum) I<|.kept rfl (.cells (aI.c<|aI.c<|aI.c<|aI.c<|aI.c<|aI.c<|aI.c<|aI.c<|aI.c<|aI.nil))<|.kept rfl (.fF rfl (sj _ ⟨2,p.getD i 0⟩))<|.nil) I I (bp ?_)
        refine aC (.a 1 I<|.v (aU I) I<|.a 1 I<|.k [2,4,10,12,13] I) ?_
        cases f with
        |zero=>omega
        |succ f=>
          first
            | (refine ⟨p.length - r, by omega, l ++ [⟨1, cO T n (p.take r)⟩], r, f, dm1, um1, by omega, by omega, by simp; omega, rfl, ?_, hdm1, hum1, ?_⟩
               · rw[hl,kL hlt hlt2 hj h3 hno,List.append_assoc];rfl
               · unfold wI;simp only[List.length_append,List.length_singleton];rfl)
            | (refine ⟨p.length - (i + 1), by omega, l ++ [⟨2, p.getD i 0⟩], i + 1, f, dm, um, by omega, by omega, by simp; omega, rfl, ?_, hdm, hum, ?_⟩
               · rw[hl,mq hlt hno2,List.append_assoc];rfl
               · unfold wI;simp only[List.length_append,List.length_singleton];rfl)
    · have hie:i=p.length:=by have:=ff h1;omega
      rw[oP f i (by omega),List.append_nil]at hl
      exact bd<|ab (.a 3 I<|.k [8,9] I)<|ao<|⟨_,_,az.of I,ay.aX (ah.cons (ay.fy rfl ah.pure) (ah.cons ay.pure ah.nil)),by unfold tQ;rw[if_pos rfl,hl];rfl⟩
section
variable {T:ak} {D:List Bool} {d:Nat}
theorem AL(hv:aq T=true)(hd:(d:Int)<T.nodes):∀(K m:Nat),(m:Int)<T.nodes→0≤dN T D d m→dN T D d m≤K→ei T D d m≠1→∃p q,SP T D d m p∧SP T D d m q∧p≠q
 |K,m,hmN,h0,hK,hc=>by
  by_cases hmd:m=d
  ·subst hmd;exact absurd (oh m) hc
  ·obtain⟨k,hk⟩:=jN (D:=D) hv hmN hd hmd h0
   have hmem:=fC hk ((aM hv).cost k hk.fu).1
   cases hx:bH T D m d with
   |nil=>rw[hx]at hmem;cases hmem
   |cons a l=>
    obtain⟨b,rfl,hb⟩:=cX (T:=T) (D:=D) (n:=m) (d:=d) (a:=a) (by rw[hx];simp)
    obtain⟨x,hxh,hxN⟩:=dT hv hb.fu
    have gx:=hb.dN hxh
    have cx:=(aM hv).cost b hb.fu
    cases l with
    |nil=>
     cases K with
     |zero=>omega
     |succ K=>
      have hcx:ei T D d x≠1:=fun h=>hc (zN hv hd hmN hmd hx hxh h)
      obtain⟨p,q,h1,h2,h3⟩:=AL hv hd K x hxN gx.1 (by omega) hcx
      exact⟨b::p,b::q,.cons hb hxh h1,.cons hb hxh h2,fun e=>h3 (List.cons.inj e).2⟩
    |cons a2 l=>
     obtain⟨b2,rfl,hb2⟩:=cX (T:=T) (D:=D) (n:=m) (d:=d) (a:=a2) (by rw[hx];simp)
     obtain⟨x2,hxh2,hxN2⟩:=dT hv hb2.fu
     have gx2:=hb2.dN hxh2
     refine⟨b::cA T D x d,b2::cA T D x2 d,.cons hb hxh (eM hv hd hxN gx.1),.cons hb2 hxh2 (eM hv hd hxN2 gx2.1),fun e=>?_⟩
     have he:=(List.cons.inj e).1
     have hlt:=mr T D m d
     rw[hx]at hlt
     have:=(List.pairwise_cons.1 hlt).1 (b2:Int) (by simp)
     omega
theorem Ch.append{e n:Nat}{p q:List Int}(h:Ch T D e n p)(hq:Ch T D d e q)(ho:q=[]∨dp T e=false):Ch T D d n (p++q):=by
 induction h with
 |nil=>exact hq
 | @cons n a m p ha ht hu hm hov hp ih=>
  refine .cons ha ht hu hm ?_ ih
  rcases hov with h|h
  ·subst h
   have:=hp.to rfl
   subst this
   rcases ho with h|h
   ·subst h;exact .inl rfl
   ·exact .inr h
  ·exact .inr h
theorem SP.suffix(hv:aq T=true)(hd:(d:Int)<T.nodes){e:Nat}:∀ {n:Nat} {p q:List Int},SP T D d n (p++q)→ei T D d n=1→Ch T D e n p→SP T D d e q∧ei T D d e=1
 |n,[],q,h,hc,hch=>by
  have:=hch.to rfl
  subst this
  exact⟨h,hc⟩
 |n,a::p,q,h,hc,hch=>by
  cases h with
  | @cons _ b m _ h1 hm hp=>
   cases hch with
   | @cons _ b2 m2 _ _ _ _ hm2 _ hch2=>
    have:m2=m:=by rw[hm]at hm2;omega
    subst this
    obtain⟨b3,h3,_,h4⟩:=uT hv hd (h1.node hv) h1.ne hc
    have e1:=fC h1 ((aM hv).cost b h1.fu).1
    rw[h3]at e1
    simp only[List.mem_singleton]at e1
    have:b3=b:=by omega
    subst this
    exact SP.suffix hv hd hp (h4 m2 hm) hch2
theorem SP.pre(hv:aq T=true)(hd:(d:Int)<T.nodes){e n:Nat}{p q:List Int}(he:(e:Int)<T.nodes)(h:SP T D d n (p++q))(hc:ei T D d n=1)(hp:Ch T D e n p)(hq:Ch T D d e q)(ho:q=[]∨dp T e=false):SP T D e n p∧ei T D e n=1:=by
 have hcost:=(h.cost hv hd).1
 rw[gM]at hcost
 have hle:=hp.le hv he
 have hn:=hp.node hv he
 have hspe:SP T D e n p:=by
  refine hp.sp hv he ?_
  have hs:=eM hv he hn hle.1
  have hc2:=(hs.cost hv he).1
  have:=((hs.ch).append hq ho).le hv hd
  rw[gM]at this
  omega
 refine⟨hspe,Classical.byContradiction fun h1=>?_⟩
 obtain⟨p1,p2,g1,g2,g3⟩:=AL hv he (dN T D e n).toNat n hn hle.1 (by omega) h1
 have key:∀r,SP T D e n r→SP T D d n (r++q):=fun r hr=>by
  refine((hr.ch).append hq ho).sp hv hd ?_
  rw[gM,hcost,←(hr.cost hv he).1,(hspe.cost hv he).1]
 have:=(key p1 g1).unique hv hd (key p2 g2) hc
 exact g3 (List.append_cancel_right this)
theorem Ch.Lt{e:Nat}:∀ {n:Nat} {p q:List Int},Ch T D d n (p++q)→p≠[]→Ch T D e n p→q=[]∨dp T e=false
 |n,[],q,_,h,_=>absurd rfl h
 |n,a::p,q,h,_,hch=>by
  cases h with
  | @cons _ b m _ _ _ _ hm hov hp=>
   cases hch with
   | @cons _ b2 m2 _ _ _ _ hm2 _ hch2=>
    have:m2=m:=by rw[hm]at hm2;omega
    subst this
    cases p with
    |nil=>
     have:=hch2.to rfl
     subst this
     exact hov
    |cons c p=>exact Ch.Lt hp (by simp) hch2
variable {n:Int} {p:List Int}
theorem lh(p:List Int){i j k:Nat}(h1:i≤j)(h2:j≤k):fm p i k=fm p i j++fm p j k:=by
 have e1:=je p (show i≤k by omega)
 have e2:=je p h2
 rw[je p h1,List.append_assoc]at e2
 rw[e1]at e2
 exact List.append_cancel_left e2
theorem H0(h:qh T D n p){i j i' j':Nat}(h1:i≤i')(h2:i'<j')(h3:j'≤j)(hj:j≤p.length)(hc:fI T D n p i j=true):fI T D n p i' j'=true:=by
 have ha:=h.ax
 have hv:=h.valid
 obtain⟨u,hu,huN⟩:=cE hv h.node ha i (by omega)
 obtain⟨y,hy,hyN⟩:=cE hv h.node ha j hj
 obtain⟨u',hu',huN'⟩:=cE hv h.node ha i' (by omega)
 obtain⟨y',hy',hyN'⟩:=cE hv h.node ha j' (by omega)
 obtain⟨c1,c2⟩:=(mF h (by omega) hj hu hy).1 hc
 rw[lh p h1 (show i'≤j by omega)]at c1
 obtain⟨c3,c4⟩:=c1.suffix hv hyN c2 (h.ch h1 (by omega) hu hu')
 rw[lh p (show i'≤j' by omega) h3]at c3
 have hp:=h.ch (show i'≤j' by omega) (by omega) hu' hy'
 have hq:=h.ch h3 hj hy' hy
 have ho:=c3.ch.Lt (e:=y') (by
  intro e
  have:=oa p (show i'≤j' by omega) (by omega)
  rw[e]at this
  simp at this
  omega) hp
 exact(mF h (by omega) (by omega) hu' hy').2 (c3.pre hv hyN hyN' c4 hp hq ho)
end
section
variable {T:ak} {D:List Bool} {n:Int} {p:List Int}
theorem EM{i k:Nat}{a:Int}(h:a∈fm p i k):a∈p:=List.mem_of_mem_drop (List.mem_of_mem_take h)
theorem pf(h:qh T D n p){i:Nat}(hi:i<p.length){x:Nat}(hx:cO T n (p.take i)=(x:Int)):bm T (p.getD i 0).toNat=(x:Int):=by
 have ha:=h.ax
 obtain⟨y,hy,hyN⟩:=cE h.valid h.node ha (i+1) hi
 have hch:=h.ch (i:=i) (j:=i+1) (by omega) hi hx hy
 have hp:fm p i (i+1)=[p.getD i 0]:=by
  unfold fm
  rw[drop_cons p i hi,show i+1 - i=1 by omega]
  rfl
 rw[hp]at hch
 generalize p.getD i 0=a at hch
 cases hch with
 |cons _ h2 _ _ _ _=>exact h2
end
section
variable {T:ak} {D:List Bool} {n:Int} {p:List Int}
end
def zw(T:ak)(s:bV)(n:Int):Int×Int:=if jz T s=false then(0,1) else if bu T n=false then(0,2) else if s.kind=1 then(s.num,0) else if s.kind=2 then(if bm T s.num.toNat≠n then(0,4) else(aS T s.num.toNat,0)) else(0,7)
theorem BX(l:List bV)(k:Nat)(h:k<l.length):∃s,l[k]? =some s∧l.drop k=s::l.drop (k+1):=⟨l[k],List.getElem?_eq_getElem h,List.drop_eq_getElem_cons h⟩
def nt(T:ak)(n:Int)(p:List Int)(x:Int):Nat→Nat→Nat
 |0,i=>i
 |f+1,i=>if cO T n (p.take i)=x then i else nt T n p x f (i+1)
noncomputable def jT(T:ak)(D:List Bool)(n:Int)(p:List Int)(i:Nat)(s:bV):Option Nat:=
 if s.kind=2∧i<p.length∧p.getD i 0=s.num then some (i+1)
 else if s.kind=1 then(if cO T n (p.take (nt T n p s.num (p.length - i) i))=s.num∧fI T D n p i (nt T n p s.num (p.length - i) i)=true then some (nt T n p s.num (p.length - i) i) else none)
 else none
noncomputable def IE(T:ak)(D:List Bool)(n:Int)(p:List Int):Nat→List bV→Bool
 |i,[]=>decide (i=p.length)
 |i,s::l=>match jT T D n p i s with
  |some j=>IE T D n p j l
  |none=>false
section
variable {T:ak} {D:List Bool} {n:Int} {p:List Int}
theorem zx(x:Int):∀f i,i≤nt T n p x f i∧nt T n p x f i≤i+f
 |0,i=>by simp[nt]
 |f+1,i=>by
  simp only[nt]
  split
  ·omega
  ·have:=zx x f (i+1);omega
theorem DU(x:Int):∀f i k,i≤k→k<nt T n p x f i→cO T n (p.take k)≠x
 |0,i,k,h1,h2=>by simp only[nt]at h2;omega
 |f+1,i,k,h1,h2=>by
  simp only[nt]at h2
  split at h2
  ·omega
  ·rename_i h3
   by_cases e:k=i
   ·subst e;exact h3
   ·exact DU x f (i+1) k (by omega) h2
theorem vp(x:Int):∀f i j,i≤j→j≤i+f→cO T n (p.take j)=x→(∀k,i≤k→k<j→cO T n (p.take k)≠x)→nt T n p x f i=j
 |0,i,j,h1,h2,_,_=>by simp only[nt];omega
 |f+1,i,j,h1,h2,h3,h4=>by
  simp only[nt]
  by_cases e:i=j
  ·subst e;rw[if_pos h3]
  ·rw[if_neg (h4 i (Nat.le_refl _) (by omega))]
   exact vp x f (i+1) j (by omega) (by omega) h3 (fun k h5 h6=>h4 k (by omega) h6)
theorem Ch.fin{d:Nat}{m:Nat}{q:List Int}(h:Ch T D d m q):cO T (m:Int) q=(d:Int):=by
 induction h with
 |nil=>rfl
 | @cons n a m p ha ht hu hm ho hp ih=>simp only[cO,Int.toNat_natCast,hm];exact ih
theorem pF(h:qh T D n p){i j:Nat}(hij:i≤j)(hj:j≤p.length)(hc:fI T D n p i j=true):nt T n p (cO T n (p.take j)) (p.length - i) i=j:=by
 have ha:=h.ax
 have hv:=h.valid
 refine vp _ _ _ _ hij (by omega) I fun k h1 h2 he=>?_
 obtain⟨u,hu,huN⟩:=cE hv h.node ha i (by omega)
 obtain⟨y,hy,hyN⟩:=cE hv h.node ha j hj
 obtain⟨z,hz,hzN⟩:=cE hv h.node ha k (by omega)
 have hzy:z=y:=by omega
 subst hzy
 obtain⟨c1,c2⟩:=(mF h hij hj hu hy).1 hc
 rw[lh p h1 (show k≤j by omega)]at c1
 obtain⟨c3,c4⟩:=c1.suffix hv hyN c2 (h.ch h1 (by omega) hu hz)
 have:=c3.self
 have hl:=oa p (show k≤j by omega) hj
 rw[this]at hl
 simp at hl
 omega
theorem kE{x y:Nat}(hv:aq T=true)(hf:bW T D=true)(hx:(x:Int)<T.nodes)(hy:(y:Int)<T.nodes):gV T D x y=if dN T D y x<0 then 11 else 0:=by
 have hne:cu T D (x:Int) (y:Int)=0:=by
  unfold cu
  rw[if_pos (vQ hv hf hy),aT.2 ⟨by omega,hx⟩]
  rfl
 unfold gV;rw[if_pos hne];simp only[Int.toNat_natCast]
theorem xX{x y:Nat}(hv:aq T=true)(hf:bW T D=true)(hx:(x:Int)<T.nodes)(hy:(y:Int)<T.nodes):fT T D x y=true↔ei T D y x=1:=by
 have hne:cu T D (x:Int) (y:Int)=0:=by
  unfold cu
  rw[if_pos (vQ hv hf hy),aT.2 ⟨by omega,hx⟩]
  rfl
 unfold fT
 rw[hne]
 simp
theorem JD(h:qh T D n p){i j x y:Nat}(hij:i≤j)(hj:j≤p.length)(hx:cO T n (p.take i)=(x:Int))(hy:cO T n (p.take j)=(y:Int)):fI T D n p i j=true↔gV T D x y=0∧fT T D x y=true∧cA T D x y=fm p i j:=by
 have ha:=h.ax
 have hv:=h.valid
 obtain⟨x',hx',hxN⟩:=cE hv h.node ha i (by omega)
 obtain⟨y',hy',hyN⟩:=cE hv h.node ha j hj
 have e1:x'=x:=by omega
 have e2:y'=y:=by omega
 subst e1
 subst e2
 rw[mF h hij hj hx hy,kE hv h.fits hxN hyN,xX hv h.fits hxN hyN]
 constructor
 ·rintro⟨h1,h2⟩
  have h0:=(h1.cost hv hyN).2
  exact⟨by rw[if_neg (by omega)],h2,(eM hv hyN hxN h0).unique hv hyN h1 h2⟩
 ·rintro⟨h1,h2,h3⟩
  have h0:0≤dN T D y' x':=by
   split at h1
   ·omega
   ·omega
  exact⟨by rw[←h3];exact eM hv hyN hxN h0,h2⟩
theorem zg(h:qh T D n p):∀(f i:Nat),i≤p.length→p.length - i≤f→IE T D n p i (iR T D n p f i)=true
 |f,i,hi,hf=>by
  by_cases hlt:i<p.length
  ·cases f with
   |zero=>omega
   |succ f=>
    cases ht:lH (fI T D n p i) i p.length with
    |none=>
     rw[mq hlt (fun k h1 h2=>jU _ ht k h1 h2)]
     simp only[IE]
     have hst:jT T D n p i ⟨2,p.getD i 0⟩=some (i+1):=by unfold jT;rw[if_pos ⟨rfl,hlt,rfl⟩]
     rw[hst]
     exact zg h f (i+1) (by omega) (by omega)
    |some j=>
     obtain⟨t1,t2,t3,t4⟩:=ob _ _ ht
     rw[kL hlt t1 t2 t3 t4]
     simp only[IE]
     have hst:jT T D n p i ⟨1,cO T n (p.take j)⟩=some j:=by
      unfold jT
      simp only
      rw[if_neg (by omega),if_pos trivial,pF h (by omega) t2 t3,if_pos ⟨rfl,t3⟩]
     rw[hst]
     exact zg h f j t2 (by omega)
  ·rw[oP f i (by omega)]
   simp only[IE,decide_eq_true_eq]
   omega
theorem Hr:∀f i,(iR T D n p f i).length≤f:=fun f=>by
 induction f with
 |zero=>intro i;simp[iR]
 |succ f ih=>
  intro i
  simp only[iR]
  split
  ·split
   ·have:=ih ‹Nat›;simp only[List.length_cons];omega
   ·have:=ih (i+1);simp only[List.length_cons];omega
  ·simp
theorem xw(h:qh T D n p):fU T D n p=0:=by
 unfold fU
 have h2:fH T n p=0:=by unfold fH;rw[if_pos h.valid,if_pos h.node];exact h.walk
 rw[if_pos (by rw[h.valid,h.fits];rfl),if_pos h2,if_neg]
 intro e
 obtain⟨x,h3,h4⟩:=List.any_eq_true.1 e
 rw[h.up x h3]at h4
 cases h4
end
def jX(D:List Bool)(q:List Int):Bool:= !q.any fun a=>aQ D a.toNat
theorem pc{D:List Bool}{q:List Int}:jX D q=true↔∀a∈q,aQ D a.toNat=false:=by
 unfold jX
 rw[Bool.not_eq_true',List.any_eq_false]
 constructor
 ·intro h a ha
  have:=h a ha
  simpa using this
 ·intro h a ha
  rw[h a ha]
  simp
theorem FD{D:List Bool}{q:List Int}{a:Int}(ha:a∈q)(h:aQ D a.toNat=true):jX D q=false:=by
 unfold jX
 rw[Bool.not_eq_false',List.any_eq_true]
 exact⟨a,ha,h⟩
theorem I3(T:ak)(D:List Bool)(q:List Int)(hf:bW T D=true)(ha:∀a∈q,eQ T a=true)(hq:q.length≤1000):Can Tryz.prog 121 [bn D,av q] (· =flag (jX D q)):=by
 refine aH Tryz.func121 I Tryz.ntmps121 I<|ab (.a 1 I<|.k [0,1] I)<|aj<|ab (.a 3 I<|.k [0,7,8,9] I)<|au<|eH [0,7,8,9] I<|bq (fun r st=>∃k:Nat,k≤q.length∧r=q.length - k∧(∀a∈q.take k,aQ D a.toNat=false)∧st=⟨[(0,bn D),(7,av q),(8,num q.length),(9,num k)],[]⟩) q.length ⟨0,by omega,by omega,by simp,rfl⟩ ?_
 rintro r st ⟨k,hk,rfl,hdn,rfl⟩
 refine ab (.a 1 I<|.k [0,7,8,9,10] I)<|aj<|ag I (fun hy=>?_) (fun hy=>?_)
 ·have hlt:k<q.length:=by have:=tt hy;omega
  have hmem:=cr (d:=0) hlt
  have hab:=ha _ hmem
  simp only[eQ,decide_eq_true_eq]at hab
  obtain⟨a,hae⟩:∃a:Nat,q.getD k 0=(a:Int):=⟨(q.getD k 0).toNat,by omega⟩
  have hD:D.length=0∨a<D.length:=by simp only[bW,decide_eq_true_eq]at hf;omega
  refine ai<|aj<|au<|ab (.v (aN (k) I) I<|.v (aJ I ((aB q k hlt).trans (by rw[hae]))) I<|.a 1 I<|.k [0,6,7,8,9] I)<|ab (.a 2 I<|.c rfl (jy D a hD) I<|.k [0,7,8,9,15] I)<|ag I (fun hz=>?_) (fun hz=>?_)
  ·have he:=FD (D:=D) hmem (by rw[hae];exact hz)
   exact ab (.a 1 I<|.k [4] I)<|ao<|⟨_,_,az.of I,ay.pure,by rw[he];rfl⟩
  ·skip
   refine ai<|aC (.v (aU I) I<|.a 1 I<|.k [0,7,8,9] I) ?_
   refine⟨q.length - (k+1),by omega,k+1,by omega,rfl,fun x hx=>?_,rfl⟩
   rw[dK q k 0 hlt]at hx
   rcases List.mem_append.1 hx with h|h
   ·exact hdn x h
   ·simp only[List.mem_singleton]at h;rw[h,hae];exact hz
 ·have hke:k=q.length:=by have:=ff hy;omega
  subst hke
  rw[List.take_length]at hdn
  exact bd<|ab (.a 1 I<|.k [4] I)<|ao<|⟨_,_,az.of I,ay.pure,by rw[pc.2 hdn];rfl⟩
theorem Ft{T:ak}{D:List Bool}{n:Int}{p:List Int}(hvf:(aq T&&bW T D)=true)(h:fH T n p≠0):fU T D n p=fH T n p:=by unfold fU;rw[if_pos hvf,if_neg h]
theorem BP{T:ak}{D:List Bool}{n:Int}{p:List Int}(hvf:(aq T&&bW T D)=true)(h:fH T n p=0):fU T D n p=if jX D p=true then 0 else 7:=by
 unfold fU jX
 rw[if_pos hvf,if_pos h]
 cases p.any fun a=>aQ D a.toNat<;>rfl
theorem zX(T:ak)(D:List Bool)(p:List Int)(n:Int)(hp:p.length≤1000)(hlk:T.ae.length≤256):Can Tryz.prog 63 [aP T,bn D,av p,num n] (· =num (fU T D n p)):=by
 obtain⟨q1,hq1⟩:∃q,aq T=q:=⟨_,rfl⟩
 obtain⟨q2,hq2⟩:∃q,bW T D=q:=⟨_,rfl⟩
 refine aH Tryz.func63 I Tryz.ntmps63 I<|ab (.a 2 I<|.k [1,2,3,4] I)<|aj<|bz 20 (.raw (.bool ((!q1)|| !q2))) [1,2,3,4] I ?_ ?_
 ·refine .a 1 I<|.c rfl (hq1▸eJ T) I<|.a 2 I<|?_
  cases q1
  ·exact .a 5 I<|.k [20,1,2,3,4] I
  ·exact .a 2 I<|.c rfl (hq2▸me T D (by omega)) I<|.a 2 I<|.k [20,1,2,3,4] I
 refine ag I (fun hc=>?_) (fun hc=>?_)
 ·have he:fU T D n p=1:=by unfold fU;rw[hq1,hq2];cases q1<;>cases q2<;>first|rfl|cases hc
  exact ab (.a 1 I<|.k [8] I)<|ao<|⟨_,_,az.of I,ay.pure,by rw[he];rfl⟩
 ·have hv:aq T=true:=by rw[hq1];cases q1;cases hc;rfl
  have hf:bW T D=true:=by rw[hq2];cases q2;cases q1<;>cases hc;rfl
  have hvf:(aq T&&bW T D)=true:=by rw[hv,hf];rfl
  refine ai<|aj<|ab (.a 3 I<|.c rfl (wD T n p (by omega)) I<|.a 7 I<|.k [1,2,11] I)<|ab (.a 2 I<|.k [1,2,11,30] I)<|ag I (fun hx=>?_) (fun hx=>?_)
  ·have hx1:fH T n p≠0:=tt hx
   exact ab (.a 2 I<|.k [8] I)<|ao<|⟨_,_,az.of I,ay.pure,by rw[Ft hvf hx1];rfl⟩
  ·have hx1:fH T n p=0:=Classical.byContradiction (ff hx)
   obtain⟨_,hn,hw⟩:=nI hx1
   have ha:=nf hw
   rw[BP hvf hx1]
   refine ai<|aj<|ab (.a 2 I<|.c rfl (I3 T D p hf ha hp) I<|.a 1 I<|.k [35] I)<|ag I (fun hy=>?_) (fun hy=>?_)
   ·have hy1:jX D p=false:=by simpa using hy
    exact ab (.a 1 I<|.k [8] I)<|ao<|⟨_,_,az.of I,ay.pure,by rw[hy1];rfl⟩
   ·have hy1:jX D p=true:=by simpa using hy
    exact ai<|ab (.a 1 I<|.k [8] I)<|ao<|⟨_,_,az.of I,ay.pure,by rw[hy1];rfl⟩
section
variable {T:ak} {D:List Bool} {n:Int} {p:List Int}
theorem jw(T:ak):bW T []=true:=by simp[bW]
theorem qh.bare(h:qh T D n p):qh T [] n p:=⟨h.valid,jw T,h.node,h.walk,fun a _=>by simp[aQ]⟩
theorem KW{n:Int}{p:List Int}(h:fU T D n p=0):fU T [] n p=0:=xw (DS h).bare
end
theorem Bp(T:ak)(D:List Bool)(p:List Int)(n:Int)(hp:p.length≤1000)(hlk:T.ae.length≤256)(h12:T.nodes≤12):Can Tryz.prog 18 [aP T,bn D,av p,num n] (· =tQ (fU T D n p) (jb T [] n p)):=by
 refine aH Tryz.func18 I Tryz.ntmps18 I<|ab (.a 3 I<|.k [1,2,3,4] I)<|aj<|ab (.a 4 I<|.c rfl (zX T D p n hp hlk) I<|.a 1 I<|.k [2,3,4,10] I)<|ab (.a 2 I<|.k [2,3,4,10,17] I)<|ag I (fun hc=>?_) (fun hc=>?_)
 ·have he:fU T D n p≠0:=tt hc
  exact ab (.a 3 I<|.k [8,9] I)<|ao<|⟨_,_,az.of I,ay.aX (ah.cons ay.bM (ah.cons ay.pure ah.nil)),by unfold tQ;rw[if_neg he];rfl⟩
 ·have he:fU T D n p=0:=Classical.byContradiction (ff hc)
  have hl:=BQ T [] p n hp hlk h12
  rw[KW he]at hl
  rw[he]
  exact ai<|ab (.a 3 I<|.v (s4 I (ah.cons ay.pure<|ah.cons ay.bM<|ah.cons ay.pure<|ah.cons ay.pure ah.nil) (hl)) I<|.a 4 I<|.k [8,9] I)<|ao<|⟨_,_,az.of I,ay.pure,rfl⟩
def IM(K:St→Prop):Exit→St→Prop
 | .normal,s=>K s
 |_,_=>False
theorem vf{P:Program}{N L:Nat}{x y:Code}{st:St}{Q:Exit→St→Prop}{Q1:St→Prop}(h:W P N L x st (IM Q1))(k:∀s,Q1 s→W P N L y s Q):W P N L (.seq x y) st Q:=
 aj (h.mono fun e s hq=>by
  cases e<;>first|exact k s hq|exact hq.elim)
section
variable {T:ak} {D:List Bool} {n:Int} {p:List Int}
end
section
variable {T:ak} {D:List Bool}
theorem Ch.ax{d m:Nat}{q:List Int}(h:Ch T D d m q):∀a∈q,eQ T a=true:=by
 induction h with
 |nil=>intro a ha;cases ha
 | @cons n a m p ha ht hu hm ho hp ih=>
  intro b hb
  rcases List.mem_cons.1 hb with rfl|hb
  ·exact cW.2 ⟨by omega,by omega⟩
  ·exact ih b hb
theorem mU{x y:Int}(h:gV T D x y=0):∃a b:Nat,x=(a:Int)∧y=(b:Int)∧(a:Int)<T.nodes∧(b:Int)<T.nodes∧aq T=true∧SP T D b a (cA T D x.toNat y.toNat):=by
 unfold gV at h
 split at h
 ·rename_i he
  obtain⟨hv,hf,hn,hd⟩:=fM he
  rw[aT]at hn hd
  obtain⟨a,rfl⟩:=Int.eq_ofNat_of_zero_le hn.1
  obtain⟨b,rfl⟩:=Int.eq_ofNat_of_zero_le hd.1
  refine⟨a,b,rfl,rfl,hn.2,hd.2,hv,?_⟩
  simp only[Int.toNat_natCast]at h ⊢
  exact eM hv hd.2 hn.2 (by split at h<;>omega)
 ·rename_i he
  exact absurd h he
end
theorem Jz(l:List bV)(k:Nat)(s:bV)(h:l[k]? =some s):(dR l)[k*2+0]? =some (num s.kind):=vZ l k 0 s h (by omega)
theorem Js(l:List bV)(k:Nat)(s:bV)(h:l[k]? =some s):(dR l)[k*2+1]? =some (num s.num):=vZ l k 1 s h (by omega)
noncomputable def J6(T:ak)(D:List Bool)(x y:Int):Bool:=(((aq T&&bW T D)&& !decide (x=y))&&fT T [] x y)&&jX D (cA T [] x.toNat y.toNat)
theorem vd{T:ak}{D:List Bool}{x y:Int}(h:fT T D x y=true):gV T D x y=0:=by
 unfold fT at h
 rw[Bool.and_eq_true,decide_eq_true_eq,decide_eq_true_eq]at h
 obtain⟨h1,h2⟩:=h
 obtain⟨hv,hf,hn,hd⟩:=fM h1
 rw[aT]at hn hd
 obtain⟨a,rfl⟩:=Int.eq_ofNat_of_zero_le hn.1
 obtain⟨b,rfl⟩:=Int.eq_ofNat_of_zero_le hd.1
 simp only[Int.toNat_natCast]at h2
 unfold gV
 rw[if_pos h1,if_neg]
 simp only[Int.toNat_natCast]
 intro h0
 rw[AN hv hd.2 hn.2 h0]at h2
 omega
section
variable {T:ak} {D:List Bool} {n:Int} {p:List Int}
theorem rG(h:qh T D n p){i k x y:Nat}(hik:i<k)(hk:k≤p.length)(hx:cO T n (p.take i)=(x:Int))(hy:cO T n (p.take k)=(y:Int)):(J6 T D x y&&np (cA T [] x y) (fm p i k))=fI T [] n p i k:=by
 have hb:=h.bare
 have ha:=h.ax
 have hv:=h.valid
 obtain⟨x',hx',hxN⟩:=cE hv h.node ha i (by omega)
 obtain⟨y',hy',hyN⟩:=cE hv h.node ha k hk
 have e1:x'=x:=by omega
 have e2:y'=y:=by omega
 subst e1
 subst e2
 rw[Bool.eq_iff_iff,JD hb (by omega) hk hx hy]
 unfold J6 np
 simp only[Int.toNat_natCast,Bool.and_eq_true,Bool.not_eq_true',decide_eq_true_eq,decide_eq_false_iff_not]
 constructor
 ·rintro⟨⟨⟨_,h3⟩,h4⟩,h5⟩
  exact⟨vd h3,h3,h5⟩
 ·rintro⟨h1,h2,h3⟩
  refine⟨⟨⟨⟨⟨hv,h.fits⟩,fun e=>?_⟩,h2⟩,?_⟩,h3⟩
  ·have e2:x'=y':=by omega
   subst e2
   rw[kE hv (jw T) hxN hxN]at h1
   have hsp:=eM (D:=[]) hv hxN hxN (by split at h1<;>omega)
   have h6:=hsp.self
   rw[h6]at h3
   have:=oa p (show i≤k by omega) hk
   rw[←h3]at this
   simp at this
   omega
  ·rw[h3,pc]
   exact fun a ha=>h.up a (EM ha)
end
section
variable {P:Program} {σ:cg} {t:cn} {o:Oper}
end
noncomputable def zV(T:ak)(n:Int)(p:List Int)(x:Int)(i:Nat):Nat→Nat→Option Nat
 |0,_=>none
 |f+1,j=>if cO T n (p.take j)=x∧fI T [] n p i j=true then some j else zV T n p x i f (j+1)
noncomputable def sB(T:ak)(n:Int)(p:List Int)(i:Nat)(s:bV):Option Nat:=
 if s.kind=2∧i<p.length∧p.getD i 0=s.num then some (i+1)
 else if s.kind=1 then zV T n p s.num i (p.length - i) (i+1)
 else none
noncomputable def Kb(T:ak)(n:Int)(p:List Int):Nat→List bV→Bool
 |i,[]=>decide (i=p.length)
 |i,s::l=>match sB T n p i s with
  |some j=>Kb T n p j l
  |none=>false
def rK(T:ak):Int→List bV→Bool
 |_,[]=>true
 |x,s::l=>if s.kind=1∧s.num=x then false else rK T (zw T s x).1 l
section
variable {T:ak} {n:Int} {p:List Int}
theorem uf{x:Int}{i:Nat}:∀(f j k:Nat),zV T n p x i f j=some k→j≤k∧k<j+f∧cO T n (p.take k)=x∧fI T [] n p i k=true∧∀m,j≤m→m<k→¬(cO T n (p.take m)=x∧fI T [] n p i m=true)
 |0,j,k,h=>by simp[zV]at h
 |f+1,j,k,h=>by
  simp only[zV]at h
  split at h
  ·rename_i h1;cases h;exact⟨Nat.le_refl _,by omega,h1.1,h1.2,fun m h2 h3=>by omega⟩
  ·rename_i h1
   obtain⟨a,b,c,d,e⟩:=uf f (j+1) k h
   refine⟨by omega,by omega,c,d,fun m h2 h3=>?_⟩
   by_cases hm:m=j
   ·subst hm;exact h1
   ·exact e m (by omega) h3
theorem AG{x:Int}{i:Nat}:∀(f j k:Nat),j≤k→k<j+f→cO T n (p.take k)=x→fI T [] n p i k=true→(∀m,j≤m→m<k→¬(cO T n (p.take m)=x∧fI T [] n p i m=true))→zV T n p x i f j=some k
 |0,j,k,h1,h2,_,_,_=>by omega
 |f+1,j,k,h1,h2,h3,h4,h5=>by
  simp only[zV]
  by_cases e:j=k
  ·subst e;rw[if_pos ⟨h3,h4⟩]
  ·rw[if_neg (h5 j (Nat.le_refl _) (by omega))]
   exact AG f (j+1) k (by omega) (by omega) h3 h4 (fun m h6 h7=>h5 m (by omega) h7)
theorem sk(h:qh T [] n p){i:Nat}(hi:i≤p.length)(s:bV)(j:Nat):sB T n p i s=some j↔jT T [] n p i s=some j∧¬(s.kind=1∧s.num=cO T n (p.take i)):=by
 unfold sB jT
 by_cases h1:s.kind=2∧i<p.length∧p.getD i 0=s.num
 ·rw[if_pos h1,if_pos h1]
  constructor
  ·intro e;exact⟨e,fun e2=>by omega⟩
  ·intro e;exact e.1
 ·rw[if_neg h1,if_neg h1]
  by_cases h2:s.kind=1
  ·rw[if_pos h2,if_pos h2]
   constructor
   ·intro e
    obtain⟨a,b,c,d,_⟩:=uf _ _ _ e
    have hf:=pF h (show i≤j by omega) (by omega) d
    rw[c]at hf
    rw[hf,if_pos ⟨c,d⟩]
    refine⟨rfl,fun e2=>?_⟩
    have:=vp (T:=T) (n:=n) (p:=p) s.num (p.length - i) i i (Nat.le_refl _) (by omega) e2.2.symm (fun k h3 h4=>by omega)
    omega
   ·rintro⟨e1,e2⟩
    split at e1
    ·rename_i h3
     simp only[Option.some.injEq]at e1
     have hge:=zx (T:=T) (n:=n) (p:=p) s.num (p.length - i) i
     have hno:=DU (T:=T) (n:=n) (p:=p) s.num (p.length - i) i
     rw[e1]at h3 hge hno
     have hne:i≠j:=fun e=>e2 ⟨h2,by rw[e];exact h3.1.symm⟩
     exact AG _ _ _ (by omega) (by omega) h3.1 h3.2 (fun m h4 h5 h6=>hno m (by omega) h5 h6.1)
    ·cases e1
  ·rw[if_neg h2,if_neg h2]
   simp
theorem step_end(h:qh T [] n p){i j:Nat}(hi:i≤p.length){s:bV}(hst:jT T [] n p i s=some j):(zw T s (cO T n (p.take i))).1=cO T n (p.take j)∧(zw T s (cO T n (p.take i))).2=0∧j≤p.length:=by
 have ha:=h.ax
 have hv:=h.valid
 obtain⟨x,hx,hxN⟩:=cE hv h.node ha i hi
 have hnb:bu T (x:Int)=true:=aT.2 ⟨by omega,hxN⟩
 rw[hx]
 have hss:=hst
 unfold jT at hst
 split at hst
 ·rename_i h1
  cases hst
  have hab:=ha _ (cr (d:=0) h1.2.1)
  have htl:=pf h h1.2.1 hx
  have hed:=gZ T n p i h1.2.1
  rw[h1.2.2]at hab htl hed
  have hsg:jz T s=true:=by unfold jz;rw[if_neg (by omega),if_pos h1.1];exact hab
  have hes:zw T s x=(cO T n (p.take (i+1)),0):=by
   unfold zw
   rw[if_neg (by rw[hsg];simp),if_neg (by rw[hnb];simp),if_neg (by omega),if_pos h1.1,if_neg (by rw[htl];simp),hed]
  rw[hes]
  exact⟨rfl,rfl,h1.2.1⟩
 ·split at hst
  ·rename_i h2
   split at hst
   ·rename_i h3
    simp only[Option.some.injEq]at hst
    have hge:=zx (T:=T) (n:=n) (p:=p) s.num (p.length - i) i
    rw[hst]at h3 hge
    obtain⟨y,hy,hyN⟩:=cE hv h.node ha j (by omega)
    have hsy:s.num=(y:Int):=by rw[←h3.1];exact hy
    have hsg:jz T s=true:=by unfold jz;rw[if_pos h2,hsy];exact aT.2 ⟨by omega,hyN⟩
    have hes:zw T s x=(s.num,0):=by
     unfold zw
     rw[if_neg (by rw[hsg];simp),if_neg (by rw[hnb];simp),if_pos h2]
    rw[hes]
    exact⟨h3.1.symm,rfl,by omega⟩
   ·cases hst
  ·cases hst
theorem DA(h:qh T [] n p):∀(l:List bV) (i:Nat),i≤p.length→Kb T n p i l=(IE T [] n p i l&&rK T (cO T n (p.take i)) l)
 | [],i,hi=>by simp[Kb,IE,rK]
 |s::l,i,hi=>by
  simp only[Kb,IE,rK]
  cases hX:jT T [] n p i s with
  |none=>
   have hP:sB T n p i s=none:=by
    cases hP:sB T n p i s with
    |none=>rfl
    |some j=>have:=((sk h hi s j).1 hP).1;rw[hX]at this;cases this
   rw[hP]
   rfl
  |some j=>
   obtain⟨e1,e2,e3⟩:=step_end h hi hX
   by_cases hd:s.kind=1∧s.num=cO T n (p.take i)
   ·have hP:sB T n p i s=none:=by
     cases hP:sB T n p i s with
     |none=>rfl
     |some j=>exact absurd hd ((sk h hi s j).1 hP).2
    rw[hP,if_pos hd]
    simp
   ·rw[(sk h hi s j).2 ⟨hX,hd⟩,if_neg hd,e1]
    simp only
    exact DA h l j e3
theorem uN(h:qh T [] n p):∀(f i:Nat),i≤p.length→rK T (cO T n (p.take i)) (iR T [] n p f i)=true
 |f,i,hi=>by
  by_cases hlt:i<p.length
  ·cases f with
   |zero=>rfl
   |succ f=>
    cases ht:lH (fI T [] n p i) i p.length with
    |none=>
     rw[mq hlt (fun k h1 h2=>jU _ ht k h1 h2)]
     have hst:jT T [] n p i ⟨2,p.getD i 0⟩=some (i+1):=by unfold jT;rw[if_pos ⟨rfl,hlt,rfl⟩]
     simp only[rK]
     rw[if_neg (by rintro⟨h1,_⟩;omega),(step_end h hi hst).1]
     exact uN h f (i+1) (by omega)
    |some j=>
     obtain⟨t1,t2,t3,t4⟩:=ob _ _ ht
     rw[kL hlt t1 t2 t3 t4]
     have hf:=pF h (show i≤j by omega) t2 t3
     have hst:jT T [] n p i ⟨1,cO T n (p.take j)⟩=some j:=by
      unfold jT
      simp only
      rw[if_neg (by omega),if_pos trivial,hf,if_pos ⟨rfl,t3⟩]
     simp only[rK]
     rw[if_neg,(step_end h hi hst).1]
     ·exact uN h f j t2
     ·rintro⟨_,h2⟩
      have:=vp (T:=T) (n:=n) (p:=p) (cO T n (p.take j)) (p.length - i) i i (Nat.le_refl _) (by omega) h2.symm (fun k h3 h4=>by omega)
      omega
  ·rw[oP f i (by omega)]
   rfl
end
noncomputable def KI(T:ak)(D:List Bool)(l:List bV)(n:Int)(p:List Int):Bool:=if fU T D n p=0 then Kb T n p 0 l else false
open eY
theorem xN(p:List Int)(u:PV):bU Tryz.prog 190 [av p,.ptr 0 0] [some (.cells 37 [u])] (fun r σ'=>r= .tuple []∧σ'=[some (.cells 37 [av p])]):=by
 refine ct Tryz.func190 I Tryz.ntmps190 I<|bI<|aw 2 I<|aE [] I ?_
 exact⟨_,az.of I,rfl,rfl⟩
theorem yR(T:ak)(D:List Bool)(n d:Int):bU Tryz.prog 184 [aP T,bn D,num n,num d,.func 190 [.ptr 0 0]] [some (.cells 37 [.raw (.slice none 0 0)])] (fun r σ'=>r=num (gV T D n d)∧σ'=[some (.cells 37 [if gV T D n d=0 then av (cA T D n.toNat d.toNat) else .raw (.slice none 0 0)])]):=by
 refine ct Tryz.func184 I Tryz.ntmps184 I<|ab (.a 2 I<|.k [1,2,3,4,5] I)<|ab (.a 4 I<|.c rfl (uC T D n d) I<|.a 5 I<|.k [4,11,12] I)<|aj<|ab (.a 2 I<|.k [4,11,12,22] I)<|ag I (fun h1=>?_) (fun h1=>?_)
 ·have he:gV T D n d=0:=tt h1
  refine bI<|aw 2 I<|cN I I (bU.mono (xN _ _) (fun r σ' h=>?_))
  obtain⟨rfl,rfl⟩:=h
  refine aE [12] I ?_
  refine ab (.a 2 I<|.k [10] I)<|ao ?_
  first
   |exact⟨_,az.of rfl,rfl,by rw[if_neg he]⟩
   |exact⟨_,az.of rfl,rfl,by simp only[if_pos he]⟩
 ·have he:¬gV T D n d=0:=ff h1
  refine ai<|ab (.a 2 I<|.k [10] I)<|ao ?_
  first
   |exact⟨_,az.of rfl,rfl,by rw[if_neg he]⟩
   |exact⟨_,az.of rfl,rfl,by simp only[if_pos he]⟩
theorem zK(T:ak)(D:List Bool)(n d:Int):Can Tryz.prog 162 [aP T,bn D,num n,num d] (· =dY (gV T D n d) (cA T D n.toNat d.toNat)):=by
 obtain⟨u,hu⟩:∃u:PV,(if gV T D n d=0 then av (cA T D n.toNat d.toNat) else .raw (.slice none 0 0))=u:=⟨_,rfl⟩
 have hf:=yR T D n d
 rw[hu]at hf
 refine aH Tryz.func162 I Tryz.ntmps162 I<|ab (.a 3 I<|.k [1,2,3,4] I)<|aO<|aw 1 I<|aE [1,2,3,4,10] I ?_
 refine aO<|aw 5 I<|cN I I (bU.mono hf (fun r σ' h=>?_))
 obtain⟨rfl,rfl⟩:=h
 refine aw 1 I<|aE [10,11] I ?_
 refine ab (.v (aJ I ((show some u=some u from rfl))) I<|.a 3 I<|.k [8,9] I)<|ao<|⟨_,_,az.of I,ay.aX (ah.cons (y:=av (if gV T D n d=0 then cA T D n.toNat d.toNat else [])) ?_ (ah.cons ay.pure ah.nil)),rfl⟩
 rw[←hu]
 by_cases he:gV T D n d=0
 ·rw[if_pos he,if_pos he];exact ay.pure
 ·rw[if_neg he,if_neg he];exact ay.bM
end
section
open Go.RowKit cG Mem Net
section
variable {T:ak} {D:List Bool}
theorem xI{d:Nat}:∀ {m:Nat} {q:List Int},Ch T D d m q→(q=[]∨dp T m=false)→eG T false m q=0
 |m,[],_,_=>rfl
 |m,a::q,h,ho=>by
  cases h with
  | @cons _ b k _ ha ht hu hm hov hp=>
   rw[o6 (cW.2 ⟨by omega,by omega⟩) (by rw[Int.toNat_natCast];exact ht) (.inr (by rcases ho with h|h;cases h;rw[Int.toNat_natCast];exact h)),Int.toNat_natCast,hm]
   exact xI hp hov
theorem Ay{d m:Nat}{q:List Int}(h:Ch T D d m q):eG T true m q=0:=by
 cases h with
 |nil=>rfl
 | @cons _ b k q ha ht hu hm hov hp=>
  rw[o6 (cW.2 ⟨by omega,by omega⟩) (by rw[Int.toNat_natCast];exact ht) (.inl rfl),Int.toNat_natCast,hm]
  exact xI hp hov
theorem Ch.bare{d m:Nat}{q:List Int}(h:Ch T D d m q):Ch T [] d m q:=by
 induction h with
 |nil=>exact .nil
 |cons ha ht hu hm ho hp ih=>exact .cons ha ht (by simp[aQ]) hm ho ih
theorem Ch.mask{d m:Nat}{q:List Int}(h:Ch T [] d m q)(hc:∀a∈q,aQ D a.toNat=false):Ch T D d m q:=by
 induction h with
 |nil=>exact .nil
 | @cons n a m p ha ht hu hm ho hp ih=>exact .cons ha ht (by have:=hc a (by simp);rw[Int.toNat_natCast]at this;exact this) hm ho (ih fun b hb=>hc b (by simp[hb]))
structure iP (T:ak) (D:List Bool) (x y:Nat) (p:List Int):Prop where
 valid:aq T=true
 fits:bW T D=true
 ne:x≠y
 hx:(x:Int)<T.nodes
 hy:(y:Int)<T.nodes
 uniq:fT T [] x y=true
 sp:SP T [] y x p
 up:∀a∈p,aQ D a.toNat=false
theorem AS{x y:Int}(h:J6 T D x y=true):∃a b:Nat,x=(a:Int)∧y=(b:Int)∧iP T D a b (cA T [] a b)∧gV T [] x y=0:=by
 unfold J6 at h
 simp only[Bool.and_eq_true,Bool.not_eq_true',decide_eq_false_iff_not]at h
 obtain⟨⟨⟨⟨hv,hf⟩,hne⟩,hu⟩,hc⟩:=h
 obtain⟨a,b,rfl,rfl,ha,hb,_,hsp⟩:=mU (vd hu)
 simp only[Int.toNat_natCast]at hsp hc
 exact⟨a,b,rfl,rfl,⟨hv,hf,fun e=>hne (by rw[e]),ha,hb,hu,hsp,pc.1 hc⟩,vd hu⟩
variable {x y:Nat} {p:List Int}
theorem iP.pos(h:iP T D x y p):0<p.length:=by
 have hsp:=h.sp
 cases hsp with
 |nil=>exact absurd rfl h.ne
 |cons _ _ _=>simp
theorem iP.IB(h:iP T D x y p):qh T D x p:=⟨h.valid,h.fits,aT.2 ⟨by omega,h.hx⟩,Ay h.sp.ch,h.up⟩
theorem iP.lu(h:iP T D x y p):ei T [] y x=1:=(xX h.valid (jw T) h.hx h.hy).1 h.uniq
theorem iP.KJ(h:iP T D x y p):fI T [] x p 0 p.length=true:=by
 have he:cO T (x:Int) (p.take p.length)=(y:Int):=by rw[List.take_length];exact h.sp.ch.fin
 rw[mF h.IB.bare (Nat.zero_le _) (Nat.le_refl _) (u:=x) I he]
 have:fm p 0 p.length=p:=by unfold fm;simp
 rw[this]
 exact⟨h.sp,h.lu⟩
theorem iP.part(h:iP T D x y p){i k:Nat}(hik:i≤k)(hk:k<p.length):J6 T D (bm T (p.getD i 0).toNat) (aS T (p.getD k 0).toNat)=true:=by
 have hF:=h.IB
 have ha:=hF.ax
 have hc:=H0 hF.bare (i:=0) (j:=p.length) (i':=i) (j':=k+1) (Nat.zero_le _) (by omega) (by omega) (Nat.le_refl _) h.KJ
 obtain⟨u,hu,huN⟩:=cE h.valid hF.node ha i (by omega)
 obtain⟨v,hv,hvN⟩:=cE h.valid hF.node ha (k+1) (by omega)
 rw[pf hF (by omega) hu,←gZ T x p k hk,hv]
 rw[←rG hF (by omega) (by omega) hu hv,Bool.and_eq_true]at hc
 exact hc.1
theorem iP.next(h:iP T D x y p){i u:Nat}(hi:i<p.length)(hu:cO T x (p.take i)=(u:Int)):bH T [] u y=[p.getD i 0]∧bH T D u y=[p.getD i 0]∧(u:Int)<T.nodes:=by
 have hF:=h.IB
 have hv:=h.valid
 have ha:=hF.ax
 obtain⟨u',hu',huN⟩:=cE hv hF.node ha i (by omega)
 have:u'=u:=by omega
 subst this
 have hfin:cO T (x:Int) (p.take p.length)=(y:Int):=by rw[List.take_length];exact h.sp.ch.fin
 have hch:=hF.bare.ch (i:=0) (j:=i) (Nat.zero_le _) (by omega) (u:=x) I hu
 have hpp:fm p 0 i++fm p i p.length=p:=by rw[←lh p (Nat.zero_le _) (by omega)];unfold fm;simp
 have hsp:=h.sp
 rw[←hpp]at hsp
 obtain⟨s1,s2⟩:=hsp.suffix hv h.hy h.lu hch
 have hdr:fm p i p.length=p.getD i 0::p.drop (i+1):=by
  unfold fm
  rw[List.take_of_length_le (by simp),drop_cons p i hi]
 rw[hdr]at s1
 have hup:∀c∈p.getD i 0::p.drop (i+1),aQ D c.toNat=false:=fun c hc=>by
  rw[←drop_cons p i hi]at hc
  exact h.up c (List.mem_of_mem_drop hc)
 have hchD:=s1.ch.mask hup
 have hd0:=s1.cost hv h.hy
 generalize p.getD i 0=a0 at*
 generalize p.drop (i+1)=q at*
 cases s1 with
 | @cons _ a m _ hn hm hq=>
  obtain⟨b,hb,_,_⟩:=uT hv h.hy huN hn.ne s2
  have hab:=fC hn ((aM hv).cost a hn.fu).1
  rw[hb]at hab
  simp only[List.mem_singleton]at hab
  rw[←hab]at hb
  refine⟨hb,?_,huN⟩
  have hDle:=hchD.le hv h.hy
  have mono:∀k:Nat,(k:Int)<T.nodes→0≤dN T D y k→0≤dN T [] y k∧dN T [] y k≤dN T D y k:=fun k hk h0=>by
   have hs:=eM hv h.hy hk h0
   have:=hs.ch.bare.le hv h.hy
   rw[←(hs.cost hv h.hy).1]at this
   exact this
  have hmu:=mono u' huN hDle.1
  have heq:dN T D y u'=dN T [] y u':=by omega
  have hall:∀c∈bH T D u' y,c=(a:Int):=fun c hc=>by
   obtain⟨k,rfl,hk⟩:=cX hc
   obtain⟨z,hz,hzN⟩:=dT hv hk.fu
   have g:=hk.dN hz
   have g2:=mono z hzN g.1
   have hs:=eM (D:=[]) hv h.hy hzN g2.1
   have hch2:Ch T [] y u' ((k:Int)::cA T [] z y):=.cons hk.fu hk.tail (by simp[aQ]) hz (by
    rcases hk.pass with e|e
    ·left
     have:z=y:=by omega
     subst this
     exact hs.self
    ·right
     rw[hz,Int.toNat_natCast]at e
     exact e) hs.ch
   have g3:=hch2.le hv h.hy
   rw[gd,←(hs.cost hv h.hy).1,Int.toNat_natCast]at g3
   have hnr:jo T [] u' y k:=⟨hk.fu,hk.tail,by simp[aQ],hk.ne,by rw[hz,Int.toNat_natCast];exact g2.1,hk.pass,by
    rw[hz,Int.toNat_natCast]
    show dN T [] y u'=dN T [] y z+cp T k
    omega⟩
   have:=fC hnr ((aM hv).cost k hk.fu).1
   rw[hb]at this
   simpa using this
  obtain⟨k,hk⟩:=jN (D:=D) hv huN h.hy hn.ne hDle.1
  have hmem:=fC hk ((aM hv).cost k hk.fu).1
  have hso:=mr T D u' y
  cases hx:bH T D u' y with
  |nil=>rw[hx]at hmem;cases hmem
  |cons c l=>
   rw[hx]at hall hso
   have hc:=hall c (by simp)
   subst hc
   cases l with
   |nil=>rfl
   |cons c2 l=>
    have:=hall c2 (by simp)
    have h3:=(List.pairwise_cons.1 hso).1 c2 (by simp)
    omega
end
def tj(k:Nat):List nM:=(List.range k).map fun(i:Nat)=>⟨(i:Int),(((i+1) % 4:Nat):Int),1,1,0,1,0⟩
def da:ak:=⟨4,[],tj 4⟩
def E7(d:Nat):List Int:=match d with
 |0=>[0,1,2,1]
 |1=>[1,0,1,2]
 |2=>[2,1,0,1]
 |_=>[1,2,1,0]
theorem kU:aq da=true:=by kernel_rfl
def Kz(T:ak)(n:Nat)(out:List Int)(a:Nat):Bool:=decide (0≤at' out (cY T false a))&&(decide (cY T false a=(n:Int))|| !dp T (cY T false a).toNat)
theorem u4(n:Nat)(out:List Int)(a:Nat):Net.Way da [] n false out a↔Kz da n out a=true:=by
 unfold Net.Way Kz
 have:aQ [] a=false:=by simp[aQ]
 simp[this]
theorem yE(l:List nM)(e:nM):iH l++kh e=iH (l++[e]):=by simp[iH]
theorem yM(k:Nat):tj (k+1)=tj k++[⟨(k:Int),(((k+1) % 4:Nat):Int),1,1,0,1,0⟩]:=by simp[tj,List.range_succ]
theorem Fk{P:Program}{σ:cg}{t:cn}{o:Oper}{ty:TypeId}{v0 v1 c0 c1:Value}(ho:o.op= .build ty #[(0,.const v0),(1,.const v1)])(hb:P.built ty [(0,v0),(1,v1)]=some #[c0,c1]):bE P σ t o (.agg [.raw c0,.raw c1]):=by
 intro F base E ρ w hρ hS hT
 have hrun:=run_build (P:=P) w ty #[(0,v0),(1,v1)] #[c0,c1] hb
 have h0:ρ (.const v0)=v0:=hρ.const v0
 have h1:ρ (.const v1)=v1:=hρ.const v1
 have hr:(execOp ρ o).run P w= .ok (.value (.agg #[c0,c1])) w:=by
  simp only[execOp,ho,Sem.run_bind,List.map_toArray,List.map_cons,List.map_nil,h0,h1,hrun,Result.andThen_ok,Sem.run_pure]
 rw[hr]
 refine bA (.agg #[c0,c1] _ rfl (fun i x u k1 k2=>?_))
 match i,k1,k2 with
 |0,k1,k2=>simp at k1 k2;subst k1;subst k2;exact .raw _
 |1,k1,k2=>simp at k1 k2;subst k1;subst k2;exact .raw _
 |_+2,k1,k2=>simp at k2
section
variable {P:Program} {σ:cg} {t:cn} {o:Oper}
theorem bU.bM{f:FuncId}{a:PV}{l:List PV}{R:PV→cg→Prop}(h:bU P f (a::bn []::l) σ R):bU P f (a:: .raw (.slice none 0 0)::l) σ R:=fun F base E w vs hS hR=>by
 refine h F base E w vs hS ⟨hR.1,fun i c u h1 h2=>?_⟩
 match i,h2 with
 |0,h2=>exact hR.2 0 c u h1 h2
 |1,h2=>
  simp at h2
  subst h2
  have:=hR.2 1 c _ h1 rfl
  cases this
  exact .bM
 |i+2,h2=>exact hR.2 (i+2) c u h1 h2
end
def lx(T:ak)(D:List Bool)(L:List Int)(m d:Nat):List Int:=if m=d∨L.getD m 0<0 then [] else lB T D L (L.getD m 0) d (bP T m)
def yA(T:ak)(D:List Bool)(L:List Int)(d:Nat):Nat→Nat→Int
 |0,m=>if m=d then 1 else 0
 |f+1,m=>if m=d then 1 else(lx T D L m d).foldl (fun c a=>min 2 (c+yA T D L d f (aS T a.toNat).toNat)) 0
def BZ(y u:Nat)(c:Int):Bool:=decide ((E7 y).getD u 0=c)&&(decide (cu da [] (u:Int) (y:Int)=0)&&decide (yA da [] (E7 y) y ((E7 y).getD u 0).toNat u=1))
section
variable {H:Type} {enc:TypeId×Value→H} {W:World}
end
open Go.WideShapes
section
variable {H:Type} {enc:TypeId×Value→H} {W:World}
theorem Dv{n:Nat}{cs:List Value}{y:DataW H×List MemPlace}(h:DataW.trod enc Tryz.prog W 0 (fun _=>true) true n 25 cs=some y)(hl:cs.length=3):∃T:ak,bf EN W cs (bC T):=by
 have c0':Tryz.prog.cellsOf 3=1:=by kernel_rfl
 have c1':Tryz.prog.cellsOf 22=1:=by kernel_rfl
 have c2':Tryz.prog.cellsOf 23=1:=by kernel_rfl
 obtain⟨xs,m,_,_,_,hlen,hf⟩:=DataW.trod_struct Tryz.underlying25 h
 match cs,hl with
 | [c0,c1,c2],_=>
  match xs,hlen with
  | [y0,y1,y2],_=>
   have f0:DataW.trod enc Tryz.prog W 0 (fun _=>true) true m 3 (([c0,c1,c2].drop 0).take (Tryz.prog.cellsOf 3))=some y0:=hf 0 _ rfl
   rw[c0']at f0
   have f1:DataW.trod enc Tryz.prog W 0 (fun _=>true) true m 22 (([c0,c1,c2].drop 1).take (Tryz.prog.cellsOf 22))=some y1:=hf 1 _ rfl
   rw[c1']at f1
   have f2:DataW.trod enc Tryz.prog W 0 (fun _=>true) true m 23 (([c0,c1,c2].drop 2).take (Tryz.prog.cellsOf 23))=some y2:=hf 2 _ rfl
   rw[c2']at f2
   obtain⟨a,ha⟩:=ig f0
   obtain⟨B,hB⟩:=D3 f1
   obtain⟨L,hL⟩:=sb (f:=kh) (s:=7) Tryz.underlying23 (by kernel_rfl) (by omega) (fun n cs y hy hl=>HQ hy hl) f2
   simp at ha
   subst ha
   exact⟨⟨a,B,L⟩,bf.cons (.raw _)<|bf.cons hB<|bf.cons hL (bf.nil _ _)⟩
end
section
variable {H:Type} {enc:TypeId×Value→H} {W:World}
end
end
section
open Go.RowKit cG Mem Net
theorem Ch.LM{T:ak}{D:List Bool}{d m:Nat}{q:List Int}(h:Ch T D d m q):∀a∈q,aQ D a.toNat=false:=by
 induction h with
 |nil=>intro z hz;cases hz
 | @cons n a m p ha ht hu hm ho hp ih=>
  intro z hz
  rcases List.mem_cons.1 hz with rfl|hz
  ·rw[Int.toNat_natCast];exact hu
  ·exact ih z hz
theorem xR(T:ak)(D:List Bool)(x y:Int):Can Tryz.prog 34 [aP T,bn D,num x,num y] (· =dY (gV T D x y) (cA T D x.toNat y.toNat)):=by
 exact aH Tryz.func34 I Tryz.ntmps34 I<|ab (.a 3 I<|.k [1,2,3,4] I)<|ab (.a 4 I<|.c rfl (zT T D x y) I<|.a 4 I<|.k [8,9] I)<|ao<|⟨_,_,az.of I,ay.pure,rfl⟩
theorem G6{T:ak}{D:List Bool}{n:Int}{p:List Int}(hp:0<p.length):0<(jb T D n p).length:=by
 unfold jb
 obtain⟨f,hf⟩:∃f,p.length=f+1:=⟨p.length - 1,by omega⟩
 rw[hf]
 simp only[iR]
 rw[if_pos (by omega)]
 cases lH (fI T D n p 0) 0 p.length<;>simp
def jJ:List bV→List bV
 | []=>[]
 |s::l=>if s.kind=2 then l else s::l
noncomputable def jY(T:ak)(D:List Bool)(n d:Int):i6:=
 if gV T D n d=0∧n≠d then⟨[(cA T D n.toNat d.toNat).getD 0 0],true,jJ (jb T [] n (cA T D n.toNat d.toNat))⟩ else⟨[],false,[]⟩
structure pJ (T:ak) (D:List Bool) (x y:Nat) (p:List Int):Prop where
 valid:aq T=true
 fits:bW T D=true
 ne:x≠y
 hx:(x:Int)<T.nodes
 hy:(y:Int)<T.nodes
 sp:SP T D y x p
theorem uV{T:ak}{D:List Bool}{n d:Int}(h:gV T D n d=0)(hne:n≠d):∃a b:Nat,n=(a:Int)∧d=(b:Int)∧pJ T D a b (cA T D a b):=by
 have hf:bW T D=true:=by
  have h':=h
  unfold gV at h'
  split at h'
  ·rename_i h1;exact(fM h1).2.1
  ·rename_i h1;exact absurd h' h1
 obtain⟨a,b,rfl,rfl,ha,hb,hv,hsp⟩:=mU h
 simp only[Int.toNat_natCast]at hsp
 exact⟨a,b,rfl,rfl,hv,hf,fun e=>hne (by rw[e]),ha,hb,hsp⟩
section
variable {T:ak} {D:List Bool} {x y:Nat} {p:List Int}
theorem pJ.pos(h:pJ T D x y p):0<p.length:=by
 have hsp:=h.sp
 cases hsp with
 |nil=>exact absurd rfl h.ne
 |cons _ _ _=>simp
theorem pJ.IB(h:pJ T D x y p):qh T D x p:=⟨h.valid,h.fits,aT.2 ⟨by omega,h.hx⟩,Ay h.sp.ch,h.sp.ch.LM⟩
theorem pJ.zero(h:pJ T D x y p):fU T D x p=0:=xw h.IB
theorem pJ.len(h:pJ T D x y p):(p.length:Int)<T.nodes:=h.sp.Ez h.valid h.hy
theorem pJ.head(h:pJ T D x y p):p.getD 0 0∈bH T D x y:=by
 have hsp:=h.sp
 cases hsp with
 |nil=>exact absurd rfl h.ne
 | @cons n a m q h1 hm hq=>exact fC h1 ((aM h.valid).cost a h1.fu).1
theorem pJ.KX(h:pJ T D x y p):∃a:Nat,p.getD 0 0=(a:Int)∧jo T D x y a:=cX h.head
theorem pJ.F1(h:pJ T D x y p):0<(jb T [] x p).length∧(jb T [] x p).length≤p.length:=⟨G6 h.pos,Hr _ _⟩
theorem pJ.ck(h:pJ T D x y p):KI T D (jb T [] x p) x p=true:=by
 have hF:=h.IB
 unfold KI
 rw[if_pos h.zero,DA hF.bare _ 0 (Nat.zero_le _),Bool.and_eq_true]
 exact⟨zg hF.bare _ 0 (Nat.zero_le _) (by omega),uN hF.bare _ 0 (Nat.zero_le _)⟩
theorem xa{n:Int}(hp:0<p.length):∃s l,jb T [] n p=s::l∧(s.kind=1∨s=⟨2,p.getD 0 0⟩):=by
 unfold jb
 obtain⟨f,hf⟩:∃f,p.length=f+1:=⟨p.length - 1,by omega⟩
 rw[hf]
 simp only[iR]
 rw[if_pos (by omega)]
 cases lH (fI T [] n p 0) 0 p.length with
 |none=>exact⟨_,_,rfl,.inr rfl⟩
 |some j=>exact⟨_,_,rfl,.inl rfl⟩
theorem Ht(l:List bV):(jJ l).length≤l.length:=by
 cases l with
 |nil=>simp[jJ]
 |cons s l=>simp only[jJ];split<;>simp
theorem Il{l:List bV}{s:bV}(h:s∈jJ l):s∈l:=by
 cases l with
 |nil=>cases h
 |cons a l=>simp only[jJ]at h;split at h<;>simp_all
theorem zI(hF:qh T D x p):∀(f i:Nat),∀s∈iR T [] x p f i,jz T s=true
 |0,i,s,hs=>by simp[iR]at hs
 |f+1,i,s,hs=>by
  simp only[iR]at hs
  split at hs
  ·rename_i hi
   cases ht:lH (fI T [] x p i) i p.length with
   |none=>
    rw[ht]at hs
    simp only[List.mem_cons]at hs
    rcases hs with rfl|hs
    ·unfold jz;simp only[if_neg (show ¬(2:Int)=1 by decide),if_pos rfl];exact hF.ax _ (cr hi)
    ·exact zI hF f (i+1) s hs
   |some j=>
    rw[ht]at hs
    simp only[List.mem_cons]at hs
    obtain⟨h1,h2,h3,h4⟩:=ob _ _ ht
    rcases hs with rfl|hs
    ·obtain⟨u,hu,huN⟩:=cE hF.valid hF.node hF.ax j h2
     unfold jz;simp only[if_pos rfl];rw[hu];exact aT.2 ⟨by omega,huN⟩
    ·exact zI hF f j s hs
  ·cases hs
theorem pJ.whole(h:pJ T D x y p):KI T D (jJ (jb T [] x p)) x p=true∨KI T D (⟨2,p.getD 0 0⟩::jJ (jb T [] x p)) x p=true:=by
 obtain⟨s,l,hl,hs⟩:=xa (T:=T) (n:=(x:Int)) h.pos
 have hc:=h.ck
 rw[hl]at hc ⊢
 rcases hs with hs|rfl
 ·left
  simp only[jJ]
  rw[if_neg (by omega)]
  exact hc
 ·right
  exact hc
end
theorem qB{T:ak}{D:List Bool}{x y:Nat}(h:pJ T D x y (cA T D x y)):jY T D x y=⟨[(cA T D x y).getD 0 0],true,jJ (jb T [] x (cA T D x y))⟩:=by
 unfold jY
 rw[if_pos]
 ·simp only[Int.toNat_natCast]
 ·refine⟨?_,fun e=>h.ne (by omega)⟩
  rw[kE h.valid h.fits h.hx h.hy,if_neg]
  have:=(h.sp.cost h.valid h.hy).2
  omega
theorem zE{T:ak}{D:List Bool}{n d:Int}(h:¬(gV T D n d=0∧n≠d)):jY T D n d=⟨[],false,[]⟩:=if_neg h
theorem tN(T:ak)(D:List Bool)(n d:Int):(jY T D n d=⟨[],false,[]⟩∧¬(gV T D n d=0∧n≠d))∨∃a b:Nat,n=(a:Int)∧d=(b:Int)∧pJ T D a b (cA T D a b)∧jY T D n d=⟨[(cA T D a b).getD 0 0],true,jJ (jb T [] a (cA T D a b))⟩:=by
 by_cases h:gV T D n d=0∧n≠d
 ·obtain⟨a,b,rfl,rfl,hp⟩:=uV h.1 h.2
  exact .inr ⟨a,b,rfl,rfl,hp,qB hp⟩
 ·exact .inl ⟨zE h,h⟩
theorem xd(T:ak)(D:List Bool)(n d:Int)(h12:T.nodes≤12):(jY T D n d).push.length≤32:=by
 rcases tN T D n d with⟨h,_⟩|⟨a,b,rfl,rfl,hp,h⟩
 ·rw[h];simp
 ·rw[h]
  have:=Ht (jb T [] a (cA T D a b))
  have:=hp.F1.2
  have:=hp.len
  show(jJ _).length≤32
  omega
theorem Fb(T:ak)(D:List Bool)(n d:Int)(h12:T.nodes≤12):gA T n d (jY T D n d)=true:=by
 have hpl:=xd T D n d h12
 rcases tN T D n d with⟨h,_⟩|⟨a,b,rfl,rfl,hp,h⟩
 ·rw[h]
  unfold gA
  have:eC T n []=true:=decide_eq_true fun i hi=>by simp at hi
  simp only[this]
  simp
 ·rw[h]at hpl ⊢
  obtain⟨k,hk,hn⟩:=hp.KX
  have h1:eC T (a:Int) [(cA T D a b).getD 0 0]=true:=sG (by simp) fun c hc=>by
   simp only[List.mem_singleton]at hc
   subst hc
   rw[hk]
   exact⟨cW.2 ⟨by omega,by have:=hn.fu;omega⟩,by rw[Int.toNat_natCast];exact hn.tail⟩
  have h2:decide (((b:Nat):Int)=(a:Int))=false:=decide_eq_false (by have:=hp.ne;omega)
  have h3:(jJ (jb T [] a (cA T D a b))).all (jz T)=true:=List.all_eq_true.2 fun s hs=>zI hp.IB _ 0 s (Il hs)
  unfold gA
  simp only[h1,h2,h3,if_true]
  simp only[Bool.true_and,Bool.false_and,Bool.not_false,Bool.and_true,Bool.and_eq_true,decide_eq_true_eq]
  exact⟨rfl,by have:(jJ (jb T [] a (cA T D a b))).length≤32:=hpl;omega⟩
noncomputable def sT(T:ak)(D:List Bool)(n:Int)(k:Nat):List i6:=(List.range k).map fun(d:Nat)=>jY T D n (d:Int)
theorem rb(T:ak)(D:List Bool)(n:Int)(k:Nat):(sT T D n k).length=k:=by simp[sT]
theorem wO{T:ak}{D:List Bool}{n:Int}{k d:Nat}(h:d<k):(sT T D n k)[d]? =some (jY T D n (d:Int)):=by simp[sT,h]
theorem GS{T:ak}{D:List Bool}{n k d:Nat}(h:d<k):(oT T D n k)[d]? =some ⟨bH T D n d,false,[]⟩:=by simp[oT,h]
noncomputable def vE(T:ak)(D:List Bool)(n:Nat):de:=⟨n,sT T D n T.nodes.toNat,cQ D (bP T n)⟩
theorem pA{T:ak}{D:List Bool}(hv:aq T=true)(h12:T.nodes≤12){n:Nat}(hn:(n:Int)<T.nodes):cT T (vE T D n)=true:=by
 unfold cT vE
 have h1:bu T (n:Int)=true:=aT.2 ⟨by omega,hn⟩
 have hN:=(aM hv).nodes
 have h2:decide (((sT T D n T.nodes.toNat).length:Int)=T.nodes)=true:=decide_eq_true (by rw[rb];omega)
 have h3:eC T n (cQ D (bP T n))=true:=mD T n _
 have h4:nG T n (sT T D n T.nodes.toNat)=true:=ib fun d e he=>by
  have hd:d<T.nodes.toNat:=by
   have:=(List.getElem?_eq_some_iff.1 he).1
   rwa [rb]at this
  rw[wO hd]at he
  cases he
  exact Fb T D n d h12
 rw[hv,h1,h2,h3,h4]
 rfl
theorem iP.same{T:ak}{D:List Bool}{x y:Nat}{p:List Int}(h:iP T D x y p):cA T D x y=p∧pJ T D x y p∧jb T [] x p=[⟨1,(y:Int)⟩]:=by
 have hv:=h.valid
 have hch:=h.sp.ch.mask h.up
 have h1:=hch.le hv h.hy
 have h0:=h.sp.cost hv h.hy
 have hq:=eM (D:=D) hv h.hy h.hx h1.1
 have hqc:=hq.cost hv h.hy
 have hqb:=hq.ch.bare
 have h2:=hqb.le hv h.hy
 have hq':=hqb.sp hv h.hy (by omega)
 have he:cA T D x y=p:=hq'.unique hv h.hy h.sp h.lu
 have hP:pJ T D x y p:=⟨hv,h.fits,h.ne,h.hx,h.hy,by rw[←he];exact hq⟩
 refine⟨he,hP,?_⟩
 unfold jb
 obtain⟨f,hf⟩:∃f,p.length=f+1:=⟨p.length - 1,by have:=h.pos;omega⟩
 rw[hf,kL (j:=p.length) h.pos h.pos (Nat.le_refl _) h.KJ (fun k h3 h4=>by omega),oP _ _ (Nat.le_refl _),List.take_length,h.sp.ch.fin]
theorem iP.DJ{T:ak}{D:List Bool}{x y:Nat}{p:List Int}(h:iP T D x y p):bH T [] x y=[p.getD 0 0]∧bH T D x y=[p.getD 0 0]∧jY T D x y=⟨[p.getD 0 0],true,[⟨1,(y:Int)⟩]⟩:=by
 obtain⟨h1,h2,h3⟩:=h.same
 obtain⟨h4,h5,_⟩:=h.next (i:=0) h.pos (u:=x) I
 refine⟨h4,h5,?_⟩
 rw[←h1]at h2
 rw[qB h2,h1,h3]
 rfl
theorem BH{T:ak}{D D':List Bool}(hv:aq T=true){d:Nat}(hd:(d:Int)<T.nodes)(dir:Bool)(hD:∀a,aQ D a=aQ D' a):bG T D d dir=bG T D' d dir:=by
 have hI:=jF (aM hv) D' dir hd
 refine kB (aM hv) ⟨hI.len,hI.root,hI.ge,fun a ha hw=>hI.closed a ha ?_,fun x hx h0=>?_⟩
 ·exact⟨(hD a).symm.trans hw.1,hw.2⟩
 ·rcases hI.nm x hx h0 with h|⟨a,h1,h2,h3,h4⟩
  ·exact .inl h
  ·exact .inr ⟨a,h1,h2,⟨(hD a).trans h3.1,h3.2⟩,h4⟩
open eY
section
variable {P:Program} {σ:cg} {t:cn} {o:Oper} {N L:Nat} {ops:Array Oper}
theorem vo{rest:List Oper}{K:St→Prop}{d:Nat}{x y:Operand}{ty tz:TypeId}{xs:List PV}(ho:o.op= .binOp .eql ty x y tz)(hk:xh P ty=true)(hx:aG t x=some (.slice 0 xs))(hy:aG t y=some (.raw (.slice none 0 0)))(hd:o.dst=some d)(hw:fk ops t o=some true)(hN:Nat.blt d N=true)
  (h:∀b,WR P N L ops rest ⟨(d,.raw (.bool b))::t,σ⟩ K):WR P N L ops (o::rest) ⟨t,σ⟩ K:=by
 refine nP hw fun F base E a w hs next Q hn=>?_
 obtain⟨e,hu⟩:=pM hk
 have h1:=aA (gN a) hs.tmp hx
 have h2:=aA (gN a) hs.tmp hy
 generalize hz:a.eval x=z at h1
 generalize hz':a.eval y=z' at h2
 cases h2
 obtain⟨p,c,rfl,_,_⟩:=qz h1
 have hrun:=Lib.run_eql_slice_nil w ty e p 0 c 0 0 hu
 have hg:∀a n c b m d,(eqGuard .eql ty x y (.slice a n c) (.slice b m d)).run P w= .ok () w:=fun _ _ _ _ _ _=>rfl
 have hU:gG P w (fun v w'=>cM E w' v (.raw (.bool p.isNone))) ((execOp a.eval o).run P w):=by
  simp only[execOp,ho,hz,hz',Sem.run_bind,Sem.run_pure,Result.andThen_ok,hg,hrun]
  exact bA (.raw _)
 refine qE hU fun v w' hE hv=>hn _ _ _ E (h p.isNone) ?_ (.ext hE) (Below.iy hE hs.sat.bl)
 rw[hd]
 exact hs.put (hs.sat.ext hE) (.ext hE) hN hv
theorem sc{ty e s n h:Nat}{x hi' mx:Operand}{xs:List PV}{k k':IntKind}{hii mi:Int}(ho:o.op= .slice ty x none (some hi') (some mx))(he:yw P ty=some (e,s))(hx:aG t x=some (.slice n xs))(hhi:aG t hi'=some (.raw (.int k hii)))(hmx:aG t mx=some (.raw (.int k' mi)))(hxl:xs.length=n*s)(hli:hii=(h:Int))(hmi:mi=(h:Int))(hl:h≤n):
  bE P σ t o (.slice h (xs.take (h*s))):=by
 intro F base E ρ w hρ hS hT
 have h1:=aA hρ hT hx
 have h2:=aA hρ hT hhi
 have h3:=aA hρ hT hmx
 obtain⟨hu,i,hi,hs⟩:=gP he
 generalize hz:ρ x=v at h1
 generalize hz':ρ hi'=u at h2
 generalize hz2:ρ mx=u2 at h3
 cases h2
 cases h3
 subst hli
 subst hmi
 obtain⟨a,c,rfl,hc1,hc2⟩:=qz h1
 have hR:=rh (s:=s) (l:=0) h1 hxl (Nat.zero_le _) hl (Nat.le_refl h) (Nat.le_trans hl hc1)
 have hrun:(Instr.sliceAt ty (.slice a n c) none (some (.int k (h:Int))) (some (.int k' (h:Int)))).run P w= .ok (.slice (if h=0 then a else a.map (·.add (0*s))) (h - 0) (h - 0)) w:=by
  have:h≤c:=Nat.le_trans hl hc1
  simp[Instr.sliceAt,run_underlying hu,Instr.slice,Instr.sliceBounds,Instr.sliceBound,asIntOf,this,sizeOf,typeInfo,hi]
 simp only[execOp,ho,hz,hz',hz2,Option.map_some,Option.map_none,Sem.run_bind,hrun,Result.andThen_ok,Sem.run_pure]
 refine bA ?_
 simpa using hR
end
theorem Lv:xh Tryz.prog 39=true:=by kernel_rfl
theorem nz(l:List bV)(hl:l.length≤1000):Can Tryz.prog 142 [cc l] (· =cc l):=by
 refine aH Tryz.func142 I Tryz.ntmps142 I<|ab (.a 1 I<|.k [0] I)<|aj<|aO (WR.mono (K:=fun s=>∃b:Bool,s=⟨[(0,cc l),(4,.raw (.bool b))],[]⟩∧(b=true→l=[])) ?_ ?_)
 ·cases l with
  |nil=>exact aw 1 rfl<|vo rfl Lv rfl rfl rfl rfl rfl fun b=>aE [0,4] rfl ⟨b,rfl,fun _=>rfl⟩
  |cons a l=>exact aw 1 rfl<|bJ (oe rfl Lv rfl rfl (Nat.succ_pos _)) rfl rfl rfl<|aE [0,4] rfl ⟨_,rfl,fun h=>by cases h⟩
 rintro _ ⟨b,rfl,hb⟩
 refine ag I (fun hc=>?_) (fun hc=>?_)
 ·have:l=[]:=hb hc
  subst this
  exact ab (.a 1 I<|.k [2] I)<|ao<|⟨_,_,az.of I,ay.bM,rfl⟩
 ·refine ai<|aO<|b7 (cJ I (ba.sl.get I)) I<|aw 1 I<|b7 (bh I (ba.rk.get I) I I I (fN l) (by unfold maxLen;omega)) I<|aw 1 I<|aE [2] I ?_
  refine ao<|⟨_,_,az.of I,ay.fy (xs:=dR l) (ys:=dR l) I ah.pure,?_⟩
  rw[Nat.zero_add];rfl
theorem gu{P:Program}{σ:cg}{t:cn}{o:Oper}{ty:TypeId}{x lo:Operand}{s:bV}{l:List bV}{k:IntKind}(ho:o.op= .slice ty x (some lo) none none)(he:yw P ty=some (103,2))(hx:aG t x=some (.slice (s::l).length (dR (s::l))))(hlo:aG t lo=some (.raw (.int k 1))):bE P σ t o (.slice l.length (dR l)):=by
 have h:=Bb (l:=1) (σ:=σ) ho he hx hlo (fN _) I (by simp)
 have e:((dR (s::l)).drop (1*2)).take (((s::l).length - 1)*2)=dR l:=by
  show(dR l).take _=_
  refine List.take_of_length_le ?_
  rw[fN];simp
 rw[e]at h
 exact h
theorem Ic{T:ak}{D:List Bool}{n d:Int}(h:gV T D n d≠0):jY T D n d=⟨[],false,[]⟩:=zE fun hh=>h hh.1
theorem G0{T:ak}{D:List Bool}{n d:Int}(h:gV T D n d≠0)(h':gV T D n d≠11):cu T D n d=gV T D n d:=by
 unfold gV at*
 split at h<;>simp_all
theorem IV{T:ak}{D:List Bool}{n d:Int}(h:gV T D n d=0∨gV T D n d=11):cu T D n d=0:=by
 unfold gV at h
 split at h
 ·assumption
 ·rename_i hh
  rcases h with h|h
  ·exact h
  ·exfalso
   unfold cu cD at h
   split at h<;>(try split at h)<;>(try split at h)<;>omega
def KQ(e:Int)(x:i6):PV:=.tuple [xQ x,num e]
theorem xP(T:ak)(D:List Bool)(n d:Int)(hlk:T.ae.length≤256)(h12:T.nodes≤12):Can Tryz.prog 124 [aP T,bn D,num n,num d] (· =KQ (cu T D n d) (jY T D n d)):=by
 obtain⟨c1,hc1⟩:∃q,decide (gV T D n d≠0)=q:=⟨_,rfl⟩
 obtain⟨c2,hc2⟩:∃q,decide (gV T D n d≠11)=q:=⟨_,rfl⟩
 refine aH Tryz.func124 I Tryz.ntmps124 I<|aO<|aw 3 I<|aE [1,2,3,4,8] I ?_
 refine ab (.a 4 I<|.c rfl (zK T D n d) I<|.a 5 I<|.k [1,2,4,8,10,11] I)<|aj<|bz 27 (.raw (.bool (c1&&c2))) [1,2,4,8,10,11] I ?_ ?_
 ·refine .a 1 I<|.v (cf I (hc1)) I<|.a 1 I<|?_
  cases c1
  ·exact .a 3 I<|.k [27,1,2,4,8,10,11] I
  ·exact .a 1 I<|.v (cf I (hc2)) I<|.a 1 I<|.k [27,1,2,4,8,10,11] I
 refine ag I (fun h1=>?_) (fun h1=>?_)
 ·obtain⟨rfl,rfl⟩:=Bool.and_eq_true_iff.1 h1
  have e1:=tt hc1
  rw[Ic e1,G0 e1 (tt hc2)]
  refine aO<|aw 4 I<|aE [8,9] I ?_
  exact ao<|⟨_,_,az.of I,ay.aX (ah.cons (ay.gY (ah.cons ay.bM<|ah.cons ay.pure<|ah.cons ay.bM ah.nil)) (ah.cons ay.pure ah.nil)),rfl⟩
 ·have e2:gV T D n d=0∨gV T D n d=11:=by
   rcases Bool.and_eq_false_iff.1 h1 with h|h
   ·subst h;exact .inl (Classical.byContradiction (ff hc1))
   ·subst h;exact .inr (Classical.byContradiction (ff hc2))
  rw[IV e2]
  clear h1 hc1 hc2
  obtain⟨P,hP⟩:∃P,(if gV T D n d=0 then cA T D n.toNat d.toNat else [])=P:=⟨_,rfl⟩
  rw[hP]
  refine ai<|aj<|ab (.a 3 I<|.k [1,2,4,8,10,32] I)<|ag I (fun h2=>?_) (fun h2=>?_)
  ·have hno:¬(gV T D n d=0∧n≠d):=by
    rintro⟨h3,h4⟩
    rw[if_pos h3]at hP
    obtain⟨a,b,rfl,rfl,hp⟩:=uV h3 h4
    have:=tt h2
    have:=hp.pos
    rw[←hP]at*
    simp only[Int.toNat_natCast]at*
    omega
   rw[zE hno]
   refine aO<|aw 3 I<|aE [8,9] I ?_
   exact ao<|⟨_,_,az.of I,ay.aX (ah.cons (ay.gY (ah.cons ay.bM<|ah.cons ay.pure<|ah.cons ay.bM ah.nil)) (ah.cons ay.pure ah.nil)),rfl⟩
  ·obtain⟨p0,q,rfl⟩:∃p0 q,P=p0::q:=by
    cases P with
    |nil=>exact absurd rfl (ff h2)
    |cons p0 q=>exact⟨_,_,rfl⟩
   have h3:gV T D n d=0:=by
    rcases e2 with h|h
    ·exact h
    ·rw[h]at hP;simp at hP
   rw[if_pos h3]at hP
   have h4:n≠d:=by
    rintro rfl
    obtain⟨a,b,ha,hb,_,_,hv',hsp⟩:=mU h3
    have:a=b:=by omega
    subst this
    have:=hsp.self
    rw[this]at hP
    cases hP
   obtain⟨a,b,rfl,rfl,hp⟩:=uV h3 h4
   simp only[Int.toNat_natCast]at hP
   have hent:=qB hp
   rw[hP]at hp hent
   have hpl:=hp.len
   obtain⟨s,l,hl,hs⟩:=xa (T:=T) (n:=(a:Int)) hp.pos
   have hll:=hp.F1.2
   rw[hl]at hent hll
   have hsl:=Bp T D (p0::q) a (by simp only[List.length_cons]at hpl ⊢;omega) hlk h12
   rw[hl]at hsl
   unfold tQ at hsl
   rw[hp.zero,if_pos rfl]at hsl
   clear h2 e2 hl hs hp hP h3 h4
   simp only[List.length_cons]at hll hpl
   rw[show(p0::q).getD 0 0=p0 from rfl]at hent
   refine ai<|ab (.a 4 I<|.c rfl (hsl) I<|.a 5 I<|.k [8,10,12] I)<|aj<|ab (.a 1 I<|.v (aN (0) I (by omega) (by simp only[List.length_cons];omega)) I<|.a 1 I<|.v (aJ I ((show(dR (s::l))[0]? =some (num s.kind) from rfl))) I<|.a 1 I<|.k [8,10,12,46] I)<|ag I (fun h5=>?_) (fun h5=>?_)
   ·have hc:jJ (s::l)=l:=if_pos (tt h5)
    rw[hc]at hent
    have hlm:l.length≤32:=by omega
    refine aC (.a 1 I<|.v (gu I (ba.el.get I) I I) I<|.a 1 I<|.k [8,10,12] I) ?_
    refine aj<|ab (.a 3 I<|.k [8,10,12,51] I)<|ag I (fun h6=>?_) (fun h6=>?_)
    ·exact absurd (tt h6) (by omega)
    ·clear h6
     refine ai<|iw 5 20 mixed (
      .val [10] I (aZ I) I I<|
      .val [53] I (sc (h:=1) I (ba.el.get I) I I I (show(aK (p0::q)).length=_ by simp[aK]) I I (by simp)) I I<|
      .val [12] I (aZ I) I I<|
      .val [55] I (dU I (nz _ (by omega))) I I<|
      .val [54,56] I (aZ I) I I<|
      .nil) (by kernel_rfl) I I (aY (ks:=[8,57]) I) ?_
     refine aw 2 I<|aE [8,9] I ?_
     exact ao<|⟨_,_,az.of I,ay.aX (ah.cons (ay.gY (ah.cons (ay.pure (p:=av [p0]))<|ah.cons ay.pure<|ah.cons (ay.pure (p:=cc _)) ah.nil)) (ah.cons ay.pure ah.nil)),by rw[hent];rfl⟩
   ·have hc:jJ (s::l)=s::l:=if_neg (ff h5)
    rw[hc]at hent
    have hlm:(s::l).length≤32:=by simp only[List.length_cons];omega
    refine ai<|aj<|ab (.a 3 I<|.k [8,10,12,51] I)<|ag I (fun h6=>?_) (fun h6=>?_)
    ·exact absurd (tt h6) (by omega)
    ·clear h6
     refine ai<|iw 5 20 mixed (
      .val [10] I (aZ I) I I<|
      .val [53] I (sc (h:=1) I (ba.el.get I) I I I (show(aK (p0::q)).length=_ by simp[aK]) I I (by simp)) I I<|
      .val [12] I (aZ I) I I<|
      .val [55] I (dU I (nz _ (by omega))) I I<|
      .val [54,56] I (aZ I) I I<|
      .nil) (by kernel_rfl) I I (aY (ks:=[8,57]) I) ?_
     refine aw 2 I<|aE [8,9] I ?_
     exact ao<|⟨_,_,az.of I,ay.aX (ah.cons (ay.gY (ah.cons (ay.pure (p:=av [p0]))<|ah.cons ay.pure<|ah.cons (ay.pure (p:=cc _)) ah.nil)) (ah.cons ay.pure ah.nil)),by rw[hent];rfl⟩
end
section
open Go.RowKit cG Mem
section
variable {P:Program} {σ:cg} {t:cn} {o:Oper}
theorem wh{ty e s:Nat}{x:Operand}(ho:o.op= .call {callee:=.builtin .cap,args:= #[x],argTypes:= #[ty]})(he:yw P ty=some (e,s))(hx:aG t x=some (.raw (.slice none 0 0))):bE P σ t o (.raw (.int .i64 0)):=by
 intro F base E ρ w hρ _ hT
 have h1:=aA hρ hT hx
 obtain⟨hu,_⟩:=gP he
 generalize hz:ρ x=z at h1
 cases h1
 simp[execOp,ho,resolve,invoke,builtin,Builtin.cap_,hz,run_underlying hu,goInt]
 exact bA (.raw _)
theorem yL{ty e s:Nat}{x hi':Operand}{k:IntKind}(ho:o.op= .slice ty x none (some hi') none)(he:yw P ty=some (e,s))(hx:aG t x=some (.raw (.slice none 0 0)))(hhi:aG t hi'=some (.raw (.int k 0))):bE P σ t o (.raw (.slice none 0 0)):=by
 intro F base E ρ w hρ _ hT
 have h1:=aA hρ hT hx
 have h2:=aA hρ hT hhi
 obtain⟨hu,inf,hinf,hs⟩:=gP he
 generalize hz:ρ x=z at h1
 generalize hz':ρ hi'=z' at h2
 cases h1
 cases h2
 have hr:(execOp ρ o).run P w= .ok (.value (.slice none 0 0)) w:=by
  simp[execOp,ho,hz,hz',Instr.sliceAt,run_underlying hu,Instr.slice,Instr.sliceBounds,Instr.sliceBound,asIntOf,sizeOf,typeInfo,hinf]
 rw[hr]
 exact bA (.raw _)
theorem xU{P:Program}(w:World)(t tx ty e:TypeId)(i:TypeInfo)(z:Value)(ht:P.underlying t=some (.slice e))(hx:P.underlying tx=some (.int .i64))(hi:P.info? e=some i)(hz:i.zero=some z)(hp:0<i.size)(n:Nat)
  (h0:0<n) (h63:(n:Int)≤9223372036854775807) (h48:n*i.bytes≤281474976710656):
  (Builtin.append_ #[t,tx] ty #[.slice none 0 0,.int .i64 (n:Int)]).run P w=
   .ok (.slice (some ⟨w.heap.size,0,none⟩) n (grownCap w n 0 e)) (w.drew.alloc (.cells (Builtin.zeroCells z.cells n++Builtin.zeroCells z.cells (grownCap w n 0 e - n)) e)):=by
 have hn:n≠0:=by omega
 have hp':i.size≠0:=by omega
 have h63':¬(9223372036854775807<(n:Int)):=by omega
 have h48':¬(281474976710656<Builtin.nextslicecap n 0*i.bytes):=by rw[nextslicecap_zero h0];omega
 have hw:IntKind.i64.wrap (n:Int)=n:=jR (by unfold In64;omega)
 have hb:¬(281474976710656<(n:Int)*(i.bytes:Int)):=by
  have:((n*i.bytes:Nat):Int)≤281474976710656:=by omega
  rw[Int.natCast_mul]at this
  omega
 have s8:¬((n:Int)<0):=by omega
 simp[Builtin.append_,run_underlying ht,run_underlying hx,sizeOf,typeInfo,zeroValue,hi,hz,asInt,asIntOf,hw,hb,s8,hn,hp',h63',h48',Question.forced,run_firstCells_none,newRow,grownCap]
 exact fun h=>absurd h (Nat.mul_ne_zero hn hp')
theorem BM{ty tx e s by':Nat}{z:List Value}{x y:Operand}{n:Nat}{m:Int}(ho:o.op= .call {callee:=.builtin .append,args:= #[x,y],argTypes:= #[ty,tx]})(hk:wC P ty=some (e,s,by',z))(htx:P.underlying tx=some (.int .i64))(hx:aG t x=some (.raw (.slice none 0 0)))(hy:aG t y=some (.raw (.int .i64 m)))(hm:m=(n:Int))(h0:0<n)(hn:n≤maxLen∧n*by'≤281474976710656):
  cq P σ t o (.own σ.length) (σ++[some (.row e s n (dS (z.map .raw) n))]):=by
 intro F base E ρ w hρ hS hT
 have h1:=aA hρ hT hx
 have h2:=aA hρ hT hy
 generalize hz1:ρ x=v1 at h1
 generalize hz2:ρ y=v2 at h2
 cases h1;cases h2
 subst hm
 obtain⟨hu,i,z',hi,hs,hby,hz,hzz,hzs,hpos⟩:=pn hk
 have hsm:n≤9223372036854775807:=by have:=hn.1;simp only[maxLen]at this;omega
 have hrun:=xU (P:=P) w ty tx o.type e i z' hu htx hi hz (by omega) n h0 (by omega) (by rw[hby];exact hn.2)
 have hr:(execOp ρ o).run P w= .ok (.value (.slice (some ⟨w.heap.size,0,none⟩) n (grownCap w n 0 e))) (w.drew.alloc (.cells (Builtin.zeroCells z'.cells n++Builtin.zeroCells z'.cells (grownCap w n 0 e - n)) e)):=by
  simp only[execOp,ho,resolve,invoke,builtin,Sem.run_bind,Sem.run_pure,Result.andThen_ok,List.map_toArray,List.map_cons,List.map_nil,hz1,hz2,hrun]
 have hge:=grownCap_ge w n 0 e
 have hcm:grownCap w n 0 e≤maxLen:=grownCap_le_maxLen w n 0 e hn.1
 have hzc:(Builtin.zeroCells z'.cells n).size=n*s:=by rw[size_zeroCells,hzs]
 have hown:(w.drew.alloc (.cells (Builtin.zeroCells z'.cells n++Builtin.zeroCells z'.cells (grownCap w n 0 e - n)) e)).ownsRow base e s (.slice (some ⟨w.heap.size,0,none⟩) n (grownCap w n 0 e)) n (Builtin.zeroCells z'.cells n).toList:=by
  refine⟨by rw[Array.length_toList,hzc],.inr ⟨w.heap.size,_,_,rfl,hS.bl,heap_alloc_new w.drew _,hge,hcm,?_,?_⟩⟩
  ·simp only[Array.size_append,size_zeroCells,hzs,←Nat.add_mul]
   congr 1
   omega
  ·simp only[Array.toList_append]
   rw[←hzc,←Array.length_toList]
   exact List.take_left
 have hg:w.grownBy (w.drew.alloc (.cells (Builtin.zeroCells z'.cells n++Builtin.zeroCells z'.cells (grownCap w n 0 e - n)) e)) none:=⟨rfl,rfl,rfl,by simp,fun k hk _=>heap_alloc_old w.drew _ hk⟩
 have hR:bf E w (Builtin.zeroCells z'.cells n).toList (dS (z.map .raw) n):=by
  rw[←hzz];exact mz z'.cells n (n*z'.cells.size) I
 obtain⟨a1,a2,a3,a4⟩:=nZ hS (oI hg) (fun b h=>by simp[bF]at h;omega) hown hR
 exact⟨_,_,_,.inl hr,a1,a2,a3,a4⟩
end
open Net eY
theorem rQ(l:List Int)(hl:l.length≤1000):Can Tryz.prog 144 [av l] (· =av l):=by
 refine aH Tryz.func144 I Tryz.ntmps144 I<|ab (.a 1 I<|.k [0] I)<|aj<|aO (WR.mono (K:=fun s=>∃b:Bool,s=⟨[(0,av l),(4,.raw (.bool b))],[]⟩∧(b=true→l=[])) ?_ ?_)
 ·cases l with
  |nil=>exact aw 1 rfl<|vo rfl Kw rfl rfl rfl rfl rfl fun b=>aE [0,4] rfl ⟨b,rfl,fun _=>rfl⟩
  |cons a l=>exact aw 1 rfl<|bJ (oe rfl Kw rfl rfl (Nat.succ_pos _)) rfl rfl rfl<|aE [0,4] rfl ⟨_,rfl,fun h=>by cases h⟩
 rintro _ ⟨b,rfl,hb⟩
 refine ag I (fun hc=>?_) (fun hc=>?_)
 ·have:l=[]:=hb hc
  subst this
  exact ab (.a 1 I<|.k [2] I)<|ao<|⟨_,_,az.of I,ay.bM,rfl⟩
 ·refine ai<|aO<|b7 (cJ I (ba.sl.get I)) I<|aw 1 I<|b7 (bh I (ba.rk.get I) I I I (show(aK l).length=l.length*1 by simp[aK]) (by unfold maxLen;omega)) I<|aw 1 I<|aE [2] I ?_
  refine ao<|⟨_,_,az.of I,ay.fy (xs:=aK l) (ys:=aK l) I ah.pure,?_⟩
  rw[Nat.zero_add];rfl
theorem Cy(n:Nat)(hn:n≤1000):bU Tryz.prog 172 [.raw (.slice none 0 0),num n] [] (fun r σ'=>r= .own 0∧σ'=[some (.row 103 2 0 [])]):=by
 refine ct Tryz.func172 I Tryz.ntmps172 I<|ab (.a 1 I<|.k [0,1] I)<|aj<|ab (.a 2 I<|.k [0,1,6] I)<|ag I (fun h1=>?_) (fun h1=>?_)
 ·exact absurd (tt h1) (by omega)
 ·clear h1
  refine ai<|aj<|ab (.a 2 I<|.v (wh I (ba.el.get I) I) I<|.a 1 I<|.v (qX I (ba.el.get I) I) I<|.v (aU I) I<|.v (aU I) I<|.a 1 I<|.k [0,1] I)<|ab (.a 2 I<|.k [0,1,16] I)<|ag I (fun h2=>?_) (fun h2=>?_)
  ·have hpos:0<n:=by have:=tt h2;omega
   refine bI<|aw 2 I<|bw (wh I (ba.el.get I) I) I<|bw (yL I (ba.el.get I) I I) I<|aw 1 I<|b7 (BM (n:=n) I (ba.rk.get I) Tryz.underlying3 rfl rfl (by omega) hpos (by unfold maxLen;omega)) I<|aw 1 I<|bw (qX I (ba.el.get I) I) I<|b7 (nR (h:=0) I (ba.el.get I) I I I I (by omega)) I<|aw 1 I<|aE [0] I ?_
   refine dI [1] (.c 0<|.nil) (.kept rfl (.row aI.nil)<|.nil) I I ?_
   exact ab (.a 2 I<|.k [4] I)<|ao<|⟨_,az.of I,rfl,rfl⟩
  ·refine gH 0 103 2 I ?_
   exact ai<|ab (.a 2 I<|.k [4] I)<|ao<|⟨_,az.of I,rfl,rfl⟩
def qV(A B:List bV)(i:Nat):List bV:=if i=0 then [] else if i=1 then A else A++B
def Hm(A B:List bV)(i:Nat):List bV:=if i=0 then A else B
theorem xx(A B:List bV){i:Nat}(h:i<2):qV A B (i+1)=qV A B i++Hm A B i:=by
 rcases(show i=0∨i=1 by omega)with rfl|rfl<;>rfl
theorem qu(A B:List bV)(i:Nat):(qV A B i).length≤A.length+B.length:=by
 unfold qV
 split
 ·simp
 ·split<;>simp
theorem pO(A B:List bV)(hl:A.length+B.length≤1000):Can Tryz.prog 145 [.slice 2 [cc A,cc B]] (· =cc (A++B)):=by
 refine aH Tryz.func145 I Tryz.ntmps145 I ?_
 have hg:=Cy (A++B).length (by simpa using hl)
 refine ab (.a 1 I<|.k [0] I)<|ab (.a 1 I<|.k [0,3] I)<|aj<|ab (.a 3 I<|.k [0,3,9,10,11] I)<|au<|eH [0,3,9,10,11] I<|bq (fun r s=>∃i,i≤2∧r=2 - i∧s=⟨[(0,.slice 2 [cc A,cc B]),(3,num (qV A B i).length),(9,.slice 2 [cc A,cc B]),(10,num 2),(11,num i)],[]⟩) 2 ⟨0,by omega,by omega,rfl⟩ ?_
 rintro r s ⟨i,hi,rfl,rfl⟩
 refine ab (.a 1 I<|.k [0,3,9,10,11,12] I)<|aj<|ag I (fun h1=>?_) (fun h1=>?_)
 ·have hlt:i<2:=by have:=tt h1;omega
  have hc1:=qu A B i
  have hc2:=qu A B (i+1)
  have hst:=congrArg List.length (xx A B hlt)
  rw[List.length_append]at hst
  have hget:[cc A,cc B][i]? =some (cc (Hm A B i)):=by
   rcases(show i=0∨i=1 by omega)with rfl|rfl<;>rfl
  clear h1
  refine ai<|aj<|au<|ab (.v (aN (i) I) I<|.v (aJ I (hget)) I<|.a 1 I<|.k [0,3,5,9,10,11] I)<|ab (.a 3 I<|.v (aU I (hc:=(show((qV A B i).length:Int)+((Hm A B i).length:Int)=((qV A B (i+1)).length:Int) by omega)) (hn:=(by unfold In64;omega))) I<|.a 1 I<|.k [0,3,9,10,11] I)<|ab (.a 2 I<|.k [0,3,9,10,11,20] I)<|ag I (fun h2=>?_) (fun h2=>?_)
  ·exact absurd (tt h2) (by omega)
  ·clear h2
   refine ai<|aC (.v (aU I) I<|.a 1 I<|.k [0,3,9,10,11] I) ?_
   exact⟨2 - (i+1),by omega,i+1,by omega,rfl,rfl⟩
 ·have hie:i=2:=by have:=ff h1;omega
  subst hie
  have hcat:qV A B 2=A++B:=rfl
  rw[hcat]
  clear h1
  refine bd<|aO<|aw 1 I<|cN I I (bU.mono hg (fun r σ' h=>?_))
  obtain⟨rfl,rfl⟩:=h
  refine aw 1 I<|aE [0,6] I ?_
  refine aj<|ab (.a 3 I<|.k [6,25,26,27] I)<|au<|eH [6,25,26,27] I<|bq (fun r s=>∃i,i≤2∧r=2 - i∧s=⟨[(6,.own 0),(25,.slice 2 [cc A,cc B]),(26,num 2),(27,num i)],[some (.row 103 2 (qV A B i).length (dR (qV A B i)))]⟩) 2 ⟨0,by omega,by omega,rfl⟩ ?_
  rintro r s ⟨i,hi,rfl,rfl⟩
  refine ab (.a 1 I<|.k [6,25,26,27,28] I)<|aj<|ag I (fun h1=>?_) (fun h1=>?_)
  ·have hlt:i<2:=by have:=tt h1;omega
   have hc1:=qu A B i
   have hc2:=qu A B (i+1)
   have hst:=xx A B hlt
   have hsl:=congrArg List.length hst
   rw[List.length_append]at hsl
   have hget:[cc A,cc B][i]? =some (cc (Hm A B i)):=by
    rcases(show i=0∨i=1 by omega)with rfl|rfl<;>rfl
   clear h1
   refine ai<|aj<|au<|ab (.v (aN (i) I) I<|.v (aJ I (hget)) I<|.a 1 I<|.k [6,8,25,26,27] I)<|bI<|aw 2 I<|b7 (bh I (ba.rk.get I) I I I (fN _) (show _≤maxLen∧_*16≤140737488355328 by unfold maxLen;omega)) I<|aw 1 I ?_
   refine eR [1] (.c 6<|.c 25<|.c 26<|.c 27<|.nil) (.kept rfl (.fF rfl (rfl))<|.nil) I I (bp ?_)
   refine aC (.v (aU I) I<|.a 1 I<|.k [6,25,26,27] I) ?_
   refine⟨2 - (i+1),by omega,i+1,by omega,rfl,?_⟩
   rw[hst,List.length_append]
   unfold dR
   rw[List.flatMap_append]
   rfl
  ·have hie:i=2:=by have:=ff h1;omega
   subst hie
   have hcat:qV A B 2=A++B:=rfl
   rw[hcat]
   clear h1
   exact bd<|ab (.a 2 I<|.k [2] I)<|ao<|⟨_,_,az.of I,ay.fy rfl ah.pure,rfl⟩
def GA(v:Int):List Int→Nat→Int
 | [],_=> -1
 |a::l,i=>bif decide (v=a) then(i:Int) else GA v l (i+1)
theorem AO(v:Int):∀(l:List Int) (i:Nat),0≤GA v l i↔v∈l
 | [],i=>by simp[GA]
 |a::l,i=>by
  simp only[GA]
  by_cases h:v=a
  ·rw[decide_eq_true h,cond_true]
   exact⟨fun _=>by rw[h];exact List.mem_cons_self,fun _=>by omega⟩
  ·rw[decide_eq_false h,cond_false,AO v l (i+1),List.mem_cons]
   exact⟨.inr,fun h'=>h'.resolve_left h⟩
theorem HA(v:Int)(l:List Int)(i:Nat):decide (0≤GA v l i)=decide (v∈l):=decide_eq_decide.2 (AO v l i)
theorem Aa(l:List Int)(v:Int)(hl:l.length≤1000):Can Tryz.prog 143 [av l,num v] (· =num (GA v l 0)):=by
 refine aH Tryz.func143 I Tryz.ntmps143 I<|ab (.a 1 I<|.k [0,1] I)<|aj<|ab (.a 3 I<|.k [0,1,7,8] I)<|au<|eH [0,1,7,8] I<|bq (fun r s=>∃i,i≤l.length∧r=l.length - i∧GA v l 0=GA v (l.drop i) i∧s=⟨[(0,av l),(1,num v),(7,num l.length),(8,num i)],[]⟩) l.length ⟨0,by omega,by omega,rfl,rfl⟩ ?_
 rintro r s ⟨i,hi,rfl,hx,rfl⟩
 refine ab (.a 1 I<|.k [0,1,7,8,9] I)<|aj<|ag I (fun h1=>?_) (fun h1=>?_)
 ·have hlt:i<l.length:=by have:=tt h1;omega
  rw[drop_cons l i hlt]at hx
  simp only[GA]at hx
  obtain⟨q,hq⟩:∃q,decide (v=l.getD i 0)=q:=⟨_,rfl⟩
  rw[hq]at hx
  refine ai<|aj<|au<|ab (.a 2 I<|.k [0,1,5,7,8] I)<|ab (.a 3 I<|.v (aN (i) I) I<|.v (aJ I (aB l i hlt)) I<|.v (cf I (hq)) I<|.k [0,1,5,7,8,16] I)<|ag I (fun h2=>?_) (fun h2=>?_)
  ·subst h2
   rw[cond_true]at hx
   rw[hx]
   exact ab (.a 2 I<|.k [4] I)<|ao<|⟨_,_,az.of I,ay.pure,rfl⟩
  ·subst h2
   rw[cond_false]at hx
   refine ai<|aC (.v (aU I) I<|.a 1 I<|.k [0,1,7,8] I) ?_
   exact⟨l.length - (i+1),by omega,i+1,by omega,rfl,hx,rfl⟩
 ·have hie:i=l.length:=by have:=ff h1;omega
  subst hie
  rw[List.drop_length]at hx
  rw[hx]
  exact bd<|ab (.a 1 I<|.k [4] I)<|ao<|⟨_,_,az.of I,ay.pure,rfl⟩
theorem sZ(l:List Int)(v:Int)(hl:l.length≤1000):Can Tryz.prog 104 [av l,num v] (· =flag (decide (v∈l))):=by
 obtain⟨q,hq⟩:∃q,decide (v∈l)=q:=⟨_,rfl⟩
 have hm:=(HA v l 0).trans hq
 rw[hq]
 exact aH Tryz.func104 I Tryz.ntmps104 I<|ab (.a 1 I<|.k [0,1] I)<|ab (.a 2 I<|.c rfl (Aa l v hl) I<|.v (cf I (hm)) I<|.a 1 I<|.k [4] I)<|ao<|⟨_,_,az.of I,ay.pure,rfl⟩
structure dx where
 id:Int
 src:Int
 dst:Int
 ku:Int
 stack:List bV
 dG:Int
def cL(p:dx):List PV:=[num p.id,num p.src,num p.dst,num p.ku,cc p.stack,num p.dG]
def dB(p:dx):PV:=.agg (cL p)
instance (p:dx):aL (cL p):=by unfold cL;infer_instance
instance (p:dx):IsPure (dB p):=by unfold dB;infer_instance
structure Out where
 ax:List Int
 eo:dx
 cS:Int
def vv(r:Out):PV:=.tuple [av r.ax,dB r.eo,num r.cS]
def eu(p:dx)(r:Int):Out:=⟨[],p,r⟩
def cB(p:dx)(s:List bV)(ax:List Int):Out:=⟨ax,⟨p.id,p.src,p.dst,p.ku,s,p.dG+1⟩,0⟩
def fA(p:dx)(s:List bV)(e:i6):Out:=
 if e.rep then(if 32<(e.push++s.drop 1).length then eu p 5 else cB p (e.push++s.drop 1) e.ax) else cB p s e.ax
theorem rz(p:dx)(s:List bV)(hl:s.length≤1000):Can Tryz.prog 102 [dB p,cc s] (· =dB ⟨p.id,p.src,p.dst,p.ku,s,p.dG⟩):=by
 refine aH Tryz.func102 I Tryz.ntmps102 I<|aO<|b7 (fD I I I) I<|aw 1 I<|aE [1,2,4] I ?_
 refine aO<|aw 1 I<|eW I (nz s hl) I<|aw 2 I<|aE [2,4] I ?_
 refine aO<|aw 2 I<|aE [4] I ?_
 exact ao<|⟨_,_,az.of I,ay.pure (p:=dB ⟨p.id,p.src,p.dst,p.ku,s,p.dG⟩),rfl⟩
theorem gS(p:dx)(r:Int)(hl:p.stack.length≤1000):Can Tryz.prog 101 [dB p,num r] (· =vv (eu p r)):=by
 refine aH Tryz.func101 I Tryz.ntmps101 I<|aO<|aw 4 I<|aE [1,2,5] I ?_
 refine aO<|aw 2 I<|bw (aJ I ((rfl:(cL p)[4]? =some (cc p.stack)))) I<|eW I (rz p p.stack hl) I<|aw 4 I<|aE [4,5,6] I ?_
 exact ao<|⟨_,_,az.of I,ay.aX (ah.cons ay.bM<|ah.cons (ay.pure (p:=dB p))<|ah.cons ay.pure ah.nil),rfl⟩
theorem mY(p:dx)(s:List bV)(ax:List Int)(hl:s.length≤1000)(ha:ax.length≤1000)(hh:0≤p.dG∧p.dG≤1000):Can Tryz.prog 105 [dB p,cc s,av ax] (· =vv (cB p s ax)):=by
 refine aH Tryz.func105 I Tryz.ntmps105 I<|aO<|b7 (fD I I I) I<|aw 3 I<|aE [1,2,3,7] I ?_
 refine aO<|aw 2 I<|eW I (rz p s hl) I<|aw 1 I<|aE [2,3,7] I ?_
 refine aO<|aw 2 I<|bw (aU I (hn:=(show In64 (p.dG+1) by unfold In64;omega))) I<|aw 2 I<|aE [2,3,7] I ?_
 refine iw 4 20 mixed (
  .val [2] I (aZ I) I I<|
  .val [16] I (dU I (rQ ax ha)) I I<|
  .val [3] I (aZ I) I I<|
  .val [17] I (aZ I) I I<|
  .nil) (by kernel_rfl) I I (aY (ks:=[6,7,18]) I) ?_
 refine aw 2 I<|aE [6,7,8] I ?_
 exact ao<|⟨_,_,az.of I,ay.aX (ah.cons (ay.pure (p:=av ax))<|ah.cons (ay.pure (p:=dB ⟨p.id,p.src,p.dst,p.ku,s,p.dG+1⟩))<|ah.cons ay.pure ah.nil),rfl⟩
end
end PW
end Go.Proofs.YtnegbdpggideiaaGreatDoor
