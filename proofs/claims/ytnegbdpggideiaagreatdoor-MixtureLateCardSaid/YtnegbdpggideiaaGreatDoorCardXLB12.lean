/- Texts of the proof, part 12. -/
import Derived.Lib.ItoaNum
import Derived.Laws.StructEq
import Derived.Test.YtnegbdpggideiaaGreatDoorCardXLB11
set_option linter.unusedVariables false
set_option linter.unusedSimpArgs false
set_option maxRecDepth 10000
set_option maxHeartbeats 1000000
namespace Go.Proofs.YtnegbdpggideiaaGreatDoor
namespace PW
section
open Go.RowKit cE Mem Net eY
section
variable {T:an} {M D:List Bool} {n d:Nat}
theorem pD{x:de}{d:Nat}{e:iS}(h:x.dr[d]? =some e):di x (d:Int)=e:=by
 unfold di
 rw[Int.toNat_natCast]
 exact mP _ _ _ h
theorem mZ(hd:(d:Int)<T.nodes):di (dJ T D n) (d:Int)=⟨bI T D n d,false,[]⟩:=pD (FW (by omega))
theorem yj(hd:(d:Int)<T.nodes):di (uB T D n) (d:Int)=jW T D n d:=pD (wN (by omega))
theorem yL(hd:(d:Int)<T.nodes):di (qW T M n) (d:Int)=nB T (fX T M n) n d:=pD (xl (by omega))
noncomputable def eW(T:an)(M:List Bool)(s:Int)(n:Nat):de:=if s=0 then dJ T [] n else if s=1 then qW T M n else if s=2 then uB T M n else dJ T M n
theorem u7{E:List Bool}{a:Nat}{l:List Int}(h:(a:Int)∈cQ E l):aQ E a=true:=by
 have:=(List.mem_filter.1 h).2
 rwa [Int.toNat_natCast]at this
theorem pN(hv:aq T=true)(hn:(n:Int)<T.nodes){E:List Bool}(hf:bW T E=true)(hE:∀a,aQ D a=false→aQ E a=false):G5 T D n (dJ T E n) where
 ok:=iZ hv hn
 node:=rfl
 down:=fun a ha=>by
  have:=u7 ha
  cases h:aQ D a with
  |true=>rfl
  |false=>rw[hE a h]at this;cases this
 Ke:=fun y p hs=>by
  rw[mZ hs.hy]
  exact⟨(hs.Ii hf hE).C5.2.1,fun h=>by cases h⟩
theorem oO(hv:aq T=true)(h12:T.nodes≤12)(hn:(n:Int)<T.nodes)(hf:bW T M=true)(hM:∀a,aQ D a=false→aQ M a=false)(s:Int):G5 T D n (eW T M s n):=by
  unfold eW
  split
  · exact pN hv hn (kD T) (fun a _=>by simp[aQ])
  · split
    · refine ⟨pq hv h12 hn, rfl, fun a ha => ?_, fun y p hs => ?_⟩
      · have:=u7 ha
        cases h:aQ D a with
        |true=>rfl
        |false=>rw[hM a h]at this;cases this
      · rw[yL hs.hy]
        have h1:=hs.C5.1
        unfold nB
        have hno:lK (fX T M n) (bI T [] n y)=none:=by
          cases hh:lK (fX T M n) (bI T [] n y)with
          |none=>rfl
          |some a=>
            obtain⟨h2,h3⟩:=vO hh
            rw[h1,List.mem_singleton]at h2
            subst h2
            obtain⟨p0,pt,rfl⟩:∃p0 pt,p=p0::pt:=by
              cases p with
              |nil=>exact absurd hs.pos (by simp)
              |cons p0 pt=>exact⟨p0,pt,rfl⟩
            have h4:=hM _ (hs.up p0 (by simp))
            rw[nX]at h3
            simp only[List.getD_cons_zero,Bool.and_eq_true]at h3
            rw[h4]at h3
            exact absurd h3.2.1 (by decide)
        rw[hno]
        exact⟨h1,fun h=>by cases h⟩
    · split
      · refine⟨pc hv h12 hn,rfl,fun a ha=>?_,fun y p hs=>?_⟩
        · have:=u7 ha
          cases h:aQ D a with
          |true=>rfl
          |false=>rw[hM a h]at this;cases this
        · rw[yj hs.hy,(hs.Ii hf hM).C5.2.2]
          exact⟨rfl,fun _=>rfl⟩
      · exact pN hv hn hf hM
theorem AG{D':List Bool}(hv:aq T=true)(hd:(d:Int)<T.nodes)(hD:∀a,aQ D a=aQ D' a):dN T D d n=dN T D' d n:=by
 unfold dN
 rw[BQ hv hd false hD]
theorem yP{k x:Int}(hv:aq T=true)(hcv:Im T k x=true)(hn:(n:Int)<T.nodes)(hd:(d:Int)<T.nodes)(hg:¬(k=2∧x=(n:Int)))(hr:0≤dN T (aE T k x) d n){a:Nat}(EK:aQ (fX T (aE T k x) n) a=true):
  (∀b,aQ (pL T (fX T (aE T k x) n) n d a) b=false→aQ (aE T k x) b=false)∧0≤dN T (pL T (fX T (aE T k x) n) n d a) d n∧∀b,aQ (pL T (fX T (aE T k x) n) n d a) b=aQ (aE T (er T a d).1 (er T a d).2) b:=by
 rw[nX]at EK
 simp only[Bool.and_eq_true,decide_eq_true_eq]at EK
 obtain⟨ha,hdn,ht⟩:=EK
 have hrb:iT T (aE T k x) (n:Int) d=true:=(mO hv (dt T k x) hn hd).2 hr
 have hw:C4 T k x (er T a d).1 (er T a d).2=true:=by
  unfold Im Ki at hcv
  have h1:=List.all_eq_true.1 (Bool.and_eq_true_iff.1 hcv).2 a (List.mem_range.2 ha)
  unfold K5 at h1
  rw[hdn,ht]at h1
  have h2:(decide (k=2)&&decide ((n:Int)=x))=false:=by
   rw[Bool.eq_false_iff]
   intro h
   obtain⟨h3,h4⟩:=Bool.and_eq_true_iff.1 h
   exact hg ⟨of_decide_eq_true h3,(of_decide_eq_true h4).symm⟩
  rw[h2]at h1
  have h3:KW T (aE T k x) k x a T.nodes.toNat=true:=h1
  unfold KW at h3
  have h4:=List.all_eq_true.1 h3 d (List.mem_range.2 (by omega))
  rw[ht,hrb]at h4
  exact h4
 have hin:∀b,aQ (aE T k x) b=true→aQ (aE T (er T a d).1 (er T a d).2) b=true:=fun b hb=>by
  have hbl:b<2*T.ag.length:=by
   rcases Nat.lt_or_ge b (2*T.ag.length)with h|h
   ·exact h
   ·rw[←fL,List.getD_eq_getElem?_getD,List.getElem?_eq_none (by rw[fQ];omega)]at hb
    cases hb
  rw[ot hbl]at hb ⊢
  unfold C4 H0 at hw
  have:=List.all_eq_true.1 hw b (List.mem_range.2 hbl)
  rw[hb]at this
  simpa using this
 have hrm:iT T (aE T (er T a d).1 (er T a d).2) (n:Int) d=true:=by
  have hF:=ht
  unfold er
  split
  ·rename_i h;rw[ht]at h;exact(Bool.and_eq_true_iff.1 h).2
  ·split
   ·rename_i h;rw[ht]at h;exact(Bool.and_eq_true_iff.1 h).2
   ·rename_i h1 h2
    have he:er T a d=(1,((a / 2:Nat):Int)):=by unfold er;rw[if_neg h1,if_neg h2]
    rw[he]at hin
    rw[mO hv (dt T _ _) hn hd]
    rw[←AG (D:=aE T k x) hv hd (fun b=>?_)]
    ·exact hr
    ·cases hb:aQ (aE T k x) b with
     |true=>exact(hin b hb).symm
     |false=>
      symm
      by_cases hbl:b<2*T.ag.length
      ·rw[ot hbl]at hb ⊢
       rw[KQ]
       refine decide_eq_false fun e=>?_
       have e:b / 2=a / 2:=by omega
       rw[ot ha,←e,hb]at hdn
       cases hdn
      ·rw[←fL,List.getD_eq_getElem?_getD,List.getElem?_eq_none (by rw[fQ];omega)]
       rfl
 have heq:∀b,aQ (orM T (aE T (er T a d).1 (er T a d).2) (fX T (aE T k x) n)) b=aQ (aE T (er T a d).1 (er T a d).2) b:=fun b=>by
  rw[G0]
  by_cases hbl:b<2*T.ag.length
  ·rw[decide_eq_true hbl,Bool.true_and,nX,decide_eq_true hbl,Bool.true_and]
   cases h1:aQ (aE T (er T a d).1 (er T a d).2) b with
   |true=>rfl
   |false=>
    cases h2:aQ (aE T k x) b with
    |true=>rw[hin b h2]at h1;cases h1
    |false=>rfl
  ·rw[decide_eq_false hbl,Bool.false_and,←fL,List.getD_eq_getElem?_getD,List.getElem?_eq_none (by rw[fQ];omega)]
   rfl
 have hro:iT T (orM T (aE T (er T a d).1 (er T a d).2) (fX T (aE T k x) n)) (n:Int) d=true:=by
  rw[mO hv (vm T _ _) hn hd,AG hv hd heq,←mO hv (dt T _ _) hn hd]
  exact hrm
 have hmix:pL T (fX T (aE T k x) n) n d a=orM T (aE T (er T a d).1 (er T a d).2) (fX T (aE T k x) n):=by
  unfold pL
  rw[if_pos hro]
 rw[hmix]
 refine⟨fun b hb=>?_,(mO hv (vm T _ _) hn hd).1 hro,heq⟩
 rw[heq]at hb
 cases h:aQ (aE T k x) b with
 |false=>rfl
 |true=>rw[hin b h]at hb;cases hb
end
section
variable {T:an} {k x:Int} {d:Nat}
def Gn(k x:Int)(n:Nat):Prop:=k=2∧x=(n:Int)
structure Open (T:an) (k x:Int) (d n:Nat) (s:List bU):Prop where
 nil:s=[]
 node:(n:Int)<T.nodes
 here:¬Gn k x n
 reach:0≤dN T (aE T k x) d n
structure jj (T:an) (k x:Int) (d n:Nat) (s:List bU) (q:List Int):Prop where
 FH:∃D,(∀a,aQ D a=false→aQ (aE T k x) a=false)∧sP T D d n (eH ⟨1,(n:Int)⟩ s) q
 node:(n:Int)<T.nodes
 here:¬Gn k x n
 len:s.length≤32
theorem oR{a m:Nat}(ha:a<2*T.ag.length)(hu:aQ (aE T k x) a=false)(hm:aS T a=(m:Int)):¬Gn k x m:=by
 rintro⟨rfl,rfl⟩
 rw[ot ha,KT,Bool.or_eq_false_iff,decide_eq_false_iff_not,decide_eq_false_iff_not]at hu
 rcases Gf (T:=T) a with h|h
 ·exact hu.2 (h.2.symm.trans hm)
 ·exact hu.1 (h.2.symm.trans hm)
theorem oy(hv:aq T=true){a m:Nat}(ha:a<2*T.ag.length)(hm:aS T a=(m:Int)):(m:Int)<T.nodes:=by rw[←hm];exact((aO hv).head a ha).2
structure s7 (T:an) (k x:Int) (n:Nat) (a:Int) (b m:Nat):Prop where
 eq:a=(b:Int)
 fy:b<2*T.ag.length
 tail:br T b=(n:Int)
 head:aS T b=(m:Int)
 up:aQ (aE T k x) b=false
theorem jL(hv:aq T=true)(h12:T.nodes≤12)(hd:(d:Int)<T.nodes){n:Nat}{s:List bU}{a:Int}{q:List Int}(h:jj T k x d n s (a::q))(st:Int){p:dv}(hp:p.dst=(d:Int))(hh:p.dD=0)(hs:p.stack=s):
  ∃(b m:Nat) (s':List bU),s7 T k x n a b m∧dq T (eW T (aE T k x) st n) p=cA p s' [a]∧jj T k x d m s' q:=by
 obtain⟨D,hD,hl⟩:=h.FH
 subst hs
 obtain⟨m,s',h1,h2,h3,h4,h5,h6,h7,h8⟩:=A2 (oO hv h12 h.node (dt T k x) hD st) hd hp hh rfl hl h.len
 obtain⟨b,rfl⟩:=Int.eq_ofNat_of_zero_le h2
 rw[Int.toNat_natCast]at h1 h3 h4 h5
 have hup:=hD b h5
 exact⟨b,m,s',⟨rfl,h3,h4,h1,hup⟩,h6,⟨D,hD,h8⟩,oy hv h3 h1,oR h3 hup h1,Nat.le_trans h7 h.len⟩
theorem lf(hv:aq T=true)(h12:T.nodes≤12)(hd:(d:Int)<T.nodes){n:Nat}{s:List bU}(h:jj T k x d n s [])(st:Int){p:dv}(hp:p.dst=(d:Int))(hs:p.stack=s):
  n=d∧(dq T (eW T (aE T k x) st n) p).ax=[]∧(dq T (eW T (aE T k x) st n) p).cT= -1:=by
 obtain⟨D,hD,hl⟩:=h.FH
 subst hs
 obtain⟨e1,e2⟩:=hl.end_
 exact⟨e2,p8 (oO hv h12 h.node (dt T k x) hD st) hd hp e2 e1 h.len⟩
theorem sw(hv:aq T=true)(h12:T.nodes≤12)(hd:(d:Int)<T.nodes){s:List bU}(h:Open T k x d d s)(st:Int){p:dv}(hp:p.dst=(d:Int))(hs:p.stack=s):
  (dq T (eW T (aE T k x) st d) p).ax=[]∧(dq T (eW T (aE T k x) st d) p).cT= -1:=by
 have hn:=h.nil
 subst hs
 exact p8 (oO (D:=aE T k x) hv h12 h.node (dt T k x) (fun _ h=>h) st) hd hp rfl (by rw[hn];rfl) (by rw[hn];simp)
theorem nE(hv:aq T=true)(h12:T.nodes≤12)(hd:(d:Int)<T.nodes){n:Nat}(hn:(n:Int)<T.nodes)(hne:n≠d){D:List Bool}(hf:bW T D=true)(hD:∀a,aQ D a=false→aQ (aE T k x) a=false)(hr:0≤dN T D d n){t:de}(hok:cV T t=true)(htn:t.node=(n:Int))(he:di t (d:Int)=jW T D n d){p:dv}(hp:p.dst=(d:Int))(hh:p.dD=0)(hs:p.stack=[]):
  ∃(b m:Nat) (s':List bU) (q:List Int),cr T D n d=(b:Int)::q∧s7 T k x n b b m∧dq T t p=cA p s' [(b:Int)]∧jj T k x d m s' q∧(q.length:Int)+1<T.nodes:=by
 have hsp:gR T D (n:Int) d=0:=by rw[kB hv hf hn hd,if_neg (by omega)]
 obtain⟨n',d',e1,e2,hP⟩:=vd hsp (by omega)
 have e1:n=n':=by omega
 have e2:d=d':=by omega
 subst e1;subst e2
 have hent:=qq hP
 obtain⟨b,m,q,h1,h2,h3,h4,h5,h6⟩:=hP.enter
 have hpush:=xy T D (n:Int) d h12
 have hup:=hD b h4
 rw[h1]at hent
 rw[List.getD_cons_zero]at hent
 have hst:=ug hok htn hd hne hp hh (by rw[hs];rfl) (by rw[hs];simp) (by rw[he,hent];simp) (by rw[he];exact hpush)
 rw[he,hent,if_pos rfl]at hst
 rw[hent]at hpush
 rw[h1]at h6
 have hlen:=hP.len
 rw[h1,List.length_cons]at hlen
 exact⟨b,m,_,q,h1,⟨rfl,h2,h3,h5,hup⟩,hst,⟨⟨D,hD,h6⟩,oy hv h2 h5,oR h2 hup h5,hpush⟩,by omega⟩
theorem lS(hv:aq T=true)(hd:(d:Int)<T.nodes){n:Nat}(hn:(n:Int)<T.nodes)(hne:n≠d){E:List Bool}(hr:0≤dN T E d n){t:de}(hok:cV T t=true)(htn:t.node=(n:Int))(he:di t (d:Int)=⟨bI T E n d,false,[]⟩){p:dv}(hp:p.dst=(d:Int))(hh:p.dD=0)(hs:p.stack=[]):
  bI T E n d≠[]∧dq T t p=cA p [] (bI T E n d):=by
 obtain⟨j,hj⟩:=jO (D:=E) hv hn hd hne hr
 have hm:=fw hj ((aO hv).cost j hj.fy).1
 have hpos:0<(bI T E n d).length:=List.length_pos_of_mem hm
 have hst:=ug hok htn hd hne hp hh (by rw[hs];rfl) (by rw[hs];simp) (by rw[he];exact hpos) (by rw[he];simp)
 rw[he]at hst
 exact⟨fun e=>by rw[e]at hpos;exact absurd hpos (by simp),hst⟩
theorem yf(hv:aq T=true)(h12:T.nodes≤12)(hd:(d:Int)<T.nodes)(hcv:Im T k x=true)(hsafe:∀m:Nat,(m:Int)<T.nodes→¬Gn k x m→0≤dN T [] d m→0≤dN T (aE T k x) d m)
  {n:Nat} {s:List bU} (h:Open T k x d n s) (hne:n≠d) {st:Int} (hst:st=0∨st=1∨st=2) (hold:st=0→∀a,a<2*T.ag.length→br T a=(n:Int)→aQ (aE T k x) a=false) {p:dv} (hp:p.dst=(d:Int)) (hh:p.dD=0) (hs:p.stack=s):
  ∃ax s',dq T (eW T (aE T k x) st n) p=cA p s' ax∧ax≠[]∧∀a∈ax,∃b m:Nat,s7 T k x n a b m∧((st≠2∧Open T k x d m s'∧dN T [] d n=dN T [] d m+cn T b∧0≤dN T [] d m)∨∃q,jj T k x d m s' q∧(q.length:Int)+1<T.nodes):=by
 have hnil:=h.nil
 subst hnil
 have hbare:0≤dN T [] d n:=EC hv h.node hd (fun a ha hu=>by simp[aQ]) h.reach
 have hout:∀(t:de),cV T t=true→t.node=(n:Int)→di t (d:Int)=⟨bI T [] n d,false,[]⟩→(∀a∈bI T [] n d,aQ (aE T k x) a.toNat=false)→st≠2→
   ∃ax s',dq T t p=cA p s' ax∧ax≠[]∧∀a∈ax,∃b m:Nat,s7 T k x n a b m∧((st≠2∧Open T k x d m s'∧dN T [] d n=dN T [] d m+cn T b∧0≤dN T [] d m)∨∃q,jj T k x d m s' q∧(q.length:Int)+1<T.nodes):=fun t h1 h2 h3 h4 h5=>by
  obtain⟨e1,e2⟩:=lS hv hd h.node hne hbare h1 h2 h3 hp hh hs
  refine⟨_,_,e2,e1,fun a ha=>?_⟩
  obtain⟨b,rfl,hb⟩:=cW ha
  have hup:=h4 _ ha
  rw[Int.toNat_natCast]at hup
  obtain⟨m,hm⟩:=Int.eq_ofNat_of_zero_le ((aO hv).head b hb.fy).1
  obtain⟨c1,c2⟩:=hb.dN hm
  have hml:=oy hv hb.fy hm
  have hmh:=oR hb.fy hup hm
  exact⟨b,m,⟨rfl,hb.fy,hb.tail,hm,hup⟩,.inl ⟨h5,⟨rfl,hml,hmh,hsafe m hml hmh c1⟩,c2,c1⟩⟩
 rcases hst with rfl|rfl|rfl
 ·have ht:eW T (aE T k x) 0 n=dJ T [] n:=by unfold eW;rw[if_pos rfl]
  rw[ht]
  exact hout _ (iZ hv h.node) I (mZ hd) (fun a ha=>by
   obtain⟨b,rfl,hb⟩:=cW ha
   rw[Int.toNat_natCast]
   exact hold rfl b hb.fy hb.tail) (by decide)
 ·have ht:eW T (aE T k x) 1 n=qW T (aE T k x) n:=by unfold eW;rw[if_neg (by decide),if_pos rfl]
  rw[ht]
  cases hh2:lK (fX T (aE T k x) n) (bI T [] n d)with
  |none=>
   have he:nB T (fX T (aE T k x) n) n d=⟨bI T [] n d,false,[]⟩:=by unfold nB;rw[hh2]
   refine hout _ (pq hv h12 h.node) I (by rw[yL hd,he]) (fun a ha=>?_) (by decide)
   obtain⟨b,rfl,hb⟩:=cW ha
   have h1:=Ex hh2 _ ha
   rw[nX,Int.toNat_natCast,decide_eq_true hb.fy,Bool.true_and,hb.tail,decide_eq_true rfl,Bool.and_true]at h1
   rw[Int.toNat_natCast]
   exact h1
  |some a=>
   obtain⟨h1,h2⟩:=vO hh2
   obtain⟨c1,c2,_⟩:=yP hv hcv h.node hd h.here h.reach h2
   have he:nB T (fX T (aE T k x) n) n d=jW T (pL T (fX T (aE T k x) n) n d a.toNat) n d:=by unfold nB;rw[hh2]
   obtain⟨b,m,s',q,e1,e2,e3,e4⟩:=nE hv h12 hd h.node hne (wv (DU T _ _) _) c1 c2 (pq hv h12 h.node) I (by rw[yL hd,he]) hp hh hs
   exact⟨_,_,e3,by simp,fun a ha=>by
    rw[List.mem_singleton]at ha
    subst ha
    exact⟨b,m,e2,.inr ⟨q,e4⟩⟩⟩
 ·have ht:eW T (aE T k x) 2 n=uB T (aE T k x) n:=by unfold eW;rw[if_neg (by decide),if_neg (by decide),if_pos rfl]
  rw[ht]
  obtain⟨b,m,s',q,e1,e2,e3,e4⟩:=nE hv h12 hd h.node hne (dt T k x) (fun _ h=>h) h.reach (pc hv h12 h.node) I (yj hd) hp hh hs
  exact⟨_,_,e3,by simp,fun a ha=>by
   rw[List.mem_singleton]at ha
   subst ha
   exact⟨b,m,e2,.inr ⟨q,e4⟩⟩⟩
theorem pF(hv:aq T=true)(h12:T.nodes≤12)(hd:(d:Int)<T.nodes){n:Nat}{s:List bU}(h:Open T k x d n s)(hne:n≠d){st:Int}(hst:st≠0∧st≠1){p:dv}(hp:p.dst=(d:Int))(hh:p.dD=0)(hs:p.stack=s):
  ∃ax s',dq T (eW T (aE T k x) st n) p=cA p s' ax∧ax≠[]∧∀a∈ax,∃b m:Nat,s7 T k x n a b m∧((st≠2∧Open T k x d m s'∧dN T (aE T k x) d n=dN T (aE T k x) d m+cn T b)∨(st=2∧∃q,cr T (aE T k x) n d=a::q∧ax=[a]∧jj T k x d m s' q∧(q.length:Int)+1<T.nodes)):=by
 have hnil:=h.nil
 subst hnil
 by_cases h2:st=2
 ·subst h2
  have ht:eW T (aE T k x) 2 n=uB T (aE T k x) n:=by unfold eW;rw[if_neg (by decide),if_neg (by decide),if_pos rfl]
  rw[ht]
  obtain⟨b,m,s',q,e1,e2,e3,e4⟩:=nE hv h12 hd h.node hne (dt T k x) (fun _ h=>h) h.reach (pc hv h12 h.node) I (yj hd) hp hh hs
  exact⟨_,_,e3,by simp,fun a ha=>by
   rw[List.mem_singleton]at ha
   subst ha
   exact⟨b,m,e2,.inr ⟨rfl,q,e1,rfl,e4⟩⟩⟩
 ·have ht:eW T (aE T k x) st n=dJ T (aE T k x) n:=by unfold eW;rw[if_neg hst.1,if_neg hst.2,if_neg h2]
  rw[ht]
  obtain⟨e1,e2⟩:=lS hv hd h.node hne h.reach (iZ hv h.node) I (mZ hd) hp hh hs
  refine⟨_,_,e2,e1,fun a ha=>?_⟩
  obtain⟨b,rfl,hb⟩:=cW ha
  obtain⟨m,hm⟩:=Int.eq_ofNat_of_zero_le ((aO hv).head b hb.fy).1
  obtain⟨c1,c2⟩:=hb.dN hm
  exact⟨b,m,⟨rfl,hb.fy,hb.tail,hm,hb.up⟩,.inl ⟨h2,⟨rfl,oy hv hb.fy hm,oR hb.fy hb.up hm,c1⟩,c2⟩⟩
end
section
variable {T:an} {k x:Int} {d:Nat}
noncomputable def ki(T:an)(D:List Bool)(d n:Nat):Nat:=((List.range T.nodes.toNat).filter fun m=>decide (0≤dN T D d m)&&decide (dN T D d m<dN T D d n)).length
theorem oC{D:List Bool}{n:Nat}(hn:(n:Int)<T.nodes):ki T D d n<T.nodes.toNat:=by
 unfold ki
 have h:((List.range T.nodes.toNat).filter fun m=>decide (0≤dN T D d m)&&decide (dN T D d m<dN T D d n)).length<(List.range T.nodes.toNat).length:=by
  refine List.length_filter_lt_length_iff_exists.2 ⟨n,List.mem_range.2 (by omega),?_⟩
  simp
 simpa using h
theorem filter_lt{α:Type}{p q:α→Bool}{l:List α}{a:α}(hpq:∀b∈l,p b=true→q b=true)(ha:a∈l)(hp:p a=false)(hq:q a=true):(l.filter p).length<(l.filter q).length:=by
 have e:l.filter p=(l.filter q).filter p:=by
  rw[List.filter_filter]
  refine List.filter_congr fun b hb=>?_
  cases h:p b with
  |false=>simp
  |true=>simp[hpq b hb h]
 rw[e]
 exact List.length_filter_lt_length_iff_exists.2 ⟨a,List.mem_filter.2 ⟨ha,hq⟩,by rw[hp];simp⟩
theorem xA{D:List Bool}{n m:Nat}(hm:(m:Int)<T.nodes)(h0:0≤dN T D d m)(h:dN T D d m<dN T D d n):ki T D d m<ki T D d n:=by
 unfold ki
 refine filter_lt (a:=m) (fun b _ hb=>?_) (List.mem_range.2 (by omega)) (by simp) (by simp[h0,h])
 simp only[Bool.and_eq_true,decide_eq_true_eq]at hb ⊢
 exact⟨hb.1,by omega⟩
def Way(T:an)(k x:Int)(d:Nat)(late:Bool)(n:Nat)(s:List bU)(u:Nat):Prop:=
 (Open T k x d n s∧u=if late then T.nodes.toNat+ki T (aE T k x) d n else 2*T.nodes.toNat+ki T [] d n)∨∃q,jj T k x d n s q∧u=q.length∧q.length<T.nodes.toNat
def Perm(T:an)(k x:Int)(late:Bool)(st:Nat→Int):Prop:=
 ∀n:Nat,(n:Int)<T.nodes→¬Gn k x n→if late then st n≠0∧st n≠1 else(st n=0∨st n=1∨st n=2)∧(st n=0→∀a,a<2*T.ag.length→br T a=(n:Int)→aQ (aE T k x) a=false)
theorem Way.bound{late:Bool}{n:Nat}{s:List bU}{u:Nat}(hN:1≤T.nodes)(h:Way T k x d late n s u):u<3*T.nodes.toNat:=by
 rcases h with⟨h,rfl⟩|⟨q,_,rfl,h⟩
 ·have h1:=oC (D:=aE T k x) (d:=d) h.node
  have h2:=oC (D:=[]) (d:=d) h.node
  split<;>omega
 ·omega
theorem Way.on{n:Nat}{s:List bU}{u:Nat}(h:Way T k x d false n s u):∃u',u'≤u∧Way T k x d true n s u':=by
 rcases h with⟨h,rfl⟩|⟨q,h,rfl,hl⟩
 ·have h1:=oC (D:=aE T k x) (d:=d) h.node
  refine⟨T.nodes.toNat+ki T (aE T k x) d n,?_,.inl ⟨h,?_⟩⟩
  ·rw[if_neg (by simp)];omega
  ·rw[if_pos rfl]
 ·exact⟨_,Nat.le_refl _,.inr ⟨q,h,rfl,hl⟩⟩
theorem oe(hv:aq T=true)(h12:T.nodes≤12)(hd:(d:Int)<T.nodes){late:Bool}(hcv:late=false→Im T k x=true)(hsafe:late=false→∀m:Nat,(m:Int)<T.nodes→¬Gn k x m→0≤dN T [] d m→0≤dN T (aE T k x) d m)
  {st:Nat→Int} (hp:Perm T k x late st) {n:Nat} {s:List bU} {u:Nat} (h:Way T k x d late n s u) {p:dv} (hpd:p.dst=(d:Int)) (hh:p.dD=0) (hs:p.stack=s):
  (n=d∧(dq T (eW T (aE T k x) (st n) n) p).ax=[]∧(dq T (eW T (aE T k x) (st n) n) p).cT= -1)∨
  ∃ax s',dq T (eW T (aE T k x) (st n) n) p=cA p s' ax∧ax≠[]∧∀a∈ax,∃b m:Nat,s7 T k x n a b m∧∃u',u'<u∧Way T k x d late m s' u':=by
 have hS:=aO hv
 rcases h with⟨h,rfl⟩|⟨q,h,rfl,hl⟩
 ·by_cases hne:n=d
  ·subst hne
   exact .inl ⟨rfl,sw hv h12 hd h (st n) hpd hs⟩
  ·refine .inr ?_
   have hpn:=hp n h.node h.here
   cases late with
   |true=>
    rw[if_pos rfl]at hpn
    obtain⟨ax,s',e1,e2,e3⟩:=pF hv h12 hd h hne hpn hpd hh hs
    refine⟨ax,s',e1,e2,fun a ha=>?_⟩
    obtain⟨b,m,g,hc⟩:=e3 a ha
    refine⟨b,m,g,?_⟩
    rcases hc with⟨_,ho,hdist⟩|⟨_,q,_,_,hL,hq⟩
    ·have hc1:=hS.cost b g.fy
     have:=xA (d:=d) (n:=n) ho.node ho.reach (by omega)
     exact⟨_,by rw[if_pos rfl,if_pos rfl];omega,.inl ⟨ho,rfl⟩⟩
    ·exact⟨q.length,by rw[if_pos rfl];omega,.inr ⟨q,hL,rfl,by omega⟩⟩
   |false=>
    rw[if_neg (by simp)]at hpn
    obtain⟨ax,s',e1,e2,e3⟩:=yf hv h12 hd (hcv rfl) (hsafe rfl) h hne hpn.1 hpn.2 hpd hh hs
    refine⟨ax,s',e1,e2,fun a ha=>?_⟩
    obtain⟨b,m,g,hc⟩:=e3 a ha
    refine⟨b,m,g,?_⟩
    rcases hc with⟨_,ho,hdist,h0⟩|⟨q,hL,hq⟩
    ·have hc1:=hS.cost b g.fy
     have:=xA (D:=[]) (d:=d) (n:=n) ho.node h0 (by omega)
     exact⟨_,by rw[if_neg (by simp),if_neg (by simp)];omega,.inl ⟨ho,rfl⟩⟩
    ·exact⟨q.length,by rw[if_neg (by simp)];omega,.inr ⟨q,hL,rfl,by omega⟩⟩
 ·cases q with
  |nil=>exact .inl (lf hv h12 hd h (st n) hpd hs)
  |cons a q=>
   obtain⟨b,m,s',g,e1,e2⟩:=jL hv h12 hd h (st n) hpd hh hs
   refine .inr ⟨[a],s',e1,by simp,fun c hc=>?_⟩
   rw[List.mem_singleton]at hc
   subst hc
   simp only[List.length_cons]at hl ⊢
   exact⟨b,m,g,q.length,by omega,.inr ⟨q,e2,rfl,by omega⟩⟩
end
def cP(p:dv)(s:List bU):dv:=⟨p.id,p.src,p.dst,p.kq,s,0⟩
inductive Br (T:an) (tb:Nat→de) (p0:dv):Nat→List bU→List Int→Nat→Int→Prop
 |stop {n:Nat} {s:List bU}:(dq T (tb n) (cP p0 s)).ax=[]→Br T tb p0 n s [] n (dq T (tb n) (cP p0 s)).cT
 |go {n m e:Nat} {s:List bU} {a:Int} {p:List Int} {w:Int}:a∈(dq T (tb n) (cP p0 s)).ax→aS T a.toNat=(m:Int)→Br T tb p0 m (dq T (tb n) (cP p0 s)).ev.stack p e w→Br T tb p0 n s (a::p) e w
section
variable {T:an} {k x:Int} {d:Nat} {st:Nat→Int} {p0:dv}
noncomputable def nF(T:an)(M:List Bool)(st:Nat→Int)(n:Nat):de:=eW T M (st n) n
theorem BW(hv:aq T=true)(h12:T.nodes≤12)(hd:(d:Int)<T.nodes)(hp0:p0.dst=(d:Int)){n e:Nat}{s:List bU}{p:List Int}{w:Int}(hb:Br T (nF T (aE T k x) st) p0 n s p e w):∀ {q:List Int},jj T k x d n s q→p=q∧e=d∧w= -1∧∀a∈p,aQ (aE T k x) a.toNat=false:=by
 induction hb with
 | @stop n s h0=>
  intro q h
  cases q with
  |nil=>
   obtain⟨e1,e2,e3⟩:=lf hv h12 hd h (st n) (p:=cP p0 s) hp0 rfl
   exact⟨rfl,e1,e3,fun a ha=>by cases ha⟩
  |cons a q=>
   obtain⟨b,m,s',g,e1,e2⟩:=jL hv h12 hd h (st n) (p:=cP p0 s) hp0 rfl rfl
   rw[show nF T (aE T k x) st n=eW T (aE T k x) (st n) n from rfl,e1]at h0
   cases h0
 | @go n m e s a p w ha hm hr ih=>
  intro q h
  cases q with
  |nil=>
   obtain⟨e1,e2,e3⟩:=lf hv h12 hd h (st n) (p:=cP p0 s) hp0 rfl
   rw[show nF T (aE T k x) st n=eW T (aE T k x) (st n) n from rfl,e2]at ha
   cases ha
  |cons c q=>
   obtain⟨b,m',s',g,e1,e2⟩:=jL hv h12 hd h (st n) (p:=cP p0 s) hp0 rfl rfl
   rw[show nF T (aE T k x) st n=eW T (aE T k x) (st n) n from rfl,e1]at ha ih
   have ha:a∈[c]:=ha
   rw[List.mem_singleton]at ha
   subst ha
   have hmm:m=m':=by
    have h1:=g.head
    rw[g.eq,Int.toNat_natCast,h1]at hm
    omega
   subst hmm
   obtain⟨i1,i2,i3,i4⟩:=ih e2
   refine⟨by rw[i1],i2,i3,fun c hc=>?_⟩
   rcases List.mem_cons.1 hc with rfl|hc
   ·rw[g.eq,Int.toNat_natCast];exact g.up
   ·exact i4 c hc
theorem IA(hv:aq T=true)(h12:T.nodes≤12)(hd:(d:Int)<T.nodes){late:Bool}(hcv:late=false→Im T k x=true)(hsafe:late=false→∀m:Nat,(m:Int)<T.nodes→¬Gn k x m→0≤dN T [] d m→0≤dN T (aE T k x) d m)
  (hpm:Perm T k x late st) (hp0:p0.dst=(d:Int)) {n e:Nat} {s:List bU} {p:List Int} {w:Int} (hb:Br T (nF T (aE T k x) st) p0 n s p e w):∀ {u:Nat},Way T k x d late n s u→e=d∧w= -1∧∀a∈p,aQ (aE T k x) a.toNat=false:=by
 induction hb with
 | @stop n s h0=>
  intro u h
  rcases oe hv h12 hd hcv hsafe hpm h (p:=cP p0 s) hp0 rfl rfl with⟨e1,e2,e3⟩|⟨ax,s',e1,e2,_⟩
  ·exact⟨e1,e3,fun a ha=>by cases ha⟩
  ·rw[show nF T (aE T k x) st n=eW T (aE T k x) (st n) n from rfl,e1]at h0
   exact absurd h0 e2
 | @go n m e s a p w ha hm hr ih=>
  intro u h
  rcases oe hv h12 hd hcv hsafe hpm h (p:=cP p0 s) hp0 rfl rfl with⟨e1,e2,e3⟩|⟨ax,s',e1,e2,e3⟩
  ·rw[show nF T (aE T k x) st n=eW T (aE T k x) (st n) n from rfl,e2]at ha
   cases ha
  ·rw[show nF T (aE T k x) st n=eW T (aE T k x) (st n) n from rfl,e1]at ha ih
   obtain⟨b,m',g,u',_,hw⟩:=e3 a ha
   have hmm:m=m':=by
    have h1:=g.head
    rw[g.eq,Int.toNat_natCast,h1]at hm
    omega
   subst hmm
   obtain⟨i2,i3,i4⟩:=ih hw
   refine⟨i2,i3,fun c hc=>?_⟩
   rcases List.mem_cons.1 hc with rfl|hc
   ·rw[g.eq,Int.toNat_natCast];exact g.up
   ·exact i4 c hc
theorem D6(hv:aq T=true)(h12:T.nodes≤12)(hd:(d:Int)<T.nodes)(hp0:p0.dst=(d:Int)){n e:Nat}{s:List bU}{p:List Int}{w:Int}(hb:Br T (nF T (aE T k x) st) p0 n s p e w)(h:Open T k x d n s)(h2:st n=2):p=cr T (aE T k x) n d∧e=d∧w= -1:=by
 by_cases hne:n=d
 ·subst hne
  have hz:cr T (aE T k x) n n=[]:=(ej (D:=aE T k x) hv h.node h.node h.reach).self
  rw[hz]
  obtain⟨e1,e2⟩:=sw hv h12 hd h (st n) (p:=cP p0 s) hp0 rfl
  cases hb with
  |stop _=>exact⟨rfl,rfl,e2⟩
  |go ha _ _=>
   rw[show nF T (aE T k x) st n=eW T (aE T k x) (st n) n from rfl,e1]at ha
   cases ha
 ·obtain⟨ax,s',e1,e2,e3⟩:=pF hv h12 hd h hne (st:=st n) (by rw[h2];decide) (p:=cP p0 s) hp0 rfl rfl
  cases hb with
  |stop h0=>
   rw[show nF T (aE T k x) st n=eW T (aE T k x) (st n) n from rfl,e1]at h0
   exact absurd h0 e2
  | @go _ m _ _ a p _ ha hm hr=>
   rw[show nF T (aE T k x) st n=eW T (aE T k x) (st n) n from rfl,e1]at ha hr
   obtain⟨b,m',g,hc⟩:=e3 a ha
   have hmm:m=m':=by
    have h1:=g.head
    rw[g.eq,Int.toNat_natCast,h1]at hm
    omega
   subst hmm
   rcases hc with⟨h4,_,_⟩|⟨_,q,e4,_,hL,_⟩
   ·exact absurd h2 h4
   ·obtain⟨i1,i2,i3,_⟩:=BW hv h12 hd hp0 hr hL
    exact⟨by rw[e4,i1],i2,i3⟩
end
section
variable {T:an} {D D':List Bool} {k x:Int} {d:Nat} {st:Nat→Int} {p0:dv}
end
def pg(k x n:Int):Bool:=decide (k=2)&&decide (x=n)
def qh(T:an)(k x:Int)(n:Nat):Bool:=(List.range (2*T.ag.length)).any fun a=>aQ (aE T k x) a&&decide (br T a=(n:Int))
def qD(s:Int):Bool:=decide (0≤s)&&decide (s≤3)
def sN(c:Bool)(s:Int):Bool:= !decide (s=3)&&(!decide (s=0)|| !c)&&(!decide (s=1)||c)
def nL(s:Int):Bool:=decide (s=2)||decide (s=3)
def dU(k x:Int)(p:Nat→Bool)(m:Nat):Bool:=(List.range m).all fun n=>pg k x n||p n
theorem gY(k x:Int)(p:Nat→Bool)(m:Nat):dU k x p (m+1)=(dU k x p m&&(pg k x m||p m)):=by
 unfold dU
 rw[List.range_succ,List.all_append]
 simp
theorem kA{k x:Int}{p:Nat→Bool}{m:Nat}:dU k x p m=true↔∀n,n<m→pg k x n=false→p n=true:=by
 unfold dU
 rw[List.all_eq_true]
 constructor
 ·intro h n hn hg
  have:=h n (List.mem_range.2 hn)
  rw[hg,Bool.false_or]at this
  exact this
 ·intro h n hn
  cases hg:pg k x n with
  |true=>rfl
  |false=>rw[Bool.false_or];exact h n (List.mem_range.1 hn) hg
def fB(l:List Int)(n:Nat):Int:=l.getD n 0
def fS(T:an)(k x:Int)(l:List Int):Bool:=
 if(aq T&&cp T k x)&&decide ((l.length:Int)=T.nodes) then dU k x (fun n=>qD (fB l n)) l.length&&(dU k x (fun n=>sN (qh T k x n) (fB l n)) l.length||dU k x (fun n=>nL (fB l n)) l.length) else false
theorem qU{k x:Int}{p:Nat→Bool}{m i:Nat}(hi:i<m)(hg:pg k x i=false)(hp:p i=false):dU k x p m=false:=by
 cases h:dU k x p m with
 |false=>rfl
 |true=>rw[kA.1 h i hi hg]at hp;cases hp
section
variable {T:an} {k x:Int} {l:List Int}
theorem I2{n:Nat}:pg k x n=true↔Gn k x n:=by
 unfold pg Gn
 simp
theorem nH{n:Nat}:pg k x n=false↔¬Gn k x n:=by
 rw[←I2];simp
theorem C8{n:Nat}:qh T k x n=false↔∀a,a<2*T.ag.length→br T a=(n:Int)→aQ (aE T k x) a=false:=by
 unfold qh
 rw[List.any_eq_false]
 constructor
 ·intro h a ha ht
  have:=h a (List.mem_range.2 ha)
  rw[decide_eq_true ht,Bool.and_true]at this
  simpa using this
 ·intro h a ha
  rw[List.mem_range]at ha
  by_cases ht:br T a=(n:Int)
  ·rw[h a ha ht];simp
  ·rw[decide_eq_false ht];simp
theorem FP(h:fS T k x l=true):aq T=true∧cp T k x=true∧(l.length:Int)=T.nodes∧(∀n:Nat,(n:Int)<T.nodes→¬Gn k x n→0≤fB l n∧fB l n≤3)∧∃late,Perm T k x late (fB l)∧(late=dU k x (fun n=>nL (fB l n)) l.length):=by
 unfold fS at h
 split at h
 ·rename_i h1
  simp only[Bool.and_eq_true,decide_eq_true_eq,Bool.or_eq_true]at h1 h
  obtain⟨⟨hv,hc⟩,hl⟩:=h1
  obtain⟨hok,hel⟩:=h
  refine⟨hv,hc,hl,fun n hn hg=>?_,_,?_,rfl⟩
  ·have:=kA.1 hok n (by omega) (nH.2 hg)
   unfold qD at this
   simpa using this
  ·cases hla:dU k x (fun n=>nL (fB l n)) l.length with
   |true=>
    intro n hn hg
    have:=kA.1 hla n (by omega) (nH.2 hg)
    rw[if_pos rfl]
    unfold nL at this
    simp only[Bool.or_eq_true,decide_eq_true_eq]at this
    omega
   |false=>
    rw[hla]at hel
    have her:dU k x (fun n=>sN (qh T k x n) (fB l n)) l.length=true:=by
     rcases hel with h|h
     ·exact h
     ·cases h
    intro n hn hg
    have h1:=kA.1 her n (by omega) (nH.2 hg)
    have h2:=kA.1 hok n (by omega) (nH.2 hg)
    rw[if_neg (by simp)]
    unfold sN at h1
    unfold qD at h2
    simp only[Bool.and_eq_true,Bool.or_eq_true,Bool.not_eq_true',decide_eq_true_eq,decide_eq_false_iff_not]at h1 h2
    obtain⟨⟨e3,e0⟩,e1⟩:=h1
    refine⟨by omega,fun h0=>C8.1 ?_⟩
    rcases e0 with e0|e0
    ·exact absurd h0 e0
    ·exact e0
 ·cases h
end
theorem tA(k x n:Int):Can Tryz.prog 73 [cq k x,num n] (· =flag (pg k x n)):=by
 obtain⟨q1,hq1⟩:∃q,decide (k=2)=q:=⟨_,rfl⟩
 obtain⟨q2,hq2⟩:∃q,decide (x=n)=q:=⟨_,rfl⟩
 unfold pg
 rw[hq1,hq2]
 refine aI Tryz.func73 I Tryz.ntmps73 I<|ab (.a 2 I<|.k [1,2] I)<|bE 4 (.raw (.bool (q1&&q2))) [] I ?_ ?_
 ·refine .a 2 I<|.v (cd I (hq1)) I<|.a 1 I<|?_
  cases q1
  ·exact .a 6 I<|.k [4] I
  ·exact .a 3 I<|.v (cd I (hq2)) I<|.a 2 I<|.k [4] I
 exact ao<|⟨_,_,az.of I,ay.pure,rfl⟩
def wQ(T:an)(M:List Bool)(N a:Nat):List Bool:=(List.range N).map fun(n:Nat)=>(List.range a).any fun b=>aQ M b&&decide (br T b=(n:Int))
section
variable {T:an} {M:List Bool} {N a:Nat}
theorem Ao:(wQ T M N a).length=N:=by simp[wQ]
theorem Ek:wQ T M N 0=List.replicate N false:=by
 unfold wQ
 refine List.ext_getElem (by simp) fun i h1 h2=>by simp
theorem Ji(h:aQ M a=false):wQ T M N (a+1)=wQ T M N a:=by
 unfold wQ
 refine List.map_congr_left fun n _=>?_
 rw[List.range_succ,List.any_append]
 simp[h]
theorem Hd(h:aQ M a=true){m:Nat}(hm:br T a=(m:Int)):wQ T M N (a+1)=(wQ T M N a).set m true:=by
 refine List.ext_getElem (by simp[wQ]) fun i h1 h2=>?_
 rw[List.getElem_set]
 simp only[wQ,List.getElem_map,List.getElem_range,List.range_succ,List.any_append,List.any_cons,List.any_nil,Bool.or_false,h,Bool.true_and,hm]
 by_cases e:m=i
 ·subst e;simp
 ·rw[if_neg e,decide_eq_false (by omega),Bool.or_false]
theorem GQ{k x:Int}{n:Nat}(hn:n<N):(wQ T (aE T k x) N (2*T.ag.length)).getD n false=qh T k x n:=by
 unfold wQ qh
 simp[hn]
end
set_option maxHeartbeats 4000000 in
theorem nc(T:an)(k x:Int)(l:List Int)(hl:l.length≤1000):Can Tryz.prog 25 [aN T,cq k x,au l] (· =flag (fS T k x l)):=by
  obtain⟨q1,hq1⟩:∃q,decide (eA T k x≠0)=q:=⟨_,rfl⟩
  obtain⟨q2,hq2⟩:∃q,decide ((l.length:Int)≠T.nodes)=q:=⟨_,rfl⟩
  have hme:eA T k x=if(aq T&&cp T k x)=true then 0 else 1:=rfl
  refine aI Tryz.func25 I Tryz.ntmps25 I<|ab (.a 3 I<|.k [2,3,4] I)<|ab (.a 2 I<|.c rfl (mj T k x) I<|.a 5 I<|.k [2,3,4,7,8] I)<|aj<|bE 30 (.raw (.bool (q1||q2))) [2,3,4,7] I ?_ ?_
  · refine .a 1 I<|.v (cd I (hq1)) I<|.a 1 I<|?_
    cases q1
    · exact .a 3 I<|.v (aJ I (rfl)) I<|.v (cd I (hq2)) I<|.a 1 I<|.k [30,2,3,4,7] I
    · exact .a 6 I<|.k [30,2,3,4,7] I
  refine ah I (fun hc=>?_) (fun hc=>?_)
  · have hno:fS T k x l=false:=by
      unfold fS
      split
      · rename_i h
        exfalso
        obtain⟨h1,h2⟩:=Bool.and_eq_true_iff.1 h
        rw[if_pos h1]at hme
        rw[←hq1,←hq2,hme]at hc
        simp only[ne_eq,not_true_eq_false,decide_false,Bool.false_or,decide_eq_true_eq]at hc h2
        exact hc h2
      · rfl
    exact ab (.a 1 I<|.k [6] I)<|ao<|⟨_,_,az.of I,ay.pure,by rw[hno];rfl⟩
  · obtain ⟨rfl, rfl⟩ := Bool.or_eq_false_iff.1 hc
    have hvc:(aq T&&cp T k x)=true:=by
      cases h:(aq T&&cp T k x)with
      |true=>rfl
      |false=>rw[if_neg (by rw[h];decide)]at hme;exact absurd (ff hq1) (by rw[hme];decide)
    have hln:(l.length:Int)=T.nodes:=by have:=ff hq2;simpa using this
    have hP:fS T k x l=(dU k x (fun n=>qD (fB l n)) l.length&&(dU k x (fun n=>sN (qh T k x n) (fB l n)) l.length||dU k x (fun n=>nL (fB l n)) l.length)):=by
      unfold fS
      rw[if_pos (by rw[hvc,decide_eq_true hln];rfl)]
    have hv:=(Bool.and_eq_true_iff.1 hvc).1
    have hMl:=fQ T k x
    have hll:=bV hv
    rw[if_pos hvc]at hme
    rw[hme]
    simp only[if_true]
    obtain⟨M,hM⟩:∃M,aE T k x=M:=⟨_,rfl⟩
    obtain⟨N,hN⟩:∃N:Nat,l.length=N:=⟨_,rfl⟩
    have hTN:T.nodes=(N:Int):=by omega
    rw[hM]at hMl ⊢
    refine ai<|aP<|av 1 I<|bw (aJ I ((show some (num T.nodes)=some (num (N:Int)) by rw[hTN]))) I<|b7 (dT I (ba.rk.get I) I I (rfl:(N:Int)=(N:Int)) (rfl:(N:Int)=(N:Int)) ⟨by unfold maxLen;omega,by omega⟩) I<|av 1 I<|aG [2,3,4,7,9] I ?_
    refine eI (σ':=[some (.row 4 1 N (bX (wQ T M N 0)))]) (by rw[Ek,←iy];rfl) ?_
    refine aj<|ab (.a 3 I<|.k [2,3,4,9,34,35,36] I)<|aw<|eS [2,3,4,9,34,35,36] I<|bu (fun r st=>∃a,a≤M.length∧r=M.length - a∧st=⟨[(2,au l),(3,.bc (bC T) 0),(4,.bc (cG k x) 0),(9,.own 0),(34,bq M),(35,num M.length),(36,num a)],[some (.row 4 1 N (bX (wQ T M N a)))]⟩) M.length ⟨0,by omega,by omega,rfl⟩ ?_
    rintro r st ⟨a,ha,rfl,rfl⟩
    refine ab (.a 1 I<|.k [2,3,4,9,34,35,36,37] I)<|aj<|ah I (fun hc=>?_) (fun hc=>?_)
    · have hlt:a<M.length:=by have:=tt hc;omega
      obtain⟨b,hb⟩:∃b,aQ M a=b:=⟨_,rfl⟩
      obtain⟨m,hm⟩:=Int.eq_ofNat_of_zero_le ((aO hv).tail a (by omega)).1
      have hmN:=((aO hv).tail a (by omega)).2
      refine ai<|aj<|aw<|ab (.a 1 I<|.v (aM (a) I) I<|.v (aJ I ((dy M a hlt).trans (by rw[show M.getD a false=b from hb]))) I<|.a 2 I<|.k [2,3,4,9,10,11,34,35,36] I)<|ab (.a 1 I<|.k [2,3,4,9,10,34,35,36,41] I)<|ah I (fun hc=>?_) (fun hc=>?_)
      · have hst:=Hd (N:=N) (hb.trans hc) hm
        have hcl:=Ao (T:=T) (M:=M) (N:=N) (a:=a)
        refine bG<|av 3 I<|fe I ((show Can Tryz.prog 79 [aN T,num a] (· =num m) by have h:=jq T a (by omega);rw[hm]at h;exact h)) I<|bw (aM (m) I) I<|bb ((by first|exact bO I (ba.tk.get I) I I I (by first|omega|(simp;omega))|exact bf I (ba.tk.get I) I I I (by first|omega|(simp;omega)))) I I<|aG [2,3,4,9,34,35,36] I ?_
        refine aC (.v (aV I) I<|.a 1 I<|.k [2,3,4,9,34,35,36] I) ?_
        exact⟨M.length - (a+1),by omega,a+1,by omega,rfl,by rw[hst];rfl⟩
      · have hst:=Ji (T:=T) (N:=N) (hb.trans hc)
        refine ai<|aC (.v (aV I) I<|.a 1 I<|.k [2,3,4,9,34,35,36] I) ?_
        exact⟨M.length - (a+1),by omega,a+1,by omega,rfl,by rw[hst];rfl⟩
    · have hae:a=M.length:=by have:=ff hc;omega
      refine bh<|ab (.a 2 I<|.k [2,4,9,12,13] I)<|aj<|ab (.a 3 I<|.k [4,9,12,13,48,49,50] I)<|aw<|eS [4,9,12,13,48,49,50] I<|bu (fun r st=>∃i,i≤l.length∧dU k x (fun n=>qD (fB l n)) i=true∧r=l.length - i∧st=⟨[(4,.bc (cG k x) 0),(9,.own 0),(12,flag (dU k x (fun n=>sN (qh T k x n) (fB l n)) i)),(13,flag (dU k x (fun n=>nL (fB l n)) i)),(48,au l),(49,num l.length),(50,num i)],[some (.row 4 1 N (bX (wQ T M N a)))]⟩) l.length ⟨0,by omega,rfl,by omega,rfl⟩ ?_
      rintro r st ⟨i,hi,hO0,rfl,rfl⟩
      have hcc:∀n,n<N→(wQ T M N a).getD n false=qh T k x n:=fun n hn=>by rw[hae,hMl,←hM];exact GQ hn
      have hcl:=Ao (T:=T) (M:=M) (N:=N) (a:=a)
      have hE:=gY k x (fun n=>sN (qh T k x n) (fB l n)) i
      have hL:=gY k x (fun n=>nL (fB l n)) i
      have hO:=gY k x (fun n=>qD (fB l n)) i
      obtain⟨eb,heb⟩:∃b,dU k x (fun n=>sN (qh T k x n) (fB l n)) i=b:=⟨_,rfl⟩
      obtain⟨lb,hlb⟩:∃b,dU k x (fun n=>nL (fB l n)) i=b:=⟨_,rfl⟩
      rw[heb]at hE ⊢
      rw[hlb]at hL ⊢
      rw[hO0]at hO
      refine ab (.a 1 I<|.k [4,9,12,13,48,49,50,51] I)<|aj<|ah I (fun hc=>?_) (fun hc=>?_)
      · have hlt:i<l.length:=by have:=tt hc;omega
        obtain⟨g,hg⟩:∃g,pg k x i=g:=⟨_,rfl⟩
        obtain⟨c,hcb⟩:∃c,qh T k x i=c:=⟨_,rfl⟩
        have hci:=(hcc i (by omega)).trans hcb
        have hilt:i<N:=by omega
        obtain⟨s,hs⟩:∃s,fB l i=s:=⟨_,rfl⟩
        have hsl:l.getD i 0=s:=hs
        simp only[hg,hcb,hs]at hE hL hO
        refine ai<|aj<|aw<|ab (.a 1 I<|.v (aM (i) I) I<|.v (aJ I ((aB l i hlt).trans (by rw[hsl]))) I<|.a 2 I<|.k [4,9,12,13,14,15,48,49,50] I)<|aj<|ab (.a 2 I<|.c rfl (hg▸tA k x i) I<|.k [4,9,12,13,14,15,48,49,50,57] I)<|ah I (fun hc=>?_) (fun hc=>?_)
        · rw[hc,Bool.true_or,Bool.and_true]at hE hL hO
          refine lB (aY (ks:=[4,9,12,13,48,49,50]) I) ?_
          refine bh<|aC (.v (aV I) I<|.a 1 I<|.k [4,9,12,13,48,49,50] I) ?_
          exact⟨l.length - (i+1),by omega,i+1,by omega,hO,rfl,by rw[hE,hL];rfl⟩
        · have hg0:pg k x i=false:=hg.trans hc
          rw[hc,Bool.false_or]at hE hL hO
          refine ai<|ab (.a 1 I<|.k [4,9,12,13,14,48,49,50,58] I)<|aw<|ab (.a 2 I<|.k [4,9,12,13,14,48,49,50,58,59] I)<|ah I (fun hc=>?_) (fun hc=>?_)
          · have hs0:s=0:=tt hc
            subst hs0
            replace hE:dU k x (fun n=>sN (qh T k x n) (fB l n)) (i+1)=(eb&& !c):=by rw[hE];simp[sN]
            replace hL:dU k x (fun n=>nL (fB l n)) (i+1)=false:=by rw[hL];simp[nL]
            replace hO:dU k x (fun n=>qD (fB l n)) (i+1)=true:=by rw[hO];rfl
            refine ab (.a 1 I<|.k [4,9,12,13,14,48,49,50] I)<|rz 12 (.raw (.bool (eb&& !c))) [4,9,13,48,49,50] I ?_ ?_
            · refine .a 2 I<|?_
              cases eb
              · exact .a 7 I<|.k [12,4,9,13,48,49,50] I
              · exact .a 2 I<|.v (aM (i) I) I<|.v (aJ I ((dy _ i (by rw[hcl];exact hilt)).trans (by rw[hci];try rfl))) I<|.a 3 I<|.k [12,4,9,13,48,49,50] I
            refine aC (.v (aV I) I<|.a 1 I<|.k [4,9,12,13,48,49,50] I) ?_
            exact⟨l.length - (i+1),by omega,i+1,by omega,hO,rfl,by rw[hE,hL];rfl⟩
          · have n0:¬s=0:=ff hc
            refine ab (.a 2 I<|.k [4,9,12,13,14,48,49,50,58,69] I)<|ah I (fun hc=>?_) (fun hc=>?_)
            · have hs0:s=1:=tt hc
              subst hs0
              replace hE:dU k x (fun n=>sN (qh T k x n) (fB l n)) (i+1)=(eb&&c):=by rw[hE];simp[sN]
              replace hL:dU k x (fun n=>nL (fB l n)) (i+1)=false:=by rw[hL];simp[nL]
              replace hO:dU k x (fun n=>qD (fB l n)) (i+1)=true:=by rw[hO];rfl
              refine ab (.a 1 I<|.k [4,9,12,13,14,48,49,50] I)<|rz 12 (.raw (.bool (eb&&c))) [4,9,13,48,49,50] I ?_ ?_
              · refine .a 2 I<|?_
                cases eb
                · exact .a 6 I<|.k [12,4,9,13,48,49,50] I
                · exact .a 2 I<|.v (aM (i) I) I<|.v (aJ I ((dy _ i (by rw[hcl];exact hilt)).trans (by rw[hci];try rfl))) I<|.a 2 I<|.k [12,4,9,13,48,49,50] I
              refine aC (.v (aV I) I<|.a 1 I<|.k [4,9,12,13,48,49,50] I) ?_
              exact⟨l.length - (i+1),by omega,i+1,by omega,hO,rfl,by rw[hE,hL];rfl⟩
            · have n1:¬s=1:=ff hc
              refine ab (.a 2 I<|.k [4,9,12,13,48,49,50,58,78] I)<|ah I (fun hc=>?_) (fun hc=>?_)
              · have hs0:s=2:=tt hc
                subst hs0
                replace hE:dU k x (fun n=>sN (qh T k x n) (fB l n)) (i+1)=eb:=by rw[hE];simp[sN]
                replace hL:dU k x (fun n=>nL (fB l n)) (i+1)=lb:=by rw[hL];simp[nL]
                replace hO:dU k x (fun n=>qD (fB l n)) (i+1)=true:=by rw[hO];rfl
                refine ai<|aC (.v (aV I) I<|.a 1 I<|.k [4,9,12,13,48,49,50] I) ?_
                exact⟨l.length - (i+1),by omega,i+1,by omega,hO,rfl,by rw[hE,hL];rfl⟩
              · have n2:¬s=2:=ff hc
                refine ab (.a 2 I<|.k [4,9,13,48,49,50,80] I)<|ah I (fun hc=>?_) (fun hc=>?_)
                · have hs0:s=3:=tt hc
                  subst hs0
                  replace hE:dU k x (fun n=>sN (qh T k x n) (fB l n)) (i+1)=false:=by rw[hE];simp[sN]
                  replace hL:dU k x (fun n=>nL (fB l n)) (i+1)=lb:=by rw[hL];simp[nL]
                  replace hO:dU k x (fun n=>qD (fB l n)) (i+1)=true:=by rw[hO];rfl
                  refine aC (.a 1 I<|.k [4,9,12,13,48,49,50] I) ?_
                  refine aC (.v (aV I) I<|.a 1 I<|.k [4,9,12,13,48,49,50] I) ?_
                  exact⟨l.length - (i+1),by omega,i+1,by omega,hO,rfl,by rw[hE,hL];rfl⟩
                · have n3:¬s=3:=ff hc
                  refine ab (.a 1 I<|.k [6] I)<|ao ?_
                  have hbad:dU k x (fun n=>qD (fB l n)) l.length=false:=by
                    refine qU hlt hg0 ?_
                    show qD (fB l i)=false
                    rw[hs]
                    unfold qD
                    by_cases h1:0≤s
                    · rw[decide_eq_false (by omega:¬s≤3),Bool.and_false]
                    · rw[decide_eq_false h1,Bool.false_and]
                  exact⟨_,_,az.of I,ay.pure,by rw[hP,hbad];rfl⟩
      · have hie:i=l.length:=by have:=ff hc;omega
        subst hie
        refine bh<|bE 6 (.raw (.bool (eb||lb))) [] I ?_ ?_
        · refine .a 2 I<|?_
          cases eb
          · exact .a 3 I<|.k [6] I
          · exact .a 3 I<|.k [6] I
        exact ao<|⟨_,_,az.of I,ay.pure,by rw[hP,hO0,heb,hlb];rfl⟩
end
section
open Go.RowKit cE Mem Net
def gW(s:List bU):Prop:=∀g∈s,0≤g.kind∧g.kind<100∧0≤g.num∧g.num<100
def FV(g:bU):List UInt8:=32::(Lib.decDigits g.kind.toNat++58::Lib.decDigits g.num.toNat)
def ew(n:Nat)(s:List bU):List UInt8:=Lib.decDigits n++s.flatMap FV
def DX(c:UInt8):Prop:=48≤c.toNat∧c.toNat≤57
theorem mE{n:Nat}(h:n<100):∀c∈Lib.decDigits n,DX c:=by
 intro c hc
 by_cases h1:n<10
 ·rw[Lib.decDigits_one h1,List.mem_singleton]at hc
  subst hc
  unfold DX
  rw[UInt8.toNat_ofNat']
  omega
 ·rw[Lib.decDigits_two h1 h]at hc
  simp only[List.mem_cons,List.not_mem_nil,or_false]at hc
  rcases hc with rfl|rfl<;>(unfold DX;rw[UInt8.toNat_ofNat'];omega)
theorem ofNat_inj{a b:Nat}(ha:a<256)(hb:b<256)(h:UInt8.ofNat a=UInt8.ofNat b):a=b:=by
 have:=congrArg UInt8.toNat h
 rw[UInt8.toNat_ofNat',UInt8.toNat_ofNat']at this
 omega
theorem vA{m n:Nat}(hm:m<100)(hn:n<100)(h:Lib.decDigits m=Lib.decDigits n):m=n:=by
 by_cases h1:m<10<;>by_cases h2:n<10
 ·rw[Lib.decDigits_one h1,Lib.decDigits_one h2]at h
  have:=ofNat_inj (by omega) (by omega) (List.cons.inj h).1
  omega
 ·rw[Lib.decDigits_one h1,Lib.decDigits_two h2 hn]at h
  cases(List.cons.inj h).2
 ·rw[Lib.decDigits_two h1 hm,Lib.decDigits_one h2]at h
  cases(List.cons.inj h).2
 ·rw[Lib.decDigits_two h1 hm,Lib.decDigits_two h2 hn]at h
  have e1:=ofNat_inj (by omega) (by omega) (List.cons.inj h).1
  have e2:=ofNat_inj (by omega) (by omega) (List.cons.inj (List.cons.inj h).2).1
  omega
theorem kO{n:Nat}(h:n<100):(Lib.decDigits n).length≤2∧0<(Lib.decDigits n).length:=by
 by_cases h1:n<10
 ·rw[Lib.decDigits_one h1];simp
 ·rw[Lib.decDigits_two h1 h];simp
theorem mK:∀(A B X Y:List UInt8),(∀c∈A,DX c)→(∀c∈B,DX c)→(∀c Z,X=c::Z→¬DX c)→(∀c Z,Y=c::Z→¬DX c)→A++X=B++Y→A=B∧X=Y
 | [],[],X,Y,_,_,_,_,h=>⟨rfl,h⟩
 | [],b::B,X,Y,_,hB,hX,_,h=>absurd (hB b (by simp)) (hX b (B++Y) h)
 |a::A,[],X,Y,hA,_,_,hY,h=>absurd (hA a (by simp)) (hY a (A++X) h.symm)
 |a::A,b::B,X,Y,hA,hB,hX,hY,h=>by
  obtain⟨h1,h2⟩:=List.cons.inj h
  obtain⟨h3,h4⟩:=mK A B X Y (fun c hc=>hA c (by simp[hc])) (fun c hc=>hB c (by simp[hc])) hX hY h2
  exact⟨by rw[h1,h3],h4⟩
theorem mJ{s:List bU}:∀c Z,s.flatMap FV=c::Z→¬DX c:=by
 intro c Z h
 cases s with
 |nil=>cases h
 |cons g s=>
  rw[List.flatMap_cons]at h
  have:=(List.cons.inj h).1
  subst this
  unfold DX
  decide
theorem vM:∀ {s s':List bU},gW s→gW s'→s.flatMap FV=s'.flatMap FV→s=s'
 | [],[],_,_,_=>rfl
 | [],g::s',_,_,h=>by rw[List.flatMap_cons]at h;cases h
 |g::s,[],_,_,h=>by rw[List.flatMap_cons]at h;cases h
 |g::s,g'::s',h1,h2,h=>by
  obtain⟨a1,a2,a3,a4⟩:=h1 g (by simp)
  obtain⟨b1,b2,b3,b4⟩:=h2 g' (by simp)
  rw[List.flatMap_cons,List.flatMap_cons]at h
  unfold FV at h
  rw[List.cons_append,List.cons_append,List.append_assoc,List.append_assoc]at h
  obtain⟨e1,e2⟩:=mK _ _ _ _ (mE (by omega)) (mE (by omega)) (fun c Z h=>by rw[List.cons_append]at h;have:=(List.cons.inj h).1;subst this;unfold DX;decide) (fun c Z h=>by rw[List.cons_append]at h;have:=(List.cons.inj h).1;subst this;unfold DX;decide) (List.cons.inj h).2
  rw[List.cons_append,List.cons_append]at e2
  obtain⟨e3,e4⟩:=mK _ _ _ _ (mE (by omega)) (mE (by omega)) (mJ (s:=s)) (mJ (s:=s')) (List.cons.inj e2).2
  have k1:=vA (by omega) (by omega) e1
  have k2:=vA (by omega) (by omega) e3
  have k3:=vM (fun x hx=>h1 x (by simp[hx])) (fun x hx=>h2 x (by simp[hx])) e4
  obtain⟨gk,gn⟩:=g
  obtain⟨gk',gn'⟩:=g'
  simp only at a1 b1 a3 b3 k1 k2
  rw[k3,show gk=gk' by omega,show gn=gn' by omega]
theorem EM{n n':Nat}{s s':List bU}(hn:n<100)(hn':n'<100)(h1:gW s)(h2:gW s')(h:ew n s=ew n' s'):n=n'∧s=s':=by
 unfold ew at h
 obtain⟨e1,e2⟩:=mK _ _ _ _ (mE hn) (mE hn') (mJ (s:=s)) (mJ (s:=s')) h
 exact⟨vA hn hn' e1,vM h1 h2 e2⟩
theorem Fs{s:List bU}(h:gW s):(s.flatMap FV).length≤s.length*6:=by
 induction s with
 |nil=>simp
 |cons g s ih=>
  obtain⟨a1,a2,a3,a4⟩:=h g (by simp)
  have:=ih (fun x hx=>h x (by simp[hx]))
  have h1:=kO (n:=g.kind.toNat) (by omega)
  have h2:=kO (n:=g.num.toNat) (by omega)
  have h3:(FV g).length=2+(Lib.decDigits g.kind.toNat).length+(Lib.decDigits g.num.toNat).length:=by
   unfold FV
   simp only[List.length_cons,List.length_append]
   omega
  rw[List.flatMap_cons,List.length_append,h3,List.length_cons]
  omega
theorem wY{h g:bU}:∀ {s:List bU},g∈s→g=h∨g∈eH h s
 |a::s,hg=>by
  unfold eH
  split
  ·rename_i e
   rcases List.mem_cons.1 hg with rfl|hg
   ·exact .inl e
   ·exact wY hg
  ·exact .inr hg
open eY
noncomputable def bK(T:an)(tb:Nat→de)(p0:dv)(n:Nat)(s:List bU):Out:=dq T (tb n) (cP p0 s)
structure iX (T:an) (tb:Nat→de) (p0:dv) (Φ:Nat→Nat→List bU→Prop):Prop where
 node:∀ {u n s},Φ u n s→(n:Int)<T.nodes
 small:∀ {u n s},Φ u n s→gW s∧s.length≤1000
 step:∀ {u n s},Φ u n s→(bK T tb p0 n s).ax=[]∨((bK T tb p0 n s).ax.length≤1000∧bK T tb p0 n s=cA (cP p0 s) (bK T tb p0 n s).ev.stack (bK T tb p0 n s).ax∧
  ∀a∈(bK T tb p0 n s).ax,∃b m:Nat,a=(b:Int)∧b<2*T.ag.length∧aS T b=(m:Int)∧∃u',u'<u∧Φ u' m (bK T tb p0 n s).ev.stack)
def sJ(cs:List Int):Int:=cs.foldl (fun a c=>min (a+c) 1001) 0
def eQ(ax:List Int)(cs:List Int):Int:=if ax=[] then 1 else sJ cs
def dO(n:Nat)(o:Out)(vs:List PV)(c:Int):List PV:=[num n,num o.cT,au o.ax,.slice vs.length vs,flag false,num c]
inductive Good (T:an) (tb:Nat→de) (p0:dv) (Φ:Nat→Nat→List bU→Prop):PV→Nat→List bU→Int→Prop
 |mk {n:Nat} {s:List bU} {vs:List PV} {cs:List Int} {u:Nat}:Φ u n s→vs.length=(bK T tb p0 n s).ax.length→cs.length=(bK T tb p0 n s).ax.length→
   (∀i,i<(bK T tb p0 n s).ax.length→Good T tb p0 Φ (vs.getD i .any) (aS T ((bK T tb p0 n s).ax.getD i 0).toNat).toNat (bK T tb p0 n s).ev.stack (cs.getD i 0))→
   Good T tb p0 Φ (.bc (dO n (bK T tb p0 n s) vs (eQ (bK T tb p0 n s).ax cs)) 0) n s (eQ (bK T tb p0 n s).ax cs)
theorem mc(cs:List Int)(c:Int):sJ (cs++[c])=min (sJ cs+c) 1001:=by simp[sJ]
section
variable {T:an} {tb:Nat→de} {p0:dv} {Φ:Nat→Nat→List bU→Prop}
theorem ia:∀(cs:List Int) (b:Int),0≤b→b≤1001→(∀c∈cs,0≤c)→0≤cs.foldl (fun a c=>min (a+c) 1001) b∧cs.foldl (fun a c=>min (a+c) 1001) b≤1001
 | [],b,h1,h2,_=>⟨h1,h2⟩
 |c::cs,b,h1,h2,h3=>by
  have:=h3 c (by simp)
  exact ia cs (min (b+c) 1001) (by omega) (by omega) (fun x hx=>h3 x (by simp[hx]))
theorem Good.bound{v:PV}{n:Nat}{s:List bU}{c:Int}(h:Good T tb p0 Φ v n s c):0≤c∧c≤1001:=by
 induction h with
 | @mk n s vs cs u _ _ h2 _ ih=>
  unfold eQ
  split
  ·omega
  ·refine ia cs 0 (by omega) (by omega) fun c hc=>?_
   obtain⟨i,hi⟩:=List.getElem?_of_mem hc
   have hlt:=(List.getElem?_eq_some_iff.1 hi).1
   have:=(ih i (by rw[←h2];exact hlt)).1
   rw[List.getD_eq_getElem?_getD,hi]at this
   exact this
theorem Good.state{v:PV}{n:Nat}{s:List bU}{c:Int}(h:Good T tb p0 Φ v n s c):∃u,Φ u n s:=by
 cases h with
 |mk h _ _ _=>exact⟨_,h⟩
theorem Good.pure{v:PV}{n:Nat}{s:List bU}{c:Int}(h:Good T tb p0 Φ v n s c):IsPure v:=by
 induction h with
 | @mk n s vs cs u _ h1 _ _ ih=>
  haveI:aL vs:=⟨fun i x hx=>by
   have hlt:=(List.getElem?_eq_some_iff.1 hx).1
   have:=ih i (by rw[←h1];exact hlt)
   rw[List.getD_eq_getElem?_getD,hx]at this
   exact this⟩
  unfold dO
  infer_instance
theorem Good.parts{v:PV}{n:Nat}{s:List bU}{c:Int}(h:Good T tb p0 Φ v n s c):∃vs cs,v= .bc (dO n (bK T tb p0 n s) vs c) 0∧vs.length=(bK T tb p0 n s).ax.length∧cs.length=(bK T tb p0 n s).ax.length∧c=eQ (bK T tb p0 n s).ax cs∧
  ∀i,i<(bK T tb p0 n s).ax.length→Good T tb p0 Φ (vs.getD i .any) (aS T ((bK T tb p0 n s).ax.getD i 0).toNat).toNat (bK T tb p0 n s).ev.stack (cs.getD i 0):=by
 cases h with
 | @mk _ _ vs cs u h1 h2 h3 h4=>exact⟨vs,cs,rfl,h2,h3,rfl,h4⟩
inductive CU (T:an) (tb:Nat→de) (p0:dv):Nat→List bU→Nat→List bU→Prop
 |one {n m:Nat} {s:List bU} {a:Int}:a∈(bK T tb p0 n s).ax→aS T a.toNat=(m:Int)→CU T tb p0 n s m (bK T tb p0 n s).ev.stack
 |more {n m:Nat} {s:List bU} {a:Int} {n':Nat} {s':List bU}:CU T tb p0 n' s' n s→a∈(bK T tb p0 n s).ax→aS T a.toNat=(m:Int)→CU T tb p0 n' s' m (bK T tb p0 n s).ev.stack
theorem iX.one(R:iX T tb p0 Φ){u n m:Nat}{s:List bU}{a:Int}(h:Φ u n s)(ha:a∈(bK T tb p0 n s).ax)(hm:aS T a.toNat=(m:Int)):∃u',u'<u∧Φ u' m (bK T tb p0 n s).ev.stack:=by
 rcases R.step h with h0|⟨_,_,h2⟩
 ·rw[h0]at ha;cases ha
 ·obtain⟨b,m',rfl,_,h3,u',h4,h5⟩:=h2 a ha
  rw[Int.toNat_natCast,h3]at hm
  have:m'=m:=by omega
  subst this
  exact⟨u',h4,h5⟩
theorem iX.LA(R:iX T tb p0 Φ){n m:Nat}{s s':List bU}(h:CU T tb p0 n s m s'):∀ {u:Nat},Φ u n s→∃u',u'<u∧Φ u' m s':=by
 induction h with
 |one ha hm=>intro u hu;exact R.one hu ha hm
 |more _ ha hm ih=>
  intro u hu
  obtain⟨u1,h1,h2⟩:=ih hu
  obtain⟨u2,h3,h4⟩:=R.one h2 ha hm
  exact⟨u2,by omega,h4⟩
theorem iX.wF(R:iX T tb p0 Φ){n:Nat}{s:List bU}(h:CU T tb p0 n s n s):∀ {u:Nat},Φ u n s→False:=by
 intro u
 induction u using Nat.strongRecOn with
 |_ u ih=>
  intro hu
  obtain⟨u',h1,h2⟩:=R.LA h hu
  exact ih u' h1 h2
end
end
section
open Go.RowKit cE Mem
inductive Ai (i:Nat):cJ→PV→PV→Prop
 |same {blk:cJ} (p:PV):Ai i blk p p
 |ptr {ty:TypeId} {xs:List PV} (off:Nat):Ai i (.cells ty xs) (.ptr i off) (.bc xs off)
 |own {e s n:Nat} {xs:List PV}:Ai i (.row e s n xs) (.own i) (.slice n xs)
def jI(i:Nat)(blk:cJ)(xs ys:List PV):Prop:=ys.length=xs.length∧∀(j:Nat) x y,xs[j]? =some x→ys[j]? =some y→Ai i blk x y
theorem jI.nil{i:Nat}{blk:cJ}:jI i blk [] []:=⟨rfl,fun j x y h=>by simp at h⟩
theorem jI.cons{i:Nat}{blk:cJ}{x y:PV}{xs ys:List PV}(h:Ai i blk x y)(hs:jI i blk xs ys):jI i blk (x::xs) (y::ys):=⟨by simp[hs.1],fun j a b h1 h2=>by
 cases j with
 |zero=>simp at h1 h2;subst h1;subst h2;exact h
 |succ j=>exact hs.2 j a b (by simpa using h1) (by simpa using h2)⟩
theorem jI.refl{i:Nat}{blk:cJ}(xs:List PV):jI i blk xs xs:=⟨rfl,fun j x y h1 h2=>by rw[h1]at h2;cases h2;exact .same _⟩
inductive ur (i:Nat) (blk:cJ):cJ→cJ→Prop
 |same (b:cJ):ur i blk b b
 |cells {ty:TypeId} {xs ys:List PV}:jI i blk xs ys→ur i blk (.cells ty xs) (.cells ty ys)
 |row {e s n:Nat} {xs ys:List PV}:jI i blk xs ys→ur i blk (.row e s n xs) (.row e s n ys)
 |mp {kv kv':List (Value×PV)}:kv'.map (·.1)=kv.map (·.1)→jI i blk (kv.map (·.2)) (kv'.map (·.2))→ur i blk (.mp kv) (.mp kv')
def zz(i:Nat)(blk:cJ)(σ σ':cc):Prop:=σ'.length=σ.length∧(σ'[i]? =some none)∧∀j,j≠i→(σ'[j]? =σ[j]? ∨∃b b',σ[j]? =some (some b)∧σ'[j]? =some (some b')∧ur i blk b b')
inductive y6 (i:Nat) (blk:cJ) (t:cg):cg→Prop
 |nil:y6 i blk t []
 |cons {t':cg} (k:Nat) {p q:PV}:look k t=some p→Ai i blk p q→y6 i blk t t'→y6 i blk t ((k,q)::t')
theorem y6.get{i:Nat}{blk:cJ}{t t':cg}(h:y6 i blk t t'):∀k q,look k t'=some q→∃p,look k t=some p∧Ai i blk p q:=by
 induction h with
 |nil=>intro k q h;cases h
 |cons k h1 h2 _ ih=>
  intro j q hj
  simp only[look]at hj
  rw[Bool.cond_eq_ite]at hj
  split at hj
  ·rename_i he
   have:=Nat.eq_of_beq_eq_true he
   subst this
   cases hj
   exact⟨_,h1,h2⟩
  ·exact ih j q hj
section
variable {P:Program} {N L:Nat} {F:Nat→Prop} {base:Nat} {σ σ':cc} {E:Env} {w:World}
theorem Ai.rep(hS:Sat F base σ E w){i:Nat}{blk:cJ}(hi:σ[i]? =some (some blk)){p q:PV}(h:Ai i blk p q):∀v,cK E w v p→cK (E.kill i) w v q:=by
 obtain⟨_,g⟩:=hS.kill i hi
 intro v hv
 cases h with
 |same _=>exact hv.goes g
 |own=>exact hS.seal hi hv
 | @ptr ty xs off=>
  obtain⟨b,cs,h1,h2,h3,h4⟩:=hS.blk i _ hi
  cases hv with
  |ptr _ _ b' hi' h=>
   have hb:b'=b:=by
    rcases h with h|⟨n,c,h⟩<;>rw[h1]at h<;>cases h
    rfl
   subst hb
   have:=cK.bc (E:=E.kill i) (w:=w) b' 0 off cs.toList xs (Array.getElem?_eq_some_iff.1 h3).1 (fun hM=>hM.2 (by rw[h1];rfl)) (fun j x hx=>by rw[Nat.zero_add];unfold World.cell?;simp only[h3];simpa using hx) h4.1 (fun j x u k1 k2=>(h4.2 j x u k1 k2).goes g)
   rw[Nat.zero_add]at this
   exact this
theorem jI.rep(hS:Sat F base σ E w){i:Nat}{blk:cJ}(hi:σ[i]? =some (some blk)){xs ys:List PV}(h:jI i blk xs ys){cs:List Value}(hs:bd E w cs xs):bd (E.kill i) w cs ys:=
 ⟨hs.1.trans h.1.symm,fun j x u k1 k2=>by
  have hj:j<xs.length:=by rw[←h.1];exact(List.getElem?_eq_some_iff.1 k2).1
  exact(h.2 j xs[j] u (by simp[hj]) k2).rep hS hi x (hs.2 j x _ k1 (by simp[hj]))⟩
theorem ur.sat(hS:Sat F base σ E w){i:Nat}{blk:cJ}(hi:σ[i]? =some (some blk)){b b':cJ}(h:ur i blk b b'){v:Value}(hb:gH base E w v b):gH base (E.kill i) w v b':=by
 obtain⟨_,g⟩:=hS.kill i hi
 cases h with
 |same _=>exact hb.goes g (fun _ _=>rfl)
 |cells hl=>
  obtain⟨b',cs,h1,h2,h3,h4⟩:=hb
  exact⟨b',cs,h1,h2,h3,hl.rep hS hi h4⟩
 |row hl=>
  obtain⟨cs,h1,h2⟩:=hb
  exact⟨cs,h1,hl.rep hS hi h2⟩
 |mp hk hl=>
  obtain⟨r,es,ck,h1,h2,h3,h4,h5⟩:=hb
  exact⟨r,es,ck,h1,h2,h3,h4.trans hk.symm,hl.rep hS hi h5⟩
theorem tc{i:Nat}{blk:cJ}(hi:σ[i]? =some (some blk))(h:zz i blk σ σ'){j:Nat}{b':cJ}(hj:σ'[j]? =some (some b')):j≠i∧∃b,σ[j]? =some (some b)∧ur i blk b b':=by
 have hne:j≠i:=fun e=>by subst e;rw[h.2.1]at hj;cases hj
 refine⟨hne,?_⟩
 rcases h.2.2 j hne with h|⟨b,b2,h1,h2,h3⟩
 ·rw[h]at hj;exact⟨b',hj,.same _⟩
 ·rw[h2]at hj;cases hj;exact⟨b,h1,h3⟩
theorem Sat.Kn(hS:Sat F base σ E w){i:Nat}{blk:cJ}(hi:σ[i]? =some (some blk))(h:zz i blk σ σ'):Sat F base σ' (E.kill i) w:=by
 obtain⟨h1,g⟩:=hS.kill i hi
 have key:∀ {j:Nat} {b':cJ},σ'[j]? =some (some b')→∃b,(σ.set i none)[j]? =some (some b):=fun {j b'} hj=>by
  obtain⟨hne,b,hb,_⟩:=tc hi h hj
  exact⟨b,by rw[List.getElem?_set,if_neg (Ne.symm hne)];exact hb⟩
 refine⟨h1.bl,fun b hb=>⟨(h1.fb b hb).1,fun j bl hj=>?_⟩,?_,fun b=>?_,fun j bl hj=>?_,fun j k bj bk b hj hk e1 e2=>?_,h1.gl⟩
 ·obtain⟨b2,hb2⟩:=key hj;exact(h1.fb b hb).2 j b2 hb2
 ·rw[h1.len,h.1,List.length_set]
 ·constructor
  ·intro hM
   rcases(h1.mm b).1 hM with hf|⟨j,bl,h3,h4⟩
   ·exact .inl hf
   ·obtain⟨hne,h5⟩:=iD h3
    rcases h.2.2 j hne with h6|⟨b1,b2,_,h7,_⟩
    ·exact .inr ⟨j,bl,by rw[h6];exact h5,h4⟩
    ·exact .inr ⟨j,b2,h7,h4⟩
  ·rintro(hf|⟨j,bl,h3,h4⟩)
   ·exact(h1.mm b).2 (.inl hf)
   ·obtain⟨b2,hb2⟩:=key h3;exact(h1.mm b).2 (.inr ⟨j,b2,hb2,h4⟩)
 ·obtain⟨_,b,hb,hf⟩:=tc hi h hj
  exact hf.sat hS hi (hS.blk j b hb)
 ·obtain⟨b1,hb1⟩:=key hj
  obtain⟨b2,hb2⟩:=key hk
  exact h1.inj j k b1 b2 b hb1 hb2 e1 e2
theorem oQ{c:Code}{t t':cg}{Q:Exit→St→Prop}(i:Nat){blk:cJ}(hi:σ[i]? =some (some blk))(hσ:zz i blk σ σ')(ht:y6 i blk t t')(h:W P N L c ⟨t',σ'⟩ Q):W P N L c ⟨t,σ⟩ Q:=fun F base E₀ w₀ E a w hc hs=>by
 obtain⟨_,g⟩:=hs.sat.kill i hi
 refine h F base E₀ w₀ (E.kill i) a w (hc.on g (Below.refl _ _)) ⟨hs.sat.Kn hi hσ,fun k q hq=>?_,hs.j9,hs.size⟩
 obtain⟨p,h1,h2⟩:=ht.get k q hq
 exact h2.rep hs.sat hi _ (hs.tmp k p h1)
theorem Jf{ops:Array Oper}{l:List Oper}{t t':cg}{K:St→Prop}(i:Nat){blk:cJ}(hi:σ[i]? =some (some blk))(hσ:zz i blk σ σ')(ht:y6 i blk t t')(h:WR P N L ops l ⟨t',σ'⟩ K):WR P N L ops l ⟨t,σ⟩ K:=by
 intro F base E₀ w₀ E a w hc hs Q j hQ hl
 obtain⟨_,g⟩:=hs.sat.kill i hi
 refine h F base E₀ w₀ (E.kill i) a w (hc.on g (Below.refl _ _)) ⟨hs.sat.Kn hi hσ,fun k q hq=>?_,hs.j9,hs.size⟩ Q j hQ hl
 obtain⟨p,h1,h2⟩:=ht.get k q hq
 exact h2.rep hs.sat hi _ (hs.tmp k p h1)
end
def ql(l:List UInt8):Value:=.string ⟨l.toArray⟩
theorem bytes_beq(a b:List UInt8):((⟨a.toArray⟩:ByteArray)==⟨b.toArray⟩)=decide (a=b):=Bool.eq_iff_iff.2 (by
 rw[beq_toListBytes,beq_iff_eq,decide_eq_true_eq,ByteArray.toList_eq,ByteArray.toList_eq])
section
variable {P:Program} {kt:TypeId}
theorem Gm(b:Bool)(n:Nat)(hu:P.underlying kt=some .string)(a:List UInt8)(w:World):(Instr.checkKey b (n+1) kt (ql a)).run P w= .ok () w:=by
 simp only[Instr.checkKey,Sem.run_bind,run_underlying hu,Result.andThen_ok,Sem.run_pure,ql]
theorem Jk(n:Nat)(hu:P.underlying kt=some .string)(a b:List UInt8)(w:World):(Op.equalIn (n+1) kt (ql a) (ql b)).run P w= .ok (decide (a=b)) w:=by
 have h:=run_equalIn_string w n kt ⟨a.toArray⟩ ⟨b.toArray⟩ hu
 rw[←beq_toListBytes,bytes_beq]at h
 exact h
theorem IJ(hu:P.underlying kt=some .string):iN P kt ql where
 oG:=fun b a w=>Gm b 9999 hu a w
 eql:=fun a b w=>Jk _ hu a b w
 now:=⟨_,hu,.inl fun a b=>by simp only[Instr.sameNow,ql,bytes_beq]⟩
 bits:=fun a=>by
  show Instr.sameBits 10000 (.string ⟨a.toArray⟩) (.string ⟨a.toArray⟩)=true
  unfold Instr.sameBits
  show((⟨a.toArray⟩:ByteArray)==⟨a.toArray⟩)=true
  rw[bytes_beq]
  exact decide_eq_true rfl
variable {t:cg} {σ:cc} {o:Oper}
theorem Hz{x y:Operand}{ty tz:TypeId}(ho:o.op= .binOp .neq ty x y tz)(hk:pK P ty=true)(hx:aF t x=some (.raw (.pointer none)))(hy:aF t y=some (.raw (.pointer none))):bA P σ t o (.raw (.bool false)):=by
 refine xB ho hx hy fun w=>?_
 unfold pK at hk
 split at hk
 ·rename_i e hu
  have key:∀d,(Op.equalIn (d+1) ty (.pointer none) (.pointer none)).run P w= .ok true w:=fun d=>by
   simp only[Op.equalIn,Sem.run_bind,run_underlying hu,Result.andThen_ok,Sem.run_pure,Option.isNone_none]
  have:=key 9999
  simp only[Nat.reduceAdd]at this
  simp[eqGuard,binOp,Op.equal,Op.maxDepth,this]
 ·cases hk
theorem FK{x y:Operand}{ty tz:TypeId}{xs:List PV}{k:Nat}(ho:o.op= .binOp .neq ty x y tz)(hk:pK P ty=true)(hx:aF t x=some (.bc xs k))(hy:aF t y=some (.raw (.pointer none))):bA P σ t o (.raw (.bool true)):=by
 intro F base E ρ w hρ _ hT
 have h1:=aA hρ hT hx
 have h2:=aA hρ hT hy
 generalize hz:ρ x=z at h1
 generalize hz':ρ y=z' at h2
 cases h2
 cases h1 with
 |bc b o' _ cs _ hb hM hc hl hr=>
  simp only[execOp,ho,hz,hz',Sem.run_bind,eqGuard,binOp,mI hk,Result.andThen_ok,Sem.run_pure]
  exact bz (.raw _)
end
open Net eY
section
variable {T:an} {k x:Int} {d:Nat} {st:Nat→Int} {p0:dv}
theorem yD{p:dv}{s:List bU}{e:iS}(h:e.ax.length≤1000):(ft p s e).ax.length≤1000:=by
 unfold ft
 split
 ·split
  ·exact Nat.zero_le _
  ·exact h
 ·exact h
theorem Ap{x:de}{p:dv}{s:List bU}{v:Int}{K:Out}(hx:cV T x=true)(hK:K.ax.length≤1000):(CT T x p s v K).ax.length≤1000:=by
 unfold CT
 split
 ·rename_i h
  obtain⟨_,_,_,_,h3⟩:=kK hx (Bool.and_eq_true _ _▸h).1
  exact yD h3
 ·exact hK
theorem rZ{x:de}{p:dv}{s:List bU}{K:Out}(hx:cV T x=true)(hK:K.ax.length≤1000):(du T x p s K).ax.length≤1000:=by
 unfold du
 split
 ·exact Nat.zero_le _
 ·split
  ·exact Nat.zero_le _
  ·split
   ·exact Ap hx (Nat.zero_le _)
   ·split
    ·exact Ap hx hK
    ·split
     ·split
      ·exact Nat.zero_le _
      ·split
       ·exact hK
       ·show([_]:List Int).length≤1000;simp
     ·exact Nat.zero_le _
theorem pC(T:an)(x:de)(p:dv):(dq T x p).ax.length≤1000:=by
 unfold dq
 split
 ·exact Nat.zero_le _
 ·rename_i h
  have hx:cV T x=true:=by
   cases h2:cV T x with
   |true=>rfl
   |false=>rw[h2]at h;simp at h
  split
  ·exact Nat.zero_le _
  ·exact rZ hx (rZ hx (Nat.zero_le _))
theorem Bv{D:List Bool}(h12:T.nodes≤12)(h16:T.ag.length≤16){n:Nat}{l:List bU}{q:List Int}(h:sP T D d n l q):gW l:=by
 induction h with
 |nil=>intro g hg;cases hg
 |node hs _ ih=>
  intro g hg
  rcases List.mem_cons.1 hg with rfl|hg
  ·have:=hs.hy
   exact⟨by simp,by simp,by simp,by simp;omega⟩
  ·exact ih g hg
 |fy ha _ _ _ _ ih=>
  intro g hg
  rcases List.mem_cons.1 hg with rfl|hg
  ·exact⟨by simp,by simp,by simp,by simp;omega⟩
  ·exact ih g hg
theorem uS(h12:T.nodes≤12)(h16:T.ag.length≤16){n:Nat}{s:List bU}{q:List Int}(h:jj T k x d n s q):gW s:=by
 obtain⟨D,_,hl⟩:=h.FH
 intro g hg
 rcases wY (h:=⟨1,(n:Int)⟩) hg with rfl|hg
 ·have:=h.node
  exact⟨by simp,by simp,by simp,by simp;omega⟩
 ·exact Bv h12 h16 hl g hg
theorem xG(hv:aq T=true)(h12:T.nodes≤12)(h16:T.ag.length≤16)(hd:(d:Int)<T.nodes){late:Bool}(hcv:late=false→Im T k x=true)(hsafe:late=false→∀m:Nat,(m:Int)<T.nodes→¬Gn k x m→0≤dN T [] d m→0≤dN T (aE T k x) d m)
  (hpm:Perm T k x late st) (hp0:p0.dst=(d:Int)):iX T (nF T (aE T k x) st) p0 (fun u n s=>Way T k x d late n s u) where
 node:=fun h=>by
  rcases h with⟨h,_⟩|⟨_,h,_⟩
  ·exact h.node
  ·exact h.node
 small:=fun h=>by
  rcases h with⟨h,_⟩|⟨_,h,_⟩
  ·rw[h.nil];exact⟨fun g hg=>(by cases hg),by simp⟩
  ·exact⟨uS h12 h16 h,by have:=h.len;omega⟩
 step:=fun {u n s} h=>by
  rcases oe hv h12 hd hcv hsafe hpm h (p:=cP p0 s) hp0 rfl rfl with⟨e1,e2,e3⟩|⟨ax,s',e1,e2,e3⟩
  ·exact .inl e2
  ·refine .inr ?_
   have e1':bK T (nF T (aE T k x) st) p0 n s=cA (cP p0 s) s' ax:=e1
   refine⟨pC _ _ _,by rw[e1'];rfl,fun a ha=>?_⟩
   rw[e1']at ha ⊢
   obtain⟨b,m,g,u',hu,hw⟩:=e3 a ha
   exact⟨b,m,g.eq,g.fy,g.head,u',hu,hw⟩
end
theorem o4{α:Type}[DecidableEq α]:∀(l m:List α),l.Nodup→(∀a∈l,a∈m)→l.length≤m.length
 | [],m,_,_=>Nat.zero_le _
 |a::l,m,hn,h=>by
  have ha:=h a (by simp)
  rw[List.nodup_cons]at hn
  have h2:=o4 l (m.erase a) hn.2 (fun b hb=>(List.mem_erase_of_ne (fun e=>hn.1 (by rw[←e];exact hb))).2 (h b (by simp[hb])))
  rw[List.length_erase_of_mem ha]at h2
  have:=List.length_pos_of_mem ha
  simp only[List.length_cons]
  omega
section
variable {T:an} {k x:Int} {d:Nat} {st:Nat→Int} {p0:dv}
noncomputable def G6(T:an)(tb:Nat→de)(p0:dv)(m a:Nat):Nat→Nat×List bU
 |0=>((aS T a).toNat,(bK T tb p0 m []).ev.stack)
 |j+1=>((aS T ((bK T tb p0 (G6 T tb p0 m a j).1 (G6 T tb p0 m a j).2).ax.getD 0 0).toNat).toNat,(bK T tb p0 (G6 T tb p0 m a j).1 (G6 T tb p0 m a j).2).ev.stack)
noncomputable def DI(T:an)(tb:Nat→de)(p0:dv):List (Nat×List bU):=
 (List.range T.nodes.toNat).flatMap fun m=>(m,[])::(List.range (2*T.ag.length)).flatMap fun a=>(List.range (T.nodes.toNat+1)).map fun j=>G6 T tb p0 m a j
theorem py{α β:Type}(f:α→List β)(c:Nat):∀(l:List α),(∀a∈l,(f a).length≤c)→(l.flatMap f).length≤l.length*c
 | [],_=>by simp
 |a::l,h=>by
  have h1:=h a (by simp)
  have h2:=py f c l (fun b hb=>h b (by simp[hb]))
  rw[List.flatMap_cons,List.length_append,List.length_cons,Nat.succ_mul]
  omega
theorem Es(tb:Nat→de)(h12:T.nodes≤12)(h16:T.ag.length≤16):(DI T tb p0).length≤12*417:=by
 unfold DI
 refine Nat.le_trans (py _ 417 _ fun m _=>?_) ?_
 ·rw[List.length_cons]
  have:=py (fun a=>(List.range (T.nodes.toNat+1)).map fun j=>G6 T tb p0 m a j) 13 (List.range (2*T.ag.length)) (fun a _=>by simp;omega)
  rw[List.length_range]at this
  have h2:2*T.ag.length*13≤32*13:=Nat.mul_le_mul_right _ (by omega)
  omega
 ·rw[List.length_range]
  exact Nat.mul_le_mul_right _ (by omega)
def uN(T:an)(k x:Int)(d:Nat)(st:Nat→Int)(p0:dv)(late:Bool)(u n:Nat)(s:List bU):Prop:=
 (Open T k x d n s∧u=if late then T.nodes.toNat+ki T (aE T k x) d n else 2*T.nodes.toNat+ki T [] d n)∨
  ∃(q:List Int) (m a j:Nat),jj T k x d n s q∧u=q.length∧q.length<T.nodes.toNat∧(m:Int)<T.nodes∧a<2*T.ag.length∧j+q.length≤T.nodes.toNat∧G6 T (nF T (aE T k x) st) p0 m a j=(n,s)
theorem uN.Jr{late:Bool}{u n:Nat}{s:List bU}(h:uN T k x d st p0 late u n s):Way T k x d late n s u:=by
 rcases h with h|⟨q,_,_,_,h1,h2,h3,_⟩
 ·exact .inl h
 ·exact .inr ⟨q,h1,h2,h3⟩
theorem uN.mem{late:Bool}{u n:Nat}{s:List bU}(h:uN T k x d st p0 late u n s):(n,s)∈DI T (nF T (aE T k x) st) p0:=by
 unfold DI
 rcases h with⟨h,_⟩|⟨q,m,a,j,h1,_,_,h4,h5,h6,h7⟩
 ·have:=h.node
  rw[List.mem_flatMap]
  exact⟨n,List.mem_range.2 (by omega),by rw[h.nil];exact List.mem_cons_self⟩
 ·rw[List.mem_flatMap]
  refine⟨m,List.mem_range.2 (by omega),List.mem_cons_of_mem _ ?_⟩
  rw[List.mem_flatMap]
  refine⟨a,List.mem_range.2 h5,?_⟩
  rw[List.mem_map]
  exact⟨j,List.mem_range.2 (by omega),h7⟩
theorem BB(hv:aq T=true)(h12:T.nodes≤12)(h16:T.ag.length≤16)(hd:(d:Int)<T.nodes){late:Bool}(hcv:late=false→Im T k x=true)(hsafe:late=false→∀m:Nat,(m:Int)<T.nodes→¬Gn k x m→0≤dN T [] d m→0≤dN T (aE T k x) d m)
    (hpm:Perm T k x late st) (hp0:p0.dst=(d:Int)):iX T (nF T (aE T k x) st) p0 (uN T k x d st p0 late) where
  node:=fun h=>(xG hv h12 h16 hd hcv hsafe hpm hp0).node h.Jr
  small:=fun h=>(xG hv h12 h16 hd hcv hsafe hpm hp0).small h.Jr
  step := fun {u n s} h => by
    rcases h with⟨h,hu⟩|⟨q,m,a,j,h1,h2,h3,h4,h5,h6,h7⟩
    · rcases oe hv h12 hd hcv hsafe hpm (.inl ⟨h,hu⟩) (p:=cP p0 s) hp0 rfl rfl with⟨e1,e2,e3⟩|⟨ax,s',e1,e2,e3⟩
      · exact .inl e2
      · refine .inr ?_
        have e1':bK T (nF T (aE T k x) st) p0 n s=cA (cP p0 s) s' ax:=e1
        refine⟨pC _ _ _,by rw[e1'];rfl,fun a ha=>?_⟩
        have ha2:=ha
        rw[e1']at ha
        obtain⟨b,m,g,u',hu',hw⟩:=e3 a ha
        refine⟨b,m,g.eq,g.fy,g.head,u',hu',?_⟩
        rcases hw with h8|⟨q,h8,h9,h10⟩
        · exact .inl (by rw[e1'];exact h8)
        · refine .inr ⟨q,n,b,0,by rw[e1'];exact h8,h9,h10,h.node,g.fy,by omega,?_⟩
          have hn:=h.nil
          subst hn
          simp only[G6]
          rw[g.head,Int.toNat_natCast]
    · cases q with
      |nil=>
        obtain⟨_,e2,_⟩:=lf hv h12 hd h1 (st n) (p:=cP p0 s) hp0 rfl
        exact .inl e2
      |cons c q=>
        obtain⟨b,m',s',g,e1,e2⟩:=jL hv h12 hd h1 (st n) (p:=cP p0 s) hp0 rfl rfl
        have e1':bK T (nF T (aE T k x) st) p0 n s=cA (cP p0 s) s' [c]:=e1
        refine .inr ⟨pC _ _ _,by rw[e1'];rfl,fun c' hc=>?_⟩
        rw[e1']at hc
        have hc:c'∈[c]:=hc
        rw[List.mem_singleton]at hc
        subst hc
        simp only[List.length_cons]at h2 h3 h6
        refine⟨b,m',g.eq,g.fy,g.head,q.length,by omega,.inr ⟨q,m,a,j+1,by rw[e1'];exact e2,rfl,by omega,h4,h5,by omega,?_⟩⟩
        simp only[G6]
        rw[h7,e1']
        simp only[cA,List.getD_cons_zero]
        rw[g.eq,Int.toNat_natCast,g.head,Int.toNat_natCast]
end
abbrev FE:=List (Nat×Nat×List bU)
section
variable (T:an) (tb:Nat→de) (p0:dv) (Φ:Nat→Nat→List bU→Prop)
def mz(op:FE)(n:Nat)(s:List bU)(v:PV):Prop:=(∃c,Good T tb p0 Φ v n s c)∨∃i,(i,n,s)∈op∧v= .ptr (i+8) 0
structure nJ (op:FE) (kv:List (List UInt8×PV)) (L:List PV):Prop where
 C5:∀e∈kv,∃u n s,Φ u n s∧e.1=ew n s∧mz T tb p0 Φ op n s e.2
 nodup:(kv.map (·.1)).Nodup
 all:∀v∈L,∃n s,mz T tb p0 Φ op n s v
 len:L.length=kv.length
end
section
variable {T:an} {tb:Nat→de} {p0:dv} {Φ:Nat→Nat→List bU→Prop}
theorem mz.more{op:FE}{x:Nat×Nat×List bU}{n:Nat}{s:List bU}{v:PV}(h:mz T tb p0 Φ op n s v):mz T tb p0 Φ (x::op) n s v:=by
 rcases h with h|⟨i,h,e⟩
 ·exact .inl h
 ·exact .inr ⟨i,List.mem_cons_of_mem _ h,e⟩
theorem nJ.push{op:FE}{kv:List (List UInt8×PV)}{L:List PV}(h:nJ T tb p0 Φ op kv L){u n i:Nat}{s:List bU}(hΦ:Φ u n s)(hno:ew n s∉kv.map (·.1)):
  nJ T tb p0 Φ ((i,n,s)::op) (kv++[(ew n s,.ptr (i+8) 0)]) (L++[.ptr (i+8) 0]) where
 C5:=fun e he=>by
  rcases List.mem_append.1 he with he|he
  ·obtain⟨u,n,s,h1,h2,h3⟩:=h.C5 e he
   exact⟨u,n,s,h1,h2,h3.more⟩
  ·rw[List.mem_singleton]at he
   subst he
   exact⟨u,n,s,hΦ,rfl,.inr ⟨i,List.mem_cons_self,rfl⟩⟩
 nodup:=by
  rw[List.map_append,List.nodup_append]
  refine⟨h.nodup,by simp,fun a ha b hb e=>?_⟩
  subst e
  simp only[List.map_cons,List.map_nil,List.mem_singleton]at hb
  subst hb
  exact hno ha
 all:=fun v hv=>by
  rcases List.mem_append.1 hv with hv|hv
  ·obtain⟨n,s,h1⟩:=h.all v hv
   exact⟨n,s,h1.more⟩
  ·rw[List.mem_singleton]at hv
   subst hv
   exact⟨n,s,.inr ⟨i,List.mem_cons_self,rfl⟩⟩
 len:=by simp[h.len]
theorem xU{i:Nat}{blk:cJ}{Q Q':PV→Prop}(h:∀v,Q v→∃v',Ai i blk v v'∧Q' v'):∀L:List PV,(∀v∈L,Q v)→∃L',jI i blk L L'∧∀v∈L',Q' v
 | [],_=>⟨[],.nil,fun v hv=>by cases hv⟩
 |v::L,hL=>by
  obtain⟨v',h1,h2⟩:=h v (hL v (by simp))
  obtain⟨L',h3,h4⟩:=xU h L (fun w hw=>hL w (by simp[hw]))
  exact⟨v'::L',.cons h1 h3,fun w hw=>by
   rcases List.mem_cons.1 hw with rfl|hw
   ·exact h2
   ·exact h4 w hw⟩
theorem EX{i:Nat}{blk:cJ}{Q Q':List UInt8→PV→Prop}(h:∀k v,Q k v→∃v',Ai i blk v v'∧Q' k v'):∀kv:List (List UInt8×PV),(∀e∈kv,Q e.1 e.2)→∃kv':List (List UInt8×PV),kv'.map (·.1)=kv.map (·.1)∧jI i blk (kv.map (·.2)) (kv'.map (·.2))∧∀e∈kv',Q' e.1 e.2
 | [],_=>⟨[],rfl,.nil,fun v hv=>by cases hv⟩
 |e::L,hL=>by
  obtain⟨v',h1,h2⟩:=h e.1 e.2 (hL e (by simp))
  obtain⟨L',h3,h4,h5⟩:=EX h L (fun w hw=>hL w (by simp[hw]))
  exact⟨(e.1,v')::L',by simp[h3],.cons h1 h4,fun w hw=>by
   rcases List.mem_cons.1 hw with rfl|hw
   ·exact h2
   ·exact h5 w hw⟩
theorem nJ.close{op:FE}{i n:Nat}{s:List bU}{kv:List (List UInt8×PV)}{L:List PV}(h:nJ T tb p0 Φ ((i,n,s)::op) kv L){ty:TypeId}{xs:List PV}{c:Int}(hg:Good T tb p0 Φ (.bc xs 0) n s c):
  ∃kv' L',nJ T tb p0 Φ op kv' L'∧kv'.map (·.1)=kv.map (·.1)∧jI (i+8) (.cells ty xs) (kv.map (·.2)) (kv'.map (·.2))∧jI (i+8) (.cells ty xs) L L':=by
 have key:∀n1 s1 v,mz T tb p0 Φ ((i,n,s)::op) n1 s1 v→∃v',Ai (i+8) (.cells ty xs) v v'∧mz T tb p0 Φ op n1 s1 v':=fun n1 s1 v hv=>by
  rcases hv with hv|⟨i1,h1,rfl⟩
  ·exact⟨v,.same _,.inl hv⟩
  ·rcases List.mem_cons.1 h1 with h1|h1
   ·cases h1
    exact⟨_,.ptr 0,.inl ⟨c,hg⟩⟩
   ·exact⟨_,.same _,.inr ⟨i1,h1,rfl⟩⟩
 obtain⟨kv',k1,k2,k3⟩:=EX (i:=i+8) (blk:=.cells ty xs) (Q:=fun k v=>∃u n1 s1,Φ u n1 s1∧k=ew n1 s1∧mz T tb p0 Φ ((i,n,s)::op) n1 s1 v) (Q':=fun k v=>∃u n1 s1,Φ u n1 s1∧k=ew n1 s1∧mz T tb p0 Φ op n1 s1 v) (fun k v ⟨u,n1,s1,h1,h2,h3⟩=>by
  obtain⟨v',h4,h5⟩:=key n1 s1 v h3
  exact⟨v',h4,u,n1,s1,h1,h2,h5⟩) kv h.C5
 obtain⟨L',l1,l2⟩:=xU (i:=i+8) (blk:=.cells ty xs) (Q:=fun v=>∃n1 s1,mz T tb p0 Φ ((i,n,s)::op) n1 s1 v) (Q':=fun v=>∃n1 s1,mz T tb p0 Φ op n1 s1 v) (fun v ⟨n1,s1,h3⟩=>by
  obtain⟨v',h4,h5⟩:=key n1 s1 v h3
  exact⟨v',h4,n1,s1,h5⟩) L h.all
 refine⟨kv',L',⟨k3,by rw[k1];exact h.nodup,l2,?_⟩,k1,k2,l1⟩
 have:=congrArg List.length k1
 simp only[List.length_map]at this
 rw[l1.1,h.len,this]
theorem nJ.Jv(R:iX T tb p0 Φ)(h12:T.nodes≤12){U:List (Nat×List bU)}(hU:∀ {u n s},Φ u n s→(n,s)∈U){op:FE}{kv:List (List UInt8×PV)}{L:List PV}(h:nJ T tb p0 Φ op kv L):kv.length≤U.length:=by
 have key:∀kv:List (List UInt8×PV),(∀e∈kv,∃u n s,Φ u n s∧e.1=ew n s)→∃sts:List (Nat×List bU),sts.map (fun x=>ew x.1 x.2)=kv.map (·.1)∧∀x∈sts,x∈U:=fun kv=>by
  induction kv with
  |nil=>intro _;exact⟨[],rfl,fun x hx=>by cases hx⟩
  |cons e kv ih=>
   intro he
   obtain⟨u,n,s,h1,h2⟩:=he e (by simp)
   obtain⟨sts,h3,h4⟩:=ih (fun e h=>he e (by simp[h]))
   exact⟨(n,s)::sts,by simp[h3,h2],fun x hx=>by
    rcases List.mem_cons.1 hx with rfl|hx
    ·exact hU h1
    ·exact h4 x hx⟩
 obtain⟨sts,h1,h2⟩:=key kv (fun e he=>by
  obtain⟨u,n,s,h1,h2,_⟩:=h.C5 e he
  exact⟨u,n,s,h1,h2⟩)
 have hn:=h.nodup
 rw[←h1]at hn
 have hnd:sts.Nodup:=by
  unfold List.Nodup at hn ⊢
  rw[List.pairwise_map]at hn
  exact hn.imp fun hab e=>hab (by rw[e])
 have:=o4 sts U hnd h2
 have h3:=congrArg List.length h1
 simp only[List.length_map]at h3
 omega
theorem nJ.EK(R:iX T tb p0 Φ)(h12:T.nodes≤12){op:FE}{kv:List (List UInt8×PV)}{L:List PV}(h:nJ T tb p0 Φ op kv L){u n:Nat}{s:List bU}(hΦ:Φ u n s)(hop:∀x∈op,CU T tb p0 x.2.1 x.2.2 n s){v:PV}(hv:dB (ew n s) kv=some v):∃c,Good T tb p0 Φ v n s c:=by
 obtain⟨u1,n1,s1,h1,h2,h3⟩:=h.C5 _ (i7 hv)
 have a1:=R.node h1
 have a2:=R.node hΦ
 obtain⟨rfl,rfl⟩:=EM (by omega) (by omega) (R.small hΦ).1 (R.small h1).1 h2
 rcases h3 with h3|⟨i,h4,_⟩
 ·exact h3
 ·exact(R.wF (hop _ h4) h1).elim
theorem tR{κ:Type}[DecidableEq κ]{k:κ}:∀ {l:List (κ×PV)},dB k l=none→k∉l.map (·.1)
 | [],_=>by simp
 |(a,q)::l,h=>by
  simp only[dB]at h
  split at h
  ·cases h
  ·rename_i hne
   rw[List.map_cons,List.mem_cons]
   rintro(e|e)
   ·exact hne e
   ·exact tR h e
theorem oN{κ:Type}[DecidableEq κ]{k:κ}{p:PV}:∀ {l:List (κ×PV)},dB k l=none→iI k p l=l++[(k,p)]
 | [],_=>rfl
 |(a,q)::l,h=>by
  simp only[dB]at h
  split at h
  ·cases h
  ·rename_i hne
   simp only[iI]
   rw[if_neg hne,oN h]
   rfl
end
def Kw(P:Program)(ty:TypeId):Option (Nat×List Value):=match P.info? ty,P.underlying ty with
 |some it,some (.array _ e)=>match it.zero,P.info? e with
  |some z,some ie=>some (ie.size,z.cells.toList)
  |_,_=>none
 |_,_=>none
theorem zd{P:Program}{σ:cc}{t:cg}{o:Oper}{ty s:TypeId}{parts:Array (Nat×Operand)}{zero:List Value}{ps:List (Nat×List PV)}{xs:List PV}(ho:o.op= .build ty parts)(hk:Kw P ty=some (s,zero))(hp:iB t parts.toList=some ps)
  (hf:kE (fun i=>some (i*s,s)) (zero.map .raw) ps=some xs):bA P σ t o (.agg xs):=by
 intro F base E ρ w hρ hS hT
 obtain⟨h1,h2⟩:=kz hρ hT parts.toList ps hp
 have hz:bd E w zero.toArray.toList (zero.map .raw):=⟨by simp,fun i x u k1 k2=>by
  simp only[List.getElem?_map,Option.map_eq_some_iff]at k2
  obtain⟨y,hy,rfl⟩:=k2
  simp only at k1
  rw[hy]at k1
  cases k1
  exact .raw _⟩
 obtain⟨cs,hc,hR⟩:=lO (fun i=>some (i*s,s)) _ ps zero.toArray _ xs hz h1 h2 hf
 have hb:P.built ty ((parts.map fun(i,x)=>(i,ρ x)).toList)=some cs:=by
  unfold Kw at hk
  split at hk
  ·rename_i it n e EK hu
   split at hk
   ·rename_i z ie hz' hie
    cases hk
    simp only[Program.built,EK,hu,hz',hie,Array.toList_map]
    simpa using hc
   ·cases hk
  ·cases hk
 have hrun:=run_build (P:=P) w ty (parts.map fun(i,x)=>(i,ρ x)) cs hb
 simp only[execOp,ho,Sem.run_bind,hrun,Result.andThen_ok,Sem.run_pure]
 exact bz (.agg cs xs (by have:=hR.1;rw[Array.length_toList]at this;exact this) (fun i x u k1 k2=>hR.2 i x u (by simpa using k1) k2))
theorem kM.IB{n:Nat}{xs ys:List PV}(hl:ys.length=xs.length)(h:∀(i:Nat) x y,xs[i]? =some x→ys[i]? =some y→kM x y):kM (.slice n xs) (.slice n ys):=fun E w v hv=>by
 cases hv with
 |bQ=>
  have:ys=[]:=List.eq_nil_of_length_eq_zero hl
  subst this
  exact .bQ
 |empty a c hc=>
  have:ys=[]:=List.eq_nil_of_length_eq_zero hl
  subst this
  exact .empty a c hc
 |slice b off _ c cs _ h0 h1 h2 hb hM hc hl2 hr=>
  exact .slice b off n c cs ys h0 h1 h2 hb hM hc (hl2.trans hl.symm) (fun i x u k1 k2=>by
   have hi:i<xs.length:=by rw[←hl];exact(List.getElem?_eq_some_iff.1 k2).1
   exact h i xs[i] u (by simp[hi]) k2 E w x (hr i x _ k1 (by simp[hi])))
def An(T:an)(n:Nat):de:=⟨n,List.replicate T.nodes.toNat ⟨[],false,[]⟩,bN T n⟩
noncomputable def Hl(T:an)(k x:Int)(n:Nat)(s:Int):de:=if pg k x n=true then An T n else eW T (aE T k x) s n
noncomputable def oT(T:an)(k x:Int)(l:List Int)(m:Nat):List de:=(List.range m).map fun n=>Hl T k x n (fB l n)
def Bn(T:an)(k x:Int)(l:List Int):Int:=if((aq T&&cp T k x)&&decide ((l.length:Int)=T.nodes))=true then(if fS T k x l=true then 0 else 7) else 1
noncomputable def Ee(e:Int)(L:List de):PV:=.tuple [eG (if e=0 then L else []),num e]
theorem Dx{T:an}{k x:Int}{l:List Int}{m:Nat}:oT T k x l (m+1)=oT T k x l m++[Hl T k x m (fB l m)]:=by simp[oT,List.range_succ]
theorem CH(n:Nat):(dP [.raw (.slice none 0 0),.raw (.bool false),.raw (.slice none 0 0)] n).length=(dV (List.replicate n ⟨[],false,[]⟩)).length∧∀(i:Nat) x y,(dP [.raw (.slice none 0 0),.raw (.bool false),.raw (.slice none 0 0)] n)[i]? =some x→(dV (List.replicate n ⟨[],false,[]⟩))[i]? =some y→kM x y:=by
 induction n with
 |zero=>exact⟨rfl,fun i x y h=>by simp[dP]at h⟩
 |succ n ih=>
  refine⟨by simp only[dP,List.replicate_succ,dV,List.flatMap_cons,List.length_append]at ih ⊢;rw[ih.1];rfl,fun i x y h1 h2=>?_⟩
  simp only[dP,List.replicate_succ,dV,List.flatMap_cons]at h1 h2
  match i,h1,h2 with
  |0,h1,h2=>simp[gz]at h1 h2;subst h1 h2;exact .bQ
  |1,h1,h2=>simp[gz]at h1 h2;subst h1 h2;exact kM.refl _
  |2,h1,h2=>simp[gz]at h1 h2;subst h1 h2;exact .bQ
  |i+3,h1,h2=>exact ih.2 i x y (by simpa using h1) (by simpa[dV,gz]using h2)
theorem HP(T:an)(n:Int)(X:de)(h:Can Tryz.prog 67 [aN T,num n] (· = .tuple [fv X,num 0])):Can Tryz.prog 66 [num n,.bc (bC T) 0] (· = .tuple [fv X,num 0]):=by
 refine aI Tryz.func66 I Tryz.ntmps66 I<|aP<|av 2 I<|aG [0,1,3] I ?_
 refine aP<|av 2 I<|fe I (h) I<|av 4 I<|aG [3,4] I ?_
 exact ao<|⟨_,_,az.of I,ay.pure (p:=.tuple [fv X,num 0]),rfl⟩
theorem Gw(T:an)(k x n:Int)(X:de)(h:Can Tryz.prog 55 [aN T,cq k x,num n] (· = .tuple [fv X,num 0])):Can Tryz.prog 68 [num n,.bc (bC T) 0,.bc (cG k x) 0] (· = .tuple [fv X,num 0]):=by
 refine aI Tryz.func68 I Tryz.ntmps68 I<|aP<|av 2 I<|aG [0,1,2,4] I ?_
 refine aP<|av 3 I<|fe I (h) I<|av 4 I<|aG [4,5] I ?_
 exact ao<|⟨_,_,az.of I,ay.pure (p:=.tuple [fv X,num 0]),rfl⟩
theorem Gb(T:an)(k x n:Int)(X:de)(h:Can Tryz.prog 70 [aN T,cq k x,num n] (· = .tuple [fv X,num 0])):Can Tryz.prog 69 [num n,.bc (bC T) 0,.bc (cG k x) 0] (· = .tuple [fv X,num 0]):=by
 refine aI Tryz.func69 I Tryz.ntmps69 I<|aP<|av 2 I<|aG [0,1,2,4] I ?_
 refine aP<|av 3 I<|fe I (h) I<|av 4 I<|aG [4,5] I ?_
 exact ao<|⟨_,_,az.of I,ay.pure (p:=.tuple [fv X,num 0]),rfl⟩
theorem GI(T:an)(k x n:Int)(X:de)(h:Can Tryz.prog 72 [aN T,cq k x,num n] (· = .tuple [fv X,num 0])):Can Tryz.prog 71 [num n,.bc (bC T) 0,.bc (cG k x) 0] (· = .tuple [fv X,num 0]):=by
 refine aI Tryz.func71 I Tryz.ntmps71 I<|aP<|av 2 I<|aG [0,1,2,4] I ?_
 refine aP<|av 3 I<|fe I (h) I<|av 4 I<|aG [4,5] I ?_
 exact ao<|⟨_,_,az.of I,ay.pure (p:=.tuple [fv X,num 0]),rfl⟩
theorem nf(x:de):jZ 0 x= .tuple [fv x,num 0]:=rfl
theorem I1(T:an)(k x:Int)(h12:T.nodes≤12)(hvc:(aq T&&cp T k x)=true){i:Nat}(hi:(i:Int)<T.nodes){s:Int}(hs:qD s=true){FS:List PV}(hFS:[.func 66 [.bc (bC T) 0],.func 68 [.bc (bC T) 0,.bc (cG k x) 0],.func 69 [.bc (bC T) 0,.bc (cG k x) 0],.func 71 [.bc (bC T) 0,.bc (cG k x) 0]]=FS):
  ∃f cap,FS[s.toNat]? =some (.func f cap)∧enters Tryz.prog f=true∧Can Tryz.prog f ([num i]++cap) (· = .tuple [fv (eW T (aE T k x) s i),num 0])∧aL ([num i]++cap):=by
 have hv:=(Bool.and_eq_true_iff.1 hvc).1
 have hme:eA T k x=0:=by unfold eA;rw[if_pos hvc]
 have hn:bm T i=true:=by rw[aT];omega
 have htr:kF T k x i=0:=by unfold kF;rw[if_pos hme,if_pos hn]
 have hch:cN T [] [(i:Int)]=0:=by
  unfold cN
  rw[hv]
  simp[bW,hn]
 subst hFS
 obtain⟨h0,h3⟩:=Bool.and_eq_true_iff.1 hs
 have h0:=of_decide_eq_true h0
 have h3:=of_decide_eq_true h3
 have h1:=Ev T i
 rw[hch,nf,Int.toNat_natCast]at h1
 have h2:=Bb T k x i h12
 rw[if_pos hme,if_pos hn,nf,Int.toNat_natCast]at h2
 have h4:=Du T k x i h12
 rw[htr,nf,Int.toNat_natCast]at h4
 have h5:=DW T k x i
 rw[htr,nf,Int.toNat_natCast]at h5
 rcases(by omega:s=0∨s=1∨s=2∨s=3)with e|e|e|e
 ·subst e
  exact⟨_,_,rfl,by kernel_rfl,HP T i _ h1,by infer_instance⟩
 ·subst e
  exact⟨_,_,rfl,by kernel_rfl,Gw T k x i _ h2,by infer_instance⟩
 ·subst e
  exact⟨_,_,rfl,by kernel_rfl,Gb T k x i _ h4,by infer_instance⟩
 ·subst e
  exact⟨_,_,rfl,by kernel_rfl,GI T k x i _ h5,by infer_instance⟩
theorem Ly:Kw Tryz.prog 100=some (1,[.nilFunc,.nilFunc,.nilFunc,.nilFunc]):=by kernel_rfl
theorem qo{T:an}{k x:Int}{l:List Int}{m:Nat}:(oT T k x l m).length=m:=by simp[oT]
set_option maxHeartbeats 4000000 in
theorem tn(T:an)(k x:Int)(l:List Int)(hl:l.length≤1000)(h12:T.nodes≤12):Can Tryz.prog 20 [aN T,cq k x,au l] (· =Ee (Bn T k x l) (oT T k x l l.length)):=by
  obtain⟨q1,hq1⟩:∃q,(aq T&&cp T k x)=q:=⟨_,rfl⟩
  obtain⟨q2,hq2⟩:∃q,decide ((l.length:Int)≠T.nodes)=q:=⟨_,rfl⟩
  obtain⟨q3,hq3⟩:∃q,fS T k x l=q:=⟨_,rfl⟩
  have hE:Bn T k x l=if(q1&& !q2)=true then(if q3=true then 0 else 7) else 1:=by
    unfold Bn
    rw[hq1,hq3,←hq2]
    simp
  rw[hE]
  refine aI Tryz.func20 I Tryz.ntmps20 I<|ab (.a 4 I<|.k [2,3,4] I)<|aj<|bE 23 (.raw (.bool (!q1 ||q2))) [2,3,4] I ?_ ?_
  · refine .a 2 I<|.c rfl (hq1▸yi T k x) I<|.a 2 I<|?_
    cases q1
    · exact .a 6 I<|.k [23,2,3,4] I
    · exact .a 4 I<|.v (cd I (hq2)) I<|.a 1 I<|.k [23,2,3,4] I
  refine ah I (fun hc=>?_) (fun hc=>?_)
  · have hno:(q1&& !q2)=false:=by cases q1<;>cases q2<;>simp_all
    exact ab (.a 2 I<|.k [6,7] I)<|ao<|⟨_,_,az.of I,ay.aX (af.cons ay.bQ (af.cons ay.pure af.nil)),by rw[hno];rfl⟩
  · obtain ⟨h1, rfl⟩ := Bool.or_eq_false_iff.1 hc
    have h1:q1=true:=by simpa using h1
    subst h1
    have hln:(l.length:Int)=T.nodes:=by have:=ff hq2;simpa using this
    refine ai<|aj<|ab (.a 3 I<|.c rfl (hq3▸nc T k x l hl) I<|.a 1 I<|.k [2,3,4,28] I)<|ah I (fun hc=>?_) (fun hc=>?_)
    · have h3:q3=false:=by simpa using hc
      subst h3
      exact ab (.a 2 I<|.k [6,7] I)<|ao<|⟨_,_,az.of I,ay.aX (af.cons ay.bQ (af.cons ay.pure af.nil)),rfl⟩
    · have h3:q3=true:=by simpa using hc
      subst h3
      have hv:=(Bool.and_eq_true_iff.1 hq1).1
      have hll:=bV hv
      have hP1:dU k x (fun n=>qD (fB l n)) l.length=true:=by
        have h:=hq3
        unfold fS at h
        split at h
        · exact(Bool.and_eq_true_iff.1 h).1
        · cases h
      refine ai<|aP<|av 4 I<|bw (zd I Ly rfl rfl) I<|av 2 I<|aG [2,3,4,8] I ?_
      refine fN 8 0 0 I I ?_
      refine dI [] (.c 2<|.c 3<|.c 4<|.c 8<|.nil) .nil rfl rfl ?_
      obtain⟨FS,hFS⟩:∃z:List PV,[.func 66 [.bc (bC T) 0],.func 68 [.bc (bC T) 0,.bc (cG k x) 0],.func 69 [.bc (bC T) 0,.bc (cG k x) 0],.func 71 [.bc (bC T) 0,.bc (cG k x) 0]]=z:=⟨_,rfl⟩
      have hFp:aL FS:=by rw[←hFS];infer_instance
      rw[hFS]
      refine ab (.a 1 I<|.k [2,3,4,8,9] I)<|gQ 9 56 3 I ?_
      refine aj<|ab (.a 3 I<|.k [3,4,8,9,34,35,36] I)<|aw<|eS [3,4,8,9,34,35,36] I<|bu (fun r s=>∃i,i≤l.length∧r=l.length - i∧s=⟨[(3,.bc (bC T) 0),(4,.bc (cG k x) 0),(8,.bc FS 0),(9,.own 0),(34,au l),(35,num l.length),(36,num i)],[some (.row 56 3 i (oM (oT T k x l i)))]⟩) l.length ⟨0,by omega,by omega,rfl⟩ ?_
      rintro r s ⟨i,hi,rfl,rfl⟩
      refine ab (.a 1 I<|.k [3,4,8,9,34,35,36,37] I)<|aj<|ah I (fun hc=>?_) (fun hc=>?_)
      · have hlt:i<l.length:=by have:=tt hc;omega
        have hil:(i:Int)<T.nodes:=by omega
        obtain⟨N,hN⟩:∃N:Nat,T.nodes=(N:Int):=⟨T.nodes.toNat,by omega⟩
        obtain⟨s,hs⟩:∃s,fB l i=s:=⟨_,rfl⟩
        have hsl:l.getD i 0=s:=hs
        obtain⟨g,hg⟩:∃g,pg k x i=g:=⟨_,rfl⟩
        have hX:oT T k x l (i+1)=oT T k x l i++[Hl T k x i s]:=by rw[Dx,hs]
        have hXg:Hl T k x i s=if g=true then An T i else eW T (aE T k x) s i:=by unfold Hl;rw[hg]
        have hmL:(oT T k x l i).length=i:=qo
        obtain⟨L,hL⟩:∃L,oT T k x l i=L:=⟨_,rfl⟩
        obtain⟨X,hXX⟩:∃X,Hl T k x i s=X:=⟨_,rfl⟩
        rw[hL,hXX]at hX
        rw[hL]at hmL ⊢
        rw[hXX]at hXg
        refine ai<|aj<|aw<|ab (.a 1 I<|.v (aM (i) I) I<|.v (aJ I ((aB l i hlt).trans (by rw[hsl]))) I<|.a 2 I<|.k [3,4,8,9,10,11,34,35,36] I)<|aP<|av 2 I<|bw (aJ I ((show some (num T.nodes)=some (num (N:Int)) by rw[hN]))) I<|b7 (dT I (ba.rk.get I) I I (rfl:(N:Int)=(N:Int)) (rfl:(N:Int)=(N:Int)) ⟨by unfold maxLen;omega,by omega⟩) I<|av 3 I<|aG [3,4,8,9,10,11,12,34,35,36] I ?_
        refine oQ 1 (σ':=[some (.row 56 3 i (oM L)),none,some (.cells 56 [num i,.slice N (dP [.raw (.slice none 0 0),.raw (.bool false),.raw (.slice none 0 0)] N),.raw (.slice none 0 0)])]) (t':=[(3,.bc (bC T) 0),(4,.bc (cG k x) 0),(8,.bc FS 0),(9,.own 0),(10,num i),(11,num s),(12,.ptr 2 0),(34,au l),(35,num l.length),(36,num i)]) (blk:=.row 76 3 N (dP [.raw (.slice none 0 0),.raw (.bool false),.raw (.slice none 0 0)] N)) I ⟨rfl,rfl,fun j hj=>by
          match j,hj with
          |0,_=>exact .inl rfl
          |1,h=>exact absurd rfl h
          |2,_=>exact .inr ⟨_,_,rfl,rfl,.cells (.cons (.same _)<|.cons .own<|.cons (.same _) .nil)⟩
          |_+3,_=>exact .inl rfl⟩ (.cons 3 rfl (.same _)<|.cons 4 rfl (.same _)<|.cons 8 rfl (.same _)<|.cons 9 rfl (.same _)<|.cons 10 rfl (.same _)<|.cons 11 rfl (.same _)<|.cons 12 rfl (.same _)<|.cons 34 rfl (.same _)<|.cons 35 rfl (.same _)<|.cons 36 rfl (.same _) .nil) ?_
        refine aj<|ab (.a 2 I<|.c rfl (hg▸tA k x i) I<|.k [3,4,8,9,10,11,12,34,35,36,48] I)<|ah I (fun hc=>?_) (fun hc=>?_)
        · subst hc
          rw[if_pos rfl]at hXg
          have hle:kM (.agg [num i,.slice N (dP [.raw (.slice none 0 0),.raw (.bool false),.raw (.slice none 0 0)] N),au (bN T i)]) (fv X):=by
            rw[hXg]
            have hz:=CH N
            have hTN:T.nodes.toNat=N:=by omega
            refine kM.hZ ⟨rfl,fun j a b h1 h2=>?_⟩
            match j,h1,h2 with
            |0,h1,h2=>cases h1;cases h2;exact kM.refl _
            |1,h1,h2=>
              cases h1;cases h2
              show kM (.slice N _) (.slice (List.replicate T.nodes.toNat (⟨[],false,[]⟩:iS)).length (dV (List.replicate T.nodes.toNat ⟨[],false,[]⟩)))
              rw[List.length_replicate,hTN]
              exact kM.IB hz.1.symm hz.2
            |2,h1,h2=>cases h1;cases h2;exact kM.refl _
            |j+3,h1,h2=>exact absurd h1 (by simp)
          refine bG<|av 2 I<|fe I (oF T hll _) I<|av 2 I<|aG [3,4,8,9,12,34,35,36] I ?_
          refine bG<|av 1 I<|bw (Gi (cS I (ba.tk.get I) I I I) hle) I<|av 1 I<|b7 (bg I (ba.rk.get I) I I I I (by unfold maxLen;omega)) I<|av 1 I<|aG [3,4,8,9,34,35,36] I ?_
          refine dI [3] (.c 3<|.c 4<|.c 8<|.cons 9 I (.own (i:=0) (j:=3) I)<|.c 34<|.c 35<|.c 36<|.nil) (.kept rfl (.row aH.pure) .nil) I I ?_
          refine aC (.v (aV I) I<|.a 1 I<|.k [3,4,8,9,34,35,36] I) ?_
          exact⟨l.length - (i+1),by omega,i+1,by omega,rfl,by rw[hX,←qX];rfl⟩
        · subst hc
          have hle:kM (fv X) (fv X):=kM.refl _
          rw[if_neg (by decide)]at hXg
          have hos:qD s=true:=by
            rw[←hs]
            exact kA.1 hP1 i hlt hg
          obtain⟨f,cap,r1,r2,r3,r4⟩:=I1 T k x h12 hq1 hil hos hFS
          rw[←hXg]at r3
          obtain⟨hs0,hs3⟩:0≤s∧s<4:=by
            obtain⟨h0,h3⟩:=Bool.and_eq_true_iff.1 hos
            have h0:=of_decide_eq_true h0
            have h3:=of_decide_eq_true h3
            omega
          refine bG<|av 1 I<|bw (np I (ba.ar.get I) I I hs0 hs3 (j:=s.toNat) (Nat.mul_one _)) I<|bw (aJ I ((show FS[0+s.toNat]? =_ by rw[Nat.zero_add];exact r1))) I<|av 1 I<|bw (qJ I r2 rfl rfl r3) I<|av 4 I<|aG [3,4,8,9,12,34,35,36] I ?_
          refine bG<|av 1 I<|bw (Gi (cS I (ba.tk.get I) I I I) hle) I<|av 1 I<|b7 (bg I (ba.rk.get I) I I I I (by unfold maxLen;omega)) I<|av 1 I<|aG [3,4,8,9,34,35,36] I ?_
          refine dI [3] (.c 3<|.c 4<|.c 8<|.cons 9 I (.own (i:=0) (j:=3) I)<|.c 34<|.c 35<|.c 36<|.nil) (.kept rfl (.row aH.pure) .nil) I I ?_
          refine aC (.v (aV I) I<|.a 1 I<|.k [3,4,8,9,34,35,36] I) ?_
          exact⟨l.length - (i+1),by omega,i+1,by omega,rfl,by rw[hX,←qX];rfl⟩
      · have hie:i=l.length:=by have:=ff hc;omega
        subst hie
        exact bh<|ab (.a 3 I<|.k [6,7] I)<|ao<|⟨_,_,az.of I,ay.aX (af.cons (ay.fr rfl af.pure) (af.cons ay.pure af.nil)),by show PV.tuple [.slice l.length (oM (oT T k x l l.length)),num 0]= .tuple [eG (oT T k x l l.length),num 0];unfold eG;rw[qo]⟩
end
end PW
end Go.Proofs.YtnegbdpggideiaaGreatDoor
