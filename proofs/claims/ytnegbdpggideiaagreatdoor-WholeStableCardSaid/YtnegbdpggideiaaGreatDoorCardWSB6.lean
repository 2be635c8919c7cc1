/- Texts of the proof, part 6. -/
import Derived.Test.YtnegbdpggideiaaGreatDoorCardWSB5
set_option linter.unusedVariables false
set_option linter.unusedSimpArgs false
set_option maxRecDepth 10000
set_option maxHeartbeats 1000000
namespace Go.Proofs.YtnegbdpggideiaaGreatDoor
namespace PW
open Go.RowKit cA Mem Net
def gX(T:ai)(s:bW):Bool:=if s.kind=1 then bu T s.num else if s.kind=2 then eR T s.num else if s.kind=3 then bO s.num 1 64 else if s.kind=4 then bO s.num 0 65535 else false
def eI(T:ai)(n:Int)(L:List Int):Bool:=decide (∀i,i<L.length→eR T (L.getD i 0)=true∧bq T (L.getD i 0).toNat=n∧(0<i→L.getD (i - 1) 0<L.getD i 0))
def iO(T:ai)(n d:Int)(e:iw):Bool:=eI T n e.aK&&(!(decide (d=n)&&decide (0<(e.aK.length:Int))))&&(if e.rep then decide ((e.aK.length:Int)=1)&&decide ((e.push.length:Int)≤32)&&e.push.all (gX T) else decide ((e.push.length:Int)=0))
def Hn:iw:=⟨[],false,[]⟩
def mv(T:ai)(n:Int)(l:List iw):Bool:=decide (∀d,d<l.length→iO T n d (l.getD d Hn)=true)
def ef(T:ai)(x:dR):Bool:=ao T&&bu T x.node&&decide ((x.eV.length:Int)=T.nodes)&&eI T x.node x.down&&mv T x.node x.eV
theorem cI{T:ai}{a:Int}:eR T a=true↔0≤a∧a<2*(T.af.length:Int):=by simp[eR]
theorem lF(T:ai)(a:Int)(h:eR T a=true):Can Tryz.prog 79 [aP T,num a] (· =num (bq T a.toNat)):=by
 obtain⟨h0,h1⟩:=cI.1 h
 obtain⟨a,rfl⟩:=Int.eq_ofNat_of_zero_le h0
 exact iK T a (by omega)
theorem uW(T:ai)(hl:T.af.length≤4611686018427387903)(s:bW):Can Tryz.prog 171 [aP T,tB s] (· =flag (gX T s)):=by
 unfold gX
 refine aF Tryz.func171 rfl Tryz.ntmps171 rfl<|ab (.a 3 rfl<|.k [2,3] rfl)<|aj<|ab (.a 2 rfl<|.k [2,3,6] rfl)<|av<|ab (.a 2 rfl<|.k [2,3,6,7] rfl)<|ah rfl (fun hc=>?_) (fun hc=>?_)
 ·rw[if_pos (tt hc)]
  exact ab (.a 3 rfl<|.c rfl (da T s.num) rfl<|.a 1 rfl<|.k [4] rfl)<|aq<|⟨_,_,aA.of rfl,aB.pure,rfl⟩
 ·rw[if_neg (ff hc)]
  refine ab (.a 2 rfl<|.k [2,3,6,13] rfl)<|ah rfl (fun hc=>?_) (fun hc=>?_)
  ·rw[if_pos (tt hc)]
   exact ab (.a 3 rfl<|.c rfl (o7 T hl s.num) rfl<|.a 1 rfl<|.k [4] rfl)<|aq<|⟨_,_,aA.of rfl,aB.pure,rfl⟩
  ·rw[if_neg (ff hc)]
   refine ab (.a 2 rfl<|.k [3,6,19] rfl)<|ah rfl (fun hc=>?_) (fun hc=>?_)
   ·rw[if_pos (tt hc)]
    obtain⟨p1,hp1⟩:∃q,decide (1≤s.num)=q:=⟨_,rfl⟩
    obtain⟨p2,hp2⟩:∃q,decide (s.num≤64)=q:=⟨_,rfl⟩
    have he:bO s.num 1 64=(p1&&p2):=by rw[←hp1,←hp2];unfold bO;exact Bool.decide_and _ _
    rw[he]
    refine bC 4 (.raw (.bool (p1&&p2))) [] rfl ?_ ?_
    ·refine .a 2 rfl<|.v (cC rfl (hp1)) rfl<|.a 1 rfl<|?_
     cases p1
     ·exact .a 5 rfl<|.k [4] rfl
     ·exact .a 2 rfl<|.v (cC rfl (hp2)) rfl<|.a 2 rfl<|.k [4] rfl
    exact aq<|⟨_,_,aA.of rfl,aB.pure,rfl⟩
   ·rw[if_neg (ff hc)]
    refine ab (.a 2 rfl<|.k [3,29] rfl)<|ah rfl (fun hc=>?_) (fun hc=>?_)
    ·rw[if_pos (tt hc)]
     obtain⟨p1,hp1⟩:∃q,decide (0≤s.num)=q:=⟨_,rfl⟩
     obtain⟨p2,hp2⟩:∃q,decide (s.num≤65535)=q:=⟨_,rfl⟩
     have he:bO s.num 0 65535=(p1&&p2):=by rw[←hp1,←hp2];unfold bO;exact Bool.decide_and _ _
     rw[he]
     refine bC 4 (.raw (.bool (p1&&p2))) [] rfl ?_ ?_
     ·refine .a 2 rfl<|.v (cC rfl (hp1)) rfl<|.a 1 rfl<|?_
      cases p1
      ·exact .a 5 rfl<|.k [4] rfl
      ·exact .a 2 rfl<|.v (cC rfl (hp2)) rfl<|.a 2 rfl<|.k [4] rfl
     exact aq<|⟨_,_,aA.of rfl,aB.pure,rfl⟩
    ·rw[if_neg (ff hc)]
     exact ak<|ab (.a 1 rfl<|.k [4] rfl)<|aq<|⟨_,_,aA.of rfl,aB.pure,rfl⟩
def uh(T:ai)(n:Int)(L:List Int)(i:Nat):Bool:=decide (eR T (L.getD i 0)=true∧bq T (L.getD i 0).toNat=n∧(0<i→L.getD (i - 1) 0<L.getD i 0))
theorem Ac{T:ai}{n:Int}{L:List Int}(h:∀i,i<L.length→uh T n L i=true):eI T n L=true:=decide_eq_true fun i hi=>tt (h i hi)
theorem wx{T:ai}{n:Int}{L:List Int}{i:Nat}(hi:i<L.length)(h:uh T n L i=false):eI T n L=false:=decide_eq_false fun ha=>ff h (ha i hi)
theorem nn(T:ai)(hv:ao T=true)(n:Int)(L:List Int):Can Tryz.prog 140 [aP T,num n,ax L] (· =flag (eI T n L)):=by
 have hll:=bN hv
 refine oY fun⟨E,w,vs,hR⟩=>?_
 obtain⟨v,_,hv⟩:=hR.get (i:=2) rfl
 have hm:=lP hv
 unfold maxLen at hm
 refine aF Tryz.func140 rfl Tryz.ntmps140 rfl<|ab (.a 2 rfl<|.k [1,2,3] rfl)<|aj<|ab (.a 3 rfl<|.k [1,2,3,9,10,11] rfl)<|av<|eZ [1,2,3,9,10,11] rfl<|bw (fun r s=>∃k,k≤L.length∧r=L.length - k∧(∀i,i<k→uh T n L i=true)∧s=⟨[(1,num n),(2,ax L),(3,.aV (bx T) 0),(9,ax L),(10,num L.length),(11,num k)],[]⟩) L.length ⟨0,by omega,by omega,fun i hi=>by omega,rfl⟩ ?_
 rintro r s ⟨k,hk,rfl,hall,rfl⟩
 refine ab (.a 1 rfl<|.k [1,2,3,9,10,11,12] rfl)<|aj<|ah rfl (fun hc=>?_) (fun hc=>?_)
 ·have hlt:k<L.length:=by have:=tt hc;omega
  obtain⟨p1,hp1⟩:∃q,eR T (L.getD k 0)=q:=⟨_,rfl⟩
  obtain⟨p2,hp2⟩:∃q,decide (bq T (L.getD k 0).toNat≠n)=q:=⟨_,rfl⟩
  obtain⟨p3,hp3⟩:∃q,decide (0<(k:Int))=q:=⟨_,rfl⟩
  obtain⟨p4,hp4⟩:∃q,decide (L.getD k 0≤L.getD (k - 1) 0)=q:=⟨_,rfl⟩
  refine ak<|aj<|av<|ab (.a 1 rfl<|.v (aI (k) rfl) rfl<|.v (aL rfl (aD L k hlt)) rfl<|.a 2 rfl<|.k [1,2,3,7,8,9,10,11] rfl)<|bC 39 (.raw (.bool (((!p1)||p2)||(p3&&p4)))) [1,2,3,9,10,11] rfl ?_ ?_
  ·refine .a 2 rfl<|.c rfl (hp1▸o7 T (by omega) (L.getD k 0)) rfl<|.a 2 rfl<|?_
   cases p1
   ·exact .a 19 rfl<|.k [39,1,2,3,9,10,11] rfl
   ·refine .a 2 rfl<|.c rfl (lF T _ hp1) rfl<|.a 1 rfl<|.v (cC rfl (hp2)) rfl<|.a 2 rfl<|?_
    cases p2
    ·refine .a 1 rfl<|.v (cC rfl (hp3)) rfl<|.a 1 rfl<|?_
     cases p3
     ·exact .a 9 rfl<|.k [39,1,2,3,9,10,11] rfl
     ·exact .a 2 rfl<|.v (aR rfl) rfl<|.v (aI (k - 1) rfl (by have:=tt hp3;omega) (by omega)) rfl<|.v (aL rfl (aD L (k - 1) (by omega))) rfl<|.a 1 rfl<|.v (cC rfl (hp4)) rfl<|.a 2 rfl<|.k [39,1,2,3,9,10,11] rfl
    ·exact .a 12 rfl<|.k [39,1,2,3,9,10,11] rfl
  refine ah rfl (fun hx=>?_) (fun hx=>?_)
  ·have hno:uh T n L k=false:=by
    refine decide_eq_false fun⟨h1,h2,h3⟩=>?_
    rw[h1]at hp1
    rw[decide_eq_false (by simpa using h2)]at hp2
    subst hp1 hp2
    simp only[Bool.not_true,Bool.false_or,Bool.and_eq_true]at hx
    rw[hx.1]at hp3
    rw[hx.2]at hp4
    have:=h3 (by have:=tt hp3;omega)
    have:=tt hp4
    omega
   rw[wx hlt hno]
   exact ab (.a 1 rfl<|.k [6] rfl)<|aq<|⟨_,_,aA.of rfl,aB.pure,rfl⟩
  ·have hyes:uh T n L k=true:=by
    obtain⟨c1,c3⟩:=Bool.or_eq_false_iff.1 hx
    obtain⟨c1,c2⟩:=Bool.or_eq_false_iff.1 c1
    refine decide_eq_true ⟨?_,?_,fun h0=>?_⟩
    ·rw[hp1];simpa using c1
    ·rw[c2]at hp2;exact Classical.byContradiction (ff hp2)
    ·rw[decide_eq_true (by omega)]at hp3
     subst hp3
     rw[Bool.true_and]at c3
     rw[c3]at hp4
     have:=ff hp4
     omega
   refine ak<|ay (.v (aR rfl) rfl<|.a 1 rfl<|.k [1,2,3,9,10,11] rfl) ?_
   refine⟨L.length - (k+1),by omega,k+1,by omega,rfl,fun i hi=>?_,rfl⟩
   by_cases h:i=k
   ·rw[h];exact hyes
   ·exact hall i (by omega)
 ·have hke:k=L.length:=by have:=ff hc;omega
  subst hke
  rw[Ac hall]
  exact bn<|ab (.a 1 rfl<|.k [6] rfl)<|aq<|⟨_,_,aA.of rfl,aB.pure,rfl⟩
theorem IA{α:Type}(p:α→Bool)(L:List α)(k:Nat)(a:α)(h:L[k]? =some a):(L.take (k+1)).all p=((L.take k).all p&&p a):=by
 rw[List.take_add_one,h,List.all_append];simp
theorem IM{α:Type}(p:α→Bool)(L:List α)(k:Nat)(a:α)(h:L[k]? =some a)(hp:p a=false):L.all p=false:=by
 rw[Bool.eq_false_iff]
 intro ha
 have:=List.all_eq_true.1 ha a (List.mem_of_getElem? h)
 rw[hp]at this
 cases this
theorem wm(T:ai)(hv:ao T=true)(e:iw)(n d:Int):Can Tryz.prog 141 [aP T,ua e,num n,num d] (· =flag (iO T n d e)):=by
 have hll:=bN hv
 obtain⟨p1,hp1⟩:∃q,eI T n e.aK=q:=⟨_,rfl⟩
 obtain⟨p2,hp2⟩:∃q,decide (d=n)=q:=⟨_,rfl⟩
 obtain⟨p3,hp3⟩:∃q,decide (0<(e.aK.length:Int))=q:=⟨_,rfl⟩
 unfold iO
 rw[hp1,hp2,hp3]
 refine aF Tryz.func141 rfl Tryz.ntmps141 rfl<|ab (.a 3 rfl<|.k [2,3,4,5] rfl)<|aj<|bC 27 (.raw (.bool ((!p1)||(p2&&p3)))) [4,5] rfl ?_ ?_
 ·refine .a 4 rfl<|.c rfl (hp1▸nn T hv n e.aK) rfl<|.a 2 rfl<|?_
  cases p1
  ·exact .a 10 rfl<|.k [27,4,5] rfl
  ·refine .a 2 rfl<|.v (cC rfl (hp2)) rfl<|.a 1 rfl<|?_
   cases p2
   ·exact .a 6 rfl<|.k [27,4,5] rfl
   ·exact .a 3 rfl<|.v (cC rfl (hp3)) rfl<|.a 2 rfl<|.k [27,4,5] rfl
 refine ah rfl (fun hc=>?_) (fun hc=>?_)
 ·have he:(p1&& !(p2&&p3))=false:=by cases p1<;>cases p2<;>cases p3<;>first|rfl|cases hc
  rw[he,Bool.false_and]
  exact ab (.a 1 rfl<|.k [8] rfl)<|aq<|⟨_,_,aA.of rfl,aB.pure,rfl⟩
 ·have he:(p1&& !(p2&&p3))=true:=by cases p1<;>cases p2<;>cases p3<;>first|rfl|cases hc
  rw[he,Bool.true_and]
  refine ak<|aj<|ab (.a 3 rfl<|.k [4,5,30] rfl)<|ah rfl (fun hc=>?_) (fun hc=>?_)
  ·have hr:e.rep=false:=by simpa using hc
   rw[hr,if_neg (by simp)]
   exact ab (.a 5 rfl<|.k [8] rfl)<|aq<|⟨_,_,aA.of rfl,aB.pure,rfl⟩
  ·have hr:e.rep=true:=by simpa using hc
   rw[hr,if_pos rfl]
   refine ak<|aj ?_
   obtain⟨p4,hp4⟩:∃q,decide ((e.aK.length:Int)≠1)=q:=⟨_,rfl⟩
   obtain⟨p5,hp5⟩:∃q,decide (32<(e.push.length:Int))=q:=⟨_,rfl⟩
   refine bC 44 (.raw (.bool (p4||p5))) [4,5] rfl ?_ ?_
   ·refine .a 3 rfl<|.v (cC rfl (hp4)) rfl<|.a 1 rfl<|?_
    cases p4
    ·exact .a 3 rfl<|.v (cC rfl (hp5)) rfl<|.a 1 rfl<|.k [44,4,5] rfl
    ·exact .a 5 rfl<|.k [44,4,5] rfl
   refine ah rfl (fun hx=>?_) (fun hx=>?_)
   ·have hf:(decide ((e.aK.length:Int)=1)&&decide ((e.push.length:Int)≤32))=false:=by
     rcases Bool.or_eq_true_iff.1 hx with h|h
     ·rw[h]at hp4;rw[decide_eq_false (tt hp4)];rfl
     ·rw[h]at hp5;rw[decide_eq_false (by have:=tt hp5;omega:¬((e.push.length:Int)≤32)),Bool.and_false]
    rw[hf,Bool.false_and]
    exact ab (.a 1 rfl<|.k [8] rfl)<|aq<|⟨_,_,aA.of rfl,aB.pure,rfl⟩
   ·obtain⟨c1,c2⟩:=Bool.or_eq_false_iff.1 hx
    rw[c1]at hp4
    rw[c2]at hp5
    have hlen:e.push.length≤32:=by have:=ff hp5;omega
    rw[decide_eq_true (Classical.byContradiction (ff hp4)),decide_eq_true (by omega:(e.push.length:Int)≤32),Bool.true_and,Bool.true_and]
    refine ak<|aj<|ab (.a 4 rfl<|.k [4,46,47,48] rfl)<|av<|eZ [4,46,47,48] rfl<|bw (fun r s=>∃k,k≤e.push.length∧r=e.push.length - k∧(e.push.take k).all (gX T)=true∧s=⟨[(4,.aV (bx T) 0),(46,cn e.push),(47,num e.push.length),(48,num k)],[]⟩) e.push.length ⟨0,by omega,by omega,by simp,rfl⟩ ?_
    rintro r s ⟨k,hk,rfl,hall,rfl⟩
    refine ab (.a 1 rfl<|.k [4,46,47,48,49] rfl)<|aj<|ah rfl (fun hy=>?_) (fun hy=>?_)
    ·have hlt:k<e.push.length:=by have:=tt hy;omega
     obtain⟨a,ha⟩:∃a,e.push[k]? =some a:=⟨e.push[k],by simp[hlt]⟩
     refine ak<|aj<|av<|aQ<|bz (aI (k*2) rfl) rfl<|bz (ed rfl (iC e.push k a ha) rfl) rfl<|au 2 rfl<|aH [4,10,46,47,48] rfl ?_
     refine ab (.a 2 rfl<|.c rfl (uW T (by omega) a) rfl<|.a 1 rfl<|.k [4,46,47,48,55] rfl)<|cU [] (.c 4<|.c 46<|.c 47<|.c 48<|.c 55 .nil) .nil rfl rfl ?_
     refine ah rfl (fun hz=>?_) (fun hz=>?_)
     ·rw[IM _ _ k a ha (by simpa using hz)]
      exact ab (.a 1 rfl<|.k [8] rfl)<|aq<|⟨_,_,aA.of rfl,aB.pure,rfl⟩
     ·have hz':gX T a=true:=by simpa using hz
      refine ak<|ay (.v (aR rfl) rfl<|.a 1 rfl<|.k [4,46,47,48] rfl) ?_
      exact⟨e.push.length - (k+1),by omega,k+1,by omega,rfl,by rw[IA _ _ k a ha,hall,hz'];rfl,rfl⟩
    ·have hke:k=e.push.length:=by have:=ff hy;omega
     subst hke
     rw[List.take_length]at hall
     rw[hall]
     exact bn<|ab (.a 1 rfl<|.k [8] rfl)<|aq<|⟨_,_,aA.of rfl,aB.pure,rfl⟩
theorem lN(l:List iw)(k:Nat)(e:iw)(h:l[k]? =some e):l.getD k Hn=e:=by rw[List.getD_eq_getElem?_getD,h];rfl
theorem vg{T:ai}{n:Int}{l:List iw}{k:Nat}{e:iw}(h:l[k]? =some e)(hf:iO T n k e=false):mv T n l=false:=decide_eq_false fun ha=>by
 have:=ha k (List.getElem?_eq_some_iff.1 h).1
 rw[lN l k e h,hf]at this
 cases this
theorem iM{T:ai}{n:Int}{l:List iw}(h:∀(k:Nat) e,l[k]? =some e→iO T n k e=true):mv T n l=true:=decide_eq_true fun d hd=>by
 have he:l[d]? =some l[d]:=by simp[hd]
 rw[lN l d _ he]
 exact h d _ he
theorem pf(T:ai)(x:dR):Can Tryz.prog 99 [aP T,fA x] (· =flag (ef T x)):=by
 refine oY fun⟨E,w,vs,hR⟩=>?_
 obtain⟨v,_,hvv⟩:=hR.get (i:=1) rfl
 have hm:=(FI hvv).1
 unfold maxLen at hm
 obtain⟨p1,hp1⟩:∃q,ao T=q:=⟨_,rfl⟩
 obtain⟨p2,hp2⟩:∃q,bu T x.node=q:=⟨_,rfl⟩
 obtain⟨p3,hp3⟩:∃q,decide ((x.eV.length:Int)≠T.nodes)=q:=⟨_,rfl⟩
 obtain⟨p4,hp4⟩:∃q,eI T x.node x.down=q:=⟨_,rfl⟩
 have he:decide ((x.eV.length:Int)=T.nodes)= !p3 :=by rw[←hp3];simp
 unfold ef
 rw[hp1,hp2,he,hp4]
 refine aF Tryz.func99 rfl Tryz.ntmps99 rfl<|ab (.a 3 rfl<|.k [2,3] rfl)<|aj<|bC 33 (.raw (.bool ((((!p1)|| !p2)||p3)|| !p4))) [2,3] rfl ?_ ?_
 ·refine .a 1 rfl<|.c rfl (hp1▸de T) rfl<|.a 2 rfl<|?_
  cases p1
  ·exact .a 23 rfl<|.k [33,2,3] rfl
  ·refine .a 3 rfl<|.c rfl (hp2▸da T x.node) rfl<|.a 3 rfl<|?_
   cases p2
   ·exact .a 16 rfl<|.k [33,2,3] rfl
   ·refine .a 5 rfl<|.v (cC rfl (hp3)) rfl<|.a 2 rfl<|?_
    cases p3
    ·exact .a 5 rfl<|.c rfl (hp4▸nn T hp1 x.node x.down) rfl<|.a 2 rfl<|.k [33,2,3] rfl
    ·exact .a 8 rfl<|.k [33,2,3] rfl
 refine ah rfl (fun hc=>?_) (fun hc=>?_)
 ·have hf:(p1&&p2&& !p3 &&p4)=false:=by cases p1<;>cases p2<;>cases p3<;>cases p4<;>first|rfl|cases hc
  rw[hf,Bool.false_and]
  exact ab (.a 1 rfl<|.k [4] rfl)<|aq<|⟨_,_,aA.of rfl,aB.pure,rfl⟩
 ·have hf:(p1&&p2&& !p3 &&p4)=true:=by cases p1<;>cases p2<;>cases p3<;>cases p4<;>first|rfl|cases hc
  rw[hf,Bool.true_and]
  have e1:p1=true:=by cases p1<;>simp_all
  rw[e1]at hp1
  refine ak<|aj<|ab (.a 4 rfl<|.k [2,3,35,36,37] rfl)<|av<|eZ [2,3,35,36,37] rfl<|bw (fun r s=>∃k,k≤x.eV.length∧r=x.eV.length - k∧(∀(i:Nat) e,i<k→x.eV[i]? =some e→iO T x.node i e=true)∧s=⟨[(2,.aV (bx T) 0),(3,.aV (fL x) 0),(35,jq x.eV),(36,num x.eV.length),(37,num k)],[]⟩) x.eV.length ⟨0,by omega,by omega,fun i e hi=>by omega,rfl⟩ ?_
  rintro r s ⟨k,hk,rfl,hall,rfl⟩
  refine ab (.a 1 rfl<|.k [2,3,35,36,37,38] rfl)<|aj<|ah rfl (fun hy=>?_) (fun hy=>?_)
  ·have hlt:k<x.eV.length:=by have:=tt hy;omega
   obtain⟨e,hek⟩:∃a,x.eV[k]? =some a:=⟨x.eV[k],by simp[hlt]⟩
   refine ak<|aj<|av<|aQ<|au 1 rfl<|bz (aI (k*3) rfl) rfl<|bz (ed rfl (ov x.eV k e hek) rfl) rfl<|au 3 rfl<|aH [2,3,5,6,35,36,37] rfl ?_
   refine ab (.a 5 rfl<|.c rfl (wm T hp1 e x.node k) rfl<|.a 1 rfl<|.k [2,3,35,36,37,48] rfl)<|cU [] (.c 2<|.c 3<|.c 35<|.c 36<|.c 37<|.c 48 .nil) .nil rfl rfl ?_
   refine ah rfl (fun hz=>?_) (fun hz=>?_)
   ·rw[vg hek (by simpa using hz)]
    exact ab (.a 1 rfl<|.k [4] rfl)<|aq<|⟨_,_,aA.of rfl,aB.pure,rfl⟩
   ·have hz':iO T x.node k e=true:=by simpa using hz
    refine ak<|ay (.v (aR rfl) rfl<|.a 1 rfl<|.k [2,3,35,36,37] rfl) ?_
    refine⟨x.eV.length - (k+1),by omega,k+1,by omega,rfl,fun i e' hi he'=>?_,rfl⟩
    by_cases h:i=k
    ·subst h;rw[hek]at he';cases he';exact hz'
    ·exact hall i e' (by omega) he'
  ·have hke:k=x.eV.length:=by have:=ff hy;omega
   rw[iM fun i e hi=>hall i e (by have:=(List.getElem?_eq_some_iff.1 hi).1;omega) hi]
   exact bn<|ab (.a 1 rfl<|.k [4] rfl)<|aq<|⟨_,_,aA.of rfl,aB.pure,rfl⟩
end PW
end Go.Proofs.YtnegbdpggideiaaGreatDoor
namespace Go.Proofs.YtnegbdpggideiaaGreatDoor
namespace PW
open Go.RowKit cA Mem Net
theorem kL(T:ai)(n:Int):(bm T n).Pairwise (· < ·):=by
 unfold bm fH
 refine List.Pairwise.map _ (fun a b h=>?_) ((List.pairwise_lt_range (n:=2*T.af.length)).filter _)
 show(a:Int)<(b:Int)
 omega
theorem iY{T:ai}{n:Int}{a:Int}:a∈bm T n↔eR T a=true∧bq T a.toNat=n:=by
 unfold bm fH
 rw[List.mem_map,cI]
 constructor
 ·rintro⟨b,hb,rfl⟩
  obtain⟨h1,h2⟩:=List.mem_filter.1 hb
  have:=List.mem_range.1 h1
  refine⟨⟨by simp,by simp;omega⟩,by simpa using h2⟩
 ·rintro⟨⟨h0,h1⟩,h2⟩
  refine⟨a.toNat,List.mem_filter.2 ⟨List.mem_range.2 (by omega),by simpa using h2⟩,by simp;omega⟩
theorem qe{T:ai}{n:Int}{L:List Int}(hs:L.Pairwise (· < ·))(hm:∀a∈L,eR T a=true∧bq T a.toNat=n):eI T n L=true:=decide_eq_true fun i hi=>by
 have h1:=hm _ (bU (d:=0) hi)
 refine⟨h1.1,h1.2,fun h0=>?_⟩
 have:=List.pairwise_iff_getElem.1 hs (i - 1) i (by omega) hi (by omega)
 rw[List.getD_eq_getElem?_getD,List.getD_eq_getElem?_getD,List.getElem?_eq_getElem hi,List.getElem?_eq_getElem (by omega:i - 1<L.length)]
 exact this
theorem lY(T:ai)(n:Int)(p:Int→Bool):eI T n ((bm T n).filter p)=true:=qe ((kL T n).filter p) fun _ ha=>iY.1 (List.mem_filter.1 ha).1
theorem qK(T:ai)(D:List Bool)(n d:Nat):eI T n (bL T D n d)=true:=by
 unfold bL
 split
 ·exact decide_eq_true fun i hi=>by simp at hi
 ·exact lY T n _
theorem jE(T:ai)(D:List Bool)(n:Nat):bL T D n n=[]:=by unfold bL;rw[if_pos (.inl rfl)]
theorem sY{T:ai}{D:List Bool}(hv:ao T=true){n:Nat}(hn:(n:Int)<T.nodes):ef T (dV T D n)=true:=by
 unfold ef dV
 have h1:bu T (n:Int)=true:=aW.2 ⟨by omega,hn⟩
 have hN:=(aJ hv).nodes
 have h2:decide (((nF T D n T.nodes.toNat).length:Int)=T.nodes)=true:=decide_eq_true (by rw[tM];omega)
 have h3:eI T n (cG D (bm T n))=true:=lY T n _
 have h4:mv T n (nF T D n T.nodes.toNat)=true:=iM fun d e he=>by
  unfold nF at he
  rw[List.getElem?_map,Option.map_eq_some_iff]at he
  obtain⟨d',hd',rfl⟩:=he
  have hd:d'=d:=by
   have:=List.getElem?_eq_some_iff.1 hd'
   obtain⟨h,h'⟩:=this
   simpa using h'.symm
  subst hd
  unfold iO
  simp only[qK,Bool.true_and]
  by_cases hdn:d'=n
  ·subst hdn;rw[jE];simp
  ·rw[decide_eq_false (by omega)];simp
 rw[hv,h1,h2,h3,h4]
 rfl
theorem nx{T:ai}{D:List Bool}(hv:ao T=true){d x:Nat}(hd:(d:Int)<T.nodes)(hx:(x:Int)<T.nodes):(bK T D d false).getD x 0=at' (bK T D d false) (x:Int):=by
 have hl:=(eo (D:=D) hv (dir:=false) hd).1
 unfold at'
 rw[Int.toNat_natCast,List.getD_eq_getElem?_getD,List.getD_eq_getElem?_getD,List.getElem?_eq_getElem (by omega)]
 rfl
structure iN (T:ai) (D:List Bool) (n d a:Nat):Prop where
 gH:a<2*T.af.length
 tail:bq T a=(n:Int)
 up:aX D a=false
 ne:n≠d
 reach:0≤(bK T D d false).getD (aS T a).toNat 0
 pass:aS T a=(d:Int)∨dc T (aS T a).toNat=false
 sum:(bK T D d false).getD n 0=(bK T D d false).getD (aS T a).toNat 0+cF T a
theorem ec{T:ai}{D:List Bool}{n d:Nat}{a:Int}(h:a∈bL T D n d):∃k:Nat,a=k∧iN T D n d k:=by
 unfold bL at h
 split at h
 ·simp at h
 ·rename_i hne
  obtain⟨h1,h2⟩:=List.mem_filter.1 h
  obtain⟨h3,h4⟩:=iY.1 h1
  obtain⟨h5,h6⟩:=cI.1 h3
  obtain⟨k,rfl⟩:=Int.eq_ofNat_of_zero_le h5
  rw[Int.toNat_natCast]at h2 h4
  unfold gV at h2
  simp only[Bool.and_eq_true,Bool.not_eq_true',Bool.or_eq_false_iff,decide_eq_true_eq,decide_eq_false_iff_not]at h2
  obtain⟨⟨⟨g1,g2⟩,g3⟩,g4⟩:=h2
  refine⟨k,rfl,by omega,h4,g1,fun e=>hne (.inl e),by omega,?_,by omega⟩
  rcases Bool.and_eq_false_iff.1 g3 with g|g
  ·exact .inl (Classical.byContradiction (ff g))
  ·exact .inr g
theorem fW{T:ai}{D:List Bool}{n d k:Nat}(h:iN T D n d k)(hc:1≤cF T k):(k:Int)∈bL T D n d:=by
 have hs:=h.sum
 have hr:=h.reach
 unfold bL
 rw[if_neg (by rintro(e|e);exact h.ne e;omega)]
 refine List.mem_filter.2 ⟨iY.2 ⟨cI.2 ⟨by omega,by have:=h.gH;omega⟩,h.tail⟩,?_⟩
 unfold gV
 rw[Int.toNat_natCast]
 simp only[Bool.and_eq_true,Bool.not_eq_true',Bool.or_eq_false_iff,decide_eq_true_eq,decide_eq_false_iff_not]
 refine⟨⟨⟨h.up,by omega⟩,?_⟩,by omega⟩
 rcases h.pass with g|g
 ·rw[decide_eq_false (by simpa using g)];rfl
 ·rw[g,Bool.and_false]
theorem lx{T:ai}{D:List Bool}(hv:ao T=true){n d:Nat}(hn:(n:Int)<T.nodes)(hd:(d:Int)<T.nodes)(hne:n≠d)(h0:0≤(bK T D d false).getD n 0):∃k,iN T D n d k:=by
 have hS:=aJ hv
 have hI:=jL hS D false hd
 have e1:=nx (D:=D) hv hd hn
 rcases hI.mq n hn (by rw[←e1];exact h0)with h|⟨a,ha,hx,⟨w1,w2,w3⟩,hs⟩
 ·exact absurd h hne
 ·have hh:=hS.head a ha
  obtain⟨y,hy⟩:=Int.eq_ofNat_of_zero_le hh.1
  have e2:=nx (D:=D) hv hd (x:=y) (by omega)
  simp only[fj,cN,Bool.false_eq_true,if_false]at hx w2 w3 hs
  rw[hy]at w2 w3 hs
  refine⟨a,ha,hx,w1,hne,?_,?_,?_⟩
  ·rw[hy,Int.toNat_natCast,e2];exact w2
  ·rw[hy];exact w3
  ·rw[hy,Int.toNat_natCast,e1,e2];exact hs
theorem AI{T:ai}{D:List Bool}(hv:ao T=true){d:Nat}(hd:(d:Int)<T.nodes):(bK T D d false).getD d 0=0:=by
 rw[nx hv hd hd]
 exact(jL (aJ hv) D false hd).root
end PW
end Go.Proofs.YtnegbdpggideiaaGreatDoor
namespace Go.Proofs.YtnegbdpggideiaaGreatDoor
namespace PW
open Go.RowKit cA Mem Net
noncomputable def dN(T:ai)(D:List Bool)(d x:Nat):Int:=(bK T D d false).getD x 0
def cT(T:ai)(p:List Int):Int:=p.foldr (fun a c=>cF T a.toNat+c) 0
theorem jz(T:ai):cT T []=0:=rfl
theorem fy(T:ai)(a:Int)(p:List Int):cT T (a::p)=cF T a.toNat+cT T p:=rfl
theorem fU(T:ai)(p q:List Int):cT T (p++q)=cT T p+cT T q:=by
 induction p with
 |nil=>simp[jz]
 |cons a p ih=>rw[List.cons_append,fy,fy,ih];omega
inductive SP (T:ai) (D:List Bool) (d:Nat):Nat→List Int→Prop
 |nil:SP T D d d []
 |cons {n a m:Nat} {p:List Int}:iN T D n d a→aS T a=(m:Int)→SP T D d m p→SP T D d n ((a:Int)::p)
inductive Ch (T:ai) (D:List Bool) (d:Nat):Nat→List Int→Prop
 |nil:Ch T D d d []
 |cons {n a m:Nat} {p:List Int}:a<2*T.af.length→bq T a=(n:Int)→aX D a=false→aS T a=(m:Int)→(p=[]∨dc T m=false)→Ch T D d m p→Ch T D d n ((a:Int)::p)
theorem pa:∀(N:Nat) (l:List Nat),l.Nodup→(∀x∈l,x<N)→l.length≤N
 |0,l,_,h=>by
  cases l with
  |nil=>simp
  |cons a l=>have:=h a (by simp);omega
 |N+1,l,hn,h=>by
  have h1:=pa N (l.erase N) (hn.erase N) (fun x hx=>by
   have h2:=(List.Nodup.mem_erase_iff hn).1 hx
   have:=h x h2.2
   have:=h2.1
   omega)
  rw[List.length_erase]at h1
  split at h1<;>omega
section
variable {T:ai} {D:List Bool} {d:Nat}
theorem dM(hv:ao T=true){a:Nat}(ha:a<2*T.af.length):∃m:Nat,aS T a=(m:Int)∧(m:Int)<T.nodes:=by
 obtain⟨h0,h1⟩:=(aJ hv).head a ha
 obtain⟨m,hm⟩:=Int.eq_ofNat_of_zero_le h0
 exact⟨m,hm,by rw[←hm];exact h1⟩
theorem jW(hv:ao T=true)(hd:(d:Int)<T.nodes):dN T D d d=0:=AI hv hd
theorem HZ(hv:ao T=true)(hd:(d:Int)<T.nodes){x:Nat}(hx:(x:Int)<T.nodes): -1≤dN T D d x∧dN T D d x≤4194240:=by
 obtain⟨h1,h2⟩:=eo (D:=D) hv (dir:=false) hd
 exact h2 _ (bU (by omega))
theorem iN.dN{n a m:Nat}(h:iN T D n d a)(hm:aS T a=(m:Int)):0≤dN T D d m∧dN T D d n=dN T D d m+cF T a:=by
 have h1:=h.reach
 have h2:=h.sum
 rw[hm,Int.toNat_natCast]at h1 h2
 exact⟨h1,h2⟩
theorem iN.node(hv:ao T=true){n a:Nat}(h:iN T D n d a):(n:Int)<T.nodes:=by rw[←h.tail];exact((aJ hv).tail a h.gH).2
theorem SP.node(hv:ao T=true)(hd:(d:Int)<T.nodes){n:Nat}{p:List Int}(h:SP T D d n p):(n:Int)<T.nodes:=by
 cases h with
 |nil=>exact hd
 |cons h1 _ _=>exact h1.node hv
theorem SP.cost(hv:ao T=true)(hd:(d:Int)<T.nodes){n:Nat}{p:List Int}(h:SP T D d n p):dN T D d n=cT T p∧0≤dN T D d n:=by
 induction h with
 |nil=>rw[jW hv hd];exact⟨rfl,Int.le_refl _⟩
 |cons h1 hm _ ih=>
  obtain⟨g1,g2⟩:=h1.dN hm
  have:=(aJ hv).cost _ h1.gH
  rw[fy,Int.toNat_natCast]
  omega
theorem SP.self{p:List Int}(h:SP T D d d p):p=[]:=by
 cases h with
 |nil=>rfl
 |cons h1 _ _=>exact absurd rfl h1.ne
theorem SP.len(hv:ao T=true)(hd:(d:Int)<T.nodes){n:Nat}{p:List Int}(h:SP T D d n p):(p.length:Int)≤dN T D d n:=by
 induction h with
 |nil=>rw[jW hv hd];simp
 |cons h1 hm _ ih=>
  obtain⟨g1,g2⟩:=h1.dN hm
  have:=(aJ hv).cost _ h1.gH
  simp only[List.length_cons]
  omega
theorem SP.ch{n:Nat}{p:List Int}(h:SP T D d n p):Ch T D d n p:=by
 induction h with
 |nil=>exact .nil
 | @cons n a m p h1 hm hp ih=>
  refine .cons h1.gH h1.tail h1.up hm ?_ ih
  rcases h1.pass with hx|hx
  ·have:m=d:=by rw[hm]at hx;omega
   subst this
   exact .inl hp.self
  ·rw[hm,Int.toNat_natCast]at hx;exact .inr hx
theorem C1(hv:ao T=true)(hd:(d:Int)<T.nodes){n a m:Nat}(ha:a<2*T.af.length)(ht:bq T a=(n:Int))(hu:aX D a=false)(hm:aS T a=(m:Int))(ho:m=d∨dc T m=false)(h0:0≤dN T D d m):0≤dN T D d n∧dN T D d n≤dN T D d m+cF T a:=by
 have hS:=aJ hv
 have hI:=jL hS D false hd
 have hmN:(m:Int)<T.nodes:=by rw[←hm];exact(hS.head a ha).2
 have hnN:(n:Int)<T.nodes:=by rw[←ht];exact(hS.tail a ha).2
 have e1:=nx (D:=D) hv hd hnN
 have e2:=nx (D:=D) hv hd hmN
 have:=hI.closed a ha ⟨hu,by simp only[cN,Bool.false_eq_true,if_false];rw[hm,←e2];exact h0,by
  simp only[cN,Bool.false_eq_true,if_false];rw[hm]
  rcases ho with h|h
  ·exact .inl (by rw[h])
  ·exact .inr (by simpa using h)⟩
 simp only[fj,cN,Bool.false_eq_true,if_false]at this
 rw[hm,ht,←e1,←e2]at this
 exact this
theorem Ch.node(hv:ao T=true)(hd:(d:Int)<T.nodes){n:Nat}{p:List Int}(h:Ch T D d n p):(n:Int)<T.nodes:=by
 cases h with
 |nil=>exact hd
 |cons h1 ht _ _ _ _=>rw[←ht];exact((aJ hv).tail _ h1).2
theorem Ch.to{n:Nat}{p:List Int}(h:Ch T D d n p):p=[]→n=d:=by
 cases h with
 |nil=>intro _;rfl
 |cons=>intro h;cases h
theorem Ch.le(hv:ao T=true)(hd:(d:Int)<T.nodes){n:Nat}{p:List Int}(h:Ch T D d n p):0≤dN T D d n∧dN T D d n≤cT T p:=by
 induction h with
 |nil=>rw[jW hv hd];exact⟨Int.le_refl _,Int.le_refl _⟩
 | @cons n a m p ha ht hu hm ho hp ih=>
  have:=C1 hv hd ha ht hu hm (by rcases ho with h|h;exact .inl (hp.to h);exact .inr h) ih.1
  rw[fy,Int.toNat_natCast]
  omega
theorem Ch.sp(hv:ao T=true)(hd:(d:Int)<T.nodes){n:Nat}{p:List Int}(h:Ch T D d n p)(hc:dN T D d n=cT T p):SP T D d n p:=by
 induction h with
 |nil=>exact .nil
 | @cons n a m p ha ht hu hm ho hp ih=>
  have ho':m=d∨dc T m=false:=by rcases ho with h|h;exact .inl (hp.to h);exact .inr h
  have h1:=hp.le hv hd
  have h2:=C1 hv hd ha ht hu hm ho' h1.1
  rw[fy,Int.toNat_natCast]at hc
  have h3:=(aJ hv).cost a ha
  refine .cons ⟨ha,ht,hu,?_,?_,?_,?_⟩ hm (ih (by omega))
  ·rintro rfl;rw[jW hv hd]at hc h2;omega
  ·rw[hm,Int.toNat_natCast];exact h1.1
  ·rw[hm];rcases ho' with h|h;exact .inl (by rw[h]);exact .inr (by simpa using h)
  ·rw[hm,Int.toNat_natCast];show dN T D d n=dN T D d m+cF T a;omega
noncomputable def fO(T:ai)(D:List Bool)(d:Nat):Nat→Nat→List Int
 |0,_=>[]
 |f+1,n=>match bL T D n d with
  | []=>[]
  |a::_=>a::fO T D d f (aS T a.toNat).toNat
noncomputable def ct(T:ai)(D:List Bool)(n d:Nat):List Int:=fO T D d (dN T D d n).toNat n
theorem pW{n:Nat}(h:dN T D d n<0):bL T D n d=[]:=by unfold bL;rw[if_pos (.inr h)]
theorem vA(hv:ao T=true)(hd:(d:Int)<T.nodes):∀(f n:Nat),(n:Int)<T.nodes→0≤dN T D d n→dN T D d n≤f→SP T D d n (fO T D d f n)
 |f,n,hn,h0,hf=>by
  by_cases hne:n=d
  ·subst hne
   have:fO T D n f n=[]:=by cases f with|zero=>rfl|succ f=>simp only[fO,jE]
   rw[this];exact .nil
  ·obtain⟨k,hk⟩:=lx (D:=D) hv hn hd hne h0
   cases f with
   |zero=>
    obtain⟨m,hm,_⟩:=dM hv hk.gH
    have:=hk.dN hm
    have:=(aJ hv).cost k hk.gH
    omega
   |succ f=>
    simp only[fO]
    have hmem:=fW hk ((aJ hv).cost k hk.gH).1
    cases hx:bL T D n d with
    |nil=>rw[hx]at hmem;cases hmem
    |cons a l=>
     obtain⟨b,hb,hbn⟩:=ec (T:=T) (D:=D) (n:=n) (d:=d) (a:=a) (by rw[hx];simp)
     subst hb
     obtain⟨m,hm,hmN⟩:=dM hv hbn.gH
     have g:=hbn.dN hm
     have:=(aJ hv).cost b hbn.gH
     simp only[Int.toNat_natCast,hm]
     exact .cons hbn hm (vA hv hd f m hmN g.1 (by omega))
theorem ee(hv:ao T=true)(hd:(d:Int)<T.nodes){n:Nat}(hn:(n:Int)<T.nodes)(h0:0≤dN T D d n):SP T D d n (ct T D n d):=vA hv hd _ n hn h0 (by omega)
noncomputable def mb(T:ai)(D:List Bool)(d:Nat):Nat→Nat→Int
 |0,m=>if m=d then 1 else 0
 |f+1,m=>if m=d then 1 else(bL T D m d).foldl (fun c a=>min 2 (c+mb T D d f (aS T a.toNat).toNat)) 0
noncomputable def dz(T:ai)(D:List Bool)(d m:Nat):Int:=mb T D d (dN T D d m).toNat m
theorem foldl_congr{α β:Type}{f g:α→β→α}:∀ {l:List β} {a:α},(∀a b,b∈l→f a b=g a b)→l.foldl f a=l.foldl g a
 | [],_,_=>rfl
 |b::l,a,h=>by simp only[List.foldl_cons,h a b (by simp)];exact foldl_congr fun a c hc=>h a c (by simp[hc])
theorem lG(hv:ao T=true)(hd:(d:Int)<T.nodes):∀(K m f:Nat),(m:Int)<T.nodes→dN T D d m≤K→dN T D d m≤f→mb T D d f m=dz T D d m
 |K,m,f,hmN,hK,hf=>by
  unfold dz
  by_cases hmd:m=d
  ·subst hmd
   cases f<;>cases(dN T D m m).toNat<;>simp[mb]
  ·by_cases h0:dN T D d m<0
   ·have hx:=pW h0
    rw[show(dN T D d m).toNat=0 by omega]
    cases f<;>simp[mb,hmd,hx]
   ·obtain⟨k,hk⟩:=lx (D:=D) hv hmN hd hmd (by show 0≤dN T D d m;omega)
    have hpos:0<dN T D d m:=by
     obtain⟨m',hm',_⟩:=dM hv hk.gH
     have:=hk.dN hm'
     have:=(aJ hv).cost k hk.gH
     omega
    obtain⟨g,hg⟩:∃g,(dN T D d m).toNat=g+1:=⟨(dN T D d m).toNat - 1,by omega⟩
    cases f with
    |zero=>omega
    |succ f=>
     cases K with
     |zero=>omega
     |succ K=>
      rw[hg]
      simp only[mb,if_neg hmd]
      refine foldl_congr fun c a ha=>?_
      obtain⟨b,rfl,hbn⟩:=ec ha
      obtain⟨m',hm',hmN'⟩:=dM hv hbn.gH
      have g1:=hbn.dN hm'
      have g2:=(aJ hv).cost b hbn.gH
      rw[Int.toNat_natCast,hm',Int.toNat_natCast,lG hv hd K m' f hmN' (by omega) (by omega),lG hv hd K m' g hmN' (by omega) (by omega)]
theorem nc(m:Nat):dz T D m m=1:=by unfold dz;cases(dN T D m m).toNat<;>simp[mb]
theorem qk(hv:ao T=true)(hd:(d:Int)<T.nodes){m:Nat}(hmN:(m:Int)<T.nodes)(hmd:m≠d):dz T D d m=(bL T D m d).foldl (fun c a=>min 2 (c+dz T D d (aS T a.toNat).toNat)) 0:=by
 by_cases h0:dN T D d m<0
 ·unfold dz
  rw[pW h0,show(dN T D d m).toNat=0 by omega]
  simp[mb,hmd]
 ·have h1:=lG (D:=D) hv hd (dN T D d m).toNat m ((dN T D d m).toNat+1) hmN (by omega) (by omega)
  rw[←h1]
  simp only[mb,if_neg hmd]
  refine foldl_congr fun c a ha=>?_
  obtain⟨b,rfl,hbn⟩:=ec ha
  obtain⟨m',hm',hmN'⟩:=dM hv hbn.gH
  have g1:=hbn.dN hm'
  have g2:=(aJ hv).cost b hbn.gH
  rw[Int.toNat_natCast,hm',Int.toNat_natCast,lG hv hd (dN T D d m).toNat m' _ hmN' (by omega) (by omega)]
theorem yt(hv:ao T=true)(hd:(d:Int)<T.nodes){m:Nat}(hmN:(m:Int)<T.nodes)(h0:dN T D d m<0):dz T D d m=0:=by
 have hmd:m≠d:=by rintro rfl;rw[jW hv hd]at h0;omega
 rw[qk hv hd hmN hmd,pW h0];rfl
theorem nC(g:Int→Int)(hg:∀a,0≤g a):∀(l:List Int) (c:Int),0≤c→c≤2→0≤l.foldl (fun c a=>min 2 (c+g a)) c∧l.foldl (fun c a=>min 2 (c+g a)) c≤2
 | [],c,h0,h2=>⟨h0,h2⟩
 |a::l,c,h0,h2=>by
  have:=hg a
  exact nC g hg l _ (show 0≤min 2 (c+g a) by omega) (show min 2 (c+g a)≤2 by omega)
theorem py(g:Int→Int)(hg:∀a,0≤g a):∀(l:List Int) (c:Int),c≤2→c≤l.foldl (fun c a=>min 2 (c+g a)) c
 | [],c,_=>Int.le_refl _
 |a::l,c,h2=>by
  have:=hg a
  have:=py g hg l (min 2 (c+g a)) (by omega)
  simp only[List.foldl_cons]
  omega
theorem rT(hv:ao T=true)(hd:(d:Int)<T.nodes):∀(f m:Nat),0≤mb T D d f m∧mb T D d f m≤2
 |0,m=>by simp only[mb];split<;>omega
 |f+1,m=>by
  simp only[mb]
  split
  ·omega
  ·exact nC (fun a=>mb T D d f (aS T a.toNat).toNat) (fun a=>(rT hv hd f _).1) _ 0 (by omega) (by omega)
theorem jZ(hv:ao T=true)(hd:(d:Int)<T.nodes)(m:Nat):0≤dz T D d m∧dz T D d m≤2:=rT hv hd _ m
theorem yx(hv:ao T=true)(hd:(d:Int)<T.nodes):∀(K m:Nat),(m:Int)<T.nodes→0≤dN T D d m→dN T D d m≤K→1≤dz T D d m
 |K,m,hmN,h0,hK=>by
  by_cases hmd:m=d
  ·subst hmd;rw[nc];omega
  ·obtain⟨k,hk⟩:=lx (D:=D) hv hmN hd hmd h0
   have hmem:=fW hk ((aJ hv).cost k hk.gH).1
   obtain⟨m',hm',hmN'⟩:=dM hv hk.gH
   have g1:=hk.dN hm'
   have g2:=(aJ hv).cost k hk.gH
   cases K with
   |zero=>omega
   |succ K=>
    have hp:=yx hv hd K m' hmN' g1.1 (by omega)
    rw[qk hv hd hmN hmd]
    obtain⟨l1,l2,hl⟩:=List.append_of_mem hmem
    rw[hl,List.foldl_append,List.foldl_cons]
    have hg:∀a:Int,0≤dz T D d (aS T a.toNat).toNat:=fun a=>(jZ hv hd _).1
    have a1:=nC (fun a=>dz T D d (aS T a.toNat).toNat) hg l1 0 (by omega) (by omega)
    have a2:=py (fun a=>dz T D d (aS T a.toNat).toNat) hg l2 (min 2 (l1.foldl (fun c a=>min 2 (c+dz T D d (aS T a.toNat).toNat)) 0+dz T D d (aS T (k:Int).toNat).toNat)) (by omega)
    rw[Int.toNat_natCast,hm',Int.toNat_natCast]at a2
    rw[Int.toNat_natCast,hm',Int.toNat_natCast]
    omega
theorem tQ(hv:ao T=true)(hd:(d:Int)<T.nodes){m:Nat}(hmN:(m:Int)<T.nodes)(hmd:m≠d)(h:dz T D d m=1):∃a:Nat,bL T D m d=[(a:Int)]∧iN T D m d a∧∀k:Nat,aS T a=(k:Int)→dz T D d k=1:=by
 rw[qk hv hd hmN hmd]at h
 have hg:∀a:Int,0≤dz T D d (aS T a.toNat).toNat:=fun a=>(jZ hv hd _).1
 have hone:∀a∈bL T D m d,1≤dz T D d (aS T a.toNat).toNat:=fun a ha=>by
  obtain⟨b,rfl,hb⟩:=ec ha
  obtain⟨m',hm',hmN'⟩:=dM hv hb.gH
  have g1:=hb.dN hm'
  rw[Int.toNat_natCast,hm',Int.toNat_natCast]
  exact yx hv hd (dN T D d m').toNat m' hmN' g1.1 (by omega)
 cases hx:bL T D m d with
 |nil=>rw[hx]at h;simp at h
 |cons a l=>
  obtain⟨b,rfl,hb⟩:=ec (T:=T) (D:=D) (n:=m) (d:=d) (a:=a) (by rw[hx];simp)
  have h1:=hone b (by rw[hx];simp)
  rw[hx,List.foldl_cons]at h
  cases l with
  |nil=>
   refine⟨b,rfl,hb,fun k hk=>?_⟩
   simp only[List.foldl_nil,Int.toNat_natCast,hk]at h h1
   omega
  |cons a2 l=>
   have h2:=hone a2 (by rw[hx];simp)
   rw[List.foldl_cons]at h
   have:=py (fun a=>dz T D d (aS T a.toNat).toNat) hg l (min 2 (min 2 (0+dz T D d (aS T (b:Int).toNat).toNat)+dz T D d (aS T a2.toNat).toNat)) (by omega)
   omega
theorem wq(hv:ao T=true)(hd:(d:Int)<T.nodes){m a k:Nat}(hmN:(m:Int)<T.nodes)(hmd:m≠d)(hx:bL T D m d=[(a:Int)])(hk:aS T a=(k:Int))(h:dz T D d k=1):dz T D d m=1:=by
 rw[qk hv hd hmN hmd,hx]
 simp only[List.foldl_cons,List.foldl_nil,Int.toNat_natCast,hk,h]
 omega
theorem SP.unique(hv:ao T=true)(hd:(d:Int)<T.nodes){n:Nat}{p q:List Int}(h:SP T D d n p)(hq:SP T D d n q)(hc:dz T D d n=1):p=q:=by
 induction h generalizing q with
 |nil=>exact hq.self.symm
 | @cons n a m p h1 hm hp ih=>
  cases hq with
  |nil=>exact absurd rfl h1.ne
  | @cons _ a' m' q h1' hm' hq=>
   obtain⟨b,hb,_,hb2⟩:=tQ hv hd (h1.node hv) h1.ne hc
   have e1:=fW h1 ((aJ hv).cost a h1.gH).1
   have e2:=fW h1' ((aJ hv).cost a' h1'.gH).1
   rw[hb]at e1 e2
   simp only[List.mem_singleton]at e1 e2
   have ea:a=b:=by omega
   have ea':a'=b:=by omega
   subst ea
   subst ea'
   have em:m=m':=by rw[hm]at hm';omega
   subst em
   rw[ih hq (hb2 m hm)]
noncomputable def eL(T:ai)(D:List Bool)(n d:Int):Bool:=decide (cB T D n d=0)&&decide (dz T D d.toNat n.toNat=1)
theorem SP.Cr(hv:ao T=true)(hd:(d:Int)<T.nodes){n:Nat}{p:List Int}(h:SP T D d n p):(p.length:Int)<T.nodes:=by
 have key:∃l:List Nat,l.length=p.length+1∧l.Nodup∧(∀x∈l,(x:Int)<T.nodes∧dN T D d x≤dN T D d n):=by
  induction h with
  |nil=>exact⟨[d],rfl,by simp,fun x hx=>by simp at hx;subst hx;exact⟨hd,Int.le_refl _⟩⟩
  | @cons n a m p h1 hm hp ih=>
   obtain⟨l,e1,e2,e3⟩:=ih
   have g1:=h1.dN hm
   have g2:=(aJ hv).cost a h1.gH
   refine⟨n::l,by simp[e1],List.nodup_cons.2 ⟨fun hn=>by have:=(e3 n hn).2;omega,e2⟩,fun x hx=>?_⟩
   cases hx with
   |head=>exact⟨h1.node hv,Int.le_refl _⟩
   |tail _ hx=>have:=e3 x hx;exact⟨this.1,by omega⟩
 obtain⟨l,e1,e2,e3⟩:=key
 have hN:=(aJ hv).nodes
 have:=pa T.nodes.toNat l e2 (fun x hx=>by have:=(e3 x hx).1;omega)
 omega
end
end PW
end Go.Proofs.YtnegbdpggideiaaGreatDoor
namespace Go.Proofs.YtnegbdpggideiaaGreatDoor
namespace PW
open Go.RowKit cA Mem Net
def db(T:ai):Bool→Int→List Int→Int
 |_,_,[]=>0
 |f,n,a::l=>if eR T a=false then 2 else if bq T a.toNat≠n∨(f=false∧dc T n.toNat=true) then 4 else db T false (aS T a.toNat) l
def eT(T:ai)(n:Int)(l:List Int):Int:=if ao T then(if bu T n then db T true n l else 2) else 1
def b7(T:ai):Int→List Int→Int
 |n,[]=>n
 |_,a::l=>b7 T (aS T a.toNat) l
def oE(T:ai)(n:Int)(l:List Int):PV:=.tuple [num (if eT T n l=0 then b7 T n l else 0),num (if eT T n l=0 then cT T l else 0),num (eT T n l)]
theorem gR(T:ai):∀(n:Int) (l m:List Int),b7 T n (l++m)=b7 T (b7 T n l) m
 |_,[],_=>rfl
 |_,a::l,m=>gR T _ l m
theorem drop_cons(l:List Int)(k:Nat)(h:k<l.length):l.drop k=l.getD k 0::l.drop (k+1):=by
 rw[List.drop_eq_getElem_cons h,List.getD_eq_getElem?_getD,List.getElem?_eq_getElem h];rfl
theorem fF(T:ai)(n:Int)(l:List Int)(k:Nat)(h:k<l.length):b7 T n (l.take (k+1))=aS T (l.getD k 0).toNat:=by
 rw[df l k 0 h,gR];rfl
theorem mK(T:ai)(l:List Int)(k:Nat)(h:k<l.length):cT T (l.take (k+1))=cT T (l.take k)+cF T (l.getD k 0).toNat:=by
 rw[df l k 0 h,fU];simp[fy,jz]
theorem om{T:ai}{f:Bool}{n a:Int}{l:List Int}(h1:eR T a=true)(h2:bq T a.toNat=n)(h3:f=true∨dc T n.toNat=false):db T f n (a::l)=db T false (aS T a.toNat) l:=by
 simp only[db]
 rw[if_neg (by rw[h1];simp),if_neg]
 rintro(h|⟨h,h'⟩)
 ·exact h h2
 ·rcases h3 with h3|h3
  ·rw[h3]at h;cases h
  ·rw[h3]at h';cases h'
theorem Cf{T:ai}{f:Bool}{n a:Int}{l:List Int}(h1:eR T a=true)(h2:bq T a.toNat≠n∨(f=false∧dc T n.toNat=true)):db T f n (a::l)=4:=by
 simp only[db]
 rw[if_neg (by rw[h1];simp),if_pos h2]
theorem sn(T:ai)(hl:T.af.length≤4611686018427387902)(a:Int)(h:eR T a=true):Can Tryz.prog 150 [aP T,num a] (· =num (aS T a.toNat)):=by
 obtain⟨h0,h1⟩:=cI.1 h
 obtain⟨a,rfl⟩:=Int.eq_ofNat_of_zero_le h0
 exact fu T a (by omega) hl
theorem zB(T:ai)(a:Int)(h:eR T a=true):Can Tryz.prog 149 [aP T,num a] (· =num (cF T a.toNat)):=by
 obtain⟨h0,h1⟩:=cI.1 h
 obtain⟨a,rfl⟩:=Int.eq_ofNat_of_zero_le h0
 exact kD T a (by omega)
theorem ju{T:ai}(hv:ao T=true){a:Int}(h:eR T a=true):(1≤cF T a.toNat∧cF T a.toNat≤65535)∧∃m:Nat,aS T a.toNat=(m:Int)∧(m:Int)<T.nodes:=by
 obtain⟨h0,h1⟩:=cI.1 h
 have hl:a.toNat<2*T.af.length:=by omega
 exact⟨(aJ hv).cost _ hl,dM hv hl⟩
theorem yU{T:ai}(hv:ao T=true){x:Nat}(hx:(x:Int)<T.nodes):T.over.length=0∨x<T.over.length:=by have:=(gQ hv).2.2.2;omega
theorem u9(T:ai)(n:Int)(l:List Int)(hl:l.length≤1000000):Can Tryz.prog 120 [aP T,num n,ax l] (· =oE T n l):=by
 refine aF Tryz.func120 rfl Tryz.ntmps120 rfl<|ab (.a 4 rfl<|.k [1,2,3,7] rfl)<|aj<|ab (.a 1 rfl<|.c rfl (de T) rfl<|.a 1 rfl<|.k [1,2,3,7,13] rfl)<|ah rfl (fun hc=>?_) (fun hc=>?_)
 ·have hv:ao T=false:=by simpa using hc
  have hX:eT T n l=1:=by unfold eT;rw[hv];rfl
  unfold oE
  rw[hX]
  exact ab (.a 3 rfl<|.k [6,7,8] rfl)<|aq<|⟨_,_,aA.of rfl,aB.pure,rfl⟩
 ·have hv:ao T=true:=by simpa using hc
  have hll:=bN hv
  refine ak<|aj<|ab (.a 2 rfl<|.c rfl (da T n) rfl<|.a 1 rfl<|.k [1,2,3,7,17] rfl)<|ah rfl (fun hc=>?_) (fun hc=>?_)
  ·have hn:bu T n=false:=by simpa using hc
   have hX:eT T n l=2:=by unfold eT;rw[hv,hn];rfl
   unfold oE
   rw[hX]
   exact ab (.a 3 rfl<|.k [6,7,8] rfl)<|aq<|⟨_,_,aA.of rfl,aB.pure,rfl⟩
  ·have hn:bu T n=true:=by simpa using hc
   have hX:eT T n l=db T true n l:=by unfold eT;rw[hv,hn];rfl
   obtain⟨hn0,hn1⟩:=aW.1 hn
   obtain⟨n,rfl⟩:=Int.eq_ofNat_of_zero_le hn0
   refine ak<|ab (.a 2 rfl<|.k [2,3,6,7] rfl)<|aj<|ab (.a 3 rfl<|.k [3,6,7,19,20,21] rfl)<|av<|eZ [3,6,7,19,20,21] rfl<|bw (fun r s=>∃(k x:Nat),k≤l.length∧r=l.length - k∧b7 T n (l.take k)=(x:Int)∧(x:Int)<T.nodes∧0≤cT T (l.take k)∧cT T (l.take k)≤65535*(k:Int)∧db T true n l=db T (decide (k=0)) x (l.drop k)∧s=⟨[(3,.aV (bx T) 0),(6,num x),(7,num (cT T (l.take k))),(19,ax l),(20,num l.length),(21,num k)],[]⟩) l.length ⟨0,n,by omega,by omega,rfl,hn1,by simp[jz],by simp[jz],rfl,rfl⟩ ?_
   rintro r s ⟨k,x,hk,rfl,hx,hxN,hc0,hc1,hw,rfl⟩
   refine ab (.a 1 rfl<|.k [3,6,7,19,20,21,22] rfl)<|aj<|ah rfl (fun hy=>?_) (fun hy=>?_)
   ·have hlt:k<l.length:=by have:=tt hy;omega
    rw[drop_cons l k hlt]at hw
    obtain⟨p1,hp1⟩:∃q,eR T (l.getD k 0)=q:=⟨_,rfl⟩
    have ha:=o7 T (by omega) (l.getD k 0)
    rw[hp1]at ha
    refine ak<|aj<|av<|ab (.a 1 rfl<|.v (aI (k) rfl) rfl<|.v (aL rfl (aD l k hlt)) rfl<|.a 2 rfl<|.k [3,6,7,9,10,19,20,21] rfl)<|aj<|ab (.a 2 rfl<|.c rfl (ha) rfl<|.a 1 rfl<|.k [3,6,7,9,10,19,20,21,29] rfl)<|ah rfl (fun hz=>?_) (fun hz=>?_)
    ·have h1:p1=false:=by simpa using hz
     subst h1
     have hw2:db T true n l=2:=by rw[hw];simp only[db];rw[if_pos hp1]
     unfold oE
     rw[hX,hw2]
     exact ab (.a 3 rfl<|.k [6,7,8] rfl)<|aq<|⟨_,_,aA.of rfl,aB.pure,rfl⟩
    ·have h1:p1=true:=by simpa using hz
     subst h1
     obtain⟨⟨hco0,hco1⟩,y,hyh,hyN⟩:=ju hv hp1
     have hsN:=fF T n l k hlt
     have hsC:=mK T l k hlt
     obtain⟨p2,hp2⟩:∃q,decide (bq T (l.getD k 0).toNat≠(x:Int))=q:=⟨_,rfl⟩
     obtain⟨p3,hp3⟩:∃q,decide (0<(k:Int))=q:=⟨_,rfl⟩
     obtain⟨p4,hp4⟩:∃q,dc T x=q:=⟨_,rfl⟩
     refine ak<|aj<|bC 43 (.raw (.bool (p2||(p3&&p4)))) [3,7,10,19,20,21] rfl ?_ ?_
     ·refine .a 2 rfl<|.c rfl (lF T _ hp1) rfl<|.a 1 rfl<|.v (cC rfl (hp2)) rfl<|.a 1 rfl<|?_
      cases p2
      ·refine .a 1 rfl<|.v (cC rfl (hp3)) rfl<|.a 1 rfl<|?_
       cases p3
       ·exact .a 5 rfl<|.k [43,3,7,10,19,20,21] rfl
       ·exact .a 2 rfl<|.c rfl (hp4▸nv T x (yU hv hxN)) rfl<|.a 2 rfl<|.k [43,3,7,10,19,20,21] rfl
      ·exact .a 8 rfl<|.k [43,3,7,10,19,20,21] rfl
     refine ah rfl (fun hb=>?_) (fun hb=>?_)
     ·have hw4:db T true n l=4:=by
       rw[hw]
       refine Cf hp1 ?_
       rcases Bool.or_eq_true_iff.1 hb with h|h
       ·rw[h]at hp2;exact .inl (tt hp2)
       ·obtain⟨h3,h4⟩:=Bool.and_eq_true_iff.1 h
        rw[h3]at hp3
        rw[h4]at hp4
        exact .inr ⟨decide_eq_false (by have:=tt hp3;omega),by rw[Int.toNat_natCast];exact hp4⟩
      unfold oE
      rw[hX,hw4]
      exact ab (.a 3 rfl<|.k [6,7,8] rfl)<|aq<|⟨_,_,aA.of rfl,aB.pure,rfl⟩
     ·obtain⟨b2,b3⟩:=Bool.or_eq_false_iff.1 hb
      rw[b2]at hp2
      have ht:bq T (l.getD k 0).toNat=(x:Int):=Classical.byContradiction (ff hp2)
      have hws:=om (T:=T) (f:=decide (k=0)) (n:=(x:Int)) (l:=l.drop (k+1)) hp1 ht (by
       rcases Bool.and_eq_false_iff.1 b3 with h|h
       ·rw[h]at hp3;exact .inl (decide_eq_true (by have:=ff hp3;omega))
       ·rw[h]at hp4;exact .inr (by rw[Int.toNat_natCast];exact hp4))
      rw[hws,hyh]at hw
      have hh:=sn T (by omega) _ hp1
      rw[hyh]at hh
      refine ak<|ab (.a 2 rfl<|.c rfl (hh) rfl<|.a 1 rfl<|.k [3,6,7,10,19,20,21] rfl)<|ay (.a 3 rfl<|.c rfl (zB T _ hp1) rfl<|.v (aR rfl (hc:=hsC.symm) (hn:=by unfold In64;omega)) rfl<|.a 1 rfl<|.k [3,6,7,19,20,21] rfl) ?_
      refine ay (.v (aR rfl) rfl<|.a 1 rfl<|.k [3,6,7,19,20,21] rfl) ?_
      exact⟨l.length - (k+1),by omega,k+1,y,by omega,rfl,by rw[hsN,hyh],hyN,by omega,by omega,by rw[hw];rfl,rfl⟩
   ·have hke:k=l.length:=by have:=ff hy;omega
    subst hke
    rw[List.drop_length]at hw
    rw[List.take_length]at hx ⊢
    unfold oE
    rw[hX,hw]
    simp only[db,if_true]
    rw[hx]
    exact bn<|ab (.a 5 rfl<|.k [6,7,8] rfl)<|aq<|⟨_,_,aA.of rfl,aB.pure,rfl⟩
end PW
end Go.Proofs.YtnegbdpggideiaaGreatDoor
namespace Go.Proofs.YtnegbdpggideiaaGreatDoor
namespace PW
open Go.RowKit cA Mem Net
theorem kU(T:ai)(hv:ao T=true):Can Tryz.prog 201 [aP T] (· =iX (cZ (bq T) T.nodes.toNat (2*T.af.length))):=by
 have hbd:=gQ hv
 have hS:=aJ hv
 obtain⟨n,hn⟩:∃n:Nat,T.nodes=(n:Int):=⟨T.nodes.toNat,by omega⟩
 rw[show T.nodes.toNat=n by omega]
 refine aF Tryz.func201 rfl Tryz.ntmps201 rfl<|ab (.a 2 rfl<|.k [1] rfl)<|aQ<|au 2 rfl<|ca (dB rfl (bE.rk.get rfl) rfl rfl hn hn ⟨by unfold maxLen;omega,by omega⟩) rfl<|au 1 rfl<|aH [1,3] rfl ?_
 refine oI 37 3 n ?_
 refine aj<|ab (.a 1 rfl<|.c rfl (gO T (by omega)) rfl<|.a 1 rfl<|.k [1,3,10,11] rfl)<|av<|eZ [1,3,10,11] rfl<|bw (fun r s=>∃k,k≤2*T.af.length∧r=2*T.af.length - k∧s=⟨[(1,.aV (bx T) 0),(3,.own 0),(10,num (2*(T.af.length:Int))),(11,num k)],kr 37 3 (cZ (bq T) n k)⟩) (2*T.af.length) ⟨0,by omega,by omega,by rw[pY];rfl⟩ ?_
 rintro r s ⟨k,hk,rfl,rfl⟩
 refine ab (.a 1 rfl<|.k [1,3,10,11,12] rfl)<|aj<|ah rfl (fun hc=>?_) (fun hc=>?_)
 ·have hlt:k<2*T.af.length:=by have:=of_decide_eq_true hc;omega
  obtain⟨hd0,hhN⟩:=hS.tail k hlt
  obtain⟨m,hm⟩:=Int.eq_ofNat_of_zero_le hd0
  have hmn:m<n:=by omega
  have hrl:=eG (bq T) n k
  have hgl:((cZ (bq T) n k).getD m []).length≤k:=by
   rw[iD _ _ _ _ hmn]
   simp only[List.length_map]
   exact Nat.le_trans (List.length_filter_le _ _) (by simp)
  refine ak<|aj<|av<|ab (.a 2 rfl<|.k [1,3,4,10,11] rfl)<|ab (.a 2 rfl<|.c rfl (hm▸iK T k hlt) rfl<|.a 1 rfl<|.k [1,3,4,5,10,11] rfl)<|ba<|au 4 rfl<|bz (aI (m) rfl) rfl<|bz (aL rfl (kE _ m (by omega))) rfl<|au 2 rfl<|ca (aY rfl (bE.rk.get rfl) rfl (ld _ _ _ m (by omega)) rfl rfl ⟨by unfold maxLen;omega,by omega⟩) rfl<|bz (aI (m) rfl) rfl<|br (cH rfl (bE.tk.get rfl) rfl rfl rfl (by show m<(fr _).length;simp[fr];omega)) rfl rfl<|aH [1,3,10,11] rfl ?_
  refine cU (DB (cZ (bq T) n k).length m) (.cons 1 rfl Ren.pure<|.cons 3 rfl (Ren.own (i:=0) rfl)<|.cons 10 rfl Ren.pure<|.cons 11 rfl Ren.pure<|.nil) (uu 37 3 (cZ (bq T) n k) m (by omega) (k:Int)) (rz _ _) rfl ?_
  rw[←qB (bq T) n k m hm hmn]
  refine ay (.v (aR rfl) rfl<|.a 1 rfl<|.k [1,3,10,11] rfl) ?_
  exact⟨2*T.af.length - (k+1),by omega,k+1,by omega,rfl,rfl⟩
 ·have hke:k=2*T.af.length:=by have:=of_decide_eq_false hc;omega
  subst hke
  exact bn<|ab (.a 2 rfl<|.k [2] rfl)<|aq<|⟨_,_,aA.of rfl,uJ _ _ _,rfl⟩
end PW
end Go.Proofs.YtnegbdpggideiaaGreatDoor
namespace Go.Proofs.YtnegbdpggideiaaGreatDoor
namespace PW
open Go.RowKit cA Mem Net
theorem uy(T:ai)(m:Nat)(hm:m<T.nodes.toNat):(cZ (bq T) T.nodes.toNat (2*T.af.length)).getD m []=bm T m:=by
 rw[iD _ _ _ _ hm]
 unfold bm fH
 exact congrArg (List.map Int.ofNat) (List.filter_congr fun a _=>Bool.eq_iff_iff.2 (by simp))
theorem sc(rs:List (List Int))(i:Nat)(h:i<rs.length):(rs.map ax)[i]? =some (ax (rs.getD i [])):=by simp[h]
theorem Ff(T:ai)(D:List Bool)(s d:Int):cO T D [s,d]=cB T D s d:=by
 unfold cB cO
 by_cases h:(ao T&&bX T D)=true
 ·rw[if_pos h]
  by_cases hs:bu T s=true<;>by_cases hd:bu T d=true<;>simp[h,hs,hd]
 ·rw[if_neg h]
  have:(ao T&&bX T D)=false:=by simpa using h
  simp[this]
noncomputable def ir(T:ai)(D:List Bool)(s d:Int):Int:=if cB T D s d=0 then(if dN T D d.toNat s.toNat<0 then 11 else 0) else cB T D s d
theorem wI{T:ai}{D:List Bool}{m d j:Nat}(hne:m≠d)(h0:0≤dN T D d m)(hj:j<(bm T m).length)(hno:∀i,i<j→gV T D (bK T D d false) (dN T D d m) d ((bm T m).getD i 0).toNat=false)(hy:gV T D (bK T D d false) (dN T D d m) d ((bm T m).getD j 0).toNat=true):∃l,bL T D m d=(bm T m).getD j 0::l:=by
 unfold bL
 rw[if_neg (by rintro(h|h);exact hne h;exact absurd h (by show ¬dN T D d m<0;omega))]
 have h1:((bm T m).take j).filter (fun a=>gV T D (bK T D d false) (dN T D d m) d a.toNat)=[]:=by
  rw[List.filter_eq_nil_iff]
  intro a ha
  obtain⟨i,hi,rfl⟩:=List.getElem_of_mem ha
  have hij:i<j:=by rw[List.length_take]at hi;omega
  have:=hno i hij
  rw[List.getD_eq_getElem?_getD,List.getElem?_eq_getElem (by omega),Option.getD_some]at this
  rw[List.getElem_take,this]
  simp
 have hs:bm T m=(bm T m).take j++(bm T m).getD j 0::(bm T m).drop (j+1):=by rw[←drop_cons _ _ hj,List.take_append_drop]
 have h2:(bm T m).filter (fun a:Int=>gV T D (bK T D d false) (dN T D d m) d a.toNat)=(bm T m).getD j 0::((bm T m).drop (j+1)).filter (fun a:Int=>gV T D (bK T D d false) (dN T D d m) d a.toNat):=by
  refine(congrArg (List.filter fun a:Int=>gV T D (bK T D d false) (dN T D d m) d a.toNat) hs).trans ?_
  rw[List.filter_append,h1,List.nil_append,List.filter_cons,if_pos hy]
 exact⟨_,h2⟩
theorem xW{T:ai}{D:List Bool}{m d f:Nat}{a:Int}{l:List Int}(h:bL T D m d=a::l):fO T D d (f+1) m=a::fO T D d f (aS T a.toNat).toNat:=by simp only[fO,h]
theorem CQ{T:ai}{D:List Bool}(hv:ao T=true){m d:Nat}(hm:(m:Int)<T.nodes)(hd:(d:Int)<T.nodes)(hne:m≠d)(h0:0≤dN T D d m)(hno:∀i,i<(bm T m).length→gV T D (bK T D d false) (dN T D d m) d ((bm T m).getD i 0).toNat=false):False:=by
 obtain⟨k,hk⟩:=lx (D:=D) hv hm hd hne h0
 have:=fW hk ((aJ hv).cost k hk.gH).1
 unfold bL at this
 rw[if_neg (by rintro(h|h);exact hne h;exact absurd h (by show ¬dN T D d m<0;omega))]at this
 obtain⟨h1,h2⟩:=List.mem_filter.1 this
 obtain⟨i,hi,he⟩:=List.getElem_of_mem h1
 have h3:=hno i hi
 rw[List.getD_eq_getElem?_getD,List.getElem?_eq_getElem hi,Option.getD_some,he]at h3
 have h2':gV T D (bK T D d false) (dN T D d m) d (k:Int).toNat=true:=h2
 rw[h3]at h2'
 cases h2'
set_option maxHeartbeats 2000000 in
theorem rj(T:ai)(D:List Bool)(s d:Int):Can Tryz.prog 206 [aP T,bf D,num s,num d] (· =ep (ir T D s d) (ct T D s.toNat d.toNat)):=by
 have hch:=nN T D [s,d] (by simp)
 rw[Ff]at hch
 refine aF Tryz.func206 rfl Tryz.ntmps206 rfl<|ab (.a 3 rfl<|.k [1,2,3,4] rfl)<|aj<|ab (.a 5 rfl<|.c rfl (hch) rfl<|.a 1 rfl<|.k [1,2,3,4,10] rfl)<|ab (.a 2 rfl<|.k [1,2,3,4,10,26] rfl)<|ah rfl (fun hc=>?_) (fun hc=>?_)
 ·have he:cB T D s d≠0:=tt hc
  exact ab (.a 3 rfl<|.k [8,9] rfl)<|aq<|⟨_,_,aA.of rfl,aB.bG (an.cons aB.b9 (an.cons aB.pure an.nil)),by unfold ep ir;rw[if_neg he,if_neg he];rfl⟩
 ·have he:cB T D s d=0:=Classical.byContradiction (ff hc)
  obtain⟨hv,hf,hns,hnd⟩:=fB he
  obtain⟨hs0,hs1⟩:=aW.1 hns
  obtain⟨hd0,hd1⟩:=aW.1 hnd
  obtain⟨s,rfl⟩:=Int.eq_ofNat_of_zero_le hs0
  obtain⟨d,rfl⟩:=Int.eq_ofNat_of_zero_le hd0
  have hdi:Can Tryz.prog 151 [aP T,bf D,num d] (· = .tuple [ax (bK T D d false),num 0]):=by
   have h:=qp T D (d:Int)
   rw[show cO T D [(d:Int)]=0 by unfold cB at he;split at he;assumption;assumption]at h
   exact h
  have hS:=aJ hv
  have hN:=hS.nodes
  have hll:=bN hv
  obtain⟨hb1,hb2⟩:=eo (D:=D) hv (dir:=false) hd1
  refine ak<|ab (.a 3 rfl<|.c rfl (hdi) rfl<|.a 5 rfl<|.k [1,2,3,4,11] rfl)<|aj<|ab (.a 2 rfl<|.v (aI (s) rfl) rfl<|.v (aL rfl (aD _ s (by omega))) rfl<|.a 1 rfl<|.k [1,2,3,4,11,39] rfl)<|ah rfl (fun hc=>?_) (fun hc=>?_)
  ·have h0:dN T D d s<0:=tt hc
   exact ab (.a 2 rfl<|.k [8,9] rfl)<|aq<|⟨_,_,aA.of rfl,aB.bG (an.cons aB.b9 (an.cons aB.pure an.nil)),by unfold ep ir;simp only[Int.toNat_natCast];rw[if_pos he,if_pos h0];rfl⟩
  ·have h0:0≤dN T D d s:=by have:=ff hc;show 0≤(bK T D d false).getD s 0;omega
   have hE:ir T D (s:Int) (d:Int)=0:=by unfold ir;simp only[Int.toNat_natCast];rw[if_pos he,if_neg (by omega)]
   rw[hE]
   refine ak<|ab (.a 1 rfl<|.c rfl (kU T hv) rfl<|.a 1 rfl<|.k [1,2,3,4,11,13] rfl)<|ab (.a 1 rfl<|.k [1,2,3,4,11,13,14] rfl)<|dW 14 3 1 rfl ?_
   refine aj<|ab (.a 2 rfl<|.k [1,3,4,11,13,14,15] rfl)<|av<|eZ [1,3,4,11,13,14,15] rfl<|bw (fun r st=>∃(p:List Int) (m f:Nat),(m:Int)<T.nodes∧0≤dN T D d m∧dN T D d m≤f∧r=(dN T D d m).toNat∧(p.length:Int)+dN T D d m≤dN T D d s∧ct T D s d=p++fO T D d f m∧st=⟨[(1,bf D),(3,num d),(4,.aV (bx T) 0),(11,ax (bK T D d false)),(13,iX (cZ (bq T) T.nodes.toNat (2*T.af.length))),(14,.own 0),(15,num m)],[some (.row 3 1 p.length (aN p))]⟩) (dN T D d s).toNat ⟨[],s,(dN T D d s).toNat,hs1,h0,by omega,rfl,by simp,rfl,rfl⟩ ?_
   rintro r st ⟨p,m,f,hm,hm0,hmf,rfl,hpl,hp,rfl⟩
   refine aj<|ab (.a 3 rfl<|.k [1,3,4,11,13,14,15,45] rfl)<|ah rfl (fun hy=>?_) (fun hy=>?_)
   ·have hne:m≠d:=by have:=tt hy;omega
    have hml:m<(bK T D d false).length:=by omega
    have hrow:=uy T m (by omega)
    have hbnd:=(HZ (D:=D) hv hd1 hs1).2
    have hol:(bm T m).length≤512:=Nat.le_trans (dH T m _) (by omega)
    refine ak<|av<|ab (.a 2 rfl<|.v (aI (m) rfl (by omega) (by rw[eG];omega)) rfl<|.v (aL rfl ((sc _ m (by rw[eG];omega)).trans (by rw[hrow]))) rfl<|.a 2 rfl<|.k [1,3,4,11,13,14,15,49,50,51] rfl)<|av<|eZ [1,3,4,11,13,14,15,49,50,51] rfl<|bw (fun r st=>∃j:Nat,j≤(bm T m).length∧r=(bm T m).length - j∧(∀i,i<j→gV T D (bK T D d false) (dN T D d m) d ((bm T m).getD i 0).toNat=false)∧st=⟨[(1,bf D),(3,num d),(4,.aV (bx T) 0),(11,ax (bK T D d false)),(13,iX (cZ (bq T) T.nodes.toNat (2*T.af.length))),(14,.own 0),(15,num m),(49,ax (bm T m)),(50,num (bm T m).length),(51,num j)],[some (.row 3 1 p.length (aN p))]⟩) (bm T m).length ⟨0,by omega,by omega,fun i hi=>by omega,rfl⟩ ?_
    rintro r st ⟨j,hj,rfl,hno,rfl⟩
    refine ab (.a 1 rfl<|.k [1,3,4,11,13,14,15,49,50,51,52] rfl)<|aj<|ah rfl (fun hz=>?_) (fun hz=>?_)
    ·have hlt:j<(bm T m).length:=by have:=tt hz;omega
     obtain⟨ha0,ha1⟩:=jM (bU (d:=0) hlt)
     obtain⟨a,ha⟩:=Int.eq_ofNat_of_zero_le ha0
     have ham:a<2*T.af.length:=by omega
     obtain⟨y,hyh,hyN⟩:=dM hv ham
     have hyl:y<(bK T D d false).length:=by omega
     have hh:=fu T a ham (by omega)
     rw[hyh]at hh
     have hD:D.length=0∨a<D.length:=by simp only[bX,decide_eq_true_eq]at hf;omega
     obtain⟨p1,hp1⟩:∃q,aX D a=q:=⟨_,rfl⟩
     obtain⟨p2,hp2⟩:∃q,decide ((bK T D d false).getD y 0<0)=q:=⟨_,rfl⟩
     obtain⟨p3,hp3⟩:∃q,decide ((y:Int)≠(d:Int))=q:=⟨_,rfl⟩
     obtain⟨p4,hp4⟩:∃q,dc T y=q:=⟨_,rfl⟩
     have hpass:∀b,gV T D (bK T D d false) (dN T D d m) d ((bm T m).getD j 0).toNat=b↔(!((p1||p2)||(p3&&p4))&&decide ((bK T D d false).getD y 0+cF T a=dN T D d m))=b:=fun b=>by
      unfold gV
      rw[ha,Int.toNat_natCast,hyh,Int.toNat_natCast,hp1,hp2,hp3,hp4]
     refine ak<|aj<|av<|ab (.v (aI (j) rfl) rfl<|.v (aL rfl ((aD _ j hlt).trans (by rw[ha]))) rfl<|.a 1 rfl<|.k [1,3,4,11,13,14,15,17,49,50,51] rfl)<|ab (.a 2 rfl<|.c rfl (hh) rfl<|.a 1 rfl<|.k [1,3,4,11,13,14,15,17,18,49,50,51] rfl)<|aj<|bC 77 (.raw (.bool ((p1||p2)||(p3&&p4)))) [1,3,4,11,13,14,15,17,18,49,50,51] rfl ?_ ?_
     ·refine .a 2 rfl<|.c rfl (hp1▸iG D a hD) rfl<|.a 1 rfl<|?_
      cases p1
      ·refine .a 2 rfl<|.v (aI (y) rfl) rfl<|.v (aL rfl (aD _ y hyl)) rfl<|.v (cC rfl (hp2)) rfl<|.a 2 rfl<|?_
       cases p2
       ·refine .a 2 rfl<|.v (cC rfl (hp3)) rfl<|.a 1 rfl<|?_
        cases p3
        ·exact .a 5 rfl<|.k [77,1,3,4,11,13,14,15,17,18,49,50,51] rfl
        ·exact .a 2 rfl<|.c rfl (hp4▸nv T y (yU hv hyN)) rfl<|.a 2 rfl<|.k [77,1,3,4,11,13,14,15,17,18,49,50,51] rfl
       ·exact .a 9 rfl<|.k [77,1,3,4,11,13,14,15,17,18,49,50,51] rfl
      ·exact .a 16 rfl<|.k [77,1,3,4,11,13,14,15,17,18,49,50,51] rfl
     refine ah rfl (fun hk=>?_) (fun hk=>?_)
     ·have hnp:=(hpass false).2 (by rw[hk];rfl)
      refine bn<|ay (.v (aR rfl) rfl<|.a 1 rfl<|.k [1,3,4,11,13,14,15,49,50,51] rfl) ?_
      refine⟨(bm T m).length - (j+1),by omega,j+1,by omega,rfl,fun i hi=>?_,rfl⟩
      by_cases h:i=j
      ·rw[h];exact hnp
      ·exact hno i (by omega)
     ·skip
      refine ak ?_
      have hy4:=hb2 _ (bU (d:=0) hyl)
      have hc4:=hS.cost a ham
      refine fp mixed (by kernel_rfl) (.a 2 rfl<|.v [78,79] (aI (y) rfl) rfl rfl<|.v [80] (aL rfl (aD _ y hyl)) rfl rfl<|.a 2 rfl<|.v [82,83] (fm rfl (kD T a ham)) rfl rfl<|.v [81,84] (aR rfl (hn:=by unfold In64;omega)) rfl rfl<|.a 2 rfl<|.v [86,87] (aI (m) rfl) rfl rfl<|.v [88] (aL rfl (aD _ m hml)) rfl rfl<|.a 1 rfl<|.k [1,3,4,11,13,14,15,17,18,49,50,51,90] rfl) ?_
      refine ah rfl (fun hq=>?_) (fun hq=>?_)
      ·have hyes:=(hpass true).2 (by rw[hk];exact decide_eq_true (tt hq))
       obtain⟨l,hl⟩:=wI hne hm0 hlt hno hyes
       obtain⟨b,hb,hbn⟩:=ec (T:=T) (D:=D) (n:=m) (d:=d) (a:=(bm T m).getD j 0) (by rw[hl];simp)
       have hba:b=a:=by omega
       subst hba
       have hdy:=hbn.dN hyh
       refine aQ<|au 3 rfl<|ca (aY rfl (bE.rk.get rfl) rfl rfl rfl rfl (by unfold maxLen;omega)) rfl<|au 1 rfl ?_
       refine cE [1] (.c 1<|.c 3<|.c 4<|.c 11<|.c 13<|.c 14<|.c 18<|.nil) (.kept rfl (.dr rfl (bT _ _))<|.nil) rfl rfl (aO ?_)
       refine ab (.a 2 rfl<|.k [1,3,4,11,13,14,15] rfl)<|bn ?_
       cases f with
       |zero=>omega
       |succ f=>
        refine⟨(dN T D d y).toNat,by omega,p++[(b:Int)],y,f,hyN,hdy.1,by omega,rfl,by simp;omega,?_,by simp⟩
        rw[hp,xW hl,ha,Int.toNat_natCast,hyh,Int.toNat_natCast,List.append_assoc]
        rfl
      ·have hnp:=(hpass false).2 (by rw[hk,Bool.and_eq_false_iff];exact .inr (decide_eq_false (ff hq)))
       refine ak<|ay (.v (aR rfl) rfl<|.a 1 rfl<|.k [1,3,4,11,13,14,15,49,50,51] rfl) ?_
       refine⟨(bm T m).length - (j+1),by omega,j+1,by omega,rfl,fun i hi=>?_,rfl⟩
       by_cases h:i=j
       ·rw[h];exact hnp
       ·exact hno i (by omega)
    ·exact absurd (CQ hv hm hd1 hne hm0 (fun i hi=>hno i (by have:=ff hz;omega))) (fun h=>h)
   ·have hmd:m=d:=by have:=ff hy;omega
    subst hmd
    have hfin:fO T D m f m=[]:=by cases f with|zero=>rfl|succ f=>simp only[fO,jE]
    rw[hfin,List.append_nil]at hp
    exact bn<|ab (.a 3 rfl<|.k [8,9] rfl)<|aq<|⟨_,_,aA.of rfl,aB.bG (an.cons (aB.ey rfl an.pure) (an.cons aB.pure an.nil)),by unfold ep;rw[if_pos rfl];simp only[Int.toNat_natCast];rw[hp];rfl⟩
theorem oJ(T:ai)(D:List Bool)(m d:Nat):(bL T D m d).Pairwise (· < ·):=by
 unfold bL
 split
 ·exact List.Pairwise.nil
 ·exact(kL T m).filter _
end PW
end Go.Proofs.YtnegbdpggideiaaGreatDoor
namespace Go.Proofs.YtnegbdpggideiaaGreatDoor
namespace PW
open Go.RowKit cA Mem Net
section
variable {P:Program} {σ:cd} {t:bZ} {o:Oper}
theorem mB{src dst:TypeId}{x:Operand}{k k':IntKind}{a c:Int}{ty:TypeDesc}(ho:o.op= .convert src dst x)(hs:P.underlying src=some ty)(hd:P.underlying dst=some (.int k'))(hx:aC t x=some (.raw (.int k a)))(hc:k'.wrap a=c):bg P σ t o (.raw (.int k' c)):=by
 intro F base E ρ w hρ _ hT
 have h1:=aw hρ hT hx
 generalize hz:ρ x=z at h1
 cases h1
 have h2:(convert src dst (.int k a)).run P w= .ok (.int k' c) w:=by
  simp[convert,Sem.run_bind,run_underlying hs,run_underlying hd,Conv.intToInt,hc]
 simp only[execOp,ho,hz,Sem.run_bind,h2]
 exact bd (.raw _)
theorem ED{ty:TypeId}{x ix:Operand}{s:ByteArray}{k:IntKind}{i:Nat}{c:UInt8}(ho:o.op= .index ty x ix)(hu:P.underlying ty=some .string)(hx:aC t x=some (.raw (.string s)))(hix:aC t ix=some (.raw (.int k i)))(h3:s[i]? =some c):bg P σ t o (.raw (.int .u8 c.toNat)):=by
 intro F base E ρ w hρ _ hT
 have h1:=aw hρ hT hx
 have h1':=aw hρ hT hix
 generalize hz:ρ x=z at h1
 generalize hz':ρ ix=z' at h1'
 cases h1
 cases h1'
 have h2:(Instr.index ty (.string s) (.int k i)).run P w= .ok (.int .u8 c.toNat) w:=by
  have h4:(asIntOf (.int k (i:Int))).run P w= .ok (k,(i:Int)) w:=rfl
  simp[Instr.index,Sem.run_bind,run_underlying hu,h3,h4]
 simp only[execOp,ho,hz,hz',Sem.run_bind,h2]
 exact bd (.raw _)
theorem Ez{N L:Nat}{x y:Code}{st:St}{Q:Exit→St→Prop}{b:Bool}(h:W P N L (if b then x else y) st Q):W P N L (.cond (.const (.bool b)) x y) st Q:=fun F base E₀ w₀ E a w hcm hs=>
 wp_cond_split (show a.eval (.const (.bool b))= .bool b from rfl) (fun hb=>by subst hb;exact h F base E₀ w₀ E a w hcm hs) (fun hb=>by subst hb;exact h F base E₀ w₀ E a w hcm hs)
end
theorem u8_in(c:UInt8):In64 (c.toNat:Int):=by have:=c.toNat_lt;unfold In64;omega
theorem GA(c:UInt8):In64 (0+(c.toNat:Int)):=by have:=c.toNat_lt;unfold In64;omega
theorem Er(n:Nat)(h:n≤255):IntKind.u8.wrap (n:Int)=(n:Int):=by rw[IntKind.wrap_u8];omega
def tZ(a b:Int):Int:=if a<b then -1 else if b<a then 1 else 0
theorem rb(a:Int):Can Tryz.prog 226 [num a] (· =flag false):=by
 exact aF Tryz.func226 rfl Tryz.ntmps226 rfl<|ab (.a 1 rfl<|.k [0] rfl)<|ab (.a 4 rfl<|.k [2] rfl)<|aq<|⟨_,_,aA.of rfl,aB.pure,by simp;rfl⟩
theorem yv(a b:Int):Can Tryz.prog 218 [num a,num b] (· =num (tZ a b)):=by
 refine aF Tryz.func218 rfl Tryz.ntmps218 rfl<|ab (.a 1 rfl<|.k [0,1] rfl)<|ab (.a 1 rfl<|.c rfl (rb a) rfl<|.a 1 rfl<|.k [0,1,5] rfl)<|ab (.a 1 rfl<|.c rfl (rb b) rfl<|.a 1 rfl<|.k [0,1,5,6] rfl)<|aj<|ab (.a 1 rfl<|.k [0,1,6,11] rfl)<|ah rfl (fun hc=>?_) (fun hc=>?_)
 ·cases hc
 ·refine ak<|aj<|ab (.a 1 rfl<|.k [0,1,13] rfl)<|ah rfl (fun hc=>?_) (fun hc=>?_)
  ·cases hc
  ·refine ak<|aj<|ab (.a 3 rfl<|.k [0,1,16] rfl)<|ah rfl (fun hc=>?_) (fun hc=>?_)
   ·have h1:a<b:=tt hc
    exact ab (.a 1 rfl<|.k [4] rfl)<|aq<|⟨_,_,aA.of rfl,aB.pure,by unfold tZ;rw[if_pos h1];rfl⟩
   ·have h1:¬a<b:=ff hc
    refine ak<|aj<|ab (.a 3 rfl<|.k [19] rfl)<|ah rfl (fun hy=>?_) (fun hy=>?_)
    ·have h2:b<a:=tt hy
     exact ab (.a 1 rfl<|.k [4] rfl)<|aq<|⟨_,_,aA.of rfl,aB.pure,by unfold tZ;rw[if_neg h1,if_pos h2];rfl⟩
    ·have h2:¬b<a:=ff hy
     exact ak<|ab (.a 1 rfl<|.k [4] rfl)<|aq<|⟨_,_,aA.of rfl,aB.pure,by unfold tZ;rw[if_neg h1,if_neg h2];rfl⟩
theorem GZ(a b:Int):Can Tryz.prog 217 [.slice 2 [num a,num b]] (· =num (if a=0 then b else a)):=by
 refine aF Tryz.func217 rfl Tryz.ntmps217 rfl<|ab (.a 1 rfl<|.k [0] rfl)<|ab (.a 1 rfl<|.k [0,3] rfl)<|aj<|ab (.a 3 rfl<|.k [3,6,7,8] rfl)<|av<|eZ [3,6,7,8] rfl<|bw (fun r st=>∃j:Nat,j≤2∧r=2 - j∧(0<j→a=0)∧(1<j→b=0)∧st=⟨[(3,num 0),(6,.slice 2 [num a,num b]),(7,num 2),(8,num j)],[]⟩) 2 ⟨0,by omega,by omega,by omega,by omega,rfl⟩ ?_
 rintro r st ⟨j,hj,rfl,ha,hb,rfl⟩
 refine ab (.a 1 rfl<|.k [3,6,7,8,9] rfl)<|aj<|ah rfl (fun hc=>?_) (fun hc=>?_)
 ·have hlt:j<2:=by have:=tt hc;omega
  obtain⟨v,hv,hv2⟩:∃v,[num a,num b][j]? =some (num v)∧v=(if j=0 then a else b):=by
   match j,hlt with
   |0,_=>exact⟨a,rfl,rfl⟩
   |1,_=>exact⟨b,rfl,rfl⟩
  refine ak<|aj<|av<|ab (.v (aI (j) rfl) rfl<|.v (aL rfl (hv)) rfl<|.a 1 rfl<|.k [3,5,6,7,8] rfl)<|ab (.a 3 rfl<|.k [3,5,6,7,8,14] rfl)<|ah rfl (fun hy=>?_) (fun hy=>?_)
  ·have h1:v≠0:=tt hy
   refine ab (.a 2 rfl<|.k [2] rfl)<|aq<|⟨_,_,aA.of rfl,aB.pure,congrArg num ?_⟩
   by_cases h0:j=0
   ·rw[if_pos h0]at hv2;rw[if_neg (by omega)];exact hv2
   ·rw[if_neg h0]at hv2;rw[if_pos (ha (by omega))];exact hv2
  ·have h1:v=0:=Classical.byContradiction (ff hy)
   refine ak<|ay (.v (aR rfl) rfl<|.a 1 rfl<|.k [3,6,7,8] rfl) ?_
   refine⟨2 - (j+1),by omega,j+1,by omega,rfl,fun _=>?_,fun h=>?_,rfl⟩
   ·by_cases h0:j=0
    ·rw[if_pos h0]at hv2;omega
    ·exact ha (by omega)
   ·rw[if_neg (by omega)]at hv2;omega
 ·have hj2:j=2:=by have:=ff hc;omega
  refine bn<|ab (.a 2 rfl<|.k [2] rfl)<|aq<|⟨_,_,aA.of rfl,aB.pure,congrArg num ?_⟩
  rw[if_pos (ha (by omega))];exact(hb (by omega)).symm
def DG(L:List Int)(a b:Nat):Int:=if tZ (L.getD b 0) (L.getD a 0)=0 then tZ a b else tZ (L.getD b 0) (L.getD a 0)
theorem C5(L:List Int)(a b:Nat)(ha:a<L.length)(hb:b<L.length):Can Tryz.prog 216 [num a,num b,.aV [ax L] 0] (· =num (DG L a b)):=by
 refine aF Tryz.func216 rfl Tryz.ntmps216 rfl<|ab (.a 1 rfl<|.k [0,1,2] rfl)<|fp mixed (by kernel_rfl) (.a 2 rfl<|.v [6,7] (aI (b) rfl) rfl rfl<|.v [8] (aL rfl (aD L b hb)) rfl rfl<|.a 2 rfl<|.v [10,11] (aI (a) rfl) rfl rfl<|.v [12] (aL rfl (aD L a ha)) rfl rfl<|.v [9,13] (fm rfl (yv _ _)) rfl rfl<|.a 2 rfl<|.v [15,16] (fm rfl (yv _ _)) rfl rfl<|.a 1 rfl<|.v [18] (fm rfl (GZ _ _)) rfl rfl<|.a 1 rfl<|.k [5] rfl) ?_
 exact aq<|⟨_,_,aA.of rfl,aB.pure,rfl⟩
def G2(n:Nat):UInt8:=if n=0 then 0 else if n=1 then 1 else if n<4 then 2 else if n<8 then 3 else 4
theorem Ar(n:Nat)(hn:n≤12):Can Tryz.prog 241 [.raw (.int .u64 n)] (· =num (G2 n).toNat):=by
 refine aF Tryz.func241 rfl Tryz.ntmps241 rfl<|ab (.a 1 rfl<|.k [0,2] rfl)<|aj<|ab (.a 1 rfl<|.v (yi rfl rfl rfl rfl) rfl<|.k [0,2,4] rfl)<|ah rfl (fun hc=>?_) (fun hc=>?_)
 ·exact absurd (tt hc) (by omega)
 ·refine ak<|aj<|ab (.a 1 rfl<|.v (yi rfl rfl rfl rfl) rfl<|.k [0,2,8] rfl)<|ah rfl (fun hc=>?_) (fun hc=>?_)
  ·exact absurd (tt hc) (by omega)
  ·refine ak<|aj<|ab (.a 1 rfl<|.v (yi rfl rfl rfl rfl) rfl<|.k [0,2,14] rfl)<|ah rfl (fun hc=>?_) (fun hc=>?_)
   ·exact absurd (tt hc) (by omega)
   ·exact ak<|ab (.a 2 rfl<|.v (mB rfl Tryz.underlying249 Tryz.underlying5 rfl (Er n (by omega))) rfl<|.v (ED (c:=G2 n) rfl Tryz.underlying9 rfl rfl (by rcases(show n=0∨n=1∨n=2∨n=3∨n=4∨n=5∨n=6∨n=7∨n=8∨n=9∨n=10∨n=11∨n=12 by omega)with h|h|h|h|h|h|h|h|h|h|h|h|h<;>subst h<;>rfl)) rfl<|.v (mB rfl Tryz.underlying5 Tryz.underlying3 rfl (jg (u8_in _))) rfl<|.v (aR rfl (hn:=GA _)) rfl<|.a 1 rfl<|.k [2] rfl)<|aq<|⟨_,_,aA.of rfl,aB.pure,by rw[Int.zero_add];rfl⟩
theorem DL(n:Nat)(hn:n≤12):Can Tryz.prog 225 [.raw (.int .u64 n)] (· =num (G2 n).toNat):=by
 refine aF Tryz.func225 rfl Tryz.ntmps225 rfl<|ab (.a 1 rfl<|.k [0] rfl)<|aj (Ez (b:=false) ?_)
 exact ak<|ab (.a 1 rfl<|.c rfl (Ar n hn) rfl<|.a 1 rfl<|.k [2] rfl)<|aq ⟨_,_,.cons (.tmp rfl) .nil,aB.pure,rfl⟩
def rI(L:List Int)(x y:Int):Prop:=L.getD y.toNat 0<L.getD x.toNat 0∨(L.getD y.toNat 0=L.getD x.toNat 0∧x≤y)
theorem AE{L:List Int}{x y z:Int}(h:rI L x y)(k:rI L y z):rI L x z:=by unfold rI at*;omega
theorem vC(L:List Int)(a b:Nat):DG L a b<0↔¬rI L b a:=by
 unfold DG tZ rI
 simp only[Int.toNat_natCast]
 split<;>split<;>(try split)<;>omega
theorem Ht(L:List Int){x y:Int}(h:¬rI L x y):rI L y x:=by unfold rI at*;omega
def Fu(L ys:List Int)(i j:Nat):Prop:=∀p q,p<q→q≤i→q≠j→rI L (ys.getD p 0) (ys.getD q 0)
def D8(L ys:List Int)(i:Nat):Prop:=∀p q,p<q→q<i→rI L (ys.getD p 0) (ys.getD q 0)
theorem D8.ins{L ys:List Int}{i:Nat}(h:D8 L ys i):Fu L ys i i:=fun p q h1 h2 h3=>h p q h1 (by omega)
theorem Fu.HN{L ys:List Int}{i:Nat}(h:Fu L ys i 0):D8 L ys (i+1):=fun p q h1 h2=>h p q h1 (by omega) (by omega)
theorem Fu.done{L ys:List Int}{i j:Nat}(h:Fu L ys i j)(hb:rI L (ys.getD (j - 1) 0) (ys.getD j 0)):D8 L ys (i+1):=fun p q h1 h2=>by
 by_cases hq:q=j
 ·subst hq
  by_cases hp:p=q - 1
  ·rw[hp];exact hb
  ·exact AE (h p (q - 1) (by omega) (by omega) (by omega)) hb
 ·exact h p q h1 (by omega) hq
theorem Fu.swap{L ys:List Int}{i j:Nat}(h:Fu L ys i j)(h0:0<j)(hj:j≤i)(hi:i<ys.length)(hb:¬rI L (ys.getD (j - 1) 0) (ys.getD j 0)):Fu L (Heap.dx ys j (j - 1)) i (j - 1):=fun p q h1 h2 h3=>by
 rw[Heap.dv ys j (j - 1) p (by omega) (by omega),Heap.dv ys j (j - 1) q (by omega) (by omega),if_neg h3]
 by_cases hq:q=j
 ·rw[if_pos hq]
  by_cases hp:p=j - 1
  ·rw[if_pos hp];exact Ht L hb
  ·rw[if_neg hp,if_neg (by omega)];exact h p (j - 1) (by omega) (by omega) (by omega)
 ·rw[if_neg hq]
  by_cases hp:p=j - 1
  ·rw[if_pos hp];exact h j q (by omega) h2 hq
  ·rw[if_neg hp]
   by_cases hp2:p=j
   ·rw[if_pos hp2];exact h (j - 1) q (by omega) h2 hq
   ·rw[if_neg hp2];exact h p q h1 h2 hq
theorem swap_perm(ys:List Int)(p q:Nat)(hp:p<ys.length)(hq:q<ys.length):(Heap.dx ys p q).Perm ys:=by
 have:= @List.set_set_perm _ ys p q hp hq
 unfold Heap.dx
 rw[List.getD_eq_getElem?_getD,List.getD_eq_getElem?_getD,List.getElem?_eq_getElem hp,List.getElem?_eq_getElem hq]
 exact this
theorem D8.pair{L ys:List Int}(h:D8 L ys ys.length):ys.Pairwise (rI L):=by
 rw[List.pairwise_iff_getElem]
 intro i j hi hj hij
 have:=h i j hij hj
 rw[List.getD_eq_getElem?_getD,List.getD_eq_getElem?_getD,List.getElem?_eq_getElem hi,List.getElem?_eq_getElem hj]at this
 exact this
def ew(ys:List Int):Option cR:=some (.row 3 1 ys.length (aN ys))
abbrev A0(L:List Int):PV:=.func 216 [.aV [ax L] 0]
theorem zW(L xs:List Int)(c:Option cR)(hx:∀x∈xs,0≤x∧x<L.length)(hn:xs.length≤12):bS Tryz.prog 232 [.own 1,num 0,num xs.length,A0 L] [c,ew xs] (fun _ σ'=>∃ys,ys.Perm xs∧ys.Pairwise (rI L)∧σ'=[c,ew ys]):=by
 refine cp Tryz.func232 rfl Tryz.ntmps232 rfl<|ab (.a 1 rfl<|.v (aR rfl) rfl<|.a 1 rfl<|.k [0,1,2,3,8] rfl)<|av<|eZ [0,1,2,3,8] rfl<|bw (fun r st=>∃(ys:List Int) (i:Nat),ys.Perm xs∧0<i∧D8 L ys i∧r=13 - i∧st=⟨[(0,.own 1),(1,num 0),(2,num xs.length),(3,A0 L),(8,num i)],[c,ew ys]⟩) 12 ⟨xs,1,.refl _,by omega,fun p q h1 h2=>by omega,rfl,rfl⟩ ?_
 rintro r st ⟨ys,i,hp,hi0,hs,rfl,rfl⟩
 have hyl:=hp.length_eq
 refine aj<|ab (.a 3 rfl<|.k [0,1,2,3,8,14] rfl)<|ah rfl (fun hc=>?_) (fun hc=>?_)
 ·have hlt:i<xs.length:=by have:=tt hc;omega
  refine ak<|aj<|av<|ab (.a 2 rfl<|.k [0,1,2,3,8,9] rfl)<|av<|eZ [0,1,2,3,8,9] rfl<|bw (fun r st=>∃(ys:List Int) (j:Nat),ys.Perm xs∧j≤i∧Fu L ys i j∧r=j∧st=⟨[(0,.own 1),(1,num 0),(2,num xs.length),(3,A0 L),(8,num i),(9,num j)],[c,ew ys]⟩) i ⟨ys,i,hp,by omega,hs.ins,rfl,rfl⟩ ?_
  clear hp hs hyl
  rintro r st ⟨zs,j,hp,hji,hs,rfl,rfl⟩
  have hyl:=hp.length_eq
  refine aj ?_
  obtain⟨q1,hq1⟩:∃q,decide ((0:Int)<(r:Int))=q:=⟨_,rfl⟩
  have hel:∀k,k<zs.length→∃a:Nat,zs.getD k 0=(a:Int)∧a<L.length:=fun k hk=>by
   have h1:=hx _ (hp.mem_iff.1 (bU (d:=0) hk))
   exact⟨(zs.getD k 0).toNat,by omega,by omega⟩
  obtain⟨a,ha,haL⟩:=hel r (by omega)
  obtain⟨b,hb,hbL⟩:=hel (r - 1) (by omega)
  obtain⟨q2,hq2⟩:∃q,decide (DG L a b<0)=q:=⟨_,rfl⟩
  refine nQ mixed (by kernel_rfl) 34 (.raw (.bool (q1&&q2))) [0,1,2,3,8,9] rfl ?_ ?_
  ·refine .a 2 rfl<|.v [18,19] (cC rfl (hq1)) rfl rfl<|.a 1 rfl<|?_
   cases q1
   ·exact .a 13 rfl<|.k [34,0,1,2,3,8,9] rfl
   ·exact .a 3 rfl<|.v [23,24] (aI (r) rfl) rfl rfl<|.v [25] (aL rfl ((aD zs r (by omega)).trans (by rw[ha]))) rfl rfl<|.a 2 rfl<|.v [28] (aR rfl) rfl rfl<|.v [27,29] (aI ((r - 1)) rfl (by have:=tt hq1;omega) (by omega)) rfl rfl<|.v [30] (aL rfl ((aD zs (r - 1) (by omega)).trans (by rw[hb]))) rfl rfl<|.v [22,26,31] (fm rfl (C5 L a b haL hbL)) rfl rfl<|.v [32] (cC rfl (hq2)) rfl rfl<|.a 1 rfl<|.k [34,0,1,2,3,8,9] rfl
  refine ah rfl (fun hy=>?_) (fun hy=>?_)
  ·obtain⟨c1,c2⟩:=Bool.and_eq_true_iff.1 hy
   rw[c1]at hq1
   rw[c2]at hq2
   have hr0:0<r:=by have:=tt hq1;omega
   have hnb:=(vC L a b).1 (tt hq2)
   rw[←ha,←hb]at hnb
   refine ak<|aj<|av<|dI 15 20 mixed (
    .val [0] rfl (bF rfl) rfl rfl<|
    .val [9] rfl (bF rfl) rfl rfl<|
    .late [0] rfl (mo rfl rfl) inferInstance rfl rfl<|
    .late [9] rfl (mo rfl rfl) inferInstance rfl rfl<|
    .late [40] rfl (Im rfl rfl rfl rfl (by unfold In64;omega)) inferInstance rfl rfl<|
    .val [0] rfl (bF rfl) rfl rfl<|
    .val [9] rfl (bF rfl) rfl rfl<|
    .val [43] rfl (aR rfl) rfl rfl<|
    .val [42,44] rfl (aI ((r - 1)) rfl) rfl rfl<|
    .val [45] rfl (aL rfl ((aD zs (r - 1) (by omega)).trans (by rw[hb]))) rfl rfl<|
    .val [0] rfl (bF rfl) rfl rfl<|
    .val [9] rfl (bF rfl) rfl rfl<|
    .val [47,48] rfl (aI (r) rfl) rfl rfl<|
    .val [49] rfl (aL rfl ((aD zs r (by omega)).trans (by rw[ha]))) rfl rfl<|
    .val [37,38] rfl (aI (r) rfl) rfl rfl<|
    .nil) (by kernel_rfl) rfl rfl (bh (ks:=[0,1,2,3,8,9,39,41,46,50,51]) rfl) ?_
   refine br ((by first|exact bQ rfl (bE.tk.get rfl) rfl rfl rfl (by first|omega|(simp;omega))|exact bb rfl (bE.tk.get rfl) rfl rfl rfl (by first|omega|(simp;omega)))) rfl rfl<|bz (aI ((r - 1)) rfl) rfl<|br ((by first|exact bQ rfl (bE.tk.get rfl) rfl rfl rfl (by first|omega|(simp;omega))|exact bb rfl (bE.tk.get rfl) rfl rfl rfl (by first|omega|(simp;omega)))) rfl rfl<|aH [0,1,2,3,8,9] rfl ?_
   refine ay (.a 1 rfl<|.v (aR rfl) rfl<|.a 1 rfl<|.k [0,1,2,3,8,9] rfl) ?_
   refine⟨r - 1,by omega,Heap.dx zs r (r - 1),r - 1,(swap_perm zs r (r - 1) (by omega) (by omega)).trans hp,by omega,hs.swap hr0 hji (by omega) hnb,rfl,?_⟩
   unfold ew Heap.dx
   rw[ha,hb,show((r - 1:Nat):Int)=(r:Int) - 1 by omega]
   simp only[List.length_set]
   rfl
  ·have hso:D8 L zs (i+1):=by
    by_cases h0:r=0
    ·subst h0;exact hs.HN
    ·refine hs.done ?_
     rw[ha,hb]
     refine Classical.byContradiction fun hn=>?_
     have:=(vC L a b).2 hn
     have e1:q1=true:=by rw[←hq1];exact decide_eq_true (by omega)
     have e2:q2=true:=by rw[←hq2];exact decide_eq_true this
     rw[e1,e2]at hy
     cases hy
   refine bn<|ay (.a 1 rfl<|.v (aR rfl) rfl<|.a 1 rfl<|.k [0,1,2,3,8] rfl) ?_
   exact⟨13 - (i+1),by omega,zs,i+1,hp,by omega,hso,rfl,rfl⟩
 ·have hge:ys.length≤i:=by have:=ff hc;omega
  exact bn<|⟨_,aA.of rfl,ys,hp,D8.pair (fun p q h1 h2=>hs p q h1 (by omega)),rfl⟩
theorem EZ(L xs:List Int)(c:Option cR)(k:Int)(hx:∀x∈xs,0≤x∧x<L.length)(hn:xs.length≤12):bS Tryz.prog 224 [.own 1,num 0,num xs.length,num k,A0 L] [c,ew xs] (fun _ σ'=>∃ys,ys.Perm xs∧ys.Pairwise (rI L)∧σ'=[c,ew ys]):=by
 refine cp Tryz.func224 rfl Tryz.ntmps224 rfl<|ab (.a 1 rfl<|.k [0,1,2,3,4,10] rfl)<|ab (.a 1 rfl<|.k [0,1,2,3,4,10,11] rfl)<|av<|bw (fun r st=>st=⟨[(0,.own 1),(1,num 0),(2,num xs.length),(3,num k),(4,A0 L),(10,flag true),(11,flag true)],[c,ew xs]⟩) 0 rfl ?_
 rintro r st rfl
 refine av<|ab (.a 2 rfl<|.v (aR rfl) rfl<|.a 1 rfl<|.k [0,1,2,3,4,10,11,12] rfl)<|aj<|ab (.a 2 rfl<|.k [0,1,2,3,4,10,11,12,25] rfl)<|ah (b:=decide ((xs.length:Int) - 0≤12)) rfl (fun _=>?_) (fun hc=>absurd (ff hc) (by omega))
 refine aQ<|au 4 rfl<|cM rfl rfl (bS.mono (zW L xs c hx hn) (fun _ σ' h=>?_))
 obtain⟨ys,h1,h2,rfl⟩:=h
 refine aH [] rfl ?_
 exact aq ⟨_,.nil,ys,h1,h2,rfl⟩
theorem zL(L xs:List Int)(c:Option cR)(hx:∀x∈xs,0≤x∧x<L.length)(hn:xs.length≤12):bS Tryz.prog 215 [.own 1,A0 L] [c,ew xs] (fun _ σ'=>∃ys,ys.Perm xs∧ys.Pairwise (rI L)∧σ'=[c,ew ys]):=by
 have hw:IntKind.u64.wrap (xs.length:Int)=(xs.length:Int):=by rw[IntKind.wrap_u64];omega
 refine cp Tryz.func215 rfl Tryz.ntmps215 rfl<|ab (.a 3 rfl<|.k [0,1,4] rfl)<|ba<|au 3 rfl<|bz (mB rfl Tryz.underlying3 Tryz.underlying247 rfl hw) rfl<|ek rfl (DL xs.length hn) rfl<|au 1 rfl<|cM rfl rfl (bS.mono (EZ L xs c _ hx hn) (fun _ σ' h=>?_))
 obtain⟨ys,h1,h2,rfl⟩:=h
 refine aH [] rfl ?_
 exact⟨_,aA.of rfl,ys,h1,h2,rfl⟩
def nT(L:List Int)(i:Nat):List Int:=((List.range i).filter fun k=>decide (0≤L.getD k 0)).map Int.ofNat
theorem AT(L:List Int)(i:Nat):nT L (i+1)=nT L i++(if 0≤L.getD i 0 then [(i:Int)] else []):=by
 unfold nT
 rw[List.range_succ,List.filter_append,List.map_append]
 congr 1
 by_cases h:0≤L.getD i 0
 ·rw[if_pos h,List.filter_cons,if_pos (by simpa using h)];rfl
 ·rw[if_neg h,List.filter_cons,if_neg (by simpa using h)];rfl
theorem vv(L:List Int)(i:Nat):(nT L i).length≤i:=by
 unfold nT
 rw[List.length_map]
 exact Nat.le_trans (List.length_filter_le _ _) (by simp)
theorem uV{L:List Int}{i:Nat}{x:Int}:x∈nT L i↔∃k:Nat,x=(k:Int)∧k<i∧0≤L.getD k 0:=by
 unfold nT
 simp only[List.mem_map,List.mem_filter,List.mem_range,decide_eq_true_eq]
 constructor
 ·rintro⟨k,⟨h1,h2⟩,rfl⟩;exact⟨k,rfl,h1,h2⟩
 ·rintro⟨k,rfl,h1,h2⟩;exact⟨k,⟨h1,h2⟩,rfl⟩
theorem xa(L:List Int)(i:Nat):(nT L i).Nodup:=by
 unfold nT
 have h1:(List.range i).Pairwise (· ≠ ·):=List.nodup_range
 refine List.Pairwise.map Int.ofNat (fun a b h e=>h (by cases e;rfl)) (h1.filter _)
theorem wG(L cs:List Int)(hn:L.length≤12):bS Tryz.prog 202 [ax L] [ew cs] (fun r σ'=>∃ys,ys.Perm (nT L L.length)∧ys.Pairwise (rI L)∧r= .own 1∧σ'=[ew cs,ew ys]):=by
 refine cp Tryz.func202 rfl Tryz.ntmps202 rfl<|ab (.a 2 rfl<|.k [1] rfl)<|ab (.a 1 rfl<|.k [1,3] rfl)<|dW 3 3 1 rfl ?_
 refine aj<|ab (.a 3 rfl<|.k [1,3,6,7,8] rfl)<|av<|eZ [1,3,6,7,8] rfl<|bw (fun r st=>∃i,i≤L.length∧r=L.length - i∧st=⟨[(1,.aV [ax L] 0),(3,.own 1),(6,ax L),(7,num L.length),(8,num i)],[ew cs,ew (nT L i)]⟩) L.length ⟨0,by omega,by omega,rfl⟩ ?_
 rintro r st ⟨i,hi,rfl,rfl⟩
 have hhl:=vv L i
 refine ab (.a 1 rfl<|.k [1,3,6,7,8,9] rfl)<|aj<|ah rfl (fun hc=>?_) (fun hc=>?_)
 ·have hlt:i<L.length:=by have:=tt hc;omega
  have hst:=AT L i
  refine ak<|aj<|av<|ab (.a 1 rfl<|.v (aI (i) rfl) rfl<|.v (aL rfl (aD L i hlt)) rfl<|.a 2 rfl<|.k [1,3,4,5,6,7,8] rfl)<|ab (.a 2 rfl<|.k [1,3,4,6,7,8,14] rfl)<|ah rfl (fun hy=>?_) (fun hy=>?_)
  ·have h0:0≤L.getD i 0:=tt hy
   rw[if_pos h0]at hst
   refine ba<|au 3 rfl<|ca (aY rfl (bE.rk.get rfl) rfl rfl rfl rfl (by unfold maxLen;omega)) rfl<|au 1 rfl ?_
   refine cE [0,2] (.c 1<|.c 3<|.c 6<|.c 7<|.c 8<|.nil) (.kept rfl (.row az.pure)<|.kept rfl (.dr rfl (bT _ _))<|.nil) rfl rfl (aO ?_)
   refine ay (.v (aR rfl) rfl<|.a 1 rfl<|.k [1,3,6,7,8] rfl) ?_
   refine⟨L.length - (i+1),by omega,i+1,by omega,rfl,?_⟩
   rw[hst]
   first
    |rfl
    |(simp only[ew,List.length_append,List.length_singleton];rfl)
  ·have h0:¬0≤L.getD i 0:=ff hy
   rw[if_neg h0,List.append_nil]at hst
   refine ak<|ay (.v (aR rfl) rfl<|.a 1 rfl<|.k [1,3,6,7,8] rfl) ?_
   refine⟨L.length - (i+1),by omega,i+1,by omega,rfl,?_⟩
   rw[hst]
   first
    |rfl
    |(simp only[ew,List.length_append,List.length_singleton];rfl)
 ·have hie:i=L.length:=by have:=ff hc;omega
  subst hie
  refine bn<|aQ<|au 2 rfl<|cM rfl rfl (bS.mono (zL L (nT L L.length) (ew cs) (fun x hx=>by obtain⟨k,rfl,h1,_⟩:=uV.1 hx;omega) (by omega)) (fun _ σ' h=>?_))
  obtain⟨ys,h1,h2,rfl⟩:=h
  refine aH [3] rfl ?_
  exact ab (.a 2 rfl<|.k [2] rfl)<|aq<|⟨_,aA.of rfl,ys,h1,h2,rfl,rfl⟩
theorem vU(xs:List Int)(c:Option cR)(hn:xs.length≤12):bS Tryz.prog 203 [.own 1] [c,ew xs] (fun _ σ'=>σ'=[c,ew xs.reverse]):=by
 refine cp Tryz.func203 rfl Tryz.ntmps203 rfl<|ab (.a 2 rfl<|.v (aR rfl) rfl<|.a 2 rfl<|.k [0,2,3] rfl)<|av<|eZ [0,2,3] rfl<|bw (fun r st=>∃(ys:List Int) (i:Nat),ys.length=xs.length∧2*i≤xs.length+1∧(∀k,k<xs.length→ys.getD k 0=if k<i∨xs.length - i≤k then xs.getD (xs.length - 1 - k) 0 else xs.getD k 0)∧r=xs.length+1 - i∧st=⟨[(0,.own 1),(2,num i),(3,num ((xs.length:Int) - 1 - i))],[c,ew ys]⟩) (xs.length+1) ⟨xs,0,rfl,by omega,fun k hk=>by rw[if_neg (by omega)],by omega,by simp⟩ ?_
 rintro r st ⟨ys,i,hl,hi,hk,rfl,rfl⟩
 refine aj<|ab (.a 3 rfl<|.k [0,2,3,9] rfl)<|ah rfl (fun hc=>?_) (fun hc=>?_)
 ·have hlt:2*i+1<xs.length:=by have:=tt hc;omega
  obtain⟨a,ha⟩:∃a,ys.getD i 0=a:=⟨_,rfl⟩
  obtain⟨b,hb⟩:∃b,ys.getD (xs.length - 1 - i) 0=b:=⟨_,rfl⟩
  refine ak<|aj<|av<|dI 13 20 mixed (
   .val [0] rfl (bF rfl) rfl rfl<|
   .val [2] rfl (bF rfl) rfl rfl<|
   .late [0] rfl (mo rfl rfl) inferInstance rfl rfl<|
   .late [3] rfl (mo rfl rfl) inferInstance rfl rfl<|
   .val [0] rfl (bF rfl) rfl rfl<|
   .val [3] rfl (bF rfl) rfl rfl<|
   .val [18,19] rfl (aI ((xs.length - 1 - i)) rfl) rfl rfl<|
   .val [20] rfl (aL rfl ((aD ys (xs.length - 1 - i) (by omega)).trans (by rw[hb]))) rfl rfl<|
   .val [0] rfl (bF rfl) rfl rfl<|
   .val [2] rfl (bF rfl) rfl rfl<|
   .val [22,23] rfl (aI (i) rfl) rfl rfl<|
   .val [24] rfl (aL rfl ((aD ys i (by omega)).trans (by rw[ha]))) rfl rfl<|
   .val [14,15] rfl (aI (i) rfl) rfl rfl<|
   .nil) (by kernel_rfl) rfl rfl (bh (ks:=[0,2,3,16,17,21,25,26]) rfl) ?_
  refine br ((by first|exact bQ rfl (bE.tk.get rfl) rfl rfl rfl (by first|omega|(simp;omega))|exact bb rfl (bE.tk.get rfl) rfl rfl rfl (by first|omega|(simp;omega)))) rfl rfl<|bz (aI ((xs.length - 1 - i)) rfl) rfl<|br ((by first|exact bQ rfl (bE.tk.get rfl) rfl rfl rfl (by first|omega|(simp;omega))|exact bb rfl (bE.tk.get rfl) rfl rfl rfl (by first|omega|(simp;omega)))) rfl rfl<|aH [0,2,3] rfl ?_
  refine ay (.a 1 rfl<|.v (aR rfl) rfl<|.a 1 rfl<|.v (aR rfl) rfl<|.a 2 rfl<|.k [0,2,3] rfl) ?_
  refine⟨xs.length+1 - (i+1),by omega,Heap.dx ys i (xs.length - 1 - i),i+1,by rw[Heap.fE];exact hl,by omega,fun k hkl=>?_,rfl,?_⟩
  ·rw[Heap.dv ys i (xs.length - 1 - i) k (by omega) (by omega)]
   by_cases h1:k=xs.length - 1 - i
   ·rw[if_pos h1,if_pos (by omega),hk i (by omega),if_neg (by omega),h1,show xs.length - 1 - (xs.length - 1 - i)=i by omega]
   ·rw[if_neg h1]
    by_cases h2:k=i
    ·rw[if_pos h2,if_pos (by omega),hk _ (by omega),if_neg (by omega),h2]
    ·rw[if_neg h2,hk k hkl]
     by_cases h3:k<i∨xs.length - i≤k
     ·rw[if_pos h3,if_pos (by omega)]
     ·rw[if_neg h3,if_neg (by omega)]
  ·unfold ew Heap.dx
   rw[ha,hb,show(xs.length:Int) - 1 - ((i+1:Nat):Int)=(xs.length:Int) - 1 - i - 1 by omega]
   simp only[List.length_set]
   rfl
 ·have hge:¬2*i+1<xs.length:=by have:=ff hc;omega
  refine bn<|⟨_,aA.of rfl,?_⟩
  have:ys=xs.reverse:=by
   refine List.ext_getElem (by simp[hl]) fun k h1 h2=>?_
   have h3:=hk k (by omega)
   rw[List.getElem_reverse]
   have e1:ys.getD k 0=ys[k]:=by simp[h1]
   have e2:xs.getD (xs.length - 1 - k) 0=xs[xs.length - 1 - k]:=by rw[List.getD_eq_getElem?_getD,List.getElem?_eq_getElem (by omega)];rfl
   by_cases h4:k<i∨xs.length - i≤k
   ·rw[if_pos h4,e1,e2]at h3;exact h3
   ·rw[if_neg h4,e1]at h3
    rw[h3,←e2,show xs.length - 1 - k=k by omega]
  rw[this]
end PW
end Go.Proofs.YtnegbdpggideiaaGreatDoor
namespace Go.Proofs.YtnegbdpggideiaaGreatDoor
namespace PW
open Go.RowKit cA Mem Net
def td(a:Nat):PV:=.raw (.int .u8 (a:Int))
def gb(l:List Nat):List PV:=l.map td
instance (a:Nat):IsPure (td a):=by unfold td;infer_instance
instance (l:List Nat):aG (gb l):=aG.map _ _ fun _=>by unfold td;infer_instance
theorem o8(l:List Nat)(i:Nat)(h:i<l.length):(gb l)[i]? =some (td (l.getD i 0)):=by
 unfold gb
 rw[List.getElem?_map,List.getD_eq_getElem?_getD,List.getElem?_eq_getElem h]
 rfl
section
variable {P:Program} {σ:cd} {t:bZ} {o:Oper}
theorem wrap_small{a:Nat}(h:a<256):IntKind.i64.wrap (a:Int)=(a:Int):=by
 have h1:(a:Int) % 18446744073709551616=(a:Int):=by omega
 have h2:¬(9223372036854775808≤(a:Int)):=by omega
 show(if(true&&decide ((a:Int) % 18446744073709551616≥9223372036854775808))=true then(a:Int) % 18446744073709551616 - 18446744073709551616 else(a:Int) % 18446744073709551616)=a
 rw[h1,Bool.true_and,if_neg (by rw[decide_eq_true_eq];exact h2)]
end
end PW
end Go.Proofs.YtnegbdpggideiaaGreatDoor
namespace Go.Proofs.YtnegbdpggideiaaGreatDoor
namespace PW
open Go.RowKit cA Mem Net Go.WideShapes Go.ChangeShapes
theorem Al{P:Program}{w:World}{base:Nat}{t e:TypeId}{n:Nat}{v:Value}(ht:P.underlying t=some (.array n e))(h:Value.okWide P w .any base t v):∃cs,v= .agg cs∧cs.size=P.cellsOf t:=by
 simp only[Value.okWide,ht]at h
 obtain⟨cs,h1,h2,_⟩:=h
 exact⟨cs,h1,h2⟩
section
variable {H:Type} {enc:TypeId×Value→H} {W:World}
theorem p6{n:Nat}{v:Value}{y:DataW H×List MemPlace}(h:DataW.trod enc Tryz.prog W 0 (fun _=>true) true n 26 [v]=some y):∃L:List Nat,(∀b∈L,b<256)∧cz EN W v (.slice L.length (gb L)):=by
 obtain⟨L,hL⟩:=nj (f:=fun a: {b:Nat // b<256}=>[td a.1]) (s:=1) Tryz.underlying26 (by kernel_rfl) (by omega) (fun n cs y hy _=>by
  obtain⟨a,rfl,_,hwf⟩:=DataW.trod_int Tryz.underlying5 hy
  have hb:0≤a∧a<256:=by
   simp[Lit.wf,IntKind.min,IntKind.max,IntKind.signed,IntKind.bits]at hwf
   omega
  obtain⟨b,rfl⟩:=Int.eq_ofNat_of_zero_le hb.1
  exact⟨⟨b,by omega⟩,aU.one (.raw _)⟩) h
 refine⟨L.map Subtype.val,fun b hb=>?_,?_⟩
 ·obtain⟨a,_,rfl⟩:=List.mem_map.1 hb
  exact a.2
 ·rw[kV]at hL
  rw[List.length_map,show gb (L.map Subtype.val)=L.map (fun a=>td a.1) by unfold gb;rw[List.map_map];rfl]
  exact hL
theorem Ie{base:Nat}{v:Value}{d:DataW H}{p:List MemPlace}(hv:Value.okWide Tryz.prog W .any base 5 v)(h:DataW.Trod enc Tryz.prog W 0 (fun _=>true) true 5 v d p):∃u: {u:Nat // u<256},cz EN W v (.raw (.int .u8 (u.1:Nat))):=by
 obtain⟨n,rfl,_,_,hw⟩:=open_int Tryz.underlying5 hv h
 simp only[Lit.wf,Bool.and_eq_true,decide_eq_true_eq]at hw
 have h0:(0:Int)≤n:=hw.1
 have h1:n≤255:=hw.2
 refine⟨⟨n.toNat,by omega⟩,?_⟩
 rw[show((n.toNat:Nat):Int)=n by omega]
 exact .raw _
end
end PW
end Go.Proofs.YtnegbdpggideiaaGreatDoor
namespace Go.Proofs.YtnegbdpggideiaaGreatDoor
namespace PW
open Go.RowKit cA Mem
section
variable {P:Program} {N L:Nat} {ops:Array Oper} {Φ:qP} {Ts:List bZ} {Ss:List cd} {K:St→Prop}
def yb:Nat→Nat→List Bool
 |0,_=>[]
 |n+1,z=>Nat.beq (z % 2) 1::yb n (z / 2)
def mN(n z:Nat):Array Bool:=(yb n z).toArray
def F9(ops:Array Oper)(z:Nat)(l:List (Nat×Nat)):Bool:=
 !l.isEmpty &&(Region.ready .any ops (mN ops.size z)==l.map (·.1))&&l.all fun p=>(yb ops.size z).set p.1 true==yb ops.size p.2
def s9(Ts:List bZ)(Ss:List cd)(j:Nat)(ks:List Nat)(k:Nat):Option St:=
 match Ts[j]? with
 |some T=>match gP T ks with
  |some t=>match Ss[k]? with
   |some σ=>some ⟨t,σ⟩
   |none=>none
  |none=>none
 |none=>none
def WZ(P:Program)(N L:Nat)(ops:Array Oper)(Ts:List bZ)(Ss:List cd)(K:St→Prop)(n z j:Nat)(ks:List Nat)(k:Nat):Prop:=
 ∀st,s9 Ts Ss j ks k=some st→WA P N L ops n (mN ops.size z) st K
def yD(P:Program)(N L:Nat)(ops:Array Oper)(K:St→Prop)(n:Nat)(st:St)(l:List (Nat×Nat)):Prop:=
 ∀p∈l,∃o,ops[p.1]? =some o∧o.guard=none∧WR P N L [o].toArray [o] st (fun s=>WA P N L ops n (mN ops.size p.2) s K)
theorem tD{n:Nat}{ls:Array Bool}{st:St}(Ts:List bZ)(Ss:List cd)(ks:List Nat)(hr:s9 Ts Ss 0 ks 0=some st)(hl:ls=mN ops.size 0)(h:∀M:Nat→Nat→Nat→List Nat→Nat→Prop,(∀ {n z j ks k},WZ P N L ops Ts Ss K n z j ks k→M n z j ks k)→(∀ {n z j ks k},M n z j ks k→WZ P N L ops Ts Ss K n z j ks k)→M n 0 0 ks 0):WA P N L ops n ls st K:=by
 have:=h (WZ P N L ops Ts Ss K) id id st hr
 rwa [←hl]at this
theorem qz{z j k:Nat}{ks:List Nat}{st:St}(hr:s9 Ts Ss j ks k=some st)(hz:Region.ready .any ops (mN ops.size z)=[])(hk:K st):WZ P N L ops Ts Ss K 0 z j ks k:=fun s hs=>by
 rw[hr]at hs
 cases hs
 exact jj hz hk
theorem aa{n z j k:Nat}{ks:List Nat}{st:St}(l:List (Nat×Nat))(hr:s9 Ts Ss j ks k=some st)(hl:F9 ops z l=true)(h:yD P N L ops K n st l):WZ P N L ops Ts Ss K (n+1) z j ks k:=fun s hs=>by
 rw[hr]at hs
 cases hs
 unfold F9 at hl
 simp only[Bool.and_eq_true,List.all_eq_true]at hl
 obtain⟨⟨h0,h1⟩,h2⟩:=hl
 have h1:=eq_of_beq h1
 refine⟨?_,fun i hi=>?_⟩
 ·rw[h1]
  intro e
  cases l with
  |nil=>simp at h0
  |cons a l=>simp at e
 ·rw[h1]at hi
  obtain⟨p,hp,rfl⟩:=List.mem_map.1 hi
  obtain⟨o,e1,e2,e3⟩:=h p hp
  refine⟨o,e1,e2,?_⟩
  have e:(mN ops.size z).setIfInBounds p.1 true=mN ops.size p.2:=by
   unfold mN
   rw[←eq_of_beq (h2 p hp)]
   simp
  rw[e]
  exact e3
theorem ae{n:Nat}{st:St}:yD P N L ops K n st []:=fun p hp=>by simp at hp
theorem o5{n i z:Nat}{st:St}{o:Oper}{l:List (Nat×Nat)}(ho:ops[i]? =some o)(hg:o.guard=none)(h:WR P N L [o].toArray [o] st (fun s=>WA P N L ops n (mN ops.size z) s K))(hs:yD P N L ops K n st l):yD P N L ops K n st ((i,z)::l):=fun p hp=>by
 rcases List.mem_cons.1 hp with rfl|hp
 ·exact⟨o,ho,hg,h⟩
 ·exact hs p hp
variable {n i z j k:Nat} {ks:List Nat} {o:Oper} {t t':bZ} {σ σ':cd} {l:List (Nat×Nat)} {p:PV} {d:Nat}
theorem bc(ho:ops[i]? =some o)(hg:o.guard=none)(hy:bg P σ t o p)(hd:dk N [o].toArray t o=some d)(ha:WZ P N L ops Ts Ss K n z j ks k)(hr:s9 Ts Ss j ks k=some ⟨t',σ⟩)(hk:gP ((d,p)::t) ks=some t')(hs:yD P N L ops K n ⟨t,σ⟩ l):yD P N L ops K n ⟨t,σ⟩ ((i,z)::l):=
 o5 ho hg (bz hy hd (aH ks hk (ha _ hr))) hs
theorem bY(ho:ops[i]? =some o)(hg:o.guard=none)(hy:cK P σ t o p σ')(hd:dk N [o].toArray t o=some d)(ha:WZ P N L ops Ts Ss K n z j ks k)(hr:s9 Ts Ss j ks k=some ⟨t',σ'⟩)(hk:gP ((d,p)::t) ks=some t')(hs:yD P N L ops K n ⟨t,σ⟩ l):yD P N L ops K n ⟨t,σ⟩ ((i,z)::l):=
 o5 ho hg (ca hy hd (aH ks hk (ha _ hr))) hs
theorem nR(ho:ops[i]? =some o)(hg:o.guard=none)(hy:cK P σ t o p σ')(hd:o.dst=none)(hw:eE [o].toArray t o=some true)(ha:WZ P N L ops Ts Ss K n z j ks k)(hr:s9 Ts Ss j ks k=some ⟨t',σ'⟩)(hk:gP t ks=some t')(hs:yD P N L ops K n ⟨t,σ⟩ l):yD P N L ops K n ⟨t,σ⟩ ((i,z)::l):=
 o5 ho hg (br hy hd hw (aH ks hk (ha _ hr))) hs
theorem eF[Has P Φ]{f:Nat}{ps:List PV}(ho:ops[i]? =some o)(hg:o.guard=none)(hf:mV Φ t o.op=some (f,ps))(hd:dk N [o].toArray t o=some d)(hc:bS P f ps σ (fun r s=>r=p∧s=σ'))(ha:WZ P N L ops Ts Ss K n z j ks k)(hr:s9 Ts Ss j ks k=some ⟨t',σ'⟩)(hk:gP ((d,p)::t) ks=some t')(hs:yD P N L ops K n ⟨t,σ⟩ l):yD P N L ops K n ⟨t,σ⟩ ((i,z)::l):=
 o5 ho hg (cM hf hd (bS.mono hc (fun r s h=>by obtain⟨rfl,rfl⟩:=h;exact aH ks hk (ha _ hr)))) hs
def Gl(Φ:qP)(ops:Array Oper)(N:Nat)(t:bZ)(σ:cd)(i:Nat)(ks:List Nat):Option bZ:=
 match ops[i]? with
 |some o=>match o.guard with
  |none=>match fv Φ σ t o.op with
   |some p=>match dk N [o].toArray t o with
    |some d=>gP ((d,p)::t) ks
    |none=>none
   |none=>none
  |some _=>none
 |none=>none
theorem ag[hP:Has P Φ](ha:WZ P N L ops Ts Ss K n z j ks k)(hr:s9 Ts Ss j ks k=some ⟨t',σ⟩)(h:Gl Φ ops N t σ i ks=some t')(hs:yD P N L ops K n ⟨t,σ⟩ l):yD P N L ops K n ⟨t,σ⟩ ((i,z)::l):=by
 unfold Gl at h
 split at h
 ·rename_i o ho
  split at h
  ·rename_i hg
   split at h
   ·rename_i p hp
    split at h
    ·rename_i d hd
     exact bc ho hg (bF hp) hd ha hr h hs
    ·cases h
   ·cases h
  ·cases h
 ·cases h
end
end PW
end Go.Proofs.YtnegbdpggideiaaGreatDoor
