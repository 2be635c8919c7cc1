/- Texts of the proof, part 13. -/
import Derived.Lib.ItoaNum
import Derived.Laws.StructEq
import Derived.Lib.AppendStr
import Derived.Lib.UnsafeStr
import Derived.Lib.Builder
import Derived.Shelf.Strings.Builder1
import Derived.Shelf.Strings.BuilderF
import Derived.Shelf.Strings.BuilderK
import Derived.Shelf.Strconv.Itoa0
import Derived.Shelf.Strconv.Itoa1
import Derived.Shelf.LaysM
import Derived.Shelf.Strconv.Itoa2
import Derived.Shelf.Strconv.Itoa3
import Derived.Test.YtnegbdpggideiaaGreatDoorProg
import Derived.Test.YtnegbdpggideiaaGreatDoorCardMRB12
set_option linter.unusedVariables false
set_option linter.unusedSimpArgs false
set_option maxRecDepth 10000
set_option maxHeartbeats 1000000
namespace Go.Proofs.YtnegbdpggideiaaGreatDoor
namespace PW
open Go.RowKit cH Mem Net fw
section
variable {T:an} {D D':List Bool} {k x:Int} {d:Nat} {st:Nat→Int} {p0:fu}
theorem rm(hv:ao T=true)(hd:(d:Int)<T.nodes)(hD:∀a,aI D a=aI D' a):∀(f n:Nat),eA T D d f n=eA T D' d f n
 |0,n=>rfl
 |f+1,n=>by
  simp only[eA]
  rw[Cz hv hd hD]
  cases h:aX T D' n d with
  |nil=>rfl
  |cons a l=>simp only[rm hv hd hD f]
theorem zK(hv:ao T=true)(hd:(d:Int)<T.nodes)(hD:∀a,aI D a=aI D' a)(n:Nat):bY T D n d=bY T D' n d:=by
 unfold bY
 rw[qi hv hd hD,rm hv hd hD]
theorem IP(hv:ao T=true)(h12:T.nodes≤12)(hd:(d:Int)<T.nodes)(hcv:ts T k x=true)(hp0:p0.dst=(d:Int)){n e:Nat}{s:List ca}{p:List Int}{w:Int}(hb:Br T (nm T (aC T k x) st) p0 n s p e w)(h:Open T k x d n s)(hne:n≠d)(h1:st n=1){a0:Int}(xY:ev (dr T (aC T k x) n) (aX T [] n d)=some a0):
  p=bY T (aC T (cA T a0.toNat d).1 (cA T a0.toNat d).2) n d∧e=d∧w= -1∧(gN T (dr T (aC T k x) n) n d).aK=[p.getD 0 0]∧0<p.length:=by
 obtain⟨h2,h3⟩:=iw xY
 obtain⟨c1,c2,c3⟩:=kG hv hcv h.node hd h.here h.reach h3
 have he:gN T (dr T (aC T k x) n) n d=i7 T (lr T (dr T (aC T k x) n) n d a0.toNat) n d:=by unfold gN;rw[xY]
 have ht:fy T (aC T k x) (st n) n=kV T (aC T k x) n:=by unfold fy;rw[h1,if_neg (by decide),if_pos rfl]
 obtain⟨b,m,s',q,e1,e2,e3,e4,_⟩:=jo hv h12 hd h.node hne (ke (nZ T _ _) _) c1 c2 (kl (M:=aC T k x) hv h12 h.node) rfl (by rw[rD hd,he]) (p:=de p0 s) hp0 rfl (by show s=[];exact h.nil)
 have hsm:=zK hv hd c3 n
 have hP:(gN T (dr T (aC T k x) n) n d).aK=[(b:Int)]:=by
  rw[he]
  have hsp:fM T (lr T (dr T (aC T k x) n) n d a0.toNat) (n:Int) d=0:=by rw[iv hv (ke (nZ T _ _) _) h.node hd,if_neg (by omega)]
  obtain⟨n',d',f1,f2,hP⟩:=o9 hsp (by omega)
  have f1:n=n':=by omega
  have f2:d=d':=by omega
  subst f1;subst f2
  rw[mD hP,e1]
  rfl
 cases hb with
 |stop h0=>
  rw[show nm T (aC T k x) st n=fy T (aC T k x) (st n) n from rfl,ht,e3]at h0
  cases h0
 | @go _ m2 _ _ a p _ ha hm hr=>
  rw[show nm T (aC T k x) st n=fy T (aC T k x) (st n) n from rfl,ht,e3]at ha hr
  have ha:a∈[(b:Int)]:=ha
  rw[List.mem_singleton]at ha
  subst ha
  have hmm:m2=m:=by
   have h5:=e2.head
   rw[Int.toNat_natCast,h5]at hm
   omega
  subst hmm
  obtain⟨i1,i2,i3,_⟩:=Bb hv h12 hd hp0 hr e4
  exact⟨by rw[←hsm,e1,i1],i2,i3,hP,by simp⟩
end
end PW
end Go.Proofs.YtnegbdpggideiaaGreatDoor
namespace Go.Proofs.YtnegbdpggideiaaGreatDoor
namespace PW
open Go.RowKit cH Mem Net fw
def pn(k x n:Int):Bool:=decide (k=2)&&decide (x=n)
def qc(T:an)(k x:Int)(n:Nat):Bool:=(List.range (2*T.ae.length)).any fun a=>aI (aC T k x) a&&decide (aZ T a=(n:Int))
def qu(s:Int):Bool:=decide (0≤s)&&decide (s≤3)
def sI(c:Bool)(s:Int):Bool:= !decide (s=3)&&(!decide (s=0)|| !c)&&(!decide (s=1)||c)
def nO(s:Int):Bool:=decide (s=2)||decide (s=3)
def dL(k x:Int)(p:Nat→Bool)(m:Nat):Bool:=(List.range m).all fun n=>pn k x n||p n
theorem gS(k x:Int)(p:Nat→Bool)(m:Nat):dL k x p (m+1)=(dL k x p m&&(pn k x m||p m)):=by
 unfold dL
 rw[List.range_succ,List.all_append]
 simp
theorem kq{k x:Int}{p:Nat→Bool}{m:Nat}:dL k x p m=true↔∀n,n<m→pn k x n=false→p n=true:=by
 unfold dL
 rw[List.all_eq_true]
 constructor
 ·intro h n hn hg
  have:=h n (List.mem_range.2 hn)
  rw[hg,Bool.false_or]at this
  exact this
 ·intro h n hn
  cases hg:pn k x n with
  |true=>rfl
  |false=>rw[Bool.false_or];exact h n (List.mem_range.1 hn) hg
def ft(l:List Int)(n:Nat):Int:=l.getD n 0
def fI(T:an)(k x:Int)(l:List Int):Bool:=
 if(ao T&&bZ T k x)&&decide ((l.length:Int)=T.nodes) then dL k x (fun n=>qu (ft l n)) l.length&&(dL k x (fun n=>sI (qc T k x n) (ft l n)) l.length||dL k x (fun n=>nO (ft l n)) l.length) else false
theorem qX{k x:Int}{p:Nat→Bool}{m i:Nat}(hi:i<m)(hg:pn k x i=false)(hp:p i=false):dL k x p m=false:=by
 cases h:dL k x p m with
 |false=>rfl
 |true=>rw[kq.1 h i hi hg]at hp;cases hp
section
variable {T:an} {k x:Int} {l:List Int}
theorem Iy{n:Nat}:pn k x n=true↔Gn k x n:=by
 unfold pn Gn
 simp
theorem nD{n:Nat}:pn k x n=false↔¬Gn k x n:=by
 rw[←Iy];simp
theorem DH{n:Nat}:qc T k x n=false↔∀a,a<2*T.ae.length→aZ T a=(n:Int)→aI (aC T k x) a=false:=by
 unfold qc
 rw[List.any_eq_false]
 constructor
 ·intro h a ha ht
  have:=h a (List.mem_range.2 ha)
  rw[decide_eq_true ht,Bool.and_true]at this
  simpa using this
 ·intro h a ha
  rw[List.mem_range]at ha
  by_cases ht:aZ T a=(n:Int)
  ·rw[h a ha ht];simp
  ·rw[decide_eq_false ht];simp
theorem FK(h:fI T k x l=true):ao T=true∧bZ T k x=true∧(l.length:Int)=T.nodes∧(∀n:Nat,(n:Int)<T.nodes→¬Gn k x n→0≤ft l n∧ft l n≤3)∧∃late,Perm T k x late (ft l)∧(late=dL k x (fun n=>nO (ft l n)) l.length):=by
 unfold fI at h
 split at h
 ·rename_i h1
  simp only[Bool.and_eq_true,decide_eq_true_eq,Bool.or_eq_true]at h1 h
  obtain⟨⟨hv,hc⟩,hl⟩:=h1
  obtain⟨hok,hel⟩:=h
  refine⟨hv,hc,hl,fun n hn hg=>?_,_,?_,rfl⟩
  ·have:=kq.1 hok n (by omega) (nD.2 hg)
   unfold qu at this
   simpa using this
  ·cases hla:dL k x (fun n=>nO (ft l n)) l.length with
   |true=>
    intro n hn hg
    have:=kq.1 hla n (by omega) (nD.2 hg)
    rw[if_pos rfl]
    unfold nO at this
    simp only[Bool.or_eq_true,decide_eq_true_eq]at this
    omega
   |false=>
    rw[hla]at hel
    have her:dL k x (fun n=>sI (qc T k x n) (ft l n)) l.length=true:=by
     rcases hel with h|h
     ·exact h
     ·cases h
    intro n hn hg
    have h1:=kq.1 her n (by omega) (nD.2 hg)
    have h2:=kq.1 hok n (by omega) (nD.2 hg)
    rw[if_neg (by simp)]
    unfold sI at h1
    unfold qu at h2
    simp only[Bool.and_eq_true,Bool.or_eq_true,Bool.not_eq_true',decide_eq_true_eq,decide_eq_false_iff_not]at h1 h2
    obtain⟨⟨e3,e0⟩,e1⟩:=h1
    refine⟨by omega,fun h0=>DH.1 ?_⟩
    rcases e0 with e0|e0
    ·exact absurd h0 e0
    ·exact e0
 ·cases h
end
end PW
end Go.Proofs.YtnegbdpggideiaaGreatDoor
namespace Go.Proofs.YtnegbdpggideiaaGreatDoor
namespace PW
open Go.RowKit cH Mem Net fw
theorem s4(k x n:Int):Can Tryz.prog 73 [bW k x,num n] (· =flag (pn k x n)):=by
 obtain⟨q1,hq1⟩:∃q,decide (k=2)=q:=⟨_,rfl⟩
 obtain⟨q2,hq2⟩:∃q,decide (x=n)=q:=⟨_,rfl⟩
 unfold pn
 rw[hq1,hq2]
 refine aE Tryz.func73 rfl Tryz.ntmps73 rfl<|ab (.a 2 rfl<|.k [1,2] rfl)<|bu 4 (.raw (.bool (q1&&q2))) [] rfl ?_ ?_
 ·refine .a 2 rfl<|.v (b9 rfl (hq1)) rfl<|.a 1 rfl<|?_
  cases q1
  ·exact .a 6 rfl<|.k [4] rfl
  ·exact .a 3 rfl<|.v (b9 rfl (hq2)) rfl<|.a 2 rfl<|.k [4] rfl
 exact aq<|⟨_,_,aA.of rfl,aB.pure,rfl⟩
def wL(T:an)(M:List Bool)(N a:Nat):List Bool:=(List.range N).map fun(n:Nat)=>(List.range a).any fun b=>aI M b&&decide (aZ T b=(n:Int))
section
variable {T:an} {M:List Bool} {N a:Nat}
theorem AL:(wL T M N a).length=N:=by simp[wL]
theorem D8:wL T M N 0=List.replicate N false:=by
 unfold wL
 refine List.ext_getElem (by simp) fun i h1 h2=>by simp
theorem I2(h:aI M a=false):wL T M N (a+1)=wL T M N a:=by
 unfold wL
 refine List.map_congr_left fun n _=>?_
 rw[List.range_succ,List.any_append]
 simp[h]
theorem FG(h:aI M a=true){m:Nat}(hm:aZ T a=(m:Int)):wL T M N (a+1)=(wL T M N a).set m true:=by
 refine List.ext_getElem (by simp[wL]) fun i h1 h2=>?_
 rw[List.getElem_set]
 simp only[wL,List.getElem_map,List.getElem_range,List.range_succ,List.any_append,List.any_cons,List.any_nil,Bool.or_false,h,Bool.true_and,hm]
 by_cases e:m=i
 ·subst e;simp
 ·rw[if_neg e,decide_eq_false (by omega),Bool.or_false]
theorem Gd{k x:Int}{n:Nat}(hn:n<N):(wL T (aC T k x) N (2*T.ae.length)).getD n false=qc T k x n:=by
 unfold wL qc
 simp[hn]
end
set_option maxHeartbeats 4000000 in
theorem nc(T:an)(k x:Int)(l:List Int)(hl:l.length≤1000):Can Tryz.prog 25 [aN T,bW k x,aw l] (· =flag (fI T k x l)):=by
  obtain⟨q1,hq1⟩:∃q,decide (da T k x≠0)=q:=⟨_,rfl⟩
  obtain⟨q2,hq2⟩:∃q,decide ((l.length:Int)≠T.nodes)=q:=⟨_,rfl⟩
  have hme:da T k x=if(ao T&&bZ T k x)=true then 0 else 1:=rfl
  refine aE Tryz.func25 rfl Tryz.ntmps25 rfl<|ab (.a 3 rfl<|.k [2,3,4] rfl)<|ab (.a 2 rfl<|.c rfl (mh T k x) rfl<|.a 5 rfl<|.k [2,3,4,7,8] rfl)<|ah<|bu 30 (.raw (.bool (q1||q2))) [2,3,4,7] rfl ?_ ?_
  · refine .a 1 rfl<|.v (b9 rfl (hq1)) rfl<|.a 1 rfl<|?_
    cases q1
    · exact .a 3 rfl<|.v (aL rfl (rfl)) rfl<|.v (b9 rfl (hq2)) rfl<|.a 1 rfl<|.k [30,2,3,4,7] rfl
    · exact .a 6 rfl<|.k [30,2,3,4,7] rfl
  refine ag rfl (fun hc=>?_) (fun hc=>?_)
  · have hno:fI T k x l=false:=by
      unfold fI
      split
      · rename_i h
        exfalso
        obtain⟨h1,h2⟩:=Bool.and_eq_true_iff.1 h
        rw[if_pos h1]at hme
        rw[←hq1,←hq2,hme]at hc
        simp only[ne_eq,not_true_eq_false,decide_false,Bool.false_or,decide_eq_true_eq]at hc h2
        exact hc h2
      · rfl
    exact ab (.a 1 rfl<|.k [6] rfl)<|aq<|⟨_,_,aA.of rfl,aB.pure,by rw[hno];rfl⟩
  · obtain ⟨rfl, rfl⟩ := Bool.or_eq_false_iff.1 hc
    have hvc:(ao T&&bZ T k x)=true:=by
      cases h:(ao T&&bZ T k x)with
      |true=>rfl
      |false=>rw[if_neg (by rw[h];decide)]at hme;exact absurd (ff hq1) (by rw[hme];decide)
    have hln:(l.length:Int)=T.nodes:=by have:=ff hq2;simpa using this
    have hP:fI T k x l=(dL k x (fun n=>qu (ft l n)) l.length&&(dL k x (fun n=>sI (qc T k x n) (ft l n)) l.length||dL k x (fun n=>nO (ft l n)) l.length)):=by
      unfold fI
      rw[if_pos (by rw[hvc,decide_eq_true hln];rfl)]
    have hv:=(Bool.and_eq_true_iff.1 hvc).1
    have hMl:=ez T k x
    have hll:=bJ hv
    rw[if_pos hvc]at hme
    rw[hme]
    simp only[if_true]
    obtain⟨M,hM⟩:∃M,aC T k x=M:=⟨_,rfl⟩
    obtain⟨N,hN⟩:∃N:Nat,l.length=N:=⟨_,rfl⟩
    have hTN:T.nodes=(N:Int):=by omega
    rw[hM]at hMl ⊢
    refine ai<|aP<|av 1 rfl<|bC (aL rfl ((show some (num T.nodes)=some (num (N:Int)) by rw[hTN]))) rfl<|cp (dF rfl (bI.rk.get rfl) rfl rfl (rfl:(N:Int)=(N:Int)) (rfl:(N:Int)=(N:Int)) ⟨by unfold maxLen;omega,by omega⟩) rfl<|av 1 rfl<|aG [2,3,4,7,9] rfl ?_
    refine er (σ':=[some (.row 4 1 N (bQ (wL T M N 0)))]) (by rw[D8,←iA];rfl) ?_
    refine ah<|ab (.a 3 rfl<|.k [2,3,4,9,34,35,36] rfl)<|au<|eu [2,3,4,9,34,35,36] rfl<|bf (fun r st=>∃a,a≤M.length∧r=M.length - a∧st=⟨[(2,aw l),(3,.aY (bq T) 0),(4,.aY (ct k x) 0),(9,.own 0),(34,aQ M),(35,num M.length),(36,num a)],[some (.row 4 1 N (bQ (wL T M N a)))]⟩) M.length ⟨0,by omega,by omega,rfl⟩ ?_
    rintro r st ⟨a,ha,rfl,rfl⟩
    refine ab (.a 1 rfl<|.k [2,3,4,9,34,35,36,37] rfl)<|ah<|ag rfl (fun hc=>?_) (fun hc=>?_)
    · have hlt:a<M.length:=by have:=tt hc;omega
      obtain⟨b,hb⟩:∃b,aI M a=b:=⟨_,rfl⟩
      obtain⟨m,hm⟩:=Int.eq_ofNat_of_zero_le ((aM hv).tail a (by omega)).1
      have hmN:=((aM hv).tail a (by omega)).2
      refine ai<|ah<|au<|ab (.a 1 rfl<|.v (aJ (a) rfl) rfl<|.v (aL rfl ((cF M a hlt).trans (by rw[show M.getD a false=b from hb]))) rfl<|.a 2 rfl<|.k [2,3,4,9,10,11,34,35,36] rfl)<|ab (.a 1 rfl<|.k [2,3,4,9,10,34,35,36,41] rfl)<|ag rfl (fun hc=>?_) (fun hc=>?_)
      · have hst:=FG (N:=N) (hb.trans hc) hm
        have hcl:=AL (T:=T) (M:=M) (N:=N) (a:=a)
        refine bF<|av 3 rfl<|ec rfl ((show Can Tryz.prog 79 [aN T,num a] (· =num m) by have h:=jn T a (by omega);rw[hm]at h;exact h)) rfl<|bC (aJ (m) rfl) rfl<|bg ((by first|exact bE rfl (bI.tk.get rfl) rfl rfl rfl (by first|omega|(simp;omega))|exact aV rfl (bI.tk.get rfl) rfl rfl rfl (by first|omega|(simp;omega)))) rfl rfl<|aG [2,3,4,9,34,35,36] rfl ?_
        refine az (.v (aS rfl) rfl<|.a 1 rfl<|.k [2,3,4,9,34,35,36] rfl) ?_
        exact⟨M.length - (a+1),by omega,a+1,by omega,rfl,by rw[hst];rfl⟩
      · have hst:=I2 (T:=T) (N:=N) (hb.trans hc)
        refine ai<|az (.v (aS rfl) rfl<|.a 1 rfl<|.k [2,3,4,9,34,35,36] rfl) ?_
        exact⟨M.length - (a+1),by omega,a+1,by omega,rfl,by rw[hst];rfl⟩
    · have hae:a=M.length:=by have:=ff hc;omega
      refine ba<|ab (.a 2 rfl<|.k [2,4,9,12,13] rfl)<|ah<|ab (.a 3 rfl<|.k [4,9,12,13,48,49,50] rfl)<|au<|eu [4,9,12,13,48,49,50] rfl<|bf (fun r st=>∃i,i≤l.length∧dL k x (fun n=>qu (ft l n)) i=true∧r=l.length - i∧st=⟨[(4,.aY (ct k x) 0),(9,.own 0),(12,flag (dL k x (fun n=>sI (qc T k x n) (ft l n)) i)),(13,flag (dL k x (fun n=>nO (ft l n)) i)),(48,aw l),(49,num l.length),(50,num i)],[some (.row 4 1 N (bQ (wL T M N a)))]⟩) l.length ⟨0,by omega,rfl,by omega,rfl⟩ ?_
      rintro r st ⟨i,hi,hO0,rfl,rfl⟩
      have hcc:∀n,n<N→(wL T M N a).getD n false=qc T k x n:=fun n hn=>by rw[hae,hMl,←hM];exact Gd hn
      have hcl:=AL (T:=T) (M:=M) (N:=N) (a:=a)
      have hE:=gS k x (fun n=>sI (qc T k x n) (ft l n)) i
      have hL:=gS k x (fun n=>nO (ft l n)) i
      have hO:=gS k x (fun n=>qu (ft l n)) i
      obtain⟨eb,heb⟩:∃b,dL k x (fun n=>sI (qc T k x n) (ft l n)) i=b:=⟨_,rfl⟩
      obtain⟨lb,hlb⟩:∃b,dL k x (fun n=>nO (ft l n)) i=b:=⟨_,rfl⟩
      rw[heb]at hE ⊢
      rw[hlb]at hL ⊢
      rw[hO0]at hO
      refine ab (.a 1 rfl<|.k [4,9,12,13,48,49,50,51] rfl)<|ah<|ag rfl (fun hc=>?_) (fun hc=>?_)
      · have hlt:i<l.length:=by have:=tt hc;omega
        obtain⟨g,hg⟩:∃g,pn k x i=g:=⟨_,rfl⟩
        obtain⟨c,hcb⟩:∃c,qc T k x i=c:=⟨_,rfl⟩
        have hci:=(hcc i (by omega)).trans hcb
        have hilt:i<N:=by omega
        obtain⟨s,hs⟩:∃s,ft l i=s:=⟨_,rfl⟩
        have hsl:l.getD i 0=s:=hs
        simp only[hg,hcb,hs]at hE hL hO
        refine ai<|ah<|au<|ab (.a 1 rfl<|.v (aJ (i) rfl) rfl<|.v (aL rfl ((ax l i hlt).trans (by rw[hsl]))) rfl<|.a 2 rfl<|.k [4,9,12,13,14,15,48,49,50] rfl)<|ah<|ab (.a 2 rfl<|.c rfl (hg▸s4 k x i) rfl<|.k [4,9,12,13,14,15,48,49,50,57] rfl)<|ag rfl (fun hc=>?_) (fun hc=>?_)
        · rw[hc,Bool.true_or,Bool.and_true]at hE hL hO
          refine lf (bm (ks:=[4,9,12,13,48,49,50]) rfl) ?_
          refine ba<|az (.v (aS rfl) rfl<|.a 1 rfl<|.k [4,9,12,13,48,49,50] rfl) ?_
          exact⟨l.length - (i+1),by omega,i+1,by omega,hO,rfl,by rw[hE,hL];rfl⟩
        · have hg0:pn k x i=false:=hg.trans hc
          rw[hc,Bool.false_or]at hE hL hO
          refine ai<|ab (.a 1 rfl<|.k [4,9,12,13,14,48,49,50,58] rfl)<|au<|ab (.a 2 rfl<|.k [4,9,12,13,14,48,49,50,58,59] rfl)<|ag rfl (fun hc=>?_) (fun hc=>?_)
          · have hs0:s=0:=tt hc
            subst hs0
            replace hE:dL k x (fun n=>sI (qc T k x n) (ft l n)) (i+1)=(eb&& !c):=by rw[hE];simp[sI]
            replace hL:dL k x (fun n=>nO (ft l n)) (i+1)=false:=by rw[hL];simp[nO]
            replace hO:dL k x (fun n=>qu (ft l n)) (i+1)=true:=by rw[hO];rfl
            refine ab (.a 1 rfl<|.k [4,9,12,13,14,48,49,50] rfl)<|rz 12 (.raw (.bool (eb&& !c))) [4,9,13,48,49,50] rfl ?_ ?_
            · refine .a 2 rfl<|?_
              cases eb
              · exact .a 7 rfl<|.k [12,4,9,13,48,49,50] rfl
              · exact .a 2 rfl<|.v (aJ (i) rfl) rfl<|.v (aL rfl ((cF _ i (by rw[hcl];exact hilt)).trans (by rw[hci];try rfl))) rfl<|.a 3 rfl<|.k [12,4,9,13,48,49,50] rfl
            refine az (.v (aS rfl) rfl<|.a 1 rfl<|.k [4,9,12,13,48,49,50] rfl) ?_
            exact⟨l.length - (i+1),by omega,i+1,by omega,hO,rfl,by rw[hE,hL];rfl⟩
          · have n0:¬s=0:=ff hc
            refine ab (.a 2 rfl<|.k [4,9,12,13,14,48,49,50,58,69] rfl)<|ag rfl (fun hc=>?_) (fun hc=>?_)
            · have hs0:s=1:=tt hc
              subst hs0
              replace hE:dL k x (fun n=>sI (qc T k x n) (ft l n)) (i+1)=(eb&&c):=by rw[hE];simp[sI]
              replace hL:dL k x (fun n=>nO (ft l n)) (i+1)=false:=by rw[hL];simp[nO]
              replace hO:dL k x (fun n=>qu (ft l n)) (i+1)=true:=by rw[hO];rfl
              refine ab (.a 1 rfl<|.k [4,9,12,13,14,48,49,50] rfl)<|rz 12 (.raw (.bool (eb&&c))) [4,9,13,48,49,50] rfl ?_ ?_
              · refine .a 2 rfl<|?_
                cases eb
                · exact .a 6 rfl<|.k [12,4,9,13,48,49,50] rfl
                · exact .a 2 rfl<|.v (aJ (i) rfl) rfl<|.v (aL rfl ((cF _ i (by rw[hcl];exact hilt)).trans (by rw[hci];try rfl))) rfl<|.a 2 rfl<|.k [12,4,9,13,48,49,50] rfl
              refine az (.v (aS rfl) rfl<|.a 1 rfl<|.k [4,9,12,13,48,49,50] rfl) ?_
              exact⟨l.length - (i+1),by omega,i+1,by omega,hO,rfl,by rw[hE,hL];rfl⟩
            · have n1:¬s=1:=ff hc
              refine ab (.a 2 rfl<|.k [4,9,12,13,48,49,50,58,78] rfl)<|ag rfl (fun hc=>?_) (fun hc=>?_)
              · have hs0:s=2:=tt hc
                subst hs0
                replace hE:dL k x (fun n=>sI (qc T k x n) (ft l n)) (i+1)=eb:=by rw[hE];simp[sI]
                replace hL:dL k x (fun n=>nO (ft l n)) (i+1)=lb:=by rw[hL];simp[nO]
                replace hO:dL k x (fun n=>qu (ft l n)) (i+1)=true:=by rw[hO];rfl
                refine ai<|az (.v (aS rfl) rfl<|.a 1 rfl<|.k [4,9,12,13,48,49,50] rfl) ?_
                exact⟨l.length - (i+1),by omega,i+1,by omega,hO,rfl,by rw[hE,hL];rfl⟩
              · have n2:¬s=2:=ff hc
                refine ab (.a 2 rfl<|.k [4,9,13,48,49,50,80] rfl)<|ag rfl (fun hc=>?_) (fun hc=>?_)
                · have hs0:s=3:=tt hc
                  subst hs0
                  replace hE:dL k x (fun n=>sI (qc T k x n) (ft l n)) (i+1)=false:=by rw[hE];simp[sI]
                  replace hL:dL k x (fun n=>nO (ft l n)) (i+1)=lb:=by rw[hL];simp[nO]
                  replace hO:dL k x (fun n=>qu (ft l n)) (i+1)=true:=by rw[hO];rfl
                  refine az (.a 1 rfl<|.k [4,9,12,13,48,49,50] rfl) ?_
                  refine az (.v (aS rfl) rfl<|.a 1 rfl<|.k [4,9,12,13,48,49,50] rfl) ?_
                  exact⟨l.length - (i+1),by omega,i+1,by omega,hO,rfl,by rw[hE,hL];rfl⟩
                · have n3:¬s=3:=ff hc
                  refine ab (.a 1 rfl<|.k [6] rfl)<|aq ?_
                  have hbad:dL k x (fun n=>qu (ft l n)) l.length=false:=by
                    refine qX hlt hg0 ?_
                    show qu (ft l i)=false
                    rw[hs]
                    unfold qu
                    by_cases h1:0≤s
                    · rw[decide_eq_false (by omega:¬s≤3),Bool.and_false]
                    · rw[decide_eq_false h1,Bool.false_and]
                  exact⟨_,_,aA.of rfl,aB.pure,by rw[hP,hbad];rfl⟩
      · have hie:i=l.length:=by have:=ff hc;omega
        subst hie
        refine ba<|bu 6 (.raw (.bool (eb||lb))) [] rfl ?_ ?_
        · refine .a 2 rfl<|?_
          cases eb
          · exact .a 3 rfl<|.k [6] rfl
          · exact .a 3 rfl<|.k [6] rfl
        exact aq<|⟨_,_,aA.of rfl,aB.pure,by rw[hP,hO0,heb,hlb];rfl⟩
end PW
end Go.Proofs.YtnegbdpggideiaaGreatDoor
namespace Go.Proofs.YtnegbdpggideiaaGreatDoor
namespace PW
open Go.RowKit cH Mem Net
def gW(s:List ca):Prop:=∀g∈s,0≤g.kind∧g.kind<100∧0≤g.num∧g.num<100
def GY(g:ca):List UInt8:=32::(Lib.decDigits g.kind.toNat++58::Lib.decDigits g.num.toNat)
def dZ(n:Nat)(s:List ca):List UInt8:=Lib.decDigits n++s.flatMap GY
def DU(c:UInt8):Prop:=48≤c.toNat∧c.toNat≤57
theorem mn{n:Nat}(h:n<100):∀c∈Lib.decDigits n,DU c:=by
 intro c hc
 by_cases h1:n<10
 ·rw[Lib.decDigits_one h1,List.mem_singleton]at hc
  subst hc
  unfold DU
  rw[UInt8.toNat_ofNat']
  omega
 ·rw[Lib.decDigits_two h1 h]at hc
  simp only[List.mem_cons,List.not_mem_nil,or_false]at hc
  rcases hc with rfl|rfl<;>(unfold DU;rw[UInt8.toNat_ofNat'];omega)
theorem ofNat_inj{a b:Nat}(ha:a<256)(hb:b<256)(h:UInt8.ofNat a=UInt8.ofNat b):a=b:=by
 have:=congrArg UInt8.toNat h
 rw[UInt8.toNat_ofNat',UInt8.toNat_ofNat']at this
 omega
theorem uC{m n:Nat}(hm:m<100)(hn:n<100)(h:Lib.decDigits m=Lib.decDigits n):m=n:=by
 by_cases h1:m<10<;>by_cases h2:n<10
 ·rw[Lib.decDigits_one h1,Lib.decDigits_one h2]at h
  have:=ofNat_inj (by omega) (by omega) (List.cons.inj h).1
  omega
 ·rw[Lib.decDigits_one h1,Lib.decDigits_two h2 hn]at h
  cases(List.cons.inj h).2
 ·rw[Lib.decDigits_two h1 hm,Lib.decDigits_one h2]at h
  cases(List.cons.inj h).2
 ·rw[Lib.decDigits_two h1 hm,Lib.decDigits_two h2 hn]at h
  have e1:=ofNat_inj (by omega) (by omega) (List.cons.inj h).1
  have e2:=ofNat_inj (by omega) (by omega) (List.cons.inj (List.cons.inj h).2).1
  omega
theorem kI{n:Nat}(h:n<100):(Lib.decDigits n).length≤2∧0<(Lib.decDigits n).length:=by
 by_cases h1:n<10
 ·rw[Lib.decDigits_one h1];simp
 ·rw[Lib.decDigits_two h1 h];simp
theorem ml:∀(A B X Y:List UInt8),(∀c∈A,DU c)→(∀c∈B,DU c)→(∀c Z,X=c::Z→¬DU c)→(∀c Z,Y=c::Z→¬DU c)→A++X=B++Y→A=B∧X=Y
 | [],[],X,Y,_,_,_,_,h=>⟨rfl,h⟩
 | [],b::B,X,Y,_,hB,hX,_,h=>absurd (hB b (by simp)) (hX b (B++Y) h)
 |a::A,[],X,Y,hA,_,_,hY,h=>absurd (hA a (by simp)) (hY a (A++X) h.symm)
 |a::A,b::B,X,Y,hA,hB,hX,hY,h=>by
  obtain⟨h1,h2⟩:=List.cons.inj h
  obtain⟨h3,h4⟩:=ml A B X Y (fun c hc=>hA c (by simp[hc])) (fun c hc=>hB c (by simp[hc])) hX hY h2
  exact⟨by rw[h1,h3],h4⟩
theorem mw{s:List ca}:∀c Z,s.flatMap GY=c::Z→¬DU c:=by
 intro c Z h
 cases s with
 |nil=>cases h
 |cons g s=>
  rw[List.flatMap_cons]at h
  have:=(List.cons.inj h).1
  subst this
  unfold DU
  decide
theorem v8:∀ {s s':List ca},gW s→gW s'→s.flatMap GY=s'.flatMap GY→s=s'
 | [],[],_,_,_=>rfl
 | [],g::s',_,_,h=>by rw[List.flatMap_cons]at h;cases h
 |g::s,[],_,_,h=>by rw[List.flatMap_cons]at h;cases h
 |g::s,g'::s',h1,h2,h=>by
  obtain⟨a1,a2,a3,a4⟩:=h1 g (by simp)
  obtain⟨b1,b2,b3,b4⟩:=h2 g' (by simp)
  rw[List.flatMap_cons,List.flatMap_cons]at h
  unfold GY at h
  rw[List.cons_append,List.cons_append,List.append_assoc,List.append_assoc]at h
  obtain⟨e1,e2⟩:=ml _ _ _ _ (mn (by omega)) (mn (by omega)) (fun c Z h=>by rw[List.cons_append]at h;have:=(List.cons.inj h).1;subst this;unfold DU;decide) (fun c Z h=>by rw[List.cons_append]at h;have:=(List.cons.inj h).1;subst this;unfold DU;decide) (List.cons.inj h).2
  rw[List.cons_append,List.cons_append]at e2
  obtain⟨e3,e4⟩:=ml _ _ _ _ (mn (by omega)) (mn (by omega)) (mw (s:=s)) (mw (s:=s')) (List.cons.inj e2).2
  have k1:=uC (by omega) (by omega) e1
  have k2:=uC (by omega) (by omega) e3
  have k3:=v8 (fun x hx=>h1 x (by simp[hx])) (fun x hx=>h2 x (by simp[hx])) e4
  obtain⟨gk,gn⟩:=g
  obtain⟨gk',gn'⟩:=g'
  simp only at a1 b1 a3 b3 k1 k2
  rw[k3,show gk=gk' by omega,show gn=gn' by omega]
theorem De{n n':Nat}{s s':List ca}(hn:n<100)(hn':n'<100)(h1:gW s)(h2:gW s')(h:dZ n s=dZ n' s'):n=n'∧s=s':=by
 unfold dZ at h
 obtain⟨e1,e2⟩:=ml _ _ _ _ (mn hn) (mn hn') (mw (s:=s)) (mw (s:=s')) h
 exact⟨uC hn hn' e1,v8 h1 h2 e2⟩
theorem DX{s:List ca}(h:gW s):(s.flatMap GY).length≤s.length*6:=by
 induction s with
 |nil=>simp
 |cons g s ih=>
  obtain⟨a1,a2,a3,a4⟩:=h g (by simp)
  have:=ih (fun x hx=>h x (by simp[hx]))
  have h1:=kI (n:=g.kind.toNat) (by omega)
  have h2:=kI (n:=g.num.toNat) (by omega)
  have h3:(GY g).length=2+(Lib.decDigits g.kind.toNat).length+(Lib.decDigits g.num.toNat).length:=by
   unfold GY
   simp only[List.length_cons,List.length_append]
   omega
  rw[List.flatMap_cons,List.length_append,h3,List.length_cons]
  omega
theorem wc{h g:ca}:∀ {s:List ca},g∈s→g=h∨g∈fB h s
 |a::s,hg=>by
  unfold fB
  split
  ·rename_i e
   rcases List.mem_cons.1 hg with rfl|hg
   ·exact .inl e
   ·exact wc hg
  ·exact .inr hg
end PW
end Go.Proofs.YtnegbdpggideiaaGreatDoor
namespace Go.Proofs.YtnegbdpggideiaaGreatDoor
namespace PW
open Go.RowKit cH Mem Net fw
noncomputable def b7(T:an)(tb:Nat→ef)(p0:fu)(n:Nat)(s:List ca):Out:=dy T (tb n) (de p0 s)
structure iJ (T:an) (tb:Nat→ef) (p0:fu) (Φ:Nat→Nat→List ca→Prop):Prop where
 node:∀ {u n s},Φ u n s→(n:Int)<T.nodes
 small:∀ {u n s},Φ u n s→gW s∧s.length≤1000
 step:∀ {u n s},Φ u n s→(b7 T tb p0 n s).aK=[]∨((b7 T tb p0 n s).aK.length≤1000∧b7 T tb p0 n s=cj (de p0 s) (b7 T tb p0 n s).fH.stack (b7 T tb p0 n s).aK∧
  ∀a∈(b7 T tb p0 n s).aK,∃b m:Nat,a=(b:Int)∧b<2*T.ae.length∧aW T b=(m:Int)∧∃u',u'<u∧Φ u' m (b7 T tb p0 n s).fH.stack)
def J2(cs:List Int):Int:=cs.foldl (fun a c=>min (a+c) 1001) 0
def jv(aK:List Int)(cs:List Int):Int:=if aK=[] then 1 else J2 cs
def dE(n:Nat)(o:Out)(vs:List PV)(c:Int):List PV:=[num n,num o.dT,aw o.aK,.slice vs.length vs,flag false,num c]
inductive Good (T:an) (tb:Nat→ef) (p0:fu) (Φ:Nat→Nat→List ca→Prop):PV→Nat→List ca→Int→Prop
 |mk {n:Nat} {s:List ca} {vs:List PV} {cs:List Int} {u:Nat}:Φ u n s→vs.length=(b7 T tb p0 n s).aK.length→cs.length=(b7 T tb p0 n s).aK.length→
   (∀i,i<(b7 T tb p0 n s).aK.length→Good T tb p0 Φ (vs.getD i .any) (aW T ((b7 T tb p0 n s).aK.getD i 0).toNat).toNat (b7 T tb p0 n s).fH.stack (cs.getD i 0))→
   Good T tb p0 Φ (.aY (dE n (b7 T tb p0 n s) vs (jv (b7 T tb p0 n s).aK cs)) 0) n s (jv (b7 T tb p0 n s).aK cs)
theorem xf(cs:List Int)(c:Int):J2 (cs++[c])=min (J2 cs+c) 1001:=by simp[J2]
section
variable {T:an} {tb:Nat→ef} {p0:fu} {Φ:Nat→Nat→List ca→Prop}
theorem mF:∀(cs:List Int) (b:Int),0≤b→b≤1001→(∀c∈cs,0≤c)→0≤cs.foldl (fun a c=>min (a+c) 1001) b∧cs.foldl (fun a c=>min (a+c) 1001) b≤1001
 | [],b,h1,h2,_=>⟨h1,h2⟩
 |c::cs,b,h1,h2,h3=>by
  have:=h3 c (by simp)
  exact mF cs (min (b+c) 1001) (by omega) (by omega) (fun x hx=>h3 x (by simp[hx]))
theorem Good.bound{v:PV}{n:Nat}{s:List ca}{c:Int}(h:Good T tb p0 Φ v n s c):0≤c∧c≤1001:=by
 induction h with
 | @mk n s vs cs u _ _ h2 _ ih=>
  unfold jv
  split
  ·omega
  ·refine mF cs 0 (by omega) (by omega) fun c hc=>?_
   obtain⟨i,hi⟩:=List.getElem?_of_mem hc
   have hlt:=(List.getElem?_eq_some_iff.1 hi).1
   have:=(ih i (by rw[←h2];exact hlt)).1
   rw[List.getD_eq_getElem?_getD,hi]at this
   exact this
theorem Good.state{v:PV}{n:Nat}{s:List ca}{c:Int}(h:Good T tb p0 Φ v n s c):∃u,Φ u n s:=by
 cases h with
 |mk h _ _ _=>exact⟨_,h⟩
theorem Good.pure{v:PV}{n:Nat}{s:List ca}{c:Int}(h:Good T tb p0 Φ v n s c):IsPure v:=by
 induction h with
 | @mk n s vs cs u _ h1 _ _ ih=>
  haveI:aO vs:=⟨fun i x hx=>by
   have hlt:=(List.getElem?_eq_some_iff.1 hx).1
   have:=ih i (by rw[←h1];exact hlt)
   rw[List.getD_eq_getElem?_getD,hx]at this
   exact this⟩
  unfold dE
  infer_instance
theorem Good.parts{v:PV}{n:Nat}{s:List ca}{c:Int}(h:Good T tb p0 Φ v n s c):∃vs cs,v= .aY (dE n (b7 T tb p0 n s) vs c) 0∧vs.length=(b7 T tb p0 n s).aK.length∧cs.length=(b7 T tb p0 n s).aK.length∧c=jv (b7 T tb p0 n s).aK cs∧
  ∀i,i<(b7 T tb p0 n s).aK.length→Good T tb p0 Φ (vs.getD i .any) (aW T ((b7 T tb p0 n s).aK.getD i 0).toNat).toNat (b7 T tb p0 n s).fH.stack (cs.getD i 0):=by
 cases h with
 | @mk _ _ vs cs u h1 h2 h3 h4=>exact⟨vs,cs,rfl,h2,h3,rfl,h4⟩
inductive FJ (T:an) (tb:Nat→ef) (p0:fu):Nat→List ca→Nat→List ca→Prop
 |one {n m:Nat} {s:List ca} {a:Int}:a∈(b7 T tb p0 n s).aK→aW T a.toNat=(m:Int)→FJ T tb p0 n s m (b7 T tb p0 n s).fH.stack
 |more {n m:Nat} {s:List ca} {a:Int} {n':Nat} {s':List ca}:FJ T tb p0 n' s' n s→a∈(b7 T tb p0 n s).aK→aW T a.toNat=(m:Int)→FJ T tb p0 n' s' m (b7 T tb p0 n s).fH.stack
theorem iJ.one(R:iJ T tb p0 Φ){u n m:Nat}{s:List ca}{a:Int}(h:Φ u n s)(ha:a∈(b7 T tb p0 n s).aK)(hm:aW T a.toNat=(m:Int)):∃u',u'<u∧Φ u' m (b7 T tb p0 n s).fH.stack:=by
 rcases R.step h with h0|⟨_,_,h2⟩
 ·rw[h0]at ha;cases ha
 ·obtain⟨b,m',rfl,_,h3,u',h4,h5⟩:=h2 a ha
  rw[Int.toNat_natCast,h3]at hm
  have:m'=m:=by omega
  subst this
  exact⟨u',h4,h5⟩
theorem iJ.K4(R:iJ T tb p0 Φ){n m:Nat}{s s':List ca}(h:FJ T tb p0 n s m s'):∀ {u:Nat},Φ u n s→∃u',u'<u∧Φ u' m s':=by
 induction h with
 |one ha hm=>intro u hu;exact R.one hu ha hm
 |more _ ha hm ih=>
  intro u hu
  obtain⟨u1,h1,h2⟩:=ih hu
  obtain⟨u2,h3,h4⟩:=R.one h2 ha hm
  exact⟨u2,by omega,h4⟩
theorem iJ.DK(R:iJ T tb p0 Φ){n:Nat}{s:List ca}(h:FJ T tb p0 n s n s):∀ {u:Nat},Φ u n s→False:=by
 intro u
 induction u using Nat.strongRecOn with
 |_ u ih=>
  intro hu
  obtain⟨u',h1,h2⟩:=R.K4 h hu
  exact ih u' h1 h2
end
end PW
end Go.Proofs.YtnegbdpggideiaaGreatDoor
namespace Go.Proofs.YtnegbdpggideiaaGreatDoor
namespace PW
open Go.RowKit cH Mem
inductive CT (i:Nat):cZ→PV→PV→Prop
 |same {blk:cZ} (p:PV):CT i blk p p
 |ptr {ty:TypeId} {xs:List PV} (off:Nat):CT i (.cells ty xs) (.ptr i off) (.aY xs off)
 |own {e s n:Nat} {xs:List PV}:CT i (.row e s n xs) (.own i) (.slice n xs)
def kK(i:Nat)(blk:cZ)(xs ys:List PV):Prop:=ys.length=xs.length∧∀(j:Nat) x y,xs[j]? =some x→ys[j]? =some y→CT i blk x y
theorem kK.nil{i:Nat}{blk:cZ}:kK i blk [] []:=⟨rfl,fun j x y h=>by simp at h⟩
theorem kK.cons{i:Nat}{blk:cZ}{x y:PV}{xs ys:List PV}(h:CT i blk x y)(hs:kK i blk xs ys):kK i blk (x::xs) (y::ys):=⟨by simp[hs.1],fun j a b h1 h2=>by
 cases j with
 |zero=>simp at h1 h2;subst h1;subst h2;exact h
 |succ j=>exact hs.2 j a b (by simpa using h1) (by simpa using h2)⟩
theorem kK.refl{i:Nat}{blk:cZ}(xs:List PV):kK i blk xs xs:=⟨rfl,fun j x y h1 h2=>by rw[h1]at h2;cases h2;exact .same _⟩
inductive uF (i:Nat) (blk:cZ):cZ→cZ→Prop
 |same (b:cZ):uF i blk b b
 |cells {ty:TypeId} {xs ys:List PV}:kK i blk xs ys→uF i blk (.cells ty xs) (.cells ty ys)
 |row {e s n:Nat} {xs ys:List PV}:kK i blk xs ys→uF i blk (.row e s n xs) (.row e s n ys)
 |mp {kv kv':List (Value×PV)}:kv'.map (·.1)=kv.map (·.1)→kK i blk (kv.map (·.2)) (kv'.map (·.2))→uF i blk (.mp kv) (.mp kv')
def DO(i:Nat)(blk:cZ)(σ σ':cm):Prop:=σ'.length=σ.length∧(σ'[i]? =some none)∧∀j,j≠i→(σ'[j]? =σ[j]? ∨∃b b',σ[j]? =some (some b)∧σ'[j]? =some (some b')∧uF i blk b b')
inductive yn (i:Nat) (blk:cZ) (t:cd):cd→Prop
 |nil:yn i blk t []
 |cons {t':cd} (k:Nat) {p q:PV}:look k t=some p→CT i blk p q→yn i blk t t'→yn i blk t ((k,q)::t')
theorem yn.get{i:Nat}{blk:cZ}{t t':cd}(h:yn i blk t t'):∀k q,look k t'=some q→∃p,look k t=some p∧CT i blk p q:=by
 induction h with
 |nil=>intro k q h;cases h
 |cons k h1 h2 _ ih=>
  intro j q hj
  simp only[look]at hj
  rw[Bool.cond_eq_ite]at hj
  split at hj
  ·rename_i he
   have:=Nat.eq_of_beq_eq_true he
   subst this
   cases hj
   exact⟨_,h1,h2⟩
  ·exact ih j q hj
section
variable {P:Program} {N L:Nat} {F:Nat→Prop} {base:Nat} {σ σ':cm} {E:Env} {w:World}
theorem CT.rep(hS:Sat F base σ E w){i:Nat}{blk:cZ}(hi:σ[i]? =some (some blk)){p q:PV}(h:CT i blk p q):∀v,cG E w v p→cG (E.kill i) w v q:=by
 obtain⟨_,g⟩:=hS.kill i hi
 intro v hv
 cases h with
 |same _=>exact hv.goes g
 |own=>exact hS.seal hi hv
 | @ptr ty xs off=>
  obtain⟨b,cs,h1,h2,h3,h4⟩:=hS.blk i _ hi
  cases hv with
  |ptr _ _ b' hi' h=>
   have hb:b'=b:=by
    rcases h with h|⟨n,c,h⟩<;>rw[h1]at h<;>cases h
    rfl
   subst hb
   have:=cG.aY (E:=E.kill i) (w:=w) b' 0 off cs.toList xs (Array.getElem?_eq_some_iff.1 h3).1 (fun hM=>hM.2 (by rw[h1];rfl)) (fun j x hx=>by rw[Nat.zero_add];unfold World.cell?;simp only[h3];simpa using hx) h4.1 (fun j x u k1 k2=>(h4.2 j x u k1 k2).goes g)
   rw[Nat.zero_add]at this
   exact this
theorem kK.rep(hS:Sat F base σ E w){i:Nat}{blk:cZ}(hi:σ[i]? =some (some blk)){xs ys:List PV}(h:kK i blk xs ys){cs:List Value}(hs:bb E w cs xs):bb (E.kill i) w cs ys:=
 ⟨hs.1.trans h.1.symm,fun j x u k1 k2=>by
  have hj:j<xs.length:=by rw[←h.1];exact(List.getElem?_eq_some_iff.1 k2).1
  exact(h.2 j xs[j] u (by simp[hj]) k2).rep hS hi x (hs.2 j x _ k1 (by simp[hj]))⟩
theorem uF.sat(hS:Sat F base σ E w){i:Nat}{blk:cZ}(hi:σ[i]? =some (some blk)){b b':cZ}(h:uF i blk b b'){v:Value}(hb:gM base E w v b):gM base (E.kill i) w v b':=by
 obtain⟨_,g⟩:=hS.kill i hi
 cases h with
 |same _=>exact hb.goes g (fun _ _=>rfl)
 |cells hl=>
  obtain⟨b',cs,h1,h2,h3,h4⟩:=hb
  exact⟨b',cs,h1,h2,h3,hl.rep hS hi h4⟩
 |row hl=>
  obtain⟨cs,h1,h2⟩:=hb
  exact⟨cs,h1,hl.rep hS hi h2⟩
 |mp hk hl=>
  obtain⟨r,es,ck,h1,h2,h3,h4,h5⟩:=hb
  exact⟨r,es,ck,h1,h2,h3,h4.trans hk.symm,hl.rep hS hi h5⟩
theorem sY{i:Nat}{blk:cZ}(hi:σ[i]? =some (some blk))(h:DO i blk σ σ'){j:Nat}{b':cZ}(hj:σ'[j]? =some (some b')):j≠i∧∃b,σ[j]? =some (some b)∧uF i blk b b':=by
 have hne:j≠i:=fun e=>by subst e;rw[h.2.1]at hj;cases hj
 refine⟨hne,?_⟩
 rcases h.2.2 j hne with h|⟨b,b2,h1,h2,h3⟩
 ·rw[h]at hj;exact⟨b',hj,.same _⟩
 ·rw[h2]at hj;cases hj;exact⟨b,h1,h3⟩
theorem Sat.KF(hS:Sat F base σ E w){i:Nat}{blk:cZ}(hi:σ[i]? =some (some blk))(h:DO i blk σ σ'):Sat F base σ' (E.kill i) w:=by
 obtain⟨h1,g⟩:=hS.kill i hi
 have key:∀ {j:Nat} {b':cZ},σ'[j]? =some (some b')→∃b,(σ.set i none)[j]? =some (some b):=fun {j b'} hj=>by
  obtain⟨hne,b,hb,_⟩:=sY hi h hj
  exact⟨b,by rw[List.getElem?_set,if_neg (Ne.symm hne)];exact hb⟩
 refine⟨h1.bl,fun b hb=>⟨(h1.fb b hb).1,fun j bl hj=>?_⟩,?_,fun b=>?_,fun j bl hj=>?_,fun j k bj bk b hj hk e1 e2=>?_,h1.gl⟩
 ·obtain⟨b2,hb2⟩:=key hj;exact(h1.fb b hb).2 j b2 hb2
 ·rw[h1.len,h.1,List.length_set]
 ·constructor
  ·intro hM
   rcases(h1.mm b).1 hM with hf|⟨j,bl,h3,h4⟩
   ·exact .inl hf
   ·obtain⟨hne,h5⟩:=iy h3
    rcases h.2.2 j hne with h6|⟨b1,b2,_,h7,_⟩
    ·exact .inr ⟨j,bl,by rw[h6];exact h5,h4⟩
    ·exact .inr ⟨j,b2,h7,h4⟩
  ·rintro(hf|⟨j,bl,h3,h4⟩)
   ·exact(h1.mm b).2 (.inl hf)
   ·obtain⟨b2,hb2⟩:=key h3;exact(h1.mm b).2 (.inr ⟨j,b2,hb2,h4⟩)
 ·obtain⟨_,b,hb,hf⟩:=sY hi h hj
  exact hf.sat hS hi (hS.blk j b hb)
 ·obtain⟨b1,hb1⟩:=key hj
  obtain⟨b2,hb2⟩:=key hk
  exact h1.inj j k b1 b2 b hb1 hb2 e1 e2
theorem wE{c:Code}{t t':cd}{Q:Exit→St→Prop}(i:Nat){blk:cZ}(hi:σ[i]? =some (some blk))(hσ:DO i blk σ σ')(ht:yn i blk t t')(h:W P N L c ⟨t',σ'⟩ Q):W P N L c ⟨t,σ⟩ Q:=fun F base E₀ w₀ E a w hc hs=>by
 obtain⟨_,g⟩:=hs.sat.kill i hi
 refine h F base E₀ w₀ (E.kill i) a w (hc.on g (Below.refl _ _)) ⟨hs.sat.KF hi hσ,fun k q hq=>?_,hs.kD,hs.size⟩
 obtain⟨p,h1,h2⟩:=ht.get k q hq
 exact h2.rep hs.sat hi _ (hs.tmp k p h1)
theorem I8{ops:Array Oper}{l:List Oper}{t t':cd}{K:St→Prop}(i:Nat){blk:cZ}(hi:σ[i]? =some (some blk))(hσ:DO i blk σ σ')(ht:yn i blk t t')(h:WR P N L ops l ⟨t',σ'⟩ K):WR P N L ops l ⟨t,σ⟩ K:=by
 intro F base E₀ w₀ E a w hc hs Q j hQ hl
 obtain⟨_,g⟩:=hs.sat.kill i hi
 refine h F base E₀ w₀ (E.kill i) a w (hc.on g (Below.refl _ _)) ⟨hs.sat.KF hi hσ,fun k q hq=>?_,hs.kD,hs.size⟩ Q j hQ hl
 obtain⟨p,h1,h2⟩:=ht.get k q hq
 exact h2.rep hs.sat hi _ (hs.tmp k p h1)
end
end PW
end Go.Proofs.YtnegbdpggideiaaGreatDoor
namespace Go.Proofs.YtnegbdpggideiaaGreatDoor
namespace PW
open Go.RowKit cH Mem
def qe(l:List UInt8):Value:=.string ⟨l.toArray⟩
theorem bytes_beq(a b:List UInt8):((⟨a.toArray⟩:ByteArray)==⟨b.toArray⟩)=decide (a=b):=Bool.eq_iff_iff.2 (by
 rw[beq_toListBytes,beq_iff_eq,decide_eq_true_eq,ByteArray.toList_eq,ByteArray.toList_eq])
section
variable {P:Program} {kt:TypeId}
theorem GJ(b:Bool)(n:Nat)(hu:P.underlying kt=some .string)(a:List UInt8)(w:World):(Instr.checkKey b (n+1) kt (qe a)).run P w= .ok () w:=by
 simp only[Instr.checkKey,Sem.run_bind,run_underlying hu,Result.andThen_ok,Sem.run_pure,qe]
theorem IX(n:Nat)(hu:P.underlying kt=some .string)(a b:List UInt8)(w:World):(Op.equalIn (n+1) kt (qe a) (qe b)).run P w= .ok (decide (a=b)) w:=by
 have h:=run_equalIn_string w n kt ⟨a.toArray⟩ ⟨b.toArray⟩ hu
 rw[←beq_toListBytes,bytes_beq]at h
 exact h
theorem Iz(hu:P.underlying kt=some .string):iI P kt qe where
 oQ:=fun b a w=>GJ b 9999 hu a w
 eql:=fun a b w=>IX _ hu a b w
 now:=⟨_,hu,.inl fun a b=>by simp only[Instr.sameNow,qe,bytes_beq]⟩
 bits:=fun a=>by
  show Instr.sameBits 10000 (.string ⟨a.toArray⟩) (.string ⟨a.toArray⟩)=true
  unfold Instr.sameBits
  show((⟨a.toArray⟩:ByteArray)==⟨a.toArray⟩)=true
  rw[bytes_beq]
  exact decide_eq_true rfl
variable {t:cd} {σ:cm} {o:Oper}
theorem GQ{x y:Operand}{ty tz:TypeId}(ho:o.op= .binOp .neq ty x y tz)(hk:pw P ty=true)(hx:aD t x=some (.raw (.pointer none)))(hy:aD t y=some (.raw (.pointer none))):br P σ t o (.raw (.bool false)):=by
 refine wq ho hx hy fun w=>?_
 unfold pw at hk
 split at hk
 ·rename_i e hu
  have key:∀d,(Op.equalIn (d+1) ty (.pointer none) (.pointer none)).run P w= .ok true w:=fun d=>by
   simp only[Op.equalIn,Sem.run_bind,run_underlying hu,Result.andThen_ok,Sem.run_pure,Option.isNone_none]
  have:=key 9999
  simp only[Nat.reduceAdd]at this
  simp[eqGuard,binOp,Op.equal,Op.maxDepth,this]
 ·cases hk
theorem Hl{x y:Operand}{ty tz:TypeId}{xs:List PV}{k:Nat}(ho:o.op= .binOp .neq ty x y tz)(hk:pw P ty=true)(hx:aD t x=some (.aY xs k))(hy:aD t y=some (.raw (.pointer none))):br P σ t o (.raw (.bool true)):=by
 intro F base E ρ w hρ _ hT
 have h1:=ay hρ hT hx
 have h2:=ay hρ hT hy
 generalize hz:ρ x=z at h1
 generalize hz':ρ y=z' at h2
 cases h2
 cases h1 with
 |aY b o' _ cs _ hb hM hc hl hr=>
  simp only[execOp,ho,hz,hz',Sem.run_bind,eqGuard,binOp,mv hk,Result.andThen_ok,Sem.run_pure]
  exact bw (.raw _)
end
end PW
end Go.Proofs.YtnegbdpggideiaaGreatDoor
namespace Go.Proofs.YtnegbdpggideiaaGreatDoor
namespace PW
open Go.RowKit cH Mem Net fw
section
variable {T:an} {k x:Int} {d:Nat} {st:Nat→Int} {p0:fu}
theorem zZ{p:fu}{s:List ca}{e:iV}(h:e.aK.length≤1000):(iH p s e).aK.length≤1000:=by
 unfold iH
 split
 ·split
  ·exact Nat.zero_le _
  ·exact h
 ·exact h
theorem AO{x:ef}{p:fu}{s:List ca}{v:Int}{K:Out}(hx:dM T x=true)(hK:K.aK.length≤1000):(H3 T x p s v K).aK.length≤1000:=by
 unfold H3
 split
 ·rename_i h
  obtain⟨_,_,_,_,h3⟩:=pB hx (Bool.and_eq_true _ _▸h).1
  exact zZ h3
 ·exact hK
theorem qQ{x:ef}{p:fu}{s:List ca}{K:Out}(hx:dM T x=true)(hK:K.aK.length≤1000):(fc T x p s K).aK.length≤1000:=by
 unfold fc
 split
 ·exact Nat.zero_le _
 ·split
  ·exact Nat.zero_le _
  ·split
   ·exact AO hx (Nat.zero_le _)
   ·split
    ·exact AO hx hK
    ·split
     ·split
      ·exact Nat.zero_le _
      ·split
       ·exact hK
       ·show([_]:List Int).length≤1000;simp
     ·exact Nat.zero_le _
theorem jY(T:an)(x:ef)(p:fu):(dy T x p).aK.length≤1000:=by
 unfold dy
 split
 ·exact Nat.zero_le _
 ·rename_i h
  have hx:dM T x=true:=by
   cases h2:dM T x with
   |true=>rfl
   |false=>rw[h2]at h;simp at h
  split
  ·exact Nat.zero_le _
  ·exact qQ hx (qQ hx (Nat.zero_le _))
theorem CQ{D:List Bool}(h12:T.nodes≤12)(h16:T.ae.length≤16){n:Nat}{l:List ca}{q:List Int}(h:sD T D d n l q):gW l:=by
 induction h with
 |nil=>intro g hg;cases hg
 |node hs _ ih=>
  intro g hg
  rcases List.mem_cons.1 hg with rfl|hg
  ·have:=hs.hy
   exact⟨by simp,by simp,by simp,by simp;omega⟩
  ·exact ih g hg
 |eU ha _ _ _ _ ih=>
  intro g hg
  rcases List.mem_cons.1 hg with rfl|hg
  ·exact⟨by simp,by simp,by simp,by simp;omega⟩
  ·exact ih g hg
theorem nQ(h12:T.nodes≤12)(h16:T.ae.length≤16){n:Nat}{s:List ca}{q:List Int}(h:fL T k x d n s q):gW s:=by
 obtain⟨D,_,hl⟩:=h.Dt
 intro g hg
 rcases wc (h:=⟨1,(n:Int)⟩) hg with rfl|hg
 ·have:=h.node
  exact⟨by simp,by simp,by simp,by simp;omega⟩
 ·exact CQ h12 h16 hl g hg
theorem xN(hv:ao T=true)(h12:T.nodes≤12)(h16:T.ae.length≤16)(hd:(d:Int)<T.nodes){late:Bool}(hcv:late=false→ts T k x=true)(hsafe:late=false→∀m:Nat,(m:Int)<T.nodes→¬Gn k x m→0≤dN T [] d m→0≤dN T (aC T k x) d m)
  (hpm:Perm T k x late st) (hp0:p0.dst=(d:Int)):iJ T (nm T (aC T k x) st) p0 (fun u n s=>Way T k x d late n s u) where
 node:=fun h=>by
  rcases h with⟨h,_⟩|⟨_,h,_⟩
  ·exact h.node
  ·exact h.node
 small:=fun h=>by
  rcases h with⟨h,_⟩|⟨_,h,_⟩
  ·rw[h.nil];exact⟨fun g hg=>(by cases hg),by simp⟩
  ·exact⟨nQ h12 h16 h,by have:=h.len;omega⟩
 step:=fun {u n s} h=>by
  rcases wI hv h12 hd hcv hsafe hpm h (p:=de p0 s) hp0 rfl rfl with⟨e1,e2,e3⟩|⟨aK,s',e1,e2,e3⟩
  ·exact .inl e2
  ·refine .inr ?_
   have e1':b7 T (nm T (aC T k x) st) p0 n s=cj (de p0 s) s' aK:=e1
   refine⟨jY _ _ _,by rw[e1'];rfl,fun a ha=>?_⟩
   rw[e1']at ha ⊢
   obtain⟨b,m,g,u',hu,hw⟩:=e3 a ha
   exact⟨b,m,g.eq,g.eU,g.head,u',hu,hw⟩
theorem yf(hv:ao T=true)(h12:T.nodes≤12)(h16:T.ae.length≤16)(hd:(d:Int)<T.nodes)(hp0:p0.dst=(d:Int)):iJ T (nm T (aC T k x) st) p0 (fun u n s=>∃q,fL T k x d n s q∧u=q.length) where
 node:=fun⟨_,h,_⟩=>h.node
 small:=fun⟨_,h,_⟩=>⟨nQ h12 h16 h,by have:=h.len;omega⟩
 step:=fun {u n s} ⟨q,h,hu⟩=>by
  cases q with
  |nil=>
   obtain⟨_,e2,_⟩:=gd hv h12 hd h (st n) (p:=de p0 s) hp0 rfl
   exact .inl e2
  |cons a q=>
   obtain⟨b,m,s',g,e1,e2⟩:=fC hv h12 hd h (st n) (p:=de p0 s) hp0 rfl rfl
   have e1':b7 T (nm T (aC T k x) st) p0 n s=cj (de p0 s) s' [a]:=e1
   refine .inr ⟨jY _ _ _,by rw[e1'];rfl,fun c hc=>?_⟩
   rw[e1']at hc ⊢
   have hc:c∈[a]:=hc
   rw[List.mem_singleton]at hc
   subst hc
   exact⟨b,m,g.eq,g.eU,g.head,q.length,by rw[hu];simp,q,e2,rfl⟩
end
end PW
end Go.Proofs.YtnegbdpggideiaaGreatDoor
namespace Go.Proofs.YtnegbdpggideiaaGreatDoor
namespace PW
open Go.RowKit cH Mem Net fw
theorem ud{α:Type}[DecidableEq α]:∀(l m:List α),l.Nodup→(∀a∈l,a∈m)→l.length≤m.length
 | [],m,_,_=>Nat.zero_le _
 |a::l,m,hn,h=>by
  have ha:=h a (by simp)
  rw[List.nodup_cons]at hn
  have h2:=ud l (m.erase a) hn.2 (fun b hb=>(List.mem_erase_of_ne (fun e=>hn.1 (by rw[←e];exact hb))).2 (h b (by simp[hb])))
  rw[List.length_erase_of_mem ha]at h2
  have:=List.length_pos_of_mem ha
  simp only[List.length_cons]
  omega
section
variable {T:an} {k x:Int} {d:Nat} {st:Nat→Int} {p0:fu}
noncomputable def Gv(T:an)(tb:Nat→ef)(p0:fu)(m a:Nat):Nat→Nat×List ca
 |0=>((aW T a).toNat,(b7 T tb p0 m []).fH.stack)
 |j+1=>((aW T ((b7 T tb p0 (Gv T tb p0 m a j).1 (Gv T tb p0 m a j).2).aK.getD 0 0).toNat).toNat,(b7 T tb p0 (Gv T tb p0 m a j).1 (Gv T tb p0 m a j).2).fH.stack)
noncomputable def BC(T:an)(tb:Nat→ef)(p0:fu):List (Nat×List ca):=
 (List.range T.nodes.toNat).flatMap fun m=>(m,[])::(List.range (2*T.ae.length)).flatMap fun a=>(List.range (T.nodes.toNat+1)).map fun j=>Gv T tb p0 m a j
theorem pE{α β:Type}(f:α→List β)(c:Nat):∀(l:List α),(∀a∈l,(f a).length≤c)→(l.flatMap f).length≤l.length*c
 | [],_=>by simp
 |a::l,h=>by
  have h1:=h a (by simp)
  have h2:=pE f c l (fun b hb=>h b (by simp[hb]))
  rw[List.flatMap_cons,List.length_append,List.length_cons,Nat.succ_mul]
  omega
theorem DF(tb:Nat→ef)(h12:T.nodes≤12)(h16:T.ae.length≤16):(BC T tb p0).length≤12*417:=by
 unfold BC
 refine Nat.le_trans (pE _ 417 _ fun m _=>?_) ?_
 ·rw[List.length_cons]
  have:=pE (fun a=>(List.range (T.nodes.toNat+1)).map fun j=>Gv T tb p0 m a j) 13 (List.range (2*T.ae.length)) (fun a _=>by simp;omega)
  rw[List.length_range]at this
  have h2:2*T.ae.length*13≤32*13:=Nat.mul_le_mul_right _ (by omega)
  omega
 ·rw[List.length_range]
  exact Nat.mul_le_mul_right _ (by omega)
def zi(T:an)(k x:Int)(d:Nat)(st:Nat→Int)(p0:fu)(late:Bool)(u n:Nat)(s:List ca):Prop:=
 (Open T k x d n s∧u=if late then T.nodes.toNat+kb T (aC T k x) d n else 2*T.nodes.toNat+kb T [] d n)∨
  ∃(q:List Int) (m a j:Nat),fL T k x d n s q∧u=q.length∧q.length<T.nodes.toNat∧(m:Int)<T.nodes∧a<2*T.ae.length∧j+q.length≤T.nodes.toNat∧Gv T (nm T (aC T k x) st) p0 m a j=(n,s)
theorem zi.JF{late:Bool}{u n:Nat}{s:List ca}(h:zi T k x d st p0 late u n s):Way T k x d late n s u:=by
 rcases h with h|⟨q,_,_,_,h1,h2,h3,_⟩
 ·exact .inl h
 ·exact .inr ⟨q,h1,h2,h3⟩
theorem zi.mem{late:Bool}{u n:Nat}{s:List ca}(h:zi T k x d st p0 late u n s):(n,s)∈BC T (nm T (aC T k x) st) p0:=by
 unfold BC
 rcases h with⟨h,_⟩|⟨q,m,a,j,h1,_,_,h4,h5,h6,h7⟩
 ·have:=h.node
  rw[List.mem_flatMap]
  exact⟨n,List.mem_range.2 (by omega),by rw[h.nil];exact List.mem_cons_self⟩
 ·rw[List.mem_flatMap]
  refine⟨m,List.mem_range.2 (by omega),List.mem_cons_of_mem _ ?_⟩
  rw[List.mem_flatMap]
  refine⟨a,List.mem_range.2 h5,?_⟩
  rw[List.mem_map]
  exact⟨j,List.mem_range.2 (by omega),h7⟩
theorem CA(hv:ao T=true)(h12:T.nodes≤12)(h16:T.ae.length≤16)(hd:(d:Int)<T.nodes){late:Bool}(hcv:late=false→ts T k x=true)(hsafe:late=false→∀m:Nat,(m:Int)<T.nodes→¬Gn k x m→0≤dN T [] d m→0≤dN T (aC T k x) d m)
    (hpm:Perm T k x late st) (hp0:p0.dst=(d:Int)):iJ T (nm T (aC T k x) st) p0 (zi T k x d st p0 late) where
  node:=fun h=>(xN hv h12 h16 hd hcv hsafe hpm hp0).node h.JF
  small:=fun h=>(xN hv h12 h16 hd hcv hsafe hpm hp0).small h.JF
  step := fun {u n s} h => by
    rcases h with⟨h,hu⟩|⟨q,m,a,j,h1,h2,h3,h4,h5,h6,h7⟩
    · rcases wI hv h12 hd hcv hsafe hpm (.inl ⟨h,hu⟩) (p:=de p0 s) hp0 rfl rfl with⟨e1,e2,e3⟩|⟨aK,s',e1,e2,e3⟩
      · exact .inl e2
      · refine .inr ?_
        have e1':b7 T (nm T (aC T k x) st) p0 n s=cj (de p0 s) s' aK:=e1
        refine⟨jY _ _ _,by rw[e1'];rfl,fun a ha=>?_⟩
        have ha2:=ha
        rw[e1']at ha
        obtain⟨b,m,g,u',hu',hw⟩:=e3 a ha
        refine⟨b,m,g.eq,g.eU,g.head,u',hu',?_⟩
        rcases hw with h8|⟨q,h8,h9,h10⟩
        · exact .inl (by rw[e1'];exact h8)
        · refine .inr ⟨q,n,b,0,by rw[e1'];exact h8,h9,h10,h.node,g.eU,by omega,?_⟩
          have hn:=h.nil
          subst hn
          simp only[Gv]
          rw[g.head,Int.toNat_natCast]
    · cases q with
      |nil=>
        obtain⟨_,e2,_⟩:=gd hv h12 hd h1 (st n) (p:=de p0 s) hp0 rfl
        exact .inl e2
      |cons c q=>
        obtain⟨b,m',s',g,e1,e2⟩:=fC hv h12 hd h1 (st n) (p:=de p0 s) hp0 rfl rfl
        have e1':b7 T (nm T (aC T k x) st) p0 n s=cj (de p0 s) s' [c]:=e1
        refine .inr ⟨jY _ _ _,by rw[e1'];rfl,fun c' hc=>?_⟩
        rw[e1']at hc
        have hc:c'∈[c]:=hc
        rw[List.mem_singleton]at hc
        subst hc
        simp only[List.length_cons]at h2 h3 h6
        refine⟨b,m',g.eq,g.eU,g.head,q.length,by omega,.inr ⟨q,m,a,j+1,by rw[e1'];exact e2,rfl,by omega,h4,h5,by omega,?_⟩⟩
        simp only[Gv]
        rw[h7,e1']
        simp only[cj,List.getD_cons_zero]
        rw[g.eq,Int.toNat_natCast,g.head,Int.toNat_natCast]
end
end PW
end Go.Proofs.YtnegbdpggideiaaGreatDoor
namespace Go.Proofs.YtnegbdpggideiaaGreatDoor
namespace PW
open Go.RowKit cH Mem Net fw
abbrev FC:=List (Nat×Nat×List ca)
section
variable (T:an) (tb:Nat→ef) (p0:fu) (Φ:Nat→Nat→List ca→Prop)
def lD(op:FC)(n:Nat)(s:List ca)(v:PV):Prop:=(∃c,Good T tb p0 Φ v n s c)∨∃i,(i,n,s)∈op∧v= .ptr (i+8) 0
structure nv (op:FC) (kv:List (List UInt8×PV)) (L:List PV):Prop where
 EA:∀e∈kv,∃u n s,Φ u n s∧e.1=dZ n s∧lD T tb p0 Φ op n s e.2
 nodup:(kv.map (·.1)).Nodup
 all:∀v∈L,∃n s,lD T tb p0 Φ op n s v
 len:L.length=kv.length
end
section
variable {T:an} {tb:Nat→ef} {p0:fu} {Φ:Nat→Nat→List ca→Prop}
theorem lD.more{op:FC}{x:Nat×Nat×List ca}{n:Nat}{s:List ca}{v:PV}(h:lD T tb p0 Φ op n s v):lD T tb p0 Φ (x::op) n s v:=by
 rcases h with h|⟨i,h,e⟩
 ·exact .inl h
 ·exact .inr ⟨i,List.mem_cons_of_mem _ h,e⟩
theorem nv.push{op:FC}{kv:List (List UInt8×PV)}{L:List PV}(h:nv T tb p0 Φ op kv L){u n i:Nat}{s:List ca}(hΦ:Φ u n s)(hno:dZ n s∉kv.map (·.1)):
  nv T tb p0 Φ ((i,n,s)::op) (kv++[(dZ n s,.ptr (i+8) 0)]) (L++[.ptr (i+8) 0]) where
 EA:=fun e he=>by
  rcases List.mem_append.1 he with he|he
  ·obtain⟨u,n,s,h1,h2,h3⟩:=h.EA e he
   exact⟨u,n,s,h1,h2,h3.more⟩
  ·rw[List.mem_singleton]at he
   subst he
   exact⟨u,n,s,hΦ,rfl,.inr ⟨i,List.mem_cons_self,rfl⟩⟩
 nodup:=by
  rw[List.map_append,List.nodup_append]
  refine⟨h.nodup,by simp,fun a ha b hb e=>?_⟩
  subst e
  simp only[List.map_cons,List.map_nil,List.mem_singleton]at hb
  subst hb
  exact hno ha
 all:=fun v hv=>by
  rcases List.mem_append.1 hv with hv|hv
  ·obtain⟨n,s,h1⟩:=h.all v hv
   exact⟨n,s,h1.more⟩
  ·rw[List.mem_singleton]at hv
   subst hv
   exact⟨n,s,.inr ⟨i,List.mem_cons_self,rfl⟩⟩
 len:=by simp[h.len]
theorem vN{i:Nat}{blk:cZ}{Q Q':PV→Prop}(h:∀v,Q v→∃v',CT i blk v v'∧Q' v'):∀L:List PV,(∀v∈L,Q v)→∃L',kK i blk L L'∧∀v∈L',Q' v
 | [],_=>⟨[],.nil,fun v hv=>by cases hv⟩
 |v::L,hL=>by
  obtain⟨v',h1,h2⟩:=h v (hL v (by simp))
  obtain⟨L',h3,h4⟩:=vN h L (fun w hw=>hL w (by simp[hw]))
  exact⟨v'::L',.cons h1 h3,fun w hw=>by
   rcases List.mem_cons.1 hw with rfl|hw
   ·exact h2
   ·exact h4 w hw⟩
theorem EK{i:Nat}{blk:cZ}{Q Q':List UInt8→PV→Prop}(h:∀k v,Q k v→∃v',CT i blk v v'∧Q' k v'):∀kv:List (List UInt8×PV),(∀e∈kv,Q e.1 e.2)→∃kv':List (List UInt8×PV),kv'.map (·.1)=kv.map (·.1)∧kK i blk (kv.map (·.2)) (kv'.map (·.2))∧∀e∈kv',Q' e.1 e.2
 | [],_=>⟨[],rfl,.nil,fun v hv=>by cases hv⟩
 |e::L,hL=>by
  obtain⟨v',h1,h2⟩:=h e.1 e.2 (hL e (by simp))
  obtain⟨L',h3,h4,h5⟩:=EK h L (fun w hw=>hL w (by simp[hw]))
  exact⟨(e.1,v')::L',by simp[h3],.cons h1 h4,fun w hw=>by
   rcases List.mem_cons.1 hw with rfl|hw
   ·exact h2
   ·exact h5 w hw⟩
theorem nv.close{op:FC}{i n:Nat}{s:List ca}{kv:List (List UInt8×PV)}{L:List PV}(h:nv T tb p0 Φ ((i,n,s)::op) kv L){ty:TypeId}{xs:List PV}{c:Int}(hg:Good T tb p0 Φ (.aY xs 0) n s c):
  ∃kv' L',nv T tb p0 Φ op kv' L'∧kv'.map (·.1)=kv.map (·.1)∧kK (i+8) (.cells ty xs) (kv.map (·.2)) (kv'.map (·.2))∧kK (i+8) (.cells ty xs) L L':=by
 have key:∀n1 s1 v,lD T tb p0 Φ ((i,n,s)::op) n1 s1 v→∃v',CT (i+8) (.cells ty xs) v v'∧lD T tb p0 Φ op n1 s1 v':=fun n1 s1 v hv=>by
  rcases hv with hv|⟨i1,h1,rfl⟩
  ·exact⟨v,.same _,.inl hv⟩
  ·rcases List.mem_cons.1 h1 with h1|h1
   ·cases h1
    exact⟨_,.ptr 0,.inl ⟨c,hg⟩⟩
   ·exact⟨_,.same _,.inr ⟨i1,h1,rfl⟩⟩
 obtain⟨kv',k1,k2,k3⟩:=EK (i:=i+8) (blk:=.cells ty xs) (Q:=fun k v=>∃u n1 s1,Φ u n1 s1∧k=dZ n1 s1∧lD T tb p0 Φ ((i,n,s)::op) n1 s1 v) (Q':=fun k v=>∃u n1 s1,Φ u n1 s1∧k=dZ n1 s1∧lD T tb p0 Φ op n1 s1 v) (fun k v ⟨u,n1,s1,h1,h2,h3⟩=>by
  obtain⟨v',h4,h5⟩:=key n1 s1 v h3
  exact⟨v',h4,u,n1,s1,h1,h2,h5⟩) kv h.EA
 obtain⟨L',l1,l2⟩:=vN (i:=i+8) (blk:=.cells ty xs) (Q:=fun v=>∃n1 s1,lD T tb p0 Φ ((i,n,s)::op) n1 s1 v) (Q':=fun v=>∃n1 s1,lD T tb p0 Φ op n1 s1 v) (fun v ⟨n1,s1,h3⟩=>by
  obtain⟨v',h4,h5⟩:=key n1 s1 v h3
  exact⟨v',h4,n1,s1,h5⟩) L h.all
 refine⟨kv',L',⟨k3,by rw[k1];exact h.nodup,l2,?_⟩,k1,k2,l1⟩
 have:=congrArg List.length k1
 simp only[List.length_map]at this
 rw[l1.1,h.len,this]
theorem nv.KE(R:iJ T tb p0 Φ)(h12:T.nodes≤12){U:List (Nat×List ca)}(hU:∀ {u n s},Φ u n s→(n,s)∈U){op:FC}{kv:List (List UInt8×PV)}{L:List PV}(h:nv T tb p0 Φ op kv L):kv.length≤U.length:=by
 have key:∀kv:List (List UInt8×PV),(∀e∈kv,∃u n s,Φ u n s∧e.1=dZ n s)→∃sts:List (Nat×List ca),sts.map (fun x=>dZ x.1 x.2)=kv.map (·.1)∧∀x∈sts,x∈U:=fun kv=>by
  induction kv with
  |nil=>intro _;exact⟨[],rfl,fun x hx=>by cases hx⟩
  |cons e kv ih=>
   intro he
   obtain⟨u,n,s,h1,h2⟩:=he e (by simp)
   obtain⟨sts,h3,h4⟩:=ih (fun e h=>he e (by simp[h]))
   exact⟨(n,s)::sts,by simp[h3,h2],fun x hx=>by
    rcases List.mem_cons.1 hx with rfl|hx
    ·exact hU h1
    ·exact h4 x hx⟩
 obtain⟨sts,h1,h2⟩:=key kv (fun e he=>by
  obtain⟨u,n,s,h1,h2,_⟩:=h.EA e he
  exact⟨u,n,s,h1,h2⟩)
 have hn:=h.nodup
 rw[←h1]at hn
 have hnd:sts.Nodup:=by
  unfold List.Nodup at hn ⊢
  rw[List.pairwise_map]at hn
  exact hn.imp fun hab e=>hab (by rw[e])
 have:=ud sts U hnd h2
 have h3:=congrArg List.length h1
 simp only[List.length_map]at h3
 omega
theorem nv.xY(R:iJ T tb p0 Φ)(h12:T.nodes≤12){op:FC}{kv:List (List UInt8×PV)}{L:List PV}(h:nv T tb p0 Φ op kv L){u n:Nat}{s:List ca}(hΦ:Φ u n s)(hop:∀x∈op,FJ T tb p0 x.2.1 x.2.2 n s){v:PV}(hv:dq (dZ n s) kv=some v):∃c,Good T tb p0 Φ v n s c:=by
 obtain⟨u1,n1,s1,h1,h2,h3⟩:=h.EA _ (jd hv)
 have a1:=R.node h1
 have a2:=R.node hΦ
 obtain⟨rfl,rfl⟩:=De (by omega) (by omega) (R.small hΦ).1 (R.small h1).1 h2
 rcases h3 with h3|⟨i,h4,_⟩
 ·exact h3
 ·exact(R.DK (hop _ h4) h1).elim
theorem tC{κ:Type}[DecidableEq κ]{k:κ}:∀ {l:List (κ×PV)},dq k l=none→k∉l.map (·.1)
 | [],_=>by simp
 |(a,q)::l,h=>by
  simp only[dq]at h
  split at h
  ·cases h
  ·rename_i hne
   rw[List.map_cons,List.mem_cons]
   rintro(e|e)
   ·exact hne e
   ·exact tC h e
theorem oN{κ:Type}[DecidableEq κ]{k:κ}{p:PV}:∀ {l:List (κ×PV)},dq k l=none→iF k p l=l++[(k,p)]
 | [],_=>rfl
 |(a,q)::l,h=>by
  simp only[dq]at h
  split at h
  ·cases h
  ·rename_i hne
   simp only[iF]
   rw[if_neg hne,oN h]
   rfl
end
end PW
end Go.Proofs.YtnegbdpggideiaaGreatDoor
namespace Go.Proofs.YtnegbdpggideiaaGreatDoor
namespace PW
open Go.RowKit cH Mem Net fw
def Kh(P:Program)(ty:TypeId):Option (Nat×List Value):=match P.info? ty,P.underlying ty with
 |some it,some (.array _ e)=>match it.zero,P.info? e with
  |some z,some ie=>some (ie.size,z.cells.toList)
  |_,_=>none
 |_,_=>none
theorem yE{P:Program}{σ:cm}{t:cd}{o:Oper}{ty s:TypeId}{parts:Array (Nat×Operand)}{zero:List Value}{ps:List (Nat×List PV)}{xs:List PV}(ho:o.op= .build ty parts)(hk:Kh P ty=some (s,zero))(hp:iB t parts.toList=some ps)
  (hf:ky (fun i=>some (i*s,s)) (zero.map .raw) ps=some xs):br P σ t o (.agg xs):=by
 intro F base E ρ w hρ hS hT
 obtain⟨h1,h2⟩:=kg hρ hT parts.toList ps hp
 have hz:bb E w zero.toArray.toList (zero.map .raw):=⟨by simp,fun i x u k1 k2=>by
  simp only[List.getElem?_map,Option.map_eq_some_iff]at k2
  obtain⟨y,hy,rfl⟩:=k2
  simp only at k1
  rw[hy]at k1
  cases k1
  exact .raw _⟩
 obtain⟨cs,hc,hR⟩:=lN (fun i=>some (i*s,s)) _ ps zero.toArray _ xs hz h1 h2 hf
 have hb:P.built ty ((parts.map fun(i,x)=>(i,ρ x)).toList)=some cs:=by
  unfold Kh at hk
  split at hk
  ·rename_i it n e xY hu
   split at hk
   ·rename_i z ie hz' hie
    cases hk
    simp only[Program.built,xY,hu,hz',hie,Array.toList_map]
    simpa using hc
   ·cases hk
  ·cases hk
 have hrun:=run_build (P:=P) w ty (parts.map fun(i,x)=>(i,ρ x)) cs hb
 simp only[execOp,ho,Sem.run_bind,hrun,Result.andThen_ok,Sem.run_pure]
 exact bw (.agg cs xs (by have:=hR.1;rw[Array.length_toList]at this;exact this) (fun i x u k1 k2=>hR.2 i x u (by simpa using k1) k2))
theorem kB.IZ{n:Nat}{xs ys:List PV}(hl:ys.length=xs.length)(h:∀(i:Nat) x y,xs[i]? =some x→ys[i]? =some y→kB x y):kB (.slice n xs) (.slice n ys):=fun E w v hv=>by
 cases hv with
 |bT=>
  have:ys=[]:=List.eq_nil_of_length_eq_zero hl
  subst this
  exact .bT
 |empty a c hc=>
  have:ys=[]:=List.eq_nil_of_length_eq_zero hl
  subst this
  exact .empty a c hc
 |slice b off _ c cs _ h0 h1 h2 hb hM hc hl2 hr=>
  exact .slice b off n c cs ys h0 h1 h2 hb hM hc (hl2.trans hl.symm) (fun i x u k1 k2=>by
   have hi:i<xs.length:=by rw[←hl];exact(List.getElem?_eq_some_iff.1 k2).1
   exact h i xs[i] u (by simp[hi]) k2 E w x (hr i x _ k1 (by simp[hi])))
def AP(T:an)(n:Nat):ef:=⟨n,List.replicate T.nodes.toNat ⟨[],false,[]⟩,bG T n⟩
noncomputable def Ht(T:an)(k x:Int)(n:Nat)(s:Int):ef:=if pn k x n=true then AP T n else fy T (aC T k x) s n
noncomputable def qR(T:an)(k x:Int)(l:List Int)(m:Nat):List ef:=(List.range m).map fun n=>Ht T k x n (ft l n)
def BM(T:an)(k x:Int)(l:List Int):Int:=if((ao T&&bZ T k x)&&decide ((l.length:Int)=T.nodes))=true then(if fI T k x l=true then 0 else 7) else 1
noncomputable def H2(e:Int)(L:List ef):PV:=.tuple [iS (if e=0 then L else []),num e]
theorem E0{T:an}{k x:Int}{l:List Int}{m:Nat}:qR T k x l (m+1)=qR T k x l m++[Ht T k x m (ft l m)]:=by simp[qR,List.range_succ]
theorem Ce(n:Nat):(dI [.raw (.slice none 0 0),.raw (.bool false),.raw (.slice none 0 0)] n).length=(di (List.replicate n ⟨[],false,[]⟩)).length∧∀(i:Nat) x y,(dI [.raw (.slice none 0 0),.raw (.bool false),.raw (.slice none 0 0)] n)[i]? =some x→(di (List.replicate n ⟨[],false,[]⟩))[i]? =some y→kB x y:=by
 induction n with
 |zero=>exact⟨rfl,fun i x y h=>by simp[dI]at h⟩
 |succ n ih=>
  refine⟨by simp only[dI,List.replicate_succ,di,List.flatMap_cons,List.length_append]at ih ⊢;rw[ih.1];rfl,fun i x y h1 h2=>?_⟩
  simp only[dI,List.replicate_succ,di,List.flatMap_cons]at h1 h2
  match i,h1,h2 with
  |0,h1,h2=>simp[kP]at h1 h2;subst h1 h2;exact .bT
  |1,h1,h2=>simp[kP]at h1 h2;subst h1 h2;exact kB.refl _
  |2,h1,h2=>simp[kP]at h1 h2;subst h1 h2;exact .bT
  |i+3,h1,h2=>exact ih.2 i x y (by simpa using h1) (by simpa[di,kP]using h2)
theorem Hu(T:an)(n:Int)(X:ef)(h:Can Tryz.prog 67 [aN T,num n] (· = .tuple [fZ X,num 0])):Can Tryz.prog 66 [num n,.aY (bq T) 0] (· = .tuple [fZ X,num 0]):=by
 refine aE Tryz.func66 rfl Tryz.ntmps66 rfl<|aP<|av 2 rfl<|aG [0,1,3] rfl ?_
 refine aP<|av 2 rfl<|ec rfl (h) rfl<|av 4 rfl<|aG [3,4] rfl ?_
 exact aq<|⟨_,_,aA.of rfl,aB.pure (p:=.tuple [fZ X,num 0]),rfl⟩
theorem FO(T:an)(k x n:Int)(X:ef)(h:Can Tryz.prog 55 [aN T,bW k x,num n] (· = .tuple [fZ X,num 0])):Can Tryz.prog 68 [num n,.aY (bq T) 0,.aY (ct k x) 0] (· = .tuple [fZ X,num 0]):=by
 refine aE Tryz.func68 rfl Tryz.ntmps68 rfl<|aP<|av 2 rfl<|aG [0,1,2,4] rfl ?_
 refine aP<|av 3 rfl<|ec rfl (h) rfl<|av 4 rfl<|aG [4,5] rfl ?_
 exact aq<|⟨_,_,aA.of rfl,aB.pure (p:=.tuple [fZ X,num 0]),rfl⟩
theorem Ho(T:an)(k x n:Int)(X:ef)(h:Can Tryz.prog 70 [aN T,bW k x,num n] (· = .tuple [fZ X,num 0])):Can Tryz.prog 69 [num n,.aY (bq T) 0,.aY (ct k x) 0] (· = .tuple [fZ X,num 0]):=by
 refine aE Tryz.func69 rfl Tryz.ntmps69 rfl<|aP<|av 2 rfl<|aG [0,1,2,4] rfl ?_
 refine aP<|av 3 rfl<|ec rfl (h) rfl<|av 4 rfl<|aG [4,5] rfl ?_
 exact aq<|⟨_,_,aA.of rfl,aB.pure (p:=.tuple [fZ X,num 0]),rfl⟩
theorem HH(T:an)(k x n:Int)(X:ef)(h:Can Tryz.prog 72 [aN T,bW k x,num n] (· = .tuple [fZ X,num 0])):Can Tryz.prog 71 [num n,.aY (bq T) 0,.aY (ct k x) 0] (· = .tuple [fZ X,num 0]):=by
 refine aE Tryz.func71 rfl Tryz.ntmps71 rfl<|aP<|av 2 rfl<|aG [0,1,2,4] rfl ?_
 refine aP<|av 3 rfl<|ec rfl (h) rfl<|av 4 rfl<|aG [4,5] rfl ?_
 exact aq<|⟨_,_,aA.of rfl,aB.pure (p:=.tuple [fZ X,num 0]),rfl⟩
theorem mU(x:ef):iW 0 x= .tuple [fZ x,num 0]:=rfl
theorem Iq(T:an)(k x:Int)(h12:T.nodes≤12)(hvc:(ao T&&bZ T k x)=true){i:Nat}(hi:(i:Int)<T.nodes){s:Int}(hs:qu s=true){FS:List PV}(hFS:[.func 66 [.aY (bq T) 0],.func 68 [.aY (bq T) 0,.aY (ct k x) 0],.func 69 [.aY (bq T) 0,.aY (ct k x) 0],.func 71 [.aY (bq T) 0,.aY (ct k x) 0]]=FS):
  ∃f cap,FS[s.toNat]? =some (.func f cap)∧enters Tryz.prog f=true∧Can Tryz.prog f ([num i]++cap) (· = .tuple [fZ (fy T (aC T k x) s i),num 0])∧aO ([num i]++cap):=by
 have hv:=(Bool.and_eq_true_iff.1 hvc).1
 have hme:da T k x=0:=by unfold da;rw[if_pos hvc]
 have hn:bd T i=true:=by rw[aT];omega
 have htr:j9 T k x i=0:=by unfold j9;rw[if_pos hme,if_pos hn]
 have hch:cf T [] [(i:Int)]=0:=by
  unfold cf
  rw[hv]
  simp[bN,hn]
 subst hFS
 obtain⟨h0,h3⟩:=Bool.and_eq_true_iff.1 hs
 have h0:=of_decide_eq_true h0
 have h3:=of_decide_eq_true h3
 have h1:=D4 T i
 rw[hch,mU,Int.toNat_natCast]at h1
 have h2:=Bz T k x i h12
 rw[if_pos hme,if_pos hn,mU,Int.toNat_natCast]at h2
 have h4:=DS T k x i h12
 rw[htr,mU,Int.toNat_natCast]at h4
 have h5:=D1 T k x i
 rw[htr,mU,Int.toNat_natCast]at h5
 rcases(by omega:s=0∨s=1∨s=2∨s=3)with e|e|e|e
 ·subst e
  exact⟨_,_,rfl,by kernel_rfl,Hu T i _ h1,by infer_instance⟩
 ·subst e
  exact⟨_,_,rfl,by kernel_rfl,FO T k x i _ h2,by infer_instance⟩
 ·subst e
  exact⟨_,_,rfl,by kernel_rfl,Ho T k x i _ h4,by infer_instance⟩
 ·subst e
  exact⟨_,_,rfl,by kernel_rfl,HH T k x i _ h5,by infer_instance⟩
theorem KU:Kh Tryz.prog 100=some (1,[.nilFunc,.nilFunc,.nilFunc,.nilFunc]):=by kernel_rfl
theorem vq{T:an}{k x:Int}{l:List Int}{m:Nat}:(qR T k x l m).length=m:=by simp[qR]
set_option maxHeartbeats 4000000 in
theorem Bg(T:an)(k x:Int)(l:List Int)(hl:l.length≤1000)(h12:T.nodes≤12):Can Tryz.prog 20 [aN T,bW k x,aw l] (· =H2 (BM T k x l) (qR T k x l l.length)):=by
  obtain⟨q1,hq1⟩:∃q,(ao T&&bZ T k x)=q:=⟨_,rfl⟩
  obtain⟨q2,hq2⟩:∃q,decide ((l.length:Int)≠T.nodes)=q:=⟨_,rfl⟩
  obtain⟨q3,hq3⟩:∃q,fI T k x l=q:=⟨_,rfl⟩
  have hE:BM T k x l=if(q1&& !q2)=true then(if q3=true then 0 else 7) else 1:=by
    unfold BM
    rw[hq1,hq3,←hq2]
    simp
  rw[hE]
  refine aE Tryz.func20 rfl Tryz.ntmps20 rfl<|ab (.a 4 rfl<|.k [2,3,4] rfl)<|ah<|bu 23 (.raw (.bool (!q1 ||q2))) [2,3,4] rfl ?_ ?_
  · refine .a 2 rfl<|.c rfl (hq1▸yu T k x) rfl<|.a 2 rfl<|?_
    cases q1
    · exact .a 6 rfl<|.k [23,2,3,4] rfl
    · exact .a 4 rfl<|.v (b9 rfl (hq2)) rfl<|.a 1 rfl<|.k [23,2,3,4] rfl
  refine ag rfl (fun hc=>?_) (fun hc=>?_)
  · have hno:(q1&& !q2)=false:=by cases q1<;>cases q2<;>simp_all
    exact ab (.a 2 rfl<|.k [6,7] rfl)<|aq<|⟨_,_,aA.of rfl,aB.bx (aj.cons aB.bT (aj.cons aB.pure aj.nil)),by rw[hno];rfl⟩
  · obtain ⟨h1, rfl⟩ := Bool.or_eq_false_iff.1 hc
    have h1:q1=true:=by simpa using h1
    subst h1
    have hln:(l.length:Int)=T.nodes:=by have:=ff hq2;simpa using this
    refine ai<|ah<|ab (.a 3 rfl<|.c rfl (hq3▸nc T k x l hl) rfl<|.a 1 rfl<|.k [2,3,4,28] rfl)<|ag rfl (fun hc=>?_) (fun hc=>?_)
    · have h3:q3=false:=by simpa using hc
      subst h3
      exact ab (.a 2 rfl<|.k [6,7] rfl)<|aq<|⟨_,_,aA.of rfl,aB.bx (aj.cons aB.bT (aj.cons aB.pure aj.nil)),rfl⟩
    · have h3:q3=true:=by simpa using hc
      subst h3
      have hv:=(Bool.and_eq_true_iff.1 hq1).1
      have hll:=bJ hv
      have hP1:dL k x (fun n=>qu (ft l n)) l.length=true:=by
        have h:=hq3
        unfold fI at h
        split at h
        · exact(Bool.and_eq_true_iff.1 h).1
        · cases h
      refine ai<|aP<|av 4 rfl<|bC (yE rfl KU rfl rfl) rfl<|av 2 rfl<|aG [2,3,4,8] rfl ?_
      refine gi 8 0 0 rfl rfl ?_
      refine dx [] (.c 2<|.c 3<|.c 4<|.c 8<|.nil) .nil rfl rfl ?_
      obtain⟨FS,hFS⟩:∃z:List PV,[.func 66 [.aY (bq T) 0],.func 68 [.aY (bq T) 0,.aY (ct k x) 0],.func 69 [.aY (bq T) 0,.aY (ct k x) 0],.func 71 [.aY (bq T) 0,.aY (ct k x) 0]]=z:=⟨_,rfl⟩
      have hFp:aO FS:=by rw[←hFS];infer_instance
      rw[hFS]
      refine ab (.a 1 rfl<|.k [2,3,4,8,9] rfl)<|fp 9 56 3 rfl ?_
      refine ah<|ab (.a 3 rfl<|.k [3,4,8,9,34,35,36] rfl)<|au<|eu [3,4,8,9,34,35,36] rfl<|bf (fun r s=>∃i,i≤l.length∧r=l.length - i∧s=⟨[(3,.aY (bq T) 0),(4,.aY (ct k x) 0),(8,.aY FS 0),(9,.own 0),(34,aw l),(35,num l.length),(36,num i)],[some (.row 56 3 i (nq (qR T k x l i)))]⟩) l.length ⟨0,by omega,by omega,rfl⟩ ?_
      rintro r s ⟨i,hi,rfl,rfl⟩
      refine ab (.a 1 rfl<|.k [3,4,8,9,34,35,36,37] rfl)<|ah<|ag rfl (fun hc=>?_) (fun hc=>?_)
      · have hlt:i<l.length:=by have:=tt hc;omega
        have hil:(i:Int)<T.nodes:=by omega
        obtain⟨N,hN⟩:∃N:Nat,T.nodes=(N:Int):=⟨T.nodes.toNat,by omega⟩
        obtain⟨s,hs⟩:∃s,ft l i=s:=⟨_,rfl⟩
        have hsl:l.getD i 0=s:=hs
        obtain⟨g,hg⟩:∃g,pn k x i=g:=⟨_,rfl⟩
        have hX:qR T k x l (i+1)=qR T k x l i++[Ht T k x i s]:=by rw[E0,hs]
        have hXg:Ht T k x i s=if g=true then AP T i else fy T (aC T k x) s i:=by unfold Ht;rw[hg]
        have hmL:(qR T k x l i).length=i:=vq
        obtain⟨L,hL⟩:∃L,qR T k x l i=L:=⟨_,rfl⟩
        obtain⟨X,hXX⟩:∃X,Ht T k x i s=X:=⟨_,rfl⟩
        rw[hL,hXX]at hX
        rw[hL]at hmL ⊢
        rw[hXX]at hXg
        refine ai<|ah<|au<|ab (.a 1 rfl<|.v (aJ (i) rfl) rfl<|.v (aL rfl ((ax l i hlt).trans (by rw[hsl]))) rfl<|.a 2 rfl<|.k [3,4,8,9,10,11,34,35,36] rfl)<|aP<|av 2 rfl<|bC (aL rfl ((show some (num T.nodes)=some (num (N:Int)) by rw[hN]))) rfl<|cp (dF rfl (bI.rk.get rfl) rfl rfl (rfl:(N:Int)=(N:Int)) (rfl:(N:Int)=(N:Int)) ⟨by unfold maxLen;omega,by omega⟩) rfl<|av 3 rfl<|aG [3,4,8,9,10,11,12,34,35,36] rfl ?_
        refine wE 1 (σ':=[some (.row 56 3 i (nq L)),none,some (.cells 56 [num i,.slice N (dI [.raw (.slice none 0 0),.raw (.bool false),.raw (.slice none 0 0)] N),.raw (.slice none 0 0)])]) (t':=[(3,.aY (bq T) 0),(4,.aY (ct k x) 0),(8,.aY FS 0),(9,.own 0),(10,num i),(11,num s),(12,.ptr 2 0),(34,aw l),(35,num l.length),(36,num i)]) (blk:=.row 76 3 N (dI [.raw (.slice none 0 0),.raw (.bool false),.raw (.slice none 0 0)] N)) rfl ⟨rfl,rfl,fun j hj=>by
          match j,hj with
          |0,_=>exact .inl rfl
          |1,h=>exact absurd rfl h
          |2,_=>exact .inr ⟨_,_,rfl,rfl,.cells (.cons (.same _)<|.cons .own<|.cons (.same _) .nil)⟩
          |_+3,_=>exact .inl rfl⟩ (.cons 3 rfl (.same _)<|.cons 4 rfl (.same _)<|.cons 8 rfl (.same _)<|.cons 9 rfl (.same _)<|.cons 10 rfl (.same _)<|.cons 11 rfl (.same _)<|.cons 12 rfl (.same _)<|.cons 34 rfl (.same _)<|.cons 35 rfl (.same _)<|.cons 36 rfl (.same _) .nil) ?_
        refine ah<|ab (.a 2 rfl<|.c rfl (hg▸s4 k x i) rfl<|.k [3,4,8,9,10,11,12,34,35,36,48] rfl)<|ag rfl (fun hc=>?_) (fun hc=>?_)
        · subst hc
          rw[if_pos rfl]at hXg
          have hle:kB (.agg [num i,.slice N (dI [.raw (.slice none 0 0),.raw (.bool false),.raw (.slice none 0 0)] N),aw (bG T i)]) (fZ X):=by
            rw[hXg]
            have hz:=Ce N
            have hTN:T.nodes.toNat=N:=by omega
            refine kB.fR ⟨rfl,fun j a b h1 h2=>?_⟩
            match j,h1,h2 with
            |0,h1,h2=>cases h1;cases h2;exact kB.refl _
            |1,h1,h2=>
              cases h1;cases h2
              show kB (.slice N _) (.slice (List.replicate T.nodes.toNat (⟨[],false,[]⟩:iV)).length (di (List.replicate T.nodes.toNat ⟨[],false,[]⟩)))
              rw[List.length_replicate,hTN]
              exact kB.IZ hz.1.symm hz.2
            |2,h1,h2=>cases h1;cases h2;exact kB.refl _
            |j+3,h1,h2=>exact absurd h1 (by simp)
          refine bF<|av 2 rfl<|ec rfl (oh T hll _) rfl<|av 2 rfl<|aG [3,4,8,9,12,34,35,36] rfl ?_
          refine bF<|av 1 rfl<|bC (EO (gI rfl (bI.tk.get rfl) rfl rfl rfl) hle) rfl<|av 1 rfl<|cp (bA rfl (bI.rk.get rfl) rfl rfl rfl rfl (by unfold maxLen;omega)) rfl<|av 1 rfl<|aG [3,4,8,9,34,35,36] rfl ?_
          refine dx [3] (.c 3<|.c 4<|.c 8<|.cons 9 rfl (.own (i:=0) (j:=3) rfl)<|.c 34<|.c 35<|.c 36<|.nil) (.kept rfl (.row aF.pure) .nil) rfl rfl ?_
          refine az (.v (aS rfl) rfl<|.a 1 rfl<|.k [3,4,8,9,34,35,36] rfl) ?_
          exact⟨l.length - (i+1),by omega,i+1,by omega,rfl,by rw[hX,←qK];rfl⟩
        · subst hc
          have hle:kB (fZ X) (fZ X):=kB.refl _
          rw[if_neg (by decide)]at hXg
          have hos:qu s=true:=by
            rw[←hs]
            exact kq.1 hP1 i hlt hg
          obtain⟨f,cap,r1,r2,r3,r4⟩:=Iq T k x h12 hq1 hil hos hFS
          rw[←hXg]at r3
          obtain⟨hs0,hs3⟩:0≤s∧s<4:=by
            obtain⟨h0,h3⟩:=Bool.and_eq_true_iff.1 hos
            have h0:=of_decide_eq_true h0
            have h3:=of_decide_eq_true h3
            omega
          refine bF<|av 1 rfl<|bC (nn rfl (bI.ar.get rfl) rfl rfl hs0 hs3 (j:=s.toNat) (Nat.mul_one _)) rfl<|bC (aL rfl ((show FS[0+s.toNat]? =_ by rw[Nat.zero_add];exact r1))) rfl<|av 1 rfl<|bC (sg rfl r2 rfl rfl r3) rfl<|av 4 rfl<|aG [3,4,8,9,12,34,35,36] rfl ?_
          refine bF<|av 1 rfl<|bC (EO (gI rfl (bI.tk.get rfl) rfl rfl rfl) hle) rfl<|av 1 rfl<|cp (bA rfl (bI.rk.get rfl) rfl rfl rfl rfl (by unfold maxLen;omega)) rfl<|av 1 rfl<|aG [3,4,8,9,34,35,36] rfl ?_
          refine dx [3] (.c 3<|.c 4<|.c 8<|.cons 9 rfl (.own (i:=0) (j:=3) rfl)<|.c 34<|.c 35<|.c 36<|.nil) (.kept rfl (.row aF.pure) .nil) rfl rfl ?_
          refine az (.v (aS rfl) rfl<|.a 1 rfl<|.k [3,4,8,9,34,35,36] rfl) ?_
          exact⟨l.length - (i+1),by omega,i+1,by omega,rfl,by rw[hX,←qK];rfl⟩
      · have hie:i=l.length:=by have:=ff hc;omega
        subst hie
        exact ba<|ab (.a 3 rfl<|.k [6,7] rfl)<|aq<|⟨_,_,aA.of rfl,aB.bx (aj.cons (aB.eH rfl aj.pure) (aj.cons aB.pure aj.nil)),by show PV.tuple [.slice l.length (nq (qR T k x l l.length)),num 0]= .tuple [iS (qR T k x l l.length),num 0];unfold iS;rw[vq]⟩
end PW
end Go.Proofs.YtnegbdpggideiaaGreatDoor
namespace Go.Proofs.YtnegbdpggideiaaGreatDoor
namespace PW
open Go.RowKit cH Mem
section
variable {P:Program} {σ:cm} {t:cd} {o:Oper}
def eo(l:List UInt8):List PV:=l.map fun b=>.raw (.int .u8 b.toNat)
instance (l:List UInt8):aO (eo l):=aO.map _ _ fun _=>inferInstance
instance (l:List UInt8):cz (eo l):=cz.map _ _ fun _=>inferInstance
theorem jW(a b:List UInt8):eo a++eo b=eo (a++b):=by simp[eo]
theorem nX{w:World}(base:Nat)(t u ty e:TypeId)(i:TypeInfo)(ht:P.underlying t=some (.slice e))(hu:P.underlying u=some .string)(hi:P.info? e=some i)(hz:i.zero=some (.int .u8 0))
  (hsize:i.size=1) (hby:i.bytes=1) (v:Value) (n:Nat) (xs:List Value) (hown:w.ownsRow base e 1 v n xs) (s:ByteArray)
  (h63:n+s.size≤maxLen) (hbytes:n+s.size≤140737488355328) (hbase:base≤w.heap.size):
  ∃v' w',(Builtin.append_ #[t,u] ty #[v,.string s]).run P w= .ok v' w'∧w'.ownsRow base e 1 v' (n+s.size) (xs++Lib.strCells s)∧w.grownBy w' v.ownBlock∧(v'.ownBlock=v.ownBlock∨v'.ownBlock=some w.heap.size):=by
 obtain⟨v',w',hr,h2,h3,h4⟩:=Lib.run_append_own_string (P:=P) w base t u ty e i ht hu hi hz hsize hby v n xs hown s h63 hbytes hbase
 refine⟨v',w',hr,h2,h3,?_⟩
 have hsmall:n+s.size≤9223372036854775807:=by simp only[maxLen]at h63;omega
 rcases hown.2 with⟨rfl,rfl⟩|⟨g,cap,cur,rfl,hbg,hg,hnc,hcm,hcs,htake⟩
 ·by_cases hm:s.size=0
  ·rw[h4.2 ⟨rfl,hm⟩];exact .inl rfl
  ·have hr':=run_append_nil_string (P:=P) w t u ty e i (.int .u8 0) ht hu hi hz s (by omega) (by omega) (by rw[hby];omega)
   rw[hr']at hr
   cases hr
   exact .inr rfl
 ·by_cases hroom:n+s.size≤cap
  ·have hr':=Lib.run_append_room_string (P:=P) w t u ty e i ht hu hi hsize g n cap cur hg s hroom (by rw[hcs];omega)
   rw[hr']at hr
   cases hr
   exact .inl rfl
  ·have holds:∀(j:Nat) u,xs[j]? =some u→w.cell? ((⟨g,0,none⟩:Addr).add j)=some u:=hown.cells (g:=g) rfl
   have hr':=Lib.run_append_grow_string (P:=P) w t u ty e i (.int .u8 0) ht hu hi hz ⟨g,0,none⟩ n cap xs (by rw[hsize];exact hown.1) holds s (by omega) (by omega) (growslice_fits (by omega) (by rw[hby];omega))
   rw[hr']at hr
   cases hr
   exact .inr rfl
def AF(P:Program)(ty sy:TypeId):Option TypeId:=
 match P.underlying ty,P.underlying sy with
 |some (.slice e),some .string=>match P.info? e with
  |some i=>match i.zero with
   |some (.int .u8 0)=>bif Nat.beq i.size 1&&Nat.beq i.bytes 1 then some e else none
   |_=>none
  |none=>none
 |_,_=>none
theorem yo{ty sy e:TypeId}(h:AF P ty sy=some e):P.underlying ty=some (.slice e)∧P.underlying sy=some .string∧∃i,P.info? e=some i∧i.zero=some (.int .u8 0)∧i.size=1∧i.bytes=1:=by
 unfold AF at h
 split at h
 ·rename_i e' h1 h2
  split at h
  ·rename_i i hi
   split at h
   ·rename_i hz
    rw[Bool.cond_eq_ite]at h
    split at h
    ·rename_i hb
     cases h
     obtain⟨b1,b2⟩:=Bool.and_eq_true_iff.1 hb
     exact⟨h1,h2,i,hi,hz,Nat.eq_of_beq_eq_true b1,Nat.eq_of_beq_eq_true b2⟩
    ·cases h
   ·cases h
  ·cases h
 ·cases h
theorem p6{ty sy e n i:Nat}{xs:List PV}{x y:Operand}{s:ByteArray}(ho:o.op= .call {callee:=.builtin .append,args:= #[x,y],argTypes:= #[ty,sy]})(hk:AF P ty sy=some e)(hx:aD t x=some (.own i))(hi:σ[i]? =some (some (.row e 1 n xs)))
  (hy:aD t y=some (.raw (.string s))) (hn:n+s.size≤140737488355328):
  cS P σ t o (.own σ.length) (σ.set i none++[some (.row e 1 (n+s.size) (xs++eo s.data.toList))]):=by
 intro F base E ρ w hρ hS hT
 have h1:=ay hρ hT hx
 have h2:=ay hρ hT hy
 generalize hz1:ρ x=v at h1
 generalize hz2:ρ y=u at h2
 cases h2
 obtain⟨hu,hu2,inf,hinf,hz,hs,hby⟩:=yo hk
 cases h1 with
 |own _ hiL _ hat hone=>
  obtain⟨cs,k1,k2⟩:=hS.blk i _ hi
  rw[hat]at k1
  have hob:bz (E.at_ i)=v.ownBlock:=by rw[hat];exact gv k1
  obtain⟨v',w',hrun,hown,hg,hw⟩:=nX (P:=P) (w:=w) base ty sy o.type e inf hu hu2 hinf hz hs hby v n cs k1 s (by unfold maxLen;omega) hn hS.bl
  have hr:(execOp ρ o).run P w= .ok (.value v') w':=by
   simp only[execOp,ho,resolve,invoke,builtin,Sem.run_bind,Sem.run_pure,Result.andThen_ok,List.map_toArray,List.map_cons,List.map_nil,hz1,hz2,hrun]
  have hnw:bb E w (Lib.strCells s) (eo s.data.toList):=by
   refine⟨by simp[Lib.strCells,eo],fun j c u h1 h2=>?_⟩
   simp only[Lib.strCells,eo,List.getElem?_map,Option.map_eq_some_iff]at h1 h2
   obtain⟨b,hb,rfl⟩:=h1
   obtain⟨b',hb',rfl⟩:=h2
   rw[hb]at hb'
   cases hb'
   exact .raw _
  have hv':∀b,bz v'=some b→bz (E.at_ i)=some b∨w.heap.size≤b:=fun b hb=>by
   rw[gv hown]at hb
   rcases hw with h|h
   ·rw[hob,←h];exact .inl hb
   ·rw[h]at hb;cases hb;exact .inr (Nat.le_refl _)
  obtain⟨a1,a2⟩:=hS.swap (w':=w') (blk:=.row e 1 (n+s.size) (xs++eo s.data.toList)) hi hg.size (fun k hk hne=>hg.block k hk (by rw[←hob];exact Ne.symm hne)) hv' (fun E' g=>⟨cs++Lib.strCells s,hown,(k2.append hnw).goes g⟩)
  refine⟨v',w',_,.inl hr,a1,a2,⟨hg.os,hg.tape,hg.output,hg.size,fun k hk=>hg.block k (Nat.lt_of_lt_of_le hk hS.bl) (fun e=>?_)⟩,.own σ.length (by simp[Env.push,Env.kill,hS.len]) v' (by simp[Env.push,Env.kill,hS.len]) ?_⟩
  ·have:=(k1.lt k e.symm).1;omega
  ·rcases hown.2 with⟨rfl,_⟩|⟨g',cap,cur,rfl,_⟩<;>rfl
theorem Sat.drop{F:Nat→Prop}{base:Nat}{E:Env}{w w':World}(hS:Sat F base σ E w){j g:Nat}{bj:cZ}(hj:σ[j]? =some (some bj))(hb:bz (E.at_ j)=some g)(hs:w.heap.size≤w'.heap.size)(ho:∀k,k<w.heap.size→k≠g→w'.heap[k]? =w.heap[k]?):
  Sat F base (σ.set j none) (E.kill j) w'∧cX E w (E.kill j) w':=by
 have hgM:E.M g:=(hS.mm g).2 (.inr ⟨j,bj,hj,hb⟩)
 obtain⟨k1,_⟩:=hS.kill j hj
 have g':cX E w (E.kill j) w':=⟨Nat.le_refl _,fun _ _=>rfl,fun b _ hM h=>hM h.1,hs,fun k hk hM=>ho k hk (fun e=>hM (by rw[e];exact hgM))⟩
 refine⟨⟨Nat.le_trans hS.bl hs,fun b hb'=>⟨Nat.lt_of_lt_of_le (k1.fb b hb').1 hs,(k1.fb b hb').2⟩,k1.len,k1.mm,fun i bl hi=>?_,k1.inj,hS.gl.goes g'⟩,g'⟩
 obtain⟨hne,h3⟩:=iy hi
 exact(hS.blk i bl h3).goes g' (fun k hk=>ho k ((hS.blk i bl h3).lt hk).2 (fun e=>hne (hS.inj i j bl bj g h3 hj (by rw[←e];exact hk) hb)))
theorem xL{ty:TypeId}{x:Operand}{s:ByteArray}(ho:o.op= .call {callee:=.builtin .len,args:= #[x],argTypes:= #[ty]})(hu:P.underlying ty=some .string)(hx:aD t x=some (.raw (.string s))):br P σ t o (.raw (.int .i64 s.size)):=by
 intro F base E ρ w hρ _ hT
 have h1:=ay hρ hT hx
 generalize hz:ρ x=z at h1
 cases h1
 simp[execOp,ho,resolve,invoke,builtin,Builtin.len_,hz,run_underlying hu,goInt]
 exact bw (.raw _)
theorem wT{ty:TypeId}{x:Operand}{j e s n:Nat}{xs:List PV}(ho:o.op= .call {callee:=.builtin .unsafeSliceData,args:= #[x],argTypes:= #[ty]})(hx:aD t x=some (.own j))(hj:σ[j]? =some (some (.row e s n xs)))(hn:0<n):br P σ t o (.ptr j 0):=by
 intro F base E ρ w hρ hS hT
 have h1:=ay hρ hT hx
 generalize hz:ρ x=z at h1
 cases h1 with
 |own _ hi _ h hone=>
  obtain⟨cs,k1,_⟩:=hS.blk j _ hj
  rw[h]at k1
  rcases k1.2 with⟨_,h0⟩|⟨g,cap,cur,hv,_,_,hnc,_⟩
  ·omega
  ·subst hv
   have:=Lib.run_unsafeSliceData_row (P:=P) w #[ty] o.type ⟨g,0,none⟩ n cap (by omega)
   simp only[execOp,ho,resolve,invoke,builtin,Sem.run_bind,Sem.run_pure,Result.andThen_ok,List.map_toArray,List.map_cons,List.map_nil,hz,this]
   exact bw (.ptr j 0 g hi (.inr ⟨n,cap,h⟩))
theorem wi{pt it:TypeId}{x y:Operand}{j e:Nat}{l:List UInt8}(ho:o.op= .call {callee:=.builtin .unsafeString,args:= #[x,y],argTypes:= #[pt,it]})(hp:P.underlying pt=some (.pointer e))(hc:P.cellsOf e=1)(hx:aD t x=some (.ptr j 0))(hy:aD t y=some (.raw (.int .i64 l.length)))(hj:σ[j]? =some (some (.row e 1 l.length (eo l))))(hl:0<l.length):
  cS P σ t o (.raw (.string ⟨l.toArray⟩)) (σ.set j none):=by
 intro F base E ρ w hρ hS hT
 have h1:=ay hρ hT hx
 have h2:=ay hρ hT hy
 generalize hz:ρ x=z at h1
 generalize hz':ρ y=z' at h2
 cases h2
 cases h1 with
 |ptr _ _ b hi h=>
  obtain⟨cs,k1,k2⟩:=hS.blk j _ hj
  have hcs:cs=Lib.byteCells l:=by
   apply List.ext_getElem?
   intro i
   by_cases hi':i<l.length
   ·have h3:=k2.2 i (cs[i]'(by rw[k2.1];simpa[eo]using hi')) (.raw (.int .u8 (l[i]).toNat)) (by simp) (by simp[eo,hi'])
    have h4:cs[i]'(by rw[k2.1];simpa[eo]using hi')= .int .u8 (l[i]).toNat:=by
     generalize cs[i]'(by rw[k2.1];simpa[eo]using hi')=q at h3
     cases h3;rfl
    rw[List.getElem?_eq_getElem (by rw[k2.1];simpa[eo]using hi'),h4]
    simp[Lib.byteCells,hi']
   ·rw[List.getElem?_eq_none (by rw[k2.1];simp[eo];omega),List.getElem?_eq_none (by simp[Lib.byteCells];omega)]
  subst hcs
  have k3:=k1
  rcases k1.2 with⟨hv,h0⟩|⟨g,cap,cur,hv,hbg,hg,hnc,hcm,hsz,htk⟩
  ·omega
  ·have hbeq:b=g:=by
    rcases h with h|⟨n,c,h⟩
    ·rw[hv]at h;cases h
    ·rw[hv]at h;cases h;rfl
   subst hbeq
   have hblk:bz (E.at_ j)=some b:=by rw[hv];rfl
   have hrun:=Lib.run_unsafeString_row (P:=P) w pt it o.type e hp hc b cur.size (by simp[World.shape?,hg]) l (by intro e';rw[e']at hl;simp at hl) (by omega) (by unfold maxLen at hcm;omega) (fun i x hx'=>k3.cells (g:=b) (by rw[hv];rfl) i (.int .u8 x.toNat) (by simp[Lib.byteCells,hx']))
   have hr:(execOp ρ o).run P w= .ok (.value (.string ⟨l.toArray⟩)) (w.freeze ⟨b,0,none⟩ l.length):=by
    simp only[execOp,ho,resolve,invoke,builtin,Sem.run_bind,Sem.run_pure,Result.andThen_ok,List.map_toArray,List.map_cons,List.map_nil,hz,hz',hrun]
   have hfz:∀k,k≠b→(w.freeze ⟨b,0,none⟩ l.length).heap[k]? =w.heap[k]? :=fun k hk=>by
    unfold World.freeze
    split
    ·rfl
    ·simp only[Array.getElem?_modify]
     rw[if_neg (Ne.symm hk)]
   have hsz':w.heap.size≤(w.freeze ⟨b,0,none⟩ l.length).heap.size:=by
    unfold World.freeze
    split<;>simp
   obtain⟨a1,a2⟩:=Sat.drop (w':=w.freeze ⟨b,0,none⟩ l.length) hS hj hblk hsz' (fun k _ hk=>hfz k hk)
   exact⟨_,_,_,.inl hr,a1,a2,Lib.below_freeze (Below.refl base w) (p:=⟨b,0,none⟩) hbg _,.raw _⟩
theorem Dg{x y:Operand}{ty tz:TypeId}(ho:o.op= .binOp .eql ty x y tz)(hk:pw P ty=true)(hx:aD t x=some (.raw (.pointer none)))(hy:aD t y=some (.raw (.pointer none))):br P σ t o (.raw (.bool true)):=by
 refine wq ho hx hy fun w=>?_
 unfold pw at hk
 split at hk
 ·rename_i e hu
  have key:∀d,(Op.equalIn (d+1) ty (.pointer none) (.pointer none)).run P w= .ok true w:=fun d=>by
   simp only[Op.equalIn,Sem.run_bind,run_underlying hu,Result.andThen_ok,Sem.run_pure,Option.isNone_none]
  have:=key 9999
  simp only[Nat.reduceAdd]at this
  simp[eqGuard,binOp,Op.equal,Op.maxDepth,this]
 ·cases hk
theorem sL{x y:Operand}{ty te tz:TypeId}{i k:Nat}{ji:TypeInfo}(ho:o.op= .binOp .neq ty x y tz)(hp:P.underlying ty=some (.pointer te))(hte:P.info? te=some ji)(hx:aD t x=some (.ptr i k))(hy:aD t y=some (.ptr i k)):br P σ t o (.raw (.bool false)):=by
 intro F base E ρ w hρ hS hT
 have h1:=ay hρ hT hx
 have h2:=ay hρ hT hy
 have he:ρ x=ρ y:=uf.KG E w _ _ h1 h2
 generalize hz:ρ x=z at h1
 have hz':ρ y=z:=by rw[←he,hz]
 cases h1 with
 |ptr _ _ b hi h=>
  have hb:=Lib.run_neq_ptr_same (P:=P) w ⟨b,k,none⟩ hp hte
  have hr:(execOp ρ o).run P w= .ok (.value (.bool false)) w:=by
   simp only[execOp,ho,hz,hz',Sem.run_bind,Sem.run_pure]
   have hg:(eqGuard .neq ty x y (.pointer (some ⟨b,k,none⟩)) (.pointer (some ⟨b,k,none⟩))).run P w= .ok () w:=rfl
   rw[hg]
   simp only[Result.andThen_ok,hb]
  rw[hr]
  exact bw (.raw _)
theorem yy{src dst te ty:TypeId}{x:Operand}{i:Nat}{ji:TypeInfo}{xs:List PV}(ho:o.op= .convert src dst x)(hs:P.underlying src=some (.pointer te))(hd:P.underlying dst=some .unsafePointer)(ht:P.info? te=some ji)(hj:ji.size≠0)(hx:aD t x=some (.ptr i 0))(hi:σ[i]? =some (some (.cells ty xs)))(hl:0<xs.length):br P σ t o (.ptr i 0):=by
 intro F base E ρ w hρ hS hT
 have h1:=ay hρ hT hx
 have h1':=h1
 generalize hz:ρ x=z at h1 h1'
 obtain⟨b,cs,k1,k2,k3,k4⟩:=hS.blk i _ hi
 cases h1 with
 |ptr _ _ b' hi' h=>
  have hb:b'=b:=by
   rcases h with h|⟨n,c,h⟩<;>rw[k1]at h<;>cases h
   rfl
  subst hb
  have:=Lib.run_to_unsafe (P:=P) w ⟨b',0,none⟩ hs hd ht hj (e:=ty) (cells:=cs.size) (by simp[World.shape?,k3]) (by have:=k4.1;simp at this ⊢;omega)
  simp only[execOp,ho,hz,Sem.run_bind,this,Result.andThen_ok,Sem.run_pure]
  exact bw h1'
theorem vf{src dst u ty:TypeId}{x:Operand}{i:Nat}{ji:TypeInfo}{xs:List PV}(ho:o.op= .convert src dst x)(hs:P.underlying src=some .unsafePointer)(hd:P.underlying dst=some (.pointer u))(ht:P.info? u=some ji)(hx:aD t x=some (.ptr i 0))(hi:σ[i]? =some (some (.cells ty xs)))(hl:liesAt P P.depth ty (xs.length / P.cellsOf ty) 0 u 1=true):br P σ t o (.ptr i 0):=by
 intro F base E ρ w hρ hS hT
 have h1:=ay hρ hT hx
 have h1':=h1
 generalize hz:ρ x=z at h1 h1'
 obtain⟨b,cs,k1,k2,k3,k4⟩:=hS.blk i _ hi
 cases h1 with
 |ptr _ _ b' hi' h=>
  have hb:b'=b:=by
   rcases h with h|⟨n,c,h⟩<;>rw[k1]at h<;>cases h
   rfl
  subst hb
  have hsz:cs.size=xs.length:=by have:=k4.1;simpa using this
  have:=Lib.run_from_unsafe (P:=P) w ⟨b',0,none⟩ hs hd ht (e:=ty) (cells:=cs.size) (by simp[World.shape?,k3]) (by rw[hsz];exact hl)
  simp only[execOp,ho,hz,Sem.run_bind,this,Result.andThen_ok,Sem.run_pure]
  exact bw h1'
theorem yJ{f:FuncId}{x a:Operand}{ats:Array TypeId}{p:PV}(ho:o.op= .call {callee:=.value x,args:= #[a],argTypes:=ats})(hx:aD t x=some (.func f []))(ha:aD t a=some p)(hr:∀v w,(callFunc f #[v]).run P w= .ok (.value v) w):br P σ t o p:=by
 intro F base E ρ w hρ hS hT
 have h1:=ay hρ hT hx
 have h2:=ay hρ hT ha
 generalize hz:ρ x=z at h1
 cases h1 with
 |func _ cs _ hl hr'=>
  have hcs:cs= #[]:=Array.eq_empty_of_size_eq_zero (by simpa using hl)
  subst hcs
  have h3:(execOp ρ o).run P w= .ok (.value (ρ a)) w:=by
   have:=hr (ρ a) w
   simp[execOp,ho,resolve,hz,Deferred.ofValue,invoke,this]
  rw[h3]
  exact bw h2
end
end PW
end Go.Proofs.YtnegbdpggideiaaGreatDoor
namespace Go.Proofs
open Go.Shelf
open Go.RowKit in
open Go.RowKit in
open Go.RowKit in
open Go.RowKit in
open Go.RowKit in
open Go.RowKit in
open Go.RowKit in
open Go.RowKit in
open Go.RowKit in
open Go.Lib in
open Go.Lib in
open Go.Lib in
open Go.Lib in
open Go.RowKit Go.Sort Go.Lib in
def Tryz.F8:Go.Shelf.Ren:=⟨fun|246=>220|283=>227|284=>228|285=>229|286=>230|129=>241|317=>242|318=>243|319=>244|320=>245|337=>252|338=>253|n=>n,fun|2=>2|3=>3|9=>9|4=>4|171=>248|0=>0|53=>249|37=>26|5=>5|173=>252|212=>264|51=>262|20=>20|213=>265|46=>247|232=>275|233=>276|n=>n,fun|17=>0|18=>1|19=>2|n=>n⟩
open Go.RowKit Go.Sort Go.Lib in
open Go.RowKit Go.Sort Go.Lib in
def Tryz.HG:Go.Shelf.Ren:=⟨fun|243=>208|246=>220|283=>227|284=>228|285=>229|286=>230|129=>241|317=>242|318=>243|319=>244|320=>245|337=>252|338=>253|n=>n,fun|3=>3|9=>9|2=>2|4=>4|171=>248|0=>0|53=>249|37=>26|5=>5|173=>252|212=>264|51=>262|20=>20|213=>265|46=>247|232=>275|233=>276|n=>n,fun|17=>0|18=>1|19=>2|n=>n⟩
open Go.RowKit Go.Sort Go.Lib in
open Go.RowKit Go.Sort Go.Lib in
def Tryz.GU:Go.Shelf.Ren:=⟨fun|171=>187|243=>208|246=>220|283=>227|284=>228|285=>229|286=>230|129=>241|317=>242|318=>243|319=>244|320=>245|337=>252|338=>253|n=>n,fun|3=>3|9=>9|2=>2|4=>4|171=>248|0=>0|53=>249|37=>26|5=>5|173=>252|212=>264|51=>262|20=>20|213=>265|46=>247|232=>275|233=>276|n=>n,fun|17=>0|18=>1|19=>2|n=>n⟩
open Go.RowKit Go.Sort Go.Lib in
def Tryz.xp:Go.Shelf.Ren:=⟨fun|171=>187|243=>208|246=>220|283=>227|284=>228|285=>229|286=>230|129=>241|317=>242|318=>243|319=>244|320=>245|337=>252|338=>253|n=>n,fun|3=>3|9=>9|2=>2|4=>4|171=>248|0=>0|53=>249|37=>26|5=>5|173=>252|212=>264|51=>262|20=>20|213=>265|46=>247|232=>275|233=>276|n=>n,fun|17=>0|18=>1|19=>2|n=>n⟩
theorem Tryz.Gp:Go.Proofs.Lays.n171 Tryz.prog Tryz.xp:= {
 mixed:=by kernel_rfl
 f129:=Tryz.func241.trans (congrArg some (by kernel_rfl))
 f171:=Tryz.func187.trans (congrArg some (by kernel_rfl))
 f243:=Tryz.func208.trans (congrArg some (by kernel_rfl))
 f246:=Tryz.func220.trans (congrArg some (by kernel_rfl))
 f283:=Tryz.func227.trans (congrArg some (by kernel_rfl))
 f284:=Tryz.func228.trans (congrArg some (by kernel_rfl))
 f285:=Tryz.func229.trans (congrArg some (by kernel_rfl))
 f286:=Tryz.func230.trans (congrArg some (by kernel_rfl))
 f317:=Tryz.func242.trans (congrArg some (by kernel_rfl))
 f318:=Tryz.func243.trans (congrArg some (by kernel_rfl))
 f319:=Tryz.func244.trans (congrArg some (by kernel_rfl))
 f320:=Tryz.func245.trans (congrArg some (by kernel_rfl))
 f337:=Tryz.func252.trans (congrArg some (by kernel_rfl))
 f338:=Tryz.func253.trans (congrArg some (by kernel_rfl))
 t0:=Tryz.underlying0
 a0:=Tryz.isAgg0
 z0:=Tryz.sizeOf0
 v0:=Tryz.zeroValue0
 t2:=Tryz.underlying2
 a2:=Tryz.isAgg2
 z2:=Tryz.sizeOf2
 v2:=Tryz.zeroValue2
 t3:=Tryz.underlying3
 a3:=Tryz.isAgg3
 z3:=Tryz.sizeOf3
 v3:=Tryz.zeroValue3
 t4:=Tryz.underlying4
 a4:=Tryz.isAgg4
 z4:=Tryz.sizeOf4
 v4:=Tryz.zeroValue4
 t5:=Tryz.underlying5
 a5:=Tryz.isAgg5
 z5:=Tryz.sizeOf5
 v5:=Tryz.zeroValue5
 t9:=Tryz.underlying9
 a9:=Tryz.isAgg9
 z9:=Tryz.sizeOf9
 v9:=Tryz.zeroValue9
 t20:=Tryz.underlying20
 a20:=Tryz.isAgg20
 z20:=Tryz.sizeOf20
 v20:=Tryz.zeroValue20
 t37:=Tryz.underlying26
 a37:=Tryz.isAgg26
 z37:=Tryz.sizeOf26
 v37:=Tryz.zeroValue26
 t46:=Tryz.underlying247
 a46:=Tryz.isAgg247
 z46:=Tryz.sizeOf247
 v46:=Tryz.zeroValue247
 t51:=Tryz.underlying262
 a51:=Tryz.isAgg262
 z51:=Tryz.sizeOf262
 v51:=Tryz.zeroValue262
 t53:=Tryz.underlying249
 a53:=Tryz.isAgg249
 z53:=Tryz.sizeOf249
 v53:=Tryz.zeroValue249
 t171:=Tryz.underlying248
 a171:=Tryz.isAgg248
 z171:=Tryz.sizeOf248
 v171:=Tryz.zeroValue248
 t173:=Tryz.underlying252
 a173:=Tryz.isAgg252
 z173:=Tryz.sizeOf252
 v173:=Tryz.zeroValue252
 t212:=Tryz.underlying264
 a212:=Tryz.isAgg264
 z212:=Tryz.sizeOf264
 v212:=Tryz.zeroValue264
 t213:=Tryz.underlying265
 a213:=Tryz.isAgg265
 z213:=Tryz.sizeOf265
 t232:=Tryz.underlying275
 a232:=Tryz.isAgg275
 z232:=Tryz.sizeOf275
 v232:=Tryz.zeroValue275
 t233:=Tryz.underlying276
 a233:=Tryz.isAgg276
 z233:=Tryz.sizeOf276
 v233:=Tryz.zeroValue276
 g17:=by kernel_rfl
 g18:=by kernel_rfl
 g19:=by kernel_rfl}
open Go.RowKit Go.Sort Go.Lib in
theorem Tryz.strconv_Itoa_small(i:Nat)(hi:i<100)(w:World):
  Calls Tryz.prog 187 #[.int .i64 i] w fun e w'=>e= .returned (.string ⟨(Lib.decDigits i).toArray⟩)∧w'=w:=Any.strconv_Itoa_small Tryz.Gp i hi w
end Go.Proofs
namespace Go.Proofs.YtnegbdpggideiaaGreatDoor
namespace PW
open Go.RowKit cH Mem
def E7(j:Nat)(u:Bool)(l:List UInt8):cm:=some (.cells 214 [if u then .ptr 0 0 else .raw (.pointer none),.own j])::(List.replicate (j - 1) none++[some (.row 5 1 l.length (eo l))])
theorem wS:∃i,Tryz.prog.info? 214=some i∧i.size=2:=by
 have h:(Tryz.prog.info? 214).map (·.size)=some 2:=by kernel_rfl
 obtain⟨i,h1,h2⟩:=Option.map_eq_some_iff.1 h
 exact⟨i,h1,h2⟩
theorem uO(v:Value)(w:World):(callFunc 219 #[v]).run Tryz.prog w= .ok (.value v) w:=by
 rw[run_callFunc_extern Tryz.func219 (by kernel_rfl) (by kernel_rfl) (by kernel_rfl) (e:=Extern.AbiNoEscape.same) (by kernel_rfl),Lib.run_noEscape]
 rfl
theorem rI:AF Tryz.prog 26 9=some 5:=by kernel_rfl
theorem FM(u:Bool)(l:List UInt8):bS Tryz.prog 207 [.ptr 0 0] (E7 1 u l) (fun _ σ'=>σ'=E7 1 true l):=by
 obtain⟨ji,hji,hjs⟩:=wS
 refine cw Tryz.func207 rfl Tryz.ntmps207 rfl ?_
 cases u
 ·refine aP<|bK (fK rfl rfl) rfl rfl rfl ?_
  refine bK (jC rfl rfl) rfl rfl rfl ?_
  refine bK (bH rfl) rfl rfl rfl ?_
  refine bK (dj rfl (bI.tk.get rfl) rfl rfl rfl) rfl rfl rfl ?_
  refine bK (Dg rfl (bI.pk.get rfl) rfl rfl) rfl rfl rfl (bc ?_)
  refine GZ rfl ?_
  refine bF<|bK (fK rfl rfl) rfl rfl rfl ?_
  refine bK (fK rfl rfl) rfl rfl rfl ?_
  refine bK (yy rfl Tryz.underlying212 Tryz.underlying241 hji (by rw[hjs];decide) rfl rfl (by decide)) rfl rfl rfl ?_
  refine bK (yJ rfl rfl rfl uO) rfl rfl rfl ?_
  refine bK (vf rfl Tryz.underlying241 Tryz.underlying212 hji rfl rfl (by kernel_rfl)) rfl rfl rfl ?_
  refine bK (jC rfl rfl) rfl rfl rfl ?_
  refine bK (bH rfl) rfl rfl rfl ?_
  refine bg (cK rfl (bI.tk.get rfl) rfl rfl rfl (Nat.le_of_ble_eq_true rfl)) rfl rfl (bc ?_)
  exact⟨_,.nil,rfl⟩
 ·refine aP<|bK (fK rfl rfl) rfl rfl rfl ?_
  refine bK (jC rfl rfl) rfl rfl rfl ?_
  refine bK (bH rfl) rfl rfl rfl ?_
  refine bK (dj rfl (bI.tk.get rfl) rfl rfl rfl) rfl rfl rfl ?_
  refine bK (qT rfl (bI.pk.get rfl) rfl rfl) rfl rfl rfl (bc ?_)
  refine qv rfl ?_
  refine aP<|bK (fK rfl rfl) rfl rfl rfl ?_
  refine bK (jC rfl rfl) rfl rfl rfl ?_
  refine bK (bH rfl) rfl rfl rfl ?_
  refine bK (dj rfl (bI.tk.get rfl) rfl rfl rfl) rfl rfl rfl ?_
  refine bK (fK rfl rfl) rfl rfl rfl ?_
  refine bK (sL rfl Tryz.underlying212 hji rfl rfl) rfl rfl rfl (bc ?_)
  refine qv rfl ?_
  exact ai ⟨_,.nil,rfl⟩
theorem Jn(u:Bool)(l:List UInt8)(s:ByteArray)(hn:l.length+s.size≤1000000000):bS Tryz.prog 186 [.ptr 0 0,.raw (.string s)] (E7 1 u l) (fun _ σ'=>σ'=E7 2 true (l++s.data.toList)):=by
 refine cw Tryz.func186 rfl Tryz.ntmps186 rfl<|ab (.a 2 rfl<|.k [0,1] rfl)<|aP<|av 1 rfl<|cP rfl rfl (bS.mono (FM u l) (fun _ σ' h=>?_))
 subst h
 refine aG [0,1] rfl ?_
 refine aP<|av 6 rfl<|cp (p6 rfl rI rfl rfl rfl (by omega)) rfl<|av 3 rfl<|aG [1] rfl ?_
 refine ab (.a 1 rfl<|.v (xL rfl Tryz.underlying9 rfl) rfl<|.a 2 rfl<|.k [4,5] rfl)<|aq<|⟨_,aA.of rfl,?_⟩
 have hl:(l++s.data.toList).length=l.length+s.size:=by simp
 unfold E7
 rw[hl,←jW]
 rfl
theorem FH(u:Bool)(l:List UInt8)(hl:0<l.length):bS Tryz.prog 189 [.ptr 0 0] (E7 1 u l) (fun r _=>r= .raw (.string ⟨l.toArray⟩)):=by
 refine cw Tryz.func189 rfl Tryz.ntmps189 rfl ?_
 cases u
 all_goals
  refine ab (.a 1 rfl<|.k [0] rfl)<|lV 10 20 mixed (
   .val [0] rfl (bH rfl) rfl rfl<|
   .val [3] rfl (bH rfl) rfl rfl<|
   .val [4] rfl (bH rfl) rfl rfl<|
   .val [5] rfl (bH rfl) rfl rfl<|
   .val [6] rfl (wT rfl rfl rfl hl) rfl rfl<|
   .val [0] rfl (bH rfl) rfl rfl<|
   .val [8] rfl (bH rfl) rfl rfl<|
   .val [9] rfl (bH rfl) rfl rfl<|
   .val [10] rfl (bH rfl) rfl rfl<|
   .val [11] rfl (bH rfl) rfl rfl<|
   .nil) (by kernel_rfl) rfl rfl (bm (ks:=[7,12]) rfl) ?_
  refine cp (wi rfl Tryz.underlying233 (by kernel_rfl) rfl rfl rfl hl) rfl<|av 1 rfl<|aG [2] rfl ?_
  exact aq<|⟨_,aA.of rfl,rfl⟩
def A0(l:List UInt8):PV:=.raw (.string ⟨l.toArray⟩)
theorem nB(i:Nat)(hi:i<100):Can Tryz.prog 187 [num i] (· =A0 (Lib.decDigits i)):=fun F w vs _ _ hR=>by
 obtain⟨v,rfl,h1⟩:=Jq hR
 cases dV h1
 refine(Tryz.strconv_Itoa_small i hi w).mono ?_
 rintro e w' ⟨rfl,rfl⟩
 exact⟨_,rfl,Ext.refl _,_,rfl,.raw _⟩
instance (l:List UInt8):IsPure (A0 l):=by unfold A0;infer_instance
instance (l:List UInt8):fj (A0 l):=by unfold A0;infer_instance
end PW
end Go.Proofs.YtnegbdpggideiaaGreatDoor
namespace Go.Proofs.YtnegbdpggideiaaGreatDoor
namespace PW
open Go.RowKit cH Mem Net
def CR(l:List UInt8)(x:Option cZ):cm:=[some (.cells 214 [.ptr 0 0,.own 1]),some (.row 5 1 l.length (eo l)),x]
def CD(l:List UInt8)(x:Option cZ):cm:=[some (.cells 214 [.ptr 0 0,.own 3]),none,x,some (.row 5 1 l.length (eo l))]
theorem Ar(l:List UInt8)(x:Option cZ):bS Tryz.prog 207 [.ptr 0 0] (CR l x) (fun _ σ'=>σ'=CR l x):=by
 obtain⟨ji,hji,hjs⟩:=wS
 refine cw Tryz.func207 rfl Tryz.ntmps207 rfl<|aP<|bK (fK rfl rfl) rfl rfl rfl ?_
 refine bK (jC rfl rfl) rfl rfl rfl ?_
 refine bK (bH rfl) rfl rfl rfl ?_
 refine bK (dj rfl (bI.tk.get rfl) rfl rfl rfl) rfl rfl rfl ?_
 refine bK (qT rfl (bI.pk.get rfl) rfl rfl) rfl rfl rfl (bc ?_)
 refine qv rfl ?_
 refine aP<|bK (fK rfl rfl) rfl rfl rfl ?_
 refine bK (jC rfl rfl) rfl rfl rfl ?_
 refine bK (bH rfl) rfl rfl rfl ?_
 refine bK (dj rfl (bI.tk.get rfl) rfl rfl rfl) rfl rfl rfl ?_
 refine bK (fK rfl rfl) rfl rfl rfl ?_
 refine bK (sL rfl Tryz.underlying212 hji rfl rfl) rfl rfl rfl (bc ?_)
 refine qv rfl ?_
 exact ai ⟨_,.nil,rfl⟩
theorem H6(l:List UInt8)(x:Option cZ)(s:ByteArray)(hn:l.length+s.size≤1000000000):bS Tryz.prog 186 [.ptr 0 0,.raw (.string s)] (CR l x) (fun _ σ'=>σ'=CD (l++s.data.toList) x):=by
 refine cw Tryz.func186 rfl Tryz.ntmps186 rfl<|ab (.a 2 rfl<|.k [0,1] rfl)<|aP<|av 1 rfl<|cP rfl rfl (bS.mono (Ar l x) (fun _ σ' h=>?_))
 subst h
 refine aG [0,1] rfl ?_
 refine aP<|av 6 rfl<|cp (p6 rfl rI rfl rfl rfl (by omega)) rfl<|av 3 rfl<|aG [1] rfl ?_
 refine ab (.a 1 rfl<|.v (xL rfl Tryz.underlying9 rfl) rfl<|.a 2 rfl<|.k [4,5] rfl)<|aq<|⟨_,aA.of rfl,?_⟩
 have hl:(l++s.data.toList).length=l.length+s.size:=by simp
 unfold CD
 rw[hl,←jW]
 rfl
theorem Em(l:List UInt8)(x:Option cZ)(c:UInt8)(hn:l.length≤1000000000):bS Tryz.prog 188 [.ptr 0 0,.raw (.int .u8 c.toNat)] (CR l x) (fun _ σ'=>σ'=CD (l++[c]) x):=by
 refine cw Tryz.func188 rfl Tryz.ntmps188 rfl<|ab (.a 1 rfl<|.k [0,1] rfl)<|aP<|av 1 rfl<|cP rfl rfl (bS.mono (Ar l x) (fun _ σ' h=>?_))
 subst h
 refine aG [0,1] rfl ?_
 refine aP<|av 7 rfl<|cp (bA rfl (bI.rk.get rfl) rfl rfl rfl rfl (by unfold maxLen;omega)) rfl<|av 3 rfl<|aG [] rfl ?_
 refine ab (.a 1 rfl<|.k [4] rfl)<|aq<|⟨_,aA.of rfl,?_⟩
 unfold CD
 rw[←jW]
 simp only[List.length_append,List.length_singleton]
 rfl
theorem I5{P:Program}{M:Nat}{c:Code}{t:cd}{Q:Exit→St→Prop}{l:List UInt8}{ty:TypeId}{xs:List PV}[aO xs](hT:nF [0,3,2] t t)(h:W P M 0 c ⟨t,CR l (some (.cells ty xs))⟩ Q):W P M 0 c ⟨t,CD l (some (.cells ty xs))⟩ Q:=
 dx [0,3,2] hT (.kept rfl (.cells (aF.cons (Ren.ptr (i:=0) rfl)<|aF.cons (Ren.own (i:=1) rfl) aF.nil))<|.kept rfl (.row aF.pure)<|.kept rfl (.cells aF.pure)<|.nil) rfl rfl h
theorem Kv{P:Program}{M:Nat}{c:Code}{t:cd}{Q:Exit→St→Prop}{l:List UInt8}{x:Option cZ}(hT:nF [0,3] t t)(h:W P M 0 c ⟨t,E7 1 true l⟩ Q):W P M 0 c ⟨t,CD l x⟩ Q:=
 dx [0,3] hT (.kept rfl (.cells (aF.cons (Ren.ptr (i:=0) rfl)<|aF.cons (Ren.own (i:=1) rfl) aF.nil))<|.kept rfl (.row aF.pure)<|.nil) rfl rfl h
theorem J9{P:Program}{M:Nat}{c:Code}{t:cd}{Q:Exit→St→Prop}{l:List UInt8}(hT:nF [0,2] t t)(h:W P M 0 c ⟨t,E7 1 true l⟩ Q):W P M 0 c ⟨t,E7 2 true l⟩ Q:=
 dx [0,2] hT (.kept rfl (.cells (aF.cons (Ren.ptr (i:=0) rfl)<|aF.cons (Ren.own (i:=1) rfl) aF.nil))<|.kept rfl (.row aF.pure)<|.nil) rfl rfl h
theorem Ba(s:List ca)(i:Nat)(g:ca)(h:s[i]? =some g)(n:Nat):dZ n (s.take (i+1))=(((dZ n (s.take i)++[32])++Lib.decDigits g.kind.toNat)++[58])++Lib.decDigits g.num.toNat:=by
 unfold dZ
 rw[List.take_add_one,h]
 simp[GY]
theorem zj{s:List ca}(h:gW s)(i:Nat):gW (s.take i):=fun g hg=>h g (List.mem_of_mem_take hg)
theorem Bl{n:Nat}{s:List ca}(hn:n<100)(h:gW s):(dZ n s).length≤2+s.length*6:=by
 have h1:=kI hn
 have h2:=DX h
 unfold dZ
 rw[List.length_append]
 omega
theorem Fh(n:Nat)(s:List ca)(hn:n<100)(hs:gW s)(hl:s.length≤1000):Can Tryz.prog 159 [num n,cM s] (· =A0 (dZ n s)):=by
 refine aE Tryz.func159 rfl Tryz.ntmps159 rfl<|ab (.a 1 rfl<|.k [0,1] rfl)<|aP<|av 1 rfl<|aG [0,1,5] rfl ?_
 refine cn 0 1 5 1 rfl rfl ?_
 refine er (σ':=E7 1 false []) rfl ?_
 refine aP<|av 1 rfl<|ec rfl (nB n hn) rfl<|cP rfl rfl (bS.mono (Jn false [] ⟨(Lib.decDigits n).toArray⟩ (show([]:List UInt8).length+(Lib.decDigits n).toArray.size≤1000000000 by have:=kI hn;simp;omega)) (fun _ σ' h=>?_))
 subst h
 refine aG [1,5] rfl ?_
 refine J9 (.cons 1 rfl Ren.pure<|.cons 5 rfl (Ren.ptr (i:=0) rfl)<|.nil) ?_
 refine ah<|ab (.a 3 rfl<|.k [5,11,12,13] rfl)<|au<|eu [5,11,12,13] rfl<|bf (fun r st=>∃i,i≤s.length∧r=s.length - i∧st=⟨[(5,.ptr 0 0),(11,cM s),(12,num s.length),(13,num i)],E7 1 true (dZ n (s.take i))⟩) s.length ⟨0,by omega,by omega,by simp[dZ]⟩ ?_
 rintro r st ⟨i,hi,rfl,rfl⟩
 refine ab (.a 1 rfl<|.k [5,11,12,13,14] rfl)<|ah<|ag rfl (fun hc=>?_) (fun hc=>?_)
 ·have hlt:i<s.length:=by have:=of_decide_eq_true hc;omega
  obtain⟨g,hg,_⟩:=BS s i hlt
  obtain⟨a1,a2,a3,a4⟩:=hs g (List.mem_of_getElem? hg)
  have hst:=Ba s i g hg n
  have hln:=Bl hn (zj hs i)
  rw[List.length_take]at hln
  obtain⟨gk,gn⟩:=g
  simp only at a1 a2 a3 a4 hst
  obtain⟨ka,rfl⟩:=Int.eq_ofNat_of_zero_le a1
  obtain⟨na,rfl⟩:=Int.eq_ofNat_of_zero_le a3
  have hk2:=kI (n:=ka) (by omega)
  have hn2:=kI (n:=na) (by omega)
  rw[Int.toNat_natCast,Int.toNat_natCast]at hst
  have hmin:min i s.length=i:=by omega
  rw[hmin]at hln
  generalize hl0:dZ n (s.take i)=l0 at*
  refine ai<|ah<|au<|aP<|bC (aJ ((i*2)) rfl) rfl<|bC (gO rfl (o3 s i _ hg) rfl) rfl<|av 2 rfl<|aG [5,7,11,12,13] rfl ?_
  refine er (σ':=CR l0 (some (.cells 103 (nk ⟨(ka:Int),(na:Int)⟩)))) rfl ?_
  refine aP<|cP rfl rfl (bS.mono (Em l0 _ 32 (by omega)) (fun _ σ' h=>?_))
  subst h
  refine aG [5,7,11,12,13] rfl ?_
  refine I5 (.cons 5 rfl (Ren.ptr (i:=0) rfl)<|.cons 7 rfl (Ren.ptr (i:=2) rfl)<|.cons 11 rfl Ren.pure<|.cons 12 rfl Ren.pure<|.cons 13 rfl Ren.pure<|.nil) ?_
  refine aP<|av 1 rfl<|bC (aL rfl (rfl)) rfl<|ec rfl (nB ka (by omega)) rfl<|cP rfl rfl (bS.mono (H6 (l0++[32]) _ ⟨(Lib.decDigits ka).toArray⟩ (show(l0++[32]).length+(Lib.decDigits ka).toArray.size≤1000000000 by simp;omega)) (fun _ σ' h=>?_))
  subst h
  refine aG [5,7,11,12,13] rfl ?_
  refine I5 (.cons 5 rfl (Ren.ptr (i:=0) rfl)<|.cons 7 rfl (Ren.ptr (i:=2) rfl)<|.cons 11 rfl Ren.pure<|.cons 12 rfl Ren.pure<|.cons 13 rfl Ren.pure<|.nil) ?_
  refine aP<|cP rfl rfl (bS.mono (Em ((l0++[32])++Lib.decDigits ka) _ 58 (by simp;omega)) (fun _ σ' h=>?_))
  subst h
  refine aG [5,7,11,12,13] rfl ?_
  refine I5 (.cons 5 rfl (Ren.ptr (i:=0) rfl)<|.cons 7 rfl (Ren.ptr (i:=2) rfl)<|.cons 11 rfl Ren.pure<|.cons 12 rfl Ren.pure<|.cons 13 rfl Ren.pure<|.nil) ?_
  refine bF<|av 1 rfl<|bC (aL rfl (rfl)) rfl<|ec rfl (nB na (by omega)) rfl<|cP rfl rfl (bS.mono (H6 (((l0++[32])++Lib.decDigits ka)++[58]) _ ⟨(Lib.decDigits na).toArray⟩ (show(((l0++[32])++Lib.decDigits ka)++[58]).length+(Lib.decDigits na).toArray.size≤1000000000 by simp;omega)) (fun _ σ' h=>?_))
  subst h
  refine aG [5,11,12,13] rfl ?_
  refine Kv (.cons 5 rfl (Ren.ptr (i:=0) rfl)<|.cons 11 rfl Ren.pure<|.cons 12 rfl Ren.pure<|.cons 13 rfl Ren.pure<|.nil) ?_
  refine az (.v (aS rfl) rfl<|.a 1 rfl<|.k [5,11,12,13] rfl) ?_
  exact⟨s.length - (i+1),by omega,i+1,by omega,rfl,by rw[hst];rfl⟩
 ·have hie:i=s.length:=by have:=of_decide_eq_false hc;omega
  subst hie
  rw[List.take_length]
  refine ba<|aP<|cP rfl rfl (bS.mono (FH true (dZ n s) (by have:=kI hn;unfold dZ;simp;omega)) (fun _ σ' h=>?_))
  subst h
  refine av 1 rfl<|aG [4] rfl ?_
  exact aq<|⟨_,_,aA.of rfl,aB.pure,rfl⟩
theorem ym(T:an)(L:List ef)(n:Int)(hv:ao T=true)(hL:(L.length:Int)=T.nodes)(hok:∀(i:Nat) x,L[i]? =some x→x.node=(i:Int)∧dM T x=true)(hn:bd T n=true):Can Tryz.prog 157 [aN T,iS L,num n] (· =num 0):=by
 have hN:=gH hv
 obtain⟨q1,hq1⟩:∃q,ao T=q:=⟨_,rfl⟩
 obtain⟨q2,hq2⟩:∃q,decide ((L.length:Int)≠T.nodes)=q:=⟨_,rfl⟩
 refine aE Tryz.func157 rfl Tryz.ntmps157 rfl<|ab (.a 2 rfl<|.k [1,2,3] rfl)<|ah<|bu 18 (.raw (.bool (!q1 ||q2))) [1,2,3] rfl ?_ ?_
 ·refine .a 1 rfl<|.c rfl (hq1▸eC T) rfl<|.a 2 rfl<|?_
  cases q1
  ·exact .a 6 rfl<|.k [18,1,2,3] rfl
  ·exact .a 3 rfl<|.v (aL rfl (rfl)) rfl<|.v (b9 rfl (hq2)) rfl<|.a 1 rfl<|.k [18,1,2,3] rfl
 refine ag rfl (fun hc=>?_) (fun hc=>?_)
 ·rw[←hq1,hv,←hq2,decide_eq_false (by rw[hL];simp)]at hc
  cases hc
 ·refine ai<|ah<|ab (.a 3 rfl<|.k [2,3,19,20,21] rfl)<|au<|eu [2,3,19,20,21] rfl<|bf (fun r st=>∃i,i≤L.length∧r=L.length - i∧st=⟨[(2,num n),(3,.aY (bq T) 0),(19,iS L),(20,num L.length),(21,num i)],[]⟩) L.length ⟨0,by omega,by omega,rfl⟩ ?_
  rintro r st ⟨i,hi,rfl,rfl⟩
  refine ab (.a 1 rfl<|.k [2,3,19,20,21,22] rfl)<|ah<|ag rfl (fun hc=>?_) (fun hc=>?_)
  ·have hlt:i<L.length:=by have:=of_decide_eq_true hc;omega
   obtain⟨x,hx⟩:∃x,L[i]? =some x:=⟨_,List.getElem?_eq_getElem hlt⟩
   obtain⟨h1,h2⟩:=hok i x hx
   obtain⟨q3,hq3⟩:∃q,decide (x.node≠(i:Int))=q:=⟨_,rfl⟩
   obtain⟨q4,hq4⟩:∃q,dM T x=q:=⟨_,rfl⟩
   refine ai<|ah<|au<|aP<|av 1 rfl<|bC (aJ ((i*3)) rfl) rfl<|bC (gO rfl (ui L i x hx) rfl) rfl<|av 3 rfl<|aG [2,3,7,8,19,20,21] rfl ?_
   refine bu 35 (.raw (.bool (q3|| !q4))) [2,3,19,20,21] rfl ?_ ?_
   ·refine .a 1 rfl<|.v (aL rfl ((rfl:(fN x)[0]? =some (num x.node)))) rfl<|.a 1 rfl<|.v (b9 rfl (hq3)) rfl<|.a 1 rfl<|?_
    cases q3
    ·exact .a 1 rfl<|.v (gO rfl ((rfl:(fN x).take 3=fN x)) rfl) rfl<|.c rfl (hq4▸sh T x) rfl<|.a 2 rfl<|.k [35,2,3,19,20,21] rfl
    ·exact .a 5 rfl<|.k [35,2,3,19,20,21] rfl
   refine ag rfl (fun hc=>?_) (fun hc=>?_)
   ·rw[←hq3,←hq4,h2,decide_eq_false (by rw[h1];simp)]at hc
    cases hc
   ·refine ai<|dx [] (.c 2<|.c 3<|.c 19<|.c 20<|.c 21<|.nil) .nil rfl rfl ?_
    refine az (.v (aS rfl) rfl<|.a 1 rfl<|.k [2,3,19,20,21] rfl) ?_
    exact⟨L.length - (i+1),by omega,i+1,by omega,rfl,rfl⟩
  ·have hie:i=L.length:=by have:=of_decide_eq_false hc;omega
   refine ba<|ah<|ab (.a 2 rfl<|.c rfl (hn▸dv T n) rfl<|.a 1 rfl<|.k [40] rfl)<|ag rfl (fun hc=>?_) (fun hc=>?_)
   ·cases hc
   ·exact ai<|ab (.a 1 rfl<|.k [6] rfl)<|aq<|⟨_,_,aA.of rfl,aB.pure,rfl⟩
end PW
end Go.Proofs.YtnegbdpggideiaaGreatDoor
