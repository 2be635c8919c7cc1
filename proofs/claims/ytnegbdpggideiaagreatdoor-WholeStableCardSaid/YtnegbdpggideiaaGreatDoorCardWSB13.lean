/- Texts of the proof, part 13. -/
import Derived.RangeFuncNested
import Derived.RangeFuncBound
import Derived.RangeFuncCalls
import Derived.RangeFuncLeaves
import Derived.Shelf.Abstract
import Derived.Shelf.RegionOpen
import Derived.WalkKit
import Derived.OwnWalkIn
import Derived.TacticsInMore
import Derived.LoopNIn
import Derived.LoopIn
import Derived.Test.YtnegbdpggideiaaGreatDoorCardWSB12
set_option linter.unusedVariables false
set_option linter.unusedSimpArgs false
set_option maxRecDepth 10000
set_option maxHeartbeats 1000000
namespace Go.Proofs.YtnegbdpggideiaaGreatDoor
namespace PW
open Go.RowKit cA Mem
def Bz(j:Nat)(u:Bool)(l:List UInt8):cd:=some (.cells 214 [if u then .ptr 0 0 else .raw (.pointer none),.own j])::(List.replicate (j - 1) none++[some (.row 5 1 l.length (dS l))])
theorem wg:∃i,Tryz.prog.info? 214=some i∧i.size=2:=by
 have h:(Tryz.prog.info? 214).map (·.size)=some 2:=by kernel_rfl
 obtain⟨i,h1,h2⟩:=Option.map_eq_some_iff.1 h
 exact⟨i,h1,h2⟩
theorem tO(v:Value)(w:World):(callFunc 219 #[v]).run Tryz.prog w= .ok (.value v) w:=by
 rw[run_callFunc_extern Tryz.func219 (by kernel_rfl) (by kernel_rfl) (by kernel_rfl) (e:=Extern.AbiNoEscape.same) (by kernel_rfl),Lib.run_noEscape]
 rfl
theorem pT:yH Tryz.prog 26 9=some 5:=by kernel_rfl
theorem D3(u:Bool)(l:List UInt8):bS Tryz.prog 207 [.ptr 0 0] (Bz 1 u l) (fun _ σ'=>σ'=Bz 1 true l):=by
 obtain⟨ji,hji,hjs⟩:=wg
 refine cp Tryz.func207 rfl Tryz.ntmps207 rfl ?_
 cases u
 ·refine aQ<|bA (fk rfl rfl) rfl rfl rfl ?_
  refine bA (iJ rfl rfl) rfl rfl rfl ?_
  refine bA (bF rfl) rfl rfl rfl ?_
  refine bA (cX rfl (bE.tk.get rfl) rfl rfl rfl) rfl rfl rfl ?_
  refine bA (B8 rfl (bE.pk.get rfl) rfl rfl) rfl rfl rfl (aO ?_)
  refine FK rfl ?_
  refine ba<|bA (fk rfl rfl) rfl rfl rfl ?_
  refine bA (fk rfl rfl) rfl rfl rfl ?_
  refine bA (xr rfl Tryz.underlying212 Tryz.underlying241 hji (by rw[hjs];decide) rfl rfl (by decide)) rfl rfl rfl ?_
  refine bA (wo rfl rfl rfl tO) rfl rfl rfl ?_
  refine bA (tn rfl Tryz.underlying241 Tryz.underlying212 hji rfl rfl (by kernel_rfl)) rfl rfl rfl ?_
  refine bA (iJ rfl rfl) rfl rfl rfl ?_
  refine bA (bF rfl) rfl rfl rfl ?_
  refine br (cH rfl (bE.tk.get rfl) rfl rfl rfl (Nat.le_of_ble_eq_true rfl)) rfl rfl (aO ?_)
  exact⟨_,.nil,rfl⟩
 ·refine aQ<|bA (fk rfl rfl) rfl rfl rfl ?_
  refine bA (iJ rfl rfl) rfl rfl rfl ?_
  refine bA (bF rfl) rfl rfl rfl ?_
  refine bA (cX rfl (bE.tk.get rfl) rfl rfl rfl) rfl rfl rfl ?_
  refine bA (qf rfl (bE.pk.get rfl) rfl rfl) rfl rfl rfl (aO ?_)
  refine o6 rfl ?_
  refine aQ<|bA (fk rfl rfl) rfl rfl rfl ?_
  refine bA (iJ rfl rfl) rfl rfl rfl ?_
  refine bA (bF rfl) rfl rfl rfl ?_
  refine bA (cX rfl (bE.tk.get rfl) rfl rfl rfl) rfl rfl rfl ?_
  refine bA (fk rfl rfl) rfl rfl rfl ?_
  refine bA (ry rfl Tryz.underlying212 hji rfl rfl) rfl rfl rfl (aO ?_)
  refine o6 rfl ?_
  exact ak ⟨_,.nil,rfl⟩
theorem H4(u:Bool)(l:List UInt8)(s:ByteArray)(hn:l.length+s.size≤1000000000):bS Tryz.prog 186 [.ptr 0 0,.raw (.string s)] (Bz 1 u l) (fun _ σ'=>σ'=Bz 2 true (l++s.data.toList)):=by
 refine cp Tryz.func186 rfl Tryz.ntmps186 rfl<|ab (.a 2 rfl<|.k [0,1] rfl)<|aQ<|au 1 rfl<|cM rfl rfl (bS.mono (D3 u l) (fun _ σ' h=>?_))
 subst h
 refine aH [0,1] rfl ?_
 refine aQ<|au 6 rfl<|ca (oD rfl pT rfl rfl rfl (by omega)) rfl<|au 3 rfl<|aH [1] rfl ?_
 refine ab (.a 1 rfl<|.v (vD rfl Tryz.underlying9 rfl) rfl<|.a 2 rfl<|.k [4,5] rfl)<|aq<|⟨_,aA.of rfl,?_⟩
 have hl:(l++s.data.toList).length=l.length+s.size:=by simp
 unfold Bz
 rw[hl,←jo]
 rfl
theorem EH(u:Bool)(l:List UInt8)(hl:0<l.length):bS Tryz.prog 189 [.ptr 0 0] (Bz 1 u l) (fun r _=>r= .raw (.string ⟨l.toArray⟩)):=by
 refine cp Tryz.func189 rfl Tryz.ntmps189 rfl ?_
 cases u
 all_goals
  refine ab (.a 1 rfl<|.k [0] rfl)<|kY 10 20 mixed (
   .val [0] rfl (bF rfl) rfl rfl<|
   .val [3] rfl (bF rfl) rfl rfl<|
   .val [4] rfl (bF rfl) rfl rfl<|
   .val [5] rfl (bF rfl) rfl rfl<|
   .val [6] rfl (vt rfl rfl rfl hl) rfl rfl<|
   .val [0] rfl (bF rfl) rfl rfl<|
   .val [8] rfl (bF rfl) rfl rfl<|
   .val [9] rfl (bF rfl) rfl rfl<|
   .val [10] rfl (bF rfl) rfl rfl<|
   .val [11] rfl (bF rfl) rfl rfl<|
   .nil) (by kernel_rfl) rfl rfl (bh (ks:=[7,12]) rfl) ?_
  refine ca (vi rfl Tryz.underlying233 (by kernel_rfl) rfl rfl rfl hl) rfl<|au 1 rfl<|aH [2] rfl ?_
  exact aq<|⟨_,aA.of rfl,rfl⟩
def zn(l:List UInt8):PV:=.raw (.string ⟨l.toArray⟩)
theorem mF(i:Nat)(hi:i<100):Can Tryz.prog 187 [num i] (· =zn (Lib.decDigits i)):=fun F w vs _ _ hR=>by
 obtain⟨v,rfl,h1⟩:=H8 hR
 cases dE h1
 refine(Tryz.strconv_Itoa_small i hi w).mono ?_
 rintro e w' ⟨rfl,rfl⟩
 exact⟨_,rfl,Ext.refl _,_,rfl,.raw _⟩
instance (l:List UInt8):IsPure (zn l):=by unfold zn;infer_instance
instance (l:List UInt8):eM (zn l):=by unfold zn;infer_instance
end PW
end Go.Proofs.YtnegbdpggideiaaGreatDoor
namespace Go.Proofs.YtnegbdpggideiaaGreatDoor
namespace PW
open Go.RowKit cA Mem Net
def Ax(l:List UInt8)(x:Option cR):cd:=[some (.cells 214 [.ptr 0 0,.own 1]),some (.row 5 1 l.length (dS l)),x]
def zR(l:List UInt8)(x:Option cR):cd:=[some (.cells 214 [.ptr 0 0,.own 3]),none,x,some (.row 5 1 l.length (dS l))]
theorem yB(l:List UInt8)(x:Option cR):bS Tryz.prog 207 [.ptr 0 0] (Ax l x) (fun _ σ'=>σ'=Ax l x):=by
 obtain⟨ji,hji,hjs⟩:=wg
 refine cp Tryz.func207 rfl Tryz.ntmps207 rfl<|aQ<|bA (fk rfl rfl) rfl rfl rfl ?_
 refine bA (iJ rfl rfl) rfl rfl rfl ?_
 refine bA (bF rfl) rfl rfl rfl ?_
 refine bA (cX rfl (bE.tk.get rfl) rfl rfl rfl) rfl rfl rfl ?_
 refine bA (qf rfl (bE.pk.get rfl) rfl rfl) rfl rfl rfl (aO ?_)
 refine o6 rfl ?_
 refine aQ<|bA (fk rfl rfl) rfl rfl rfl ?_
 refine bA (iJ rfl rfl) rfl rfl rfl ?_
 refine bA (bF rfl) rfl rfl rfl ?_
 refine bA (cX rfl (bE.tk.get rfl) rfl rfl rfl) rfl rfl rfl ?_
 refine bA (fk rfl rfl) rfl rfl rfl ?_
 refine bA (ry rfl Tryz.underlying212 hji rfl rfl) rfl rfl rfl (aO ?_)
 refine o6 rfl ?_
 exact ak ⟨_,.nil,rfl⟩
theorem F6(l:List UInt8)(x:Option cR)(s:ByteArray)(hn:l.length+s.size≤1000000000):bS Tryz.prog 186 [.ptr 0 0,.raw (.string s)] (Ax l x) (fun _ σ'=>σ'=zR (l++s.data.toList) x):=by
 refine cp Tryz.func186 rfl Tryz.ntmps186 rfl<|ab (.a 2 rfl<|.k [0,1] rfl)<|aQ<|au 1 rfl<|cM rfl rfl (bS.mono (yB l x) (fun _ σ' h=>?_))
 subst h
 refine aH [0,1] rfl ?_
 refine aQ<|au 6 rfl<|ca (oD rfl pT rfl rfl rfl (by omega)) rfl<|au 3 rfl<|aH [1] rfl ?_
 refine ab (.a 1 rfl<|.v (vD rfl Tryz.underlying9 rfl) rfl<|.a 2 rfl<|.k [4,5] rfl)<|aq<|⟨_,aA.of rfl,?_⟩
 have hl:(l++s.data.toList).length=l.length+s.size:=by simp
 unfold zR
 rw[hl,←jo]
 rfl
theorem BA(l:List UInt8)(x:Option cR)(c:UInt8)(hn:l.length≤1000000000):bS Tryz.prog 188 [.ptr 0 0,.raw (.int .u8 c.toNat)] (Ax l x) (fun _ σ'=>σ'=zR (l++[c]) x):=by
 refine cp Tryz.func188 rfl Tryz.ntmps188 rfl<|ab (.a 1 rfl<|.k [0,1] rfl)<|aQ<|au 1 rfl<|cM rfl rfl (bS.mono (yB l x) (fun _ σ' h=>?_))
 subst h
 refine aH [0,1] rfl ?_
 refine aQ<|au 7 rfl<|ca (aY rfl (bE.rk.get rfl) rfl rfl rfl rfl (by unfold maxLen;omega)) rfl<|au 3 rfl<|aH [] rfl ?_
 refine ab (.a 1 rfl<|.k [4] rfl)<|aq<|⟨_,aA.of rfl,?_⟩
 unfold zR
 rw[←jo]
 simp only[List.length_append,List.length_singleton]
 rfl
theorem GN{P:Program}{M:Nat}{c:Code}{t:bZ}{Q:Exit→St→Prop}{l:List UInt8}{ty:TypeId}{xs:List PV}[aG xs](hT:mG [0,3,2] t t)(h:W P M 0 c ⟨t,Ax l (some (.cells ty xs))⟩ Q):W P M 0 c ⟨t,zR l (some (.cells ty xs))⟩ Q:=
 cU [0,3,2] hT (.kept rfl (.cells (az.cons (Ren.ptr (i:=0) rfl)<|az.cons (Ren.own (i:=1) rfl) az.nil))<|.kept rfl (.row az.pure)<|.kept rfl (.cells az.pure)<|.nil) rfl rfl h
theorem IB{P:Program}{M:Nat}{c:Code}{t:bZ}{Q:Exit→St→Prop}{l:List UInt8}{x:Option cR}(hT:mG [0,3] t t)(h:W P M 0 c ⟨t,Bz 1 true l⟩ Q):W P M 0 c ⟨t,zR l x⟩ Q:=
 cU [0,3] hT (.kept rfl (.cells (az.cons (Ren.ptr (i:=0) rfl)<|az.cons (Ren.own (i:=1) rfl) az.nil))<|.kept rfl (.row az.pure)<|.nil) rfl rfl h
theorem IY{P:Program}{M:Nat}{c:Code}{t:bZ}{Q:Exit→St→Prop}{l:List UInt8}(hT:mG [0,2] t t)(h:W P M 0 c ⟨t,Bz 1 true l⟩ Q):W P M 0 c ⟨t,Bz 2 true l⟩ Q:=
 cU [0,2] hT (.kept rfl (.cells (az.cons (Ren.ptr (i:=0) rfl)<|az.cons (Ren.own (i:=1) rfl) az.nil))<|.kept rfl (.row az.pure)<|.nil) rfl rfl h
theorem AQ(s:List bW)(i:Nat)(g:bW)(h:s[i]? =some g)(n:Nat):dG n (s.take (i+1))=(((dG n (s.take i)++[32])++Lib.decDigits g.kind.toNat)++[58])++Lib.decDigits g.num.toNat:=by
 unfold dG
 rw[List.take_add_one,h]
 simp[Fe]
theorem wY{s:List bW}(h:ib s)(i:Nat):ib (s.take i):=fun g hg=>h g (List.mem_of_mem_take hg)
theorem zG{n:Nat}{s:List bW}(hn:n<100)(h:ib s):(dG n s).length≤2+s.length*6:=by
 have h1:=jU hn
 have h2:=Bu h
 unfold dG
 rw[List.length_append]
 omega
theorem CM(n:Nat)(s:List bW)(hn:n<100)(hs:ib s)(hl:s.length≤1000):Can Tryz.prog 159 [num n,cn s] (· =zn (dG n s)):=by
 refine aF Tryz.func159 rfl Tryz.ntmps159 rfl<|ab (.a 1 rfl<|.k [0,1] rfl)<|aQ<|au 1 rfl<|aH [0,1,5] rfl ?_
 refine cm 0 1 5 1 rfl rfl ?_
 refine eh (σ':=Bz 1 false []) rfl ?_
 refine aQ<|au 1 rfl<|ek rfl (mF n hn) rfl<|cM rfl rfl (bS.mono (H4 false [] ⟨(Lib.decDigits n).toArray⟩ (show([]:List UInt8).length+(Lib.decDigits n).toArray.size≤1000000000 by have:=jU hn;simp;omega)) (fun _ σ' h=>?_))
 subst h
 refine aH [1,5] rfl ?_
 refine IY (.cons 1 rfl Ren.pure<|.cons 5 rfl (Ren.ptr (i:=0) rfl)<|.nil) ?_
 refine aj<|ab (.a 3 rfl<|.k [5,11,12,13] rfl)<|av<|eZ [5,11,12,13] rfl<|bw (fun r st=>∃i,i≤s.length∧r=s.length - i∧st=⟨[(5,.ptr 0 0),(11,cn s),(12,num s.length),(13,num i)],Bz 1 true (dG n (s.take i))⟩) s.length ⟨0,by omega,by omega,by simp[dG]⟩ ?_
 rintro r st ⟨i,hi,rfl,rfl⟩
 refine ab (.a 1 rfl<|.k [5,11,12,13,14] rfl)<|aj<|ah rfl (fun hc=>?_) (fun hc=>?_)
 ·have hlt:i<s.length:=by have:=of_decide_eq_true hc;omega
  obtain⟨g,hg,_⟩:=lO s i hlt
  obtain⟨a1,a2,a3,a4⟩:=hs g (List.mem_of_getElem? hg)
  have hst:=AQ s i g hg n
  have hln:=zG hn (wY hs i)
  rw[List.length_take]at hln
  obtain⟨gk,gn⟩:=g
  simp only at a1 a2 a3 a4 hst
  obtain⟨ka,rfl⟩:=Int.eq_ofNat_of_zero_le a1
  obtain⟨na,rfl⟩:=Int.eq_ofNat_of_zero_le a3
  have hk2:=jU (n:=ka) (by omega)
  have hn2:=jU (n:=na) (by omega)
  rw[Int.toNat_natCast,Int.toNat_natCast]at hst
  have hmin:min i s.length=i:=by omega
  rw[hmin]at hln
  generalize hl0:dG n (s.take i)=l0 at*
  refine ak<|aj<|av<|aQ<|bz (aI ((i*2)) rfl) rfl<|bz (ed rfl (iC s i _ hg) rfl) rfl<|au 2 rfl<|aH [5,7,11,12,13] rfl ?_
  refine eh (σ':=Ax l0 (some (.cells 103 (ja ⟨(ka:Int),(na:Int)⟩)))) rfl ?_
  refine aQ<|cM rfl rfl (bS.mono (BA l0 _ 32 (by omega)) (fun _ σ' h=>?_))
  subst h
  refine aH [5,7,11,12,13] rfl ?_
  refine GN (.cons 5 rfl (Ren.ptr (i:=0) rfl)<|.cons 7 rfl (Ren.ptr (i:=2) rfl)<|.cons 11 rfl Ren.pure<|.cons 12 rfl Ren.pure<|.cons 13 rfl Ren.pure<|.nil) ?_
  refine aQ<|au 1 rfl<|bz (aL rfl (rfl)) rfl<|ek rfl (mF ka (by omega)) rfl<|cM rfl rfl (bS.mono (F6 (l0++[32]) _ ⟨(Lib.decDigits ka).toArray⟩ (show(l0++[32]).length+(Lib.decDigits ka).toArray.size≤1000000000 by simp;omega)) (fun _ σ' h=>?_))
  subst h
  refine aH [5,7,11,12,13] rfl ?_
  refine GN (.cons 5 rfl (Ren.ptr (i:=0) rfl)<|.cons 7 rfl (Ren.ptr (i:=2) rfl)<|.cons 11 rfl Ren.pure<|.cons 12 rfl Ren.pure<|.cons 13 rfl Ren.pure<|.nil) ?_
  refine aQ<|cM rfl rfl (bS.mono (BA ((l0++[32])++Lib.decDigits ka) _ 58 (by simp;omega)) (fun _ σ' h=>?_))
  subst h
  refine aH [5,7,11,12,13] rfl ?_
  refine GN (.cons 5 rfl (Ren.ptr (i:=0) rfl)<|.cons 7 rfl (Ren.ptr (i:=2) rfl)<|.cons 11 rfl Ren.pure<|.cons 12 rfl Ren.pure<|.cons 13 rfl Ren.pure<|.nil) ?_
  refine ba<|au 1 rfl<|bz (aL rfl (rfl)) rfl<|ek rfl (mF na (by omega)) rfl<|cM rfl rfl (bS.mono (F6 (((l0++[32])++Lib.decDigits ka)++[58]) _ ⟨(Lib.decDigits na).toArray⟩ (show(((l0++[32])++Lib.decDigits ka)++[58]).length+(Lib.decDigits na).toArray.size≤1000000000 by simp;omega)) (fun _ σ' h=>?_))
  subst h
  refine aH [5,11,12,13] rfl ?_
  refine IB (.cons 5 rfl (Ren.ptr (i:=0) rfl)<|.cons 11 rfl Ren.pure<|.cons 12 rfl Ren.pure<|.cons 13 rfl Ren.pure<|.nil) ?_
  refine ay (.v (aR rfl) rfl<|.a 1 rfl<|.k [5,11,12,13] rfl) ?_
  exact⟨s.length - (i+1),by omega,i+1,by omega,rfl,by rw[hst];rfl⟩
 ·have hie:i=s.length:=by have:=of_decide_eq_false hc;omega
  subst hie
  rw[List.take_length]
  refine bn<|aQ<|cM rfl rfl (bS.mono (EH true (dG n s) (by have:=jU hn;unfold dG;simp;omega)) (fun _ σ' h=>?_))
  subst h
  refine au 1 rfl<|aH [4] rfl ?_
  exact aq<|⟨_,_,aA.of rfl,aB.pure,rfl⟩
theorem wz(T:ai)(L:List dR)(n:Int)(hv:ao T=true)(hL:(L.length:Int)=T.nodes)(hok:∀(i:Nat) x,L[i]? =some x→x.node=(i:Int)∧ef T x=true)(hn:bu T n=true):Can Tryz.prog 157 [aP T,fR L,num n] (· =num 0):=by
 have hN:=gQ hv
 obtain⟨q1,hq1⟩:∃q,ao T=q:=⟨_,rfl⟩
 obtain⟨q2,hq2⟩:∃q,decide ((L.length:Int)≠T.nodes)=q:=⟨_,rfl⟩
 refine aF Tryz.func157 rfl Tryz.ntmps157 rfl<|ab (.a 2 rfl<|.k [1,2,3] rfl)<|aj<|bC 18 (.raw (.bool (!q1 ||q2))) [1,2,3] rfl ?_ ?_
 ·refine .a 1 rfl<|.c rfl (hq1▸de T) rfl<|.a 2 rfl<|?_
  cases q1
  ·exact .a 6 rfl<|.k [18,1,2,3] rfl
  ·exact .a 3 rfl<|.v (aL rfl (rfl)) rfl<|.v (cC rfl (hq2)) rfl<|.a 1 rfl<|.k [18,1,2,3] rfl
 refine ah rfl (fun hc=>?_) (fun hc=>?_)
 ·rw[←hq1,hv,←hq2,decide_eq_false (by rw[hL];simp)]at hc
  cases hc
 ·refine ak<|aj<|ab (.a 3 rfl<|.k [2,3,19,20,21] rfl)<|av<|eZ [2,3,19,20,21] rfl<|bw (fun r st=>∃i,i≤L.length∧r=L.length - i∧st=⟨[(2,num n),(3,.aV (bx T) 0),(19,fR L),(20,num L.length),(21,num i)],[]⟩) L.length ⟨0,by omega,by omega,rfl⟩ ?_
  rintro r st ⟨i,hi,rfl,rfl⟩
  refine ab (.a 1 rfl<|.k [2,3,19,20,21,22] rfl)<|aj<|ah rfl (fun hc=>?_) (fun hc=>?_)
  ·have hlt:i<L.length:=by have:=of_decide_eq_true hc;omega
   obtain⟨x,hx⟩:∃x,L[i]? =some x:=⟨_,List.getElem?_eq_getElem hlt⟩
   obtain⟨h1,h2⟩:=hok i x hx
   obtain⟨q3,hq3⟩:∃q,decide (x.node≠(i:Int))=q:=⟨_,rfl⟩
   obtain⟨q4,hq4⟩:∃q,ef T x=q:=⟨_,rfl⟩
   refine ak<|aj<|av<|aQ<|au 1 rfl<|bz (aI ((i*3)) rfl) rfl<|bz (ed rfl (rn L i x hx) rfl) rfl<|au 3 rfl<|aH [2,3,7,8,19,20,21] rfl ?_
   refine bC 35 (.raw (.bool (q3|| !q4))) [2,3,19,20,21] rfl ?_ ?_
   ·refine .a 1 rfl<|.v (aL rfl ((rfl:(fL x)[0]? =some (num x.node)))) rfl<|.a 1 rfl<|.v (cC rfl (hq3)) rfl<|.a 1 rfl<|?_
    cases q3
    ·exact .a 1 rfl<|.v (ed rfl ((rfl:(fL x).take 3=fL x)) rfl) rfl<|.c rfl (hq4▸pf T x) rfl<|.a 2 rfl<|.k [35,2,3,19,20,21] rfl
    ·exact .a 5 rfl<|.k [35,2,3,19,20,21] rfl
   refine ah rfl (fun hc=>?_) (fun hc=>?_)
   ·rw[←hq3,←hq4,h2,decide_eq_false (by rw[h1];simp)]at hc
    cases hc
   ·refine ak<|cU [] (.c 2<|.c 3<|.c 19<|.c 20<|.c 21<|.nil) .nil rfl rfl ?_
    refine ay (.v (aR rfl) rfl<|.a 1 rfl<|.k [2,3,19,20,21] rfl) ?_
    exact⟨L.length - (i+1),by omega,i+1,by omega,rfl,rfl⟩
  ·have hie:i=L.length:=by have:=of_decide_eq_false hc;omega
   refine bn<|aj<|ab (.a 2 rfl<|.c rfl (hn▸da T n) rfl<|.a 1 rfl<|.k [40] rfl)<|ah rfl (fun hc=>?_) (fun hc=>?_)
   ·cases hc
   ·exact ak<|ab (.a 1 rfl<|.k [6] rfl)<|aq<|⟨_,_,aA.of rfl,aB.pure,rfl⟩
end PW
end Go.Proofs.YtnegbdpggideiaaGreatDoor
namespace Go.Proofs.YtnegbdpggideiaaGreatDoor
namespace PW
open Go.RowKit cA Mem Net eS
theorem cK.to{P:Program}{σ σ' σ'':cd}{t:bZ}{o:Oper}{p p':PV}(h:cK P σ t o p σ')(hp:p=p')(hs:σ'=σ''):cK P σ t o p' σ'':=by subst hp;subst hs;exact h
theorem G9{P:Program}{σ:cd}{t:bZ}{o:Oper}{x y:Operand}{ty tz:TypeId}{p:PV}{q:Bool}(ho:o.op= .binOp .neq ty x y tz)(hk:od P ty=true)(hx:aC t x=some p)(hy:aC t y=some (.raw (.pointer none)))(h:(p= .raw (.pointer none)∧q=false)∨∃xs k,p= .aV xs k∧q=true):bg P σ t o (.raw (.bool q)):=by
 rcases h with⟨rfl,rfl⟩|⟨xs,k,rfl,rfl⟩
 ·exact Fs ho hk hx hy
 ·exact EU ho hk hx hy
def EE:PV:=.func 158 [.ptr 5 0,.ptr 6 0,.ptr 3 0,.ptr 0 0,.ptr 1 0,.ptr 7 0]
def P8(T:ai)(tbs:List dR)(p1:fh)(j:Nat)(kv:List (List UInt8×PV))(rest:cd):cd:=
 some (.cells 25 (bx T))::some (.cells 43 [fR tbs])::some (.cells 66 (dK p1))::some (.cells 148 [.own (j+8)])::some (.mp (fD oQ kv))::
 some (.cells 188 [.own 4])::some (.cells 4 [flag false])::some (.cells 189 [EE])::rest
abbrev ez(L:List PV):Option cR:=some (.row 147 1 L.length L)
structure gN (j:Nat) (rest rest':cd):Prop where
 len:rest.length≤rest'.length
 same:∀i,i<rest.length→i≠j→rest'[i]? =rest[i]?
theorem gN.trans{j j':Nat}{a b c:cd}(h:gN j a b)(k:gN j' b c)(hj:j'=j∨a.length≤j'):gN j a c:=
 ⟨Nat.le_trans h.len k.len,fun i h1 h2=>(k.same i (Nat.lt_of_lt_of_le h1 h.len) (by omega)).trans (h.same i h1 h2)⟩
section
variable {T:ai} {tb:Nat→dR} {p0:fh} {Φ:Nat→Nat→List bW→Prop}
def ID(T:ai)(tb:Nat→dR)(p0:fh)(Φ:Nat→Nat→List bW→Prop)(tbs:List dR)(p1:fh)(op:DC)(j:Nat)(rest:cd)(n:Nat)(s:List bW)(r:PV)(σ':cd):Prop:=
 ∃c kv' L' j' rest',Good T tb p0 Φ r n s c∧σ'=P8 T tbs p1 j' kv' rest'∧rest'[j']? =some (ez L')∧gN j rest rest'∧(j'=j∨rest.length≤j')∧mD T tb p0 Φ op kv' L'
structure Iz (T:ai) (tb:Nat→dR) (p0:fh) (Φ:Nat→Nat→List bW→Prop) (op:DC) (j0:Nat) (rest0:cd) (n:Nat) (s:List bW) (kv:List (List UInt8×PV)) (L:List PV) (j jr:Nat) (rest:cd) (k:Nat) (vs:List PV) (cs:List Int):Prop where
 DN:gN j0 rest0 rest
 len:rest0.length+5≤rest.length
 x:rest[rest0.length+1]? =some (some (.cells 152 [num n,num (cb T tb p0 n s).dJ,ax (cb T tb p0 n s).aK,.own (jr+8),flag true,num (i7 (cb T tb p0 n s).aK cs)]))
 nb:rest[rest0.length+3]? =some (some (.cells 66 (dK (cb T tb p0 n s).eY)))
 row:rest[jr]? =some (ez vs)
 al:rest[j]? =some (ez L)
 I9:rest0.length+4≤jr
 j1:j=rest0.length+2∨rest0.length+5≤j
 ne:j≠jr
 ok:mD T tb p0 Φ ((rest0.length+1,n,s)::op) kv L
 lv:vs.length=k
 lc:cs.length=k
 ch:∀i,i<k→Good T tb p0 Φ (vs.getD i .any) (aS T ((cb T tb p0 n s).aK.getD i 0).toNat).toNat (cb T tb p0 n s).eY.stack (cs.getD i 0)
instance (l:List bW):eM (cn l):=by unfold cn;infer_instance
instance (p:fh):cq (dK p):=by unfold dK;infer_instance
theorem Ia:tp Tryz.prog 188=some (9,147):=by kernel_rfl
theorem Jc:Gg Tryz.prog 147=some (.pointer none):=by kernel_rfl
theorem HS:ig Tryz.prog 9 oQ:=Gy Tryz.underlying9
theorem fx{α:Type}{l:List α}{a:α}{i:Nat}(h:l.length=i):(l++[a])[i]? =some a:=by subst h;simp
theorem cf{α:Type}{l:List α}{a b:α}{i:Nat}(h:l[i]? =some b):(l++[a])[i]? =some b:=by
 rw[List.getElem?_append_left (List.getElem?_eq_some_iff.1 h).1];exact h
theorem aE{α:Type}{l:List α}{a:α}{b:Option α}{i j:Nat}(h:l[i]? =b)(hne:j≠i):(l.set j a)[i]? =b:=by
 rw[List.getElem?_set,if_neg hne];exact h
theorem bM{α:Type}{l:List α}{a b:α}{i:Nat}(h:l[i]? =some b):(l.set i a)[i]? =some a:=by
 rw[List.getElem?_set,if_pos rfl,if_pos (List.getElem?_eq_some_iff.1 h).1]
theorem gN.refl(j:Nat)(a:cd):gN j a a:=⟨Nat.le_refl _,fun _ _ _=>rfl⟩
theorem gN.app{j:Nat}{a b:cd}(h:gN j a b)(x:Option cR):gN j a (b++[x]):=
 ⟨by rw[List.length_append];have:=h.len;omega,fun i h1 h2=>by rw[List.getElem?_append_left (Nat.lt_of_lt_of_le h1 h.len)];exact h.same i h1 h2⟩
theorem gN.put{j:Nat}{a b:cd}(h:gN j a b){k:Nat}(hk:k=j∨a.length≤k)(x:Option cR):gN j a (b.set k x):=
 ⟨by rw[List.length_set];exact h.len,fun i h1 h2=>by rw[List.getElem?_set,if_neg (by omega)];exact h.same i h1 h2⟩
theorem tS{tbs:List dR}{p1:fh}{j i:Nat}{blk:cR}{kv kv':List (List UInt8×PV)}{rest rest':cd}(hl:rest'.length=rest.length)(h0:rest'[i]? =some none)
  (h:∀k,k≠i→(rest'[k]? =rest[k]? ∨∃b b',rest[k]? =some (some b)∧rest'[k]? =some (some b')∧ta (i+8) blk b b')) (hk:kv'.map (·.1)=kv.map (·.1)) (hf:jY (i+8) blk (kv.map (·.2)) (kv'.map (·.2))):
  BR (i+8) blk (P8 T tbs p1 j kv rest) (P8 T tbs p1 j kv' rest'):=by
 refine⟨by simp[P8,hl],h0,fun m hm=>?_⟩
 match m,hm with
 |0,_=>exact .inl rfl
 |1,_=>exact .inl rfl
 |2,_=>exact .inl rfl
 |3,_=>exact .inl rfl
 |4,_=>
  refine .inr ⟨_,_,rfl,rfl,.mp ?_ ?_⟩
  ·have:∀l:List (List UInt8×PV),(fD oQ l).map (·.1)=(l.map (·.1)).map oQ:=fun l=>by simp[fD]
   rw[this,this,hk]
  ·have:∀l:List (List UInt8×PV),(fD oQ l).map (·.2)=l.map (·.2):=fun l=>by simp[fD]
   rw[this,this]
   exact hf
 |5,_=>exact .inl rfl
 |6,_=>exact .inl rfl
 |7,_=>exact .inl rfl
 |k+8,hm=>exact h k (by omega)
theorem Iz.eY(R:iL T tb p0 Φ){u n:Nat}{s:List bW}(h:Φ u n s)(hne:(cb T tb p0 n s).aK≠[]):ev (cb T tb p0 n s).eY (cb T tb p0 n s).eY.stack=ev p0 (cb T tb p0 n s).eY.stack:=by
 rcases R.step h with h|⟨_,h,_⟩
 ·exact absurd h hne
 ·generalize cb T tb p0 n s=O at*
  obtain⟨aK,eY,dJ⟩:=O
  simp only at h ⊢
  unfold eA at h
  injection h with _ h2 _
  rw[h2]
  rfl
set_option maxHeartbeats 4000000 in
theorem zX(R:iL T tb p0 Φ)(hv:ao T=true)(h12:T.nodes≤12){U:List (Nat×List bW)}(hU:∀ {u n s},Φ u n s→(n,s)∈U)(hUl:U.length≤1000000)(tbs:List dR)(htb:∀n:Nat,(n:Int)<T.nodes→tbs[n]? =some (tb n))(p1:fh):
  ∀(u n:Nat) (p:fh),Φ u n p.stack→ev p p.stack=ev p0 p.stack→∀(op:DC) (kv:List (List UInt8×PV)) (L:List PV) (j:Nat) (rest:cd),rest[j]? =some (ez L)→mD T tb p0 Φ op kv L→(∀x∈op,Fa T tb p0 x.2.1 x.2.2 n p.stack)→
   bS Tryz.prog 158 [num n,eJ p,.ptr 5 0,.ptr 6 0,.ptr 3 0,.ptr 0 0,.ptr 1 0,.ptr 7 0] (P8 T tbs p1 j kv rest) (ID T tb p0 Φ tbs p1 op j rest n p.stack):=by
 intro u
 induction u using Nat.strongRecOn with
 |_ u ih=>
 intro n p hΦ hp op kv L j rest hj hok hop
 have hnn:=R.node hΦ
 obtain⟨hsm,hsl⟩:=R.small hΦ
 obtain⟨pv,hpv⟩:∃pv,(cY (dG n p.stack) kv).getD (.raw (.pointer none))=pv:=⟨_,rfl⟩
 obtain⟨q,hq1,hq2,hq3⟩:∃q,((pv= .raw (.pointer none)∧q=false)∨∃xs k,pv= .aV xs k∧q=true)∧(q=false→cY (dG n p.stack) kv=none)∧(q=true→∃vs c,pv= .aV (di n (cb T tb p0 n p.stack) vs c) 0∧Good T tb p0 Φ pv n p.stack c):=by
  cases hl:cY (dG n p.stack) kv with
  |none=>exact⟨false,.inl ⟨by rw[←hpv,hl];rfl,rfl⟩,fun _=>rfl,fun h=>(by cases h)⟩
  |some v=>
   obtain⟨c,hg⟩:=hok.G8 R h12 hΦ hop hl
   have hvv:pv=v:=by rw[←hpv,hl];rfl
   obtain⟨vs,cs,e1,_⟩:=hg.parts
   exact⟨true,.inr ⟨_,_,hvv.trans e1,rfl⟩,fun h=>(by cases h),fun _=>⟨vs,c,hvv.trans e1,hvv▸hg⟩⟩
 have hjl:=(List.getElem?_eq_some_iff.1 hj).1
 refine cp Tryz.func158 rfl Tryz.ntmps158 rfl<|aQ<|ca (cK.to (fw rfl rfl rfl) (p':=.ptr (rest.length+8) 0) (σ'':=P8 T tbs p1 j kv (rest++[some (.cells 66 (dK p))])) rfl rfl) rfl<|au 1 rfl<|aH [0,2,3,4,5,6,7,9] rfl ?_
 obtain⟨r1,hr1⟩:∃r1,rest++[some (.cells 66 (dK p))]=r1:=⟨_,rfl⟩
 have l1:r1.length=rest.length+1:=by rw[←hr1];simp
 have k1:gN j rest r1:=hr1▸(gN.refl j rest).app _
 have b1:r1[rest.length]? =some (some (.cells 66 (dK p))):=hr1▸fx rfl
 have j1:r1[j]? =some (ez L):=hr1▸cf hj
 rw[hr1]
 refine ab (.a 2 rfl<|.v (cX rfl (bE.tk.get rfl) rfl b1 rfl) rfl<|.c rfl (CM n p.stack (by omega) hsm hsl) rfl<|.a 1 rfl<|.k [0,2,3,4,5,6,7,9,11] rfl)<|aj<|ab (.a 2 rfl<|.v (tA HS rfl Ia Jc rfl rfl rfl (nU _) hpv) rfl<|.a 1 rfl<|.k [0,2,3,4,5,6,7,9,11,12] rfl)<|ab (.a 1 rfl<|.v (G9 rfl (bE.pk.get rfl) rfl rfl hq1) rfl<|.k [0,2,3,4,5,6,7,9,11,12,26] rfl)<|ah rfl (fun hc=>?_) (fun hc=>?_)
 ·obtain⟨vs0,c0,e0,hg0⟩:=hq3 hc
  subst e0
  refine aQ<|au 7 rfl<|br (cK.to (cH rfl (bE.tk.get rfl) rfl rfl rfl (Nat.le_of_ble_eq_true rfl)) (σ'':=P8 T tbs p1 j kv r1) rfl rfl) rfl rfl<|aH [12] rfl ?_
  exact ab (.a 2 rfl<|.k [10] rfl)<|aq<|⟨_,aA.of rfl,c0,kv,L,j,r1,hg0,rfl,j1,k1,.inl rfl,hok⟩
 ·have hno:=rY (hq2 hc)
  have hno2:=mT (p:=PV.ptr (rest.length+1+8) 0) (hq2 hc)
  refine ak<|aQ<|au 2 rfl<|ca (cK.to (fw rfl rfl rfl) (p':=.ptr (rest.length+1+8) 0) (σ'':=P8 T tbs p1 j kv (r1++[some (.cells 152 [num n,num 0,.raw (.slice none 0 0),.raw (.slice none 0 0),flag true,num 0])])) (by rw[←l1];rfl) rfl) rfl<|au 1 rfl<|aH [0,2,3,4,5,6,7,9,11,13] rfl ?_
  obtain⟨r2,hr2⟩:∃r2,r1++[some (.cells 152 [num n,num 0,.raw (.slice none 0 0),.raw (.slice none 0 0),flag true,num 0])]=r2:=⟨_,rfl⟩
  have l2:r2.length=rest.length+2:=by rw[←hr2];simp[l1]
  have k2:gN j rest r2:=hr2▸k1.app _
  have b2:r2[rest.length]? =some (some (.cells 66 (dK p))):=hr2▸cf b1
  have x2:r2[rest.length+1]? =some (some (.cells 152 [num n,num 0,.raw (.slice none 0 0),.raw (.slice none 0 0),flag true,num 0])):=hr2▸fx l1
  have j2:r2[j]? =some (ez L):=hr2▸cf j1
  rw[hr2]
  refine aQ<|au 3 rfl<|br (cK.to (nq HS rfl Ia rfl rfl rfl (nU _) rfl) (σ'':=P8 T tbs p1 j (kv++[(dG n p.stack,PV.ptr (rest.length+1+8) 0)]) r2) rfl (by rw[←hno2];rfl)) rfl rfl<|aH [0,3,4,5,6,7,9,13] rfl ?_
  have hfew:=hok.I7 R h12 hU
  have hlen:=hok.len
  refine aQ<|au 3 rfl<|ca (cK.to (σ:=P8 T tbs p1 j (kv++[(dG n p.stack,PV.ptr (rest.length+1+8) 0)]) r2) (aY (m:=1) (n:=L.length) (xs:=L) rfl (bE.rk.get rfl) rfl j2 rfl rfl ⟨by unfold maxLen;omega,by omega⟩) (p':=.own (rest.length+2+8)) (σ'':=P8 T tbs p1 j (kv++[(dG n p.stack,PV.ptr (rest.length+1+8) 0)]) (r2.set j none++[ez (L++[PV.ptr (rest.length+1+8) 0])])) (by rw[←l2];rfl) (by unfold ez;rw[List.length_append];rfl)) rfl<|br (cK.to (cH rfl (bE.tk.get rfl) rfl rfl rfl (Nat.le_of_ble_eq_true rfl)) (σ'':=P8 T tbs p1 (rest.length+2) (kv++[(dG n p.stack,PV.ptr (rest.length+1+8) 0)]) (r2.set j none++[ez (L++[PV.ptr (rest.length+1+8) 0])])) rfl rfl) rfl rfl<|aH [0,3,5,6,7,9,13] rfl ?_
  obtain⟨r3,hr3⟩:∃r3,r2.set j none++[ez (L++[PV.ptr (rest.length+1+8) 0])]=r3:=⟨_,rfl⟩
  have l3:r3.length=rest.length+3:=by rw[←hr3];simp[l2]
  have k3:gN j rest r3:=hr3▸(k2.put (.inl rfl) _).app _
  have b3:r3[rest.length]? =some (some (.cells 66 (dK p))):=hr3▸cf (aE b2 (by omega))
  have x3:r3[rest.length+1]? =some (some (.cells 152 [num n,num 0,.raw (.slice none 0 0),.raw (.slice none 0 0),flag true,num 0])):=hr3▸cf (aE x2 (by omega))
  have j3:r3[rest.length+2]? =some (ez (L++[PV.ptr (rest.length+1+8) 0])):=hr3▸fx (by simp[l2])
  rw[hr3]
  have hok3:=hok.push (i:=rest.length+1) hΦ hno
  obtain⟨kv3,hkv3⟩:∃k,kv++[(dG n p.stack,PV.ptr (rest.length+1+8) 0)]=k:=⟨_,rfl⟩
  obtain⟨L3,hL3⟩:∃k,L++[PV.ptr (rest.length+1+8) 0]=k:=⟨_,rfl⟩
  rw[hkv3,hL3]at hok3
  rw[hL3]at j3
  rw[hkv3]
  refine aQ<|au 1 rfl<|br (cK.to (σ:=P8 T tbs p1 (rest.length+2) kv3 r3) (cH rfl (bE.tk.get rfl) rfl rfl b3 (Nat.le_of_ble_eq_true rfl)) (σ'':=P8 T tbs p1 (rest.length+2) kv3 (r3.set rest.length (some (.cells 66 (dK (ev p p.stack)))))) rfl rfl) rfl rfl<|aH [0,3,5,6,7,9,13] rfl ?_
  obtain⟨r4,hr4⟩:∃r4,r3.set rest.length (some (.cells 66 (dK (ev p p.stack))))=r4:=⟨_,rfl⟩
  have l4:r4.length=rest.length+3:=by rw[←hr4];simp[l3]
  have k4:gN j rest r4:=hr4▸k3.put (.inr (Nat.le_refl _)) _
  have b4:r4[rest.length]? =some (some (.cells 66 (dK (ev p p.stack)))):=hr4▸bM b3
  have x4:r4[rest.length+1]? =some (some (.cells 152 [num n,num 0,.raw (.slice none 0 0),.raw (.slice none 0 0),flag true,num 0])):=hr4▸aE x3 (by omega)
  have j4:r4[rest.length+2]? =some (ez L3):=hr4▸aE j3 (by omega)
  rw[hr4]
  refine aQ<|ca (cK.to (sJ rfl (bE.zk.get rfl)) (p':=.ptr (rest.length+3+8) 0) (σ'':=P8 T tbs p1 (rest.length+2) kv3 (r4++[some (.cells 66 [num 0,num 0,num 0,num 0,.raw (.slice none 0 0),num 0])])) (by rw[←l4];rfl) rfl) rfl<|aH [0,3,5,6,7,9,13,14] rfl ?_
  obtain⟨r5,hr5⟩:∃r5,r4++[some (.cells 66 [num 0,num 0,num 0,num 0,.raw (.slice none 0 0),num 0])]=r5:=⟨_,rfl⟩
  have l5:r5.length=rest.length+4:=by rw[←hr5];simp[l4]
  have k5:gN j rest r5:=hr5▸k4.app _
  have b5:r5[rest.length]? =some (some (.cells 66 (dK (ev p p.stack)))):=hr5▸cf b4
  have x5:r5[rest.length+1]? =some (some (.cells 152 [num n,num 0,.raw (.slice none 0 0),.raw (.slice none 0 0),flag true,num 0])):=hr5▸cf x4
  have j5:r5[rest.length+2]? =some (ez L3):=hr5▸cf j4
  have n5:r5[rest.length+3]? =some (some (.cells 66 [num 0,num 0,num 0,num 0,.raw (.slice none 0 0),num 0])):=hr5▸fx l4
  rw[hr5]
  have hO:fX T (tb n) (ev p p.stack)=cb T tb p0 n p.stack:=by rw[hp];rfl
  have hbr:=R.step hΦ
  have hpk:=fun h=>Iz.eY R hΦ h
  obtain⟨O,hOO⟩:∃O,cb T tb p0 n p.stack=O:=⟨_,rfl⟩
  rw[hOO]at hO hbr hpk
  have htn:=htb n hnn
  have htl:=(List.getElem?_eq_some_iff.1 htn).1
  have hal:O.aK.length≤1000:=by
   rcases hbr with h|⟨h,_⟩
   ·rw[h];simp
   ·exact h
  refine Hq 20 3 (P8 T tbs p1 (rest.length+2) kv3 r5::P8 T tbs p1 (rest.length+2) kv3 (r5.set (rest.length+1) (some (.cells 152 [num n,num 0,ax O.aK,.raw (.slice none 0 0),flag true,num 0])))::P8 T tbs p1 (rest.length+2) kv3 ((r5.set (rest.length+1) (some (.cells 152 [num n,num 0,ax O.aK,.raw (.slice none 0 0),flag true,num 0]))).set (rest.length+3) (some (.cells 66 (dK O.eY))))::P8 T tbs p1 (rest.length+2) kv3 (((r5.set (rest.length+1) (some (.cells 152 [num n,num 0,ax O.aK,.raw (.slice none 0 0),flag true,num 0]))).set (rest.length+3) (some (.cells 66 (dK O.eY)))).set (rest.length+1) (some (.cells 152 [num n,num O.dJ,ax O.aK,.raw (.slice none 0 0),flag true,num 0])))::[]) (⟨_,none,0,0⟩::⟨_,none,0,2⟩::⟨aP T,none,0,0⟩::⟨_,none,0,0⟩::⟨_,none,0,0⟩::⟨_,none,0,0⟩::⟨fA (tb n),none,0,0⟩::⟨eJ (ev p p.stack),none,0,0⟩::⟨A3 O,none,0,0⟩::⟨A3 O,none,0,0⟩::⟨ax O.aK,none,0,0⟩::⟨eJ O.eY,none,0,1⟩::⟨num O.dJ,none,0,2⟩::⟨_,none,0,0⟩::⟨_,none,0,0⟩::⟨_,some 0,0,0⟩::⟨_,some 1,0,0⟩::⟨_,none,2,2⟩::⟨_,none,2,2⟩::⟨_,some 2,0,0⟩::[]) _ mixed ?grd1 rfl rfl rfl rfl (.cons (.val [13] rfl rfl (yz (eQ (bF rfl) gh)) rfl rfl)<|.cons (.val [13] rfl rfl (yz (eQ (bF rfl) (eQ (bF rfl) (eQ (bF rfl) gh)))) rfl rfl)<|.cons (.val [5] rfl rfl (yz (eQ (bF rfl) gh)) rfl rfl)<|.cons (.val [6] rfl rfl (yz (eQ (bF rfl) gh)) rfl rfl)<|.cons (.val [0] rfl rfl (yz (eQ (bF rfl) gh)) rfl rfl)<|.cons (.val [50,51] rfl rfl (yz (eQ (aI ((n*3)) rfl) gh)) rfl rfl)<|.cons (.val [52] rfl rfl (yz (eQ (ed rfl (rn tbs n (tb n) htn) rfl) gh)) rfl rfl)<|.cons (.val [9] rfl rfl (yz (eQ (fQ (σ:=P8 T tbs p1 (rest.length+2) kv3 r5) (blk:=.cells 66 (dK (ev p p.stack))) rfl (bE.tk.get rfl) rfl b5 rfl) gh)) rfl rfl)<|.cons (.val [49,53,54] rfl rfl (yz (eQ (fm rfl (hO▸Co T (tb n) (ev p p.stack) hsl)) gh)) rfl rfl)<|.cons (.val [55] rfl rfl (yz (eQ (bF rfl) gh)) rfl rfl)<|.cons (.val [46] rfl rfl (yz (eQ (bF rfl) gh)) rfl rfl)<|.cons (.val [46] rfl rfl (yz (eQ (bF rfl) (eQ (bF rfl) gh))) rfl rfl)<|.cons (.val [46] rfl rfl (yz (eQ (bF rfl) (eQ (bF rfl) (eQ (bF rfl) gh)))) rfl rfl)<|.cons (.val [47] rfl rfl (yz (eQ (bF rfl) gh)) rfl rfl)<|.cons (.val [59] rfl rfl (yz (eQ (bF rfl) gh)) rfl rfl)<|.cons (.ow [56,60] rfl rfl rfl rfl (cK.to (σ:=P8 T tbs p1 (rest.length+2) kv3 r5) (σ'':=P8 T tbs p1 (rest.length+2) kv3 (r5.set (rest.length+1) (some (.cells 152 [num n,num 0,ax O.aK,.raw (.slice none 0 0),flag true,num 0])))) (cH rfl (bE.tk.get rfl) rfl rfl x5 (Nat.le_of_ble_eq_true rfl)) rfl rfl) rfl)<|.cons (.ow [14,57] rfl rfl rfl rfl (cK.to (σ:=P8 T tbs p1 (rest.length+2) kv3 (r5.set (rest.length+1) (some (.cells 152 [num n,num 0,ax O.aK,.raw (.slice none 0 0),flag true,num 0])))) (σ'':=P8 T tbs p1 (rest.length+2) kv3 ((r5.set (rest.length+1) (some (.cells 152 [num n,num 0,ax O.aK,.raw (.slice none 0 0),flag true,num 0]))).set (rest.length+3) (some (.cells 66 (dK O.eY))))) (s4 (ys:=dK O.eY) rfl (bE.tk.get rfl) rfl rfl rfl rfl (aE n5 (by omega)) (Nat.le_of_ble_eq_true rfl)) rfl rfl) rfl)<|.cons (.val [48] rfl rfl (yz (eQ (bF rfl) gh)) rfl rfl)<|.cons (.val [61] rfl rfl (yz (eQ (bF rfl) gh)) rfl rfl)<|.cons (.ow [58,62] rfl rfl rfl rfl (cK.to (σ:=P8 T tbs p1 (rest.length+2) kv3 ((r5.set (rest.length+1) (some (.cells 152 [num n,num 0,ax O.aK,.raw (.slice none 0 0),flag true,num 0]))).set (rest.length+3) (some (.cells 66 (dK O.eY))))) (σ'':=P8 T tbs p1 (rest.length+2) kv3 (((r5.set (rest.length+1) (some (.cells 152 [num n,num 0,ax O.aK,.raw (.slice none 0 0),flag true,num 0]))).set (rest.length+3) (some (.cells 66 (dK O.eY)))).set (rest.length+1) (some (.cells 152 [num n,num O.dJ,ax O.aK,.raw (.slice none 0 0),flag true,num 0])))) (cH rfl (bE.tk.get rfl) rfl rfl (aE (bM x5) (by omega)) (Nat.le_of_ble_eq_true rfl)) rfl rfl) rfl) .nil) (bh (ks:=[3,5,7,13,14]) rfl) ?_
  case grd1=>kernel_rfl
  obtain⟨r6,hr6⟩:∃r6,((r5.set (rest.length+1) (some (.cells 152 [num n,num 0,ax O.aK,.raw (.slice none 0 0),flag true,num 0]))).set (rest.length+3) (some (.cells 66 (dK O.eY)))).set (rest.length+1) (some (.cells 152 [num n,num O.dJ,ax O.aK,.raw (.slice none 0 0),flag true,num 0]))=r6:=⟨_,rfl⟩
  have l6:r6.length=rest.length+4:=by rw[←hr6];simp[l5]
  have k6:gN j rest r6:=hr6▸((k5.put (.inr (by omega)) _).put (.inr (by omega)) _).put (.inr (by omega)) _
  have x6:r6[rest.length+1]? =some (some (.cells 152 [num n,num O.dJ,ax O.aK,.raw (.slice none 0 0),flag true,num 0])):=hr6▸bM (aE (bM x5) (by omega))
  have j6:r6[rest.length+2]? =some (ez L3):=hr6▸aE (aE (aE j5 (by omega)) (by omega)) (by omega)
  have n6:r6[rest.length+3]? =some (some (.cells 66 (dK O.eY))):=hr6▸aE (bM (aE n5 (by omega))) (by omega)
  rw[hr6]
  refine aj<|ab (.a 3 rfl<|.v (cX rfl (bE.tk.get rfl) rfl x6 rfl) rfl<|.a 2 rfl<|.k [3,5,7,13,14,68] rfl)<|ah rfl (fun hc=>?_) (fun hc=>?_)
  ·have harc:O.aK=[]:=List.eq_nil_of_length_eq_zero (by have:=tt hc;omega)
   refine ba<|au 3 rfl<|br (cK.to (σ:=P8 T tbs p1 (rest.length+2) kv3 r6) (cH rfl (bE.tk.get rfl) rfl rfl x6 (Nat.le_of_ble_eq_true rfl)) (σ'':=P8 T tbs p1 (rest.length+2) kv3 (r6.set (rest.length+1) (some (.cells 152 [num n,num O.dJ,ax O.aK,.raw (.slice none 0 0),flag true,num 1])))) rfl rfl) rfl rfl<|aH [3,5,7,13,14] rfl ?_
   obtain⟨r7,hr7⟩:∃r7,r6.set (rest.length+1) (some (.cells 152 [num n,num O.dJ,ax O.aK,.raw (.slice none 0 0),flag true,num 1]))=r7:=⟨_,rfl⟩
   have x7:r7[rest.length+1]? =some (some (.cells 152 [num n,num O.dJ,ax O.aK,.raw (.slice none 0 0),flag true,num (i7 O.aK [])])):=by
    rw[←hr7,bM x6];unfold i7;rw[if_pos harc]
   replace l6:r7.length=rest.length+4:=by rw[←hr7];simp[l6]
   replace k6:gN j rest r7:=hr7▸k6.put (.inr (by omega)) _
   replace j6:r7[rest.length+2]? =some (ez L3):=hr7▸aE j6 (by omega)
   replace n6:r7[rest.length+3]? =some (some (.cells 66 (dK O.eY))):=hr7▸aE n6 (by omega)
   rw[hr7]
   refine aj<|ab (.a 3 rfl<|.v (cX rfl (bE.tk.get rfl) rfl x7 rfl) rfl<|.a 2 rfl<|.k [3,5,7,13,14,75,76,77] rfl)<|av<|eZ [3,5,7,13,14,75,76,77] rfl<|cm (rest.length+1+8) 3 147 1 x7 rfl ?_
   have hz:(P8 T tbs p1 (rest.length+2) kv3 r7).length=rest.length+4+8:=by rw[←l6];rfl
   rw[hz]
   refine eh (σ':=P8 T tbs p1 (rest.length+2) kv3 ((r7++[ez []]).set (rest.length+1) (some (.cells 152 [num n,num O.dJ,ax O.aK,.own (rest.length+4+8),flag true,num (i7 O.aK [])])))) rfl ?_
   refine bw (fun r st=>∃(k:Nat) (kv':List (List UInt8×PV)) (L':List PV) (j' jr:Nat) (rest':cd) (vs:List PV) (cs:List Int),k≤O.aK.length∧r=O.aK.length - k∧Iz T tb p0 Φ op j rest n p.stack kv' L' j' jr rest' k vs cs∧st=⟨[(3,.ptr 6 0),(5,.ptr 0 0),(7,.ptr 7 0),(13,.ptr (rest.length+1+8) 0),(14,.ptr (rest.length+3+8) 0),(75,ax O.aK),(76,num O.aK.length),(77,num k)],P8 T tbs p1 j' kv' rest'⟩) O.aK.length ⟨0,kv3,L3,rest.length+2,rest.length+4,_,[],[],Nat.zero_le _,rfl,⟨(k6.app _).put (.inr (by omega)) _,by simp[l6],by rw[hOO];exact bM (cf x7),by rw[hOO];exact aE (cf n6) (by omega),aE (fx l6) (by omega),aE (cf j6) (by omega),by omega,.inl rfl,by omega,hok3,rfl,rfl,fun i hi=>absurd hi (Nat.not_lt_zero i)⟩,rfl⟩ ?_
   rintro r st ⟨k,kv',L',j',jr,rest',vs,cs,hk,rfl,V,rfl⟩
   have vx:=V.x
   have vn:=V.nb
   have vr:=V.row
   have va:=V.al
   have vlen:=V.len
   have vj:=V.j1
   have vjr:=V.I9
   have vne:=V.ne
   have vrl:=(List.getElem?_eq_some_iff.1 vr).1
   rw[hOO]at vx vn
   refine ab (.a 1 rfl<|.k [3,5,7,13,14,75,76,77,78] rfl)<|aj<|ah rfl (fun hc=>?_) (fun hc=>?_)
   ·have hlt:k<O.aK.length:=by have:=tt hc;omega
    have hne:O.aK≠[]:=fun h=>by rw[h]at hlt;simp at hlt
    have hst:∀a∈O.aK,∃b m:Nat,a=(b:Int)∧b<2*T.af.length∧aS T b=(m:Int)∧∃u',u'<u∧Φ u' m O.eY.stack:=by
     rcases hbr with h|⟨_,_,h⟩
     ·exact absurd h hne
     ·exact h
    have hmem:O.aK.getD k 0∈O.aK:=bU hlt
    obtain⟨b,m,hab,hb,hm,u',hu',hΦ'⟩:=hst _ hmem
    have hop':∀x∈(rest.length+1,n,p.stack)::op,Fa T tb p0 x.2.1 x.2.2 m O.eY.stack:=fun x hx=>by
     have ha:O.aK.getD k 0∈(cb T tb p0 n p.stack).aK:=by rw[hOO];exact hmem
     have hm':aS T (O.aK.getD k 0).toNat=(m:Int):=by rw[hab,Int.toNat_natCast];exact hm
     rw[←hOO]
     rcases List.mem_cons.1 hx with rfl|hx
     ·exact .one ha hm'
     ·exact .more (hop x hx) ha hm'
    have hll:=bN hv
    refine ak<|aj<|av<|ab (.v (aI (k) rfl) rfl<|.v (aL rfl ((aD _ k hlt).trans (by rw[hab]))) rfl<|.a 1 rfl<|.k [3,5,7,13,14,16,75,76,77] rfl)<|aj<|ab (.a 1 rfl<|.k [3,5,7,13,14,16,75,76,77,81] rfl)<|ah rfl (fun hc=>?_) (fun hc=>?_)
    ·cases hc
    ·refine ak<|Gm 5 20 [82,83,84,85,86] mixed (by kernel_rfl) (by kernel_rfl) (by kernel_rfl) rfl (.a 3 rfl<|.v [83,84] (fm rfl ((show Can Tryz.prog 150 [aP T,num b] (· =num m) by have h:=fu T b hb (by omega);rw[hm]at h;exact h))) rfl rfl<|.v [14] (fQ (σ:=P8 T tbs p1 j' kv' rest') (blk:=.cells 66 (dK O.eY)) rfl (bE.tk.get rfl) rfl vn rfl) rfl rfl<|.k [3,5,7,13,14,75,76,77,82,85,86] rfl) ?_
     refine cM rfl rfl (bS.mono (ih u' hu' m O.eY hΦ' (hpk hne) ((rest.length+1,n,p.stack)::op) kv' L' j' rest' va V.ok hop') (fun y σ' h=>?_))
     obtain⟨c,kv4,L4,j4',r8,hg,rfl,a8,k8,hj8,hok8⟩:=h
     refine au 1 rfl<|aH [3,5,7,13,14,17,75,76,77] rfl ?_
     obtain⟨vs1,cs1,hgv,_,_,_,_⟩:=hg.parts
     subst hgv
     have l8:=k8.len
     have x8:r8[rest.length+1]? =some (some (.cells 152 [num n,num O.dJ,ax O.aK,.own (jr+8),flag true,num (i7 O.aK cs)])):=(k8.same _ (by omega) (by omega)).trans vx
     have n8:r8[rest.length+3]? =some (some (.cells 66 (dK O.eY))):=(k8.same _ (by omega) (by omega)).trans vn
     have w8:r8[jr]? =some (ez vs):=(k8.same _ vrl (by omega)).trans vr
     have kk8:gN j rest r8:=V.DN.trans k8 (by omega)
     have hgb:=hg.bound
     have hlv:=V.lv
     have hlc:=V.lc
     have e8:j4'≠jr:=by omega
     have x8b:(r8.set jr none++[ez (vs++[PV.aV (di m (cb T tb p0 m O.eY.stack) vs1 c) 0])])[rest.length+1]? =some (some (.cells 152 [num n,num O.dJ,ax O.aK,.own (jr+8),flag true,num (i7 O.aK cs)])):=cf (aE x8 (by omega))
     refine aQ<|au 4 rfl ?_
     refine bz (cX rfl (bE.tk.get rfl) rfl x8 rfl) rfl ?_
     refine au 1 rfl ?_
     refine bz (aM (xs:=[PV.aV (di m (cb T tb p0 m O.eY.stack) vs1 c) 0]) rfl (bE.sl.get rfl) ⟨Nat.le_of_ble_eq_true rfl,Nat.le_of_ble_eq_true rfl⟩ rfl rfl) rfl ?_
     refine ca (cK.to (σ:=P8 T tbs p1 j4' kv4 r8) (aY (e:=147) (s:=1) (by':=8) (i:=jr+8) (m:=1) (n:=vs.length) (xs:=vs) (ys:=[PV.aV (di m (cb T tb p0 m O.eY.stack) vs1 c) 0]) rfl (bE.rk.get rfl) rfl w8 rfl rfl ⟨by unfold maxLen;omega,by omega⟩) (p':=.own (r8.length+8)) (σ'':=P8 T tbs p1 j4' kv4 (r8.set jr none++[ez (vs++[PV.aV (di m (cb T tb p0 m O.eY.stack) vs1 c) 0])])) rfl (by unfold ez;rw[List.length_append];rfl)) rfl ?_
     refine au 2 rfl ?_
     refine br (cK.to (σ:=P8 T tbs p1 j4' kv4 (r8.set jr none++[ez (vs++[PV.aV (di m (cb T tb p0 m O.eY.stack) vs1 c) 0])])) (cH rfl (bE.tk.get rfl) rfl rfl x8b (Nat.le_of_ble_eq_true rfl)) (σ'':=P8 T tbs p1 j4' kv4 ((r8.set jr none++[ez (vs++[PV.aV (di m (cb T tb p0 m O.eY.stack) vs1 c) 0])]).set (rest.length+1) (some (.cells 152 [num n,num O.dJ,ax O.aK,.own (r8.length+8),flag true,num (i7 O.aK cs)])))) rfl rfl) rfl rfl ?_
     refine aH [3,5,7,13,14,17,75,76,77] rfl ?_
     obtain⟨r9,hr9⟩:∃r9,(r8.set jr none++[ez (vs++[PV.aV (di m (cb T tb p0 m O.eY.stack) vs1 c) 0])]).set (rest.length+1) (some (.cells 152 [num n,num O.dJ,ax O.aK,.own (r8.length+8),flag true,num (i7 O.aK cs)]))=r9:=⟨_,rfl⟩
     have l9:r9.length=r8.length+1:=by rw[←hr9];simp
     have kk9:gN j rest r9:=hr9▸((kk8.put (.inr (by omega)) _).app _).put (.inr (by omega)) _
     have x9:r9[rest.length+1]? =some (some (.cells 152 [num n,num O.dJ,ax O.aK,.own (r8.length+8),flag true,num (i7 O.aK cs)])):=hr9▸bM x8b
     have n9:r9[rest.length+3]? =some (some (.cells 66 (dK O.eY))):=hr9▸aE (cf (aE n8 (by omega))) (by omega)
     have w9:r9[r8.length]? =some (ez (vs++[PV.aV (di m (cb T tb p0 m O.eY.stack) vs1 c) 0])):=hr9▸aE (fx (by simp)) (by omega)
     have a9:r9[j4']? =some (ez L4):=hr9▸aE (cf (aE a8 (by omega))) (by omega)
     rw[hr9]
     have hcb:0≤i7 O.aK cs∧i7 O.aK cs≤1001:=by
      unfold i7
      rw[if_neg hne]
      refine lW cs 0 (by omega) (by omega) fun z hz=>?_
      obtain⟨i,hi⟩:=List.getElem?_of_mem hz
      have hil:=(List.getElem?_eq_some_iff.1 hi).1
      have:=(V.ch i (by omega)).bound.1
      rwa [List.getD_eq_getElem?_getD,hi]at this
     have hbs:i7 O.aK (cs++[c])=min (i7 O.aK cs+c) 1001:=by unfold i7;rw[if_neg hne,if_neg hne,uQ]
     refine dI 13 20 mixed (
      .val [13] rfl (bF rfl) rfl rfl<|
      .val [13] rfl (bF rfl) rfl rfl<|
      .val [99] rfl (bF rfl) rfl rfl<|
      .val [100] rfl (bF rfl) rfl rfl<|
      .val [101] rfl (cX rfl (bE.tk.get rfl) rfl x9 rfl) rfl rfl<|
      .val [17] rfl (bF rfl) rfl rfl<|
      .val [103] rfl (bF rfl) rfl rfl<|
      .val [104] rfl (bF rfl) rfl rfl<|
      .val [105] rfl (aL rfl (rfl)) rfl rfl<|
      .val [102,106] rfl (aR rfl) rfl rfl<|
      .val [107] rfl (yY rfl rfl rfl (hbs.symm)) rfl rfl<|
      .val [98] rfl (bF rfl) rfl rfl<|
      .val [109] rfl (bF rfl) rfl rfl<|
      .nil) (by kernel_rfl) rfl rfl (bh (ks:=[3,5,7,13,14,75,76,77,108,110]) rfl) ?_
     refine br (cK.to (σ:=P8 T tbs p1 j4' kv4 r9) (cH rfl (bE.tk.get rfl) rfl rfl x9 (Nat.le_of_ble_eq_true rfl)) (σ'':=P8 T tbs p1 j4' kv4 (r9.set (rest.length+1) (some (.cells 152 [num n,num O.dJ,ax O.aK,.own (r8.length+8),flag true,num (i7 O.aK (cs++[c]))])))) rfl rfl) rfl rfl<|aH [3,5,7,13,14,75,76,77] rfl ?_
     refine ay (.v (aR rfl) rfl<|.a 1 rfl<|.k [3,5,7,13,14,75,76,77] rfl) ?_
     refine⟨O.aK.length - (k+1),by omega,k+1,kv4,L4,j4',r8.length,_,vs++[PV.aV (di m (cb T tb p0 m O.eY.stack) vs1 c) 0],cs++[c],by omega,rfl,⟨kk9.put (.inr (by omega)) _,by simp[l9];omega,by rw[hOO];exact bM x9,by rw[hOO];exact aE n9 (by omega),aE w9 (by omega),aE a9 (by omega),by omega,by omega,?_,hok8,by simp[hlv],by simp[hlc],fun i hi=>?_⟩,rfl⟩
     ·have:=(List.getElem?_eq_some_iff.1 a8).1;omega
     ·by_cases hik:i<k
      ·have h1:(vs++[PV.aV (di m (cb T tb p0 m O.eY.stack) vs1 c) 0]).getD i .any=vs.getD i .any:=by rw[List.getD_eq_getElem?_getD,List.getD_eq_getElem?_getD,List.getElem?_append_left (by omega)]
       have h2:(cs++[c]).getD i 0=cs.getD i 0:=by rw[List.getD_eq_getElem?_getD,List.getD_eq_getElem?_getD,List.getElem?_append_left (by omega)]
       rw[h1,h2]
       exact V.ch i hik
      ·obtain rfl:i=k:=by omega
       have h1:(vs++[PV.aV (di m (cb T tb p0 m O.eY.stack) vs1 c) 0]).getD i .any=PV.aV (di m (cb T tb p0 m O.eY.stack) vs1 c) 0:=by rw[List.getD_eq_getElem?_getD,fx hlv];rfl
       have h2:(cs++[c]).getD i 0=c:=by rw[List.getD_eq_getElem?_getD,fx hlc];rfl
       rw[h1,h2,hOO,hab,Int.toNat_natCast,hm,Int.toNat_natCast]
       exact hg
   ·have hke:k=O.aK.length:=by have:=ff hc;omega
    refine bn<|aQ<|au 3 rfl<|br (cK.to (σ:=P8 T tbs p1 j' kv' rest') (cH rfl (bE.tk.get rfl) rfl rfl vx (Nat.le_of_ble_eq_true rfl)) (σ'':=P8 T tbs p1 j' kv' (rest'.set (rest.length+1) (some (.cells 152 [num n,num O.dJ,ax O.aK,.own (jr+8),flag false,num (i7 O.aK cs)])))) rfl rfl) rfl rfl<|aH [13] rfl ?_
    subst hke
    have hlv:=V.lv
    have hlc:=V.lc
    have hgood:Good T tb p0 Φ (.aV (di n O vs (i7 O.aK cs)) 0) n p.stack (i7 O.aK cs):=by
     have:=Good.mk (T:=T) (tb:=tb) (p0:=p0) (Φ:=Φ) (vs:=vs) (cs:=cs) hΦ (by rw[hOO];exact hlv) (by rw[hOO];exact hlc) (fun i hi=>by rw[hOO]at hi;exact V.ch i hi)
     rwa [hOO]at this
    obtain⟨kv9,L9,hok9,hk9,hf9,hL9⟩:=mD.close (ty:=152) V.ok hgood
    refine vR (jr+8) (σ':=P8 T tbs p1 j' kv' ((rest'.set jr none).set (rest.length+1) (some (.cells 152 (di n O vs (i7 O.aK cs)))))) (aE vr (by omega)) (tS (by simp) (aE (bM vr) (by omega)) (fun z hz=>?_) rfl (jY.refl _)) (.cons 13 rfl (.same _) .nil) ?_
    ·by_cases h1:z=rest.length+1
     ·subst h1
      exact .inr ⟨_,_,bM vx,bM (aE vx (by omega)),.cells (.cons (.same _)<|.cons (.same _)<|.cons (.same _)<|.cons .own<|.cons (.same _)<|.cons (.same _) .nil)⟩
     ·refine .inl ?_
      rw[List.getElem?_set,if_neg (by omega),List.getElem?_set,if_neg (by omega),List.getElem?_set,if_neg (by omega)]
    refine vR (rest.length+1+8) (σ':=P8 T tbs p1 j' kv9 ((((rest'.set jr none).set (rest.length+1) (some (.cells 152 (di n O vs (i7 O.aK cs))))).set (rest.length+1) none).set j' (ez L9))) (bM (aE vx (by omega))) (tS (by simp) (aE (bM (bM (aE vx (by omega)))) (by omega)) (fun z hz=>?_) hk9 hf9) (.cons 13 rfl (.ptr 0) .nil) ?_
    ·by_cases h1:z=j'
     ·subst h1
      refine .inr ⟨_,_,aE (aE va (by omega)) (by omega),bM (aE (aE (aE va (by omega)) (by omega)) (by omega)),?_⟩
      have:=hL9.1
      rw[this]
      exact .row hL9
     ·refine .inl ?_
      rw[List.getElem?_set,if_neg (by omega),List.getElem?_set,if_neg (by omega)]
    refine ab (.a 2 rfl<|.k [10] rfl)<|aq<|⟨_,aA.of rfl,i7 O.aK cs,kv9,L9,j',_,hgood,rfl,?_,?_,by omega,hok9⟩
    ·exact bM (aE (aE (aE va (by omega)) (by omega)) (by omega))
    ·exact(((V.DN.put (.inr (by omega)) _).put (.inr (by omega)) _).put (.inr (by omega)) _).put (by omega) _
  ·have harc:O.aK≠[]:=fun h=>by have:=ff hc;rw[h]at this;simp at this
   have x7:r6[rest.length+1]? =some (some (.cells 152 [num n,num O.dJ,ax O.aK,.raw (.slice none 0 0),flag true,num (i7 O.aK [])])):=by rw[x6];unfold i7;rw[if_neg harc];rfl
   obtain⟨r7,hr7⟩:∃r7,r6=r7:=⟨_,rfl⟩
   rw[hr7]at l6 k6 x7 j6 n6 ⊢
   refine ak<|aj<|ab (.a 3 rfl<|.v (cX rfl (bE.tk.get rfl) rfl x7 rfl) rfl<|.a 2 rfl<|.k [3,5,7,13,14,75,76,77] rfl)<|av<|eZ [3,5,7,13,14,75,76,77] rfl<|cm (rest.length+1+8) 3 147 1 x7 rfl ?_
   have hz:(P8 T tbs p1 (rest.length+2) kv3 r7).length=rest.length+4+8:=by rw[←l6];rfl
   rw[hz]
   refine eh (σ':=P8 T tbs p1 (rest.length+2) kv3 ((r7++[ez []]).set (rest.length+1) (some (.cells 152 [num n,num O.dJ,ax O.aK,.own (rest.length+4+8),flag true,num (i7 O.aK [])])))) rfl ?_
   refine bw (fun r st=>∃(k:Nat) (kv':List (List UInt8×PV)) (L':List PV) (j' jr:Nat) (rest':cd) (vs:List PV) (cs:List Int),k≤O.aK.length∧r=O.aK.length - k∧Iz T tb p0 Φ op j rest n p.stack kv' L' j' jr rest' k vs cs∧st=⟨[(3,.ptr 6 0),(5,.ptr 0 0),(7,.ptr 7 0),(13,.ptr (rest.length+1+8) 0),(14,.ptr (rest.length+3+8) 0),(75,ax O.aK),(76,num O.aK.length),(77,num k)],P8 T tbs p1 j' kv' rest'⟩) O.aK.length ⟨0,kv3,L3,rest.length+2,rest.length+4,_,[],[],Nat.zero_le _,rfl,⟨(k6.app _).put (.inr (by omega)) _,by simp[l6],by rw[hOO];exact bM (cf x7),by rw[hOO];exact aE (cf n6) (by omega),aE (fx l6) (by omega),aE (cf j6) (by omega),by omega,.inl rfl,by omega,hok3,rfl,rfl,fun i hi=>absurd hi (Nat.not_lt_zero i)⟩,rfl⟩ ?_
   rintro r st ⟨k,kv',L',j',jr,rest',vs,cs,hk,rfl,V,rfl⟩
   have vx:=V.x
   have vn:=V.nb
   have vr:=V.row
   have va:=V.al
   have vlen:=V.len
   have vj:=V.j1
   have vjr:=V.I9
   have vne:=V.ne
   have vrl:=(List.getElem?_eq_some_iff.1 vr).1
   rw[hOO]at vx vn
   refine ab (.a 1 rfl<|.k [3,5,7,13,14,75,76,77,78] rfl)<|aj<|ah rfl (fun hc=>?_) (fun hc=>?_)
   ·have hlt:k<O.aK.length:=by have:=tt hc;omega
    have hne:O.aK≠[]:=fun h=>by rw[h]at hlt;simp at hlt
    have hst:∀a∈O.aK,∃b m:Nat,a=(b:Int)∧b<2*T.af.length∧aS T b=(m:Int)∧∃u',u'<u∧Φ u' m O.eY.stack:=by
     rcases hbr with h|⟨_,_,h⟩
     ·exact absurd h hne
     ·exact h
    have hmem:O.aK.getD k 0∈O.aK:=bU hlt
    obtain⟨b,m,hab,hb,hm,u',hu',hΦ'⟩:=hst _ hmem
    have hop':∀x∈(rest.length+1,n,p.stack)::op,Fa T tb p0 x.2.1 x.2.2 m O.eY.stack:=fun x hx=>by
     have ha:O.aK.getD k 0∈(cb T tb p0 n p.stack).aK:=by rw[hOO];exact hmem
     have hm':aS T (O.aK.getD k 0).toNat=(m:Int):=by rw[hab,Int.toNat_natCast];exact hm
     rw[←hOO]
     rcases List.mem_cons.1 hx with rfl|hx
     ·exact .one ha hm'
     ·exact .more (hop x hx) ha hm'
    have hll:=bN hv
    refine ak<|aj<|av<|ab (.v (aI (k) rfl) rfl<|.v (aL rfl ((aD _ k hlt).trans (by rw[hab]))) rfl<|.a 1 rfl<|.k [3,5,7,13,14,16,75,76,77] rfl)<|aj<|ab (.a 1 rfl<|.k [3,5,7,13,14,16,75,76,77,81] rfl)<|ah rfl (fun hc=>?_) (fun hc=>?_)
    ·cases hc
    ·refine ak<|Gm 5 20 [82,83,84,85,86] mixed (by kernel_rfl) (by kernel_rfl) (by kernel_rfl) rfl (.a 3 rfl<|.v [83,84] (fm rfl ((show Can Tryz.prog 150 [aP T,num b] (· =num m) by have h:=fu T b hb (by omega);rw[hm]at h;exact h))) rfl rfl<|.v [14] (fQ (σ:=P8 T tbs p1 j' kv' rest') (blk:=.cells 66 (dK O.eY)) rfl (bE.tk.get rfl) rfl vn rfl) rfl rfl<|.k [3,5,7,13,14,75,76,77,82,85,86] rfl) ?_
     refine cM rfl rfl (bS.mono (ih u' hu' m O.eY hΦ' (hpk hne) ((rest.length+1,n,p.stack)::op) kv' L' j' rest' va V.ok hop') (fun y σ' h=>?_))
     obtain⟨c,kv4,L4,j4',r8,hg,rfl,a8,k8,hj8,hok8⟩:=h
     refine au 1 rfl<|aH [3,5,7,13,14,17,75,76,77] rfl ?_
     obtain⟨vs1,cs1,hgv,_,_,_,_⟩:=hg.parts
     subst hgv
     have l8:=k8.len
     have x8:r8[rest.length+1]? =some (some (.cells 152 [num n,num O.dJ,ax O.aK,.own (jr+8),flag true,num (i7 O.aK cs)])):=(k8.same _ (by omega) (by omega)).trans vx
     have n8:r8[rest.length+3]? =some (some (.cells 66 (dK O.eY))):=(k8.same _ (by omega) (by omega)).trans vn
     have w8:r8[jr]? =some (ez vs):=(k8.same _ vrl (by omega)).trans vr
     have kk8:gN j rest r8:=V.DN.trans k8 (by omega)
     have hgb:=hg.bound
     have hlv:=V.lv
     have hlc:=V.lc
     have e8:j4'≠jr:=by omega
     have x8b:(r8.set jr none++[ez (vs++[PV.aV (di m (cb T tb p0 m O.eY.stack) vs1 c) 0])])[rest.length+1]? =some (some (.cells 152 [num n,num O.dJ,ax O.aK,.own (jr+8),flag true,num (i7 O.aK cs)])):=cf (aE x8 (by omega))
     refine aQ<|au 4 rfl ?_
     refine bz (cX rfl (bE.tk.get rfl) rfl x8 rfl) rfl ?_
     refine au 1 rfl ?_
     refine bz (aM (xs:=[PV.aV (di m (cb T tb p0 m O.eY.stack) vs1 c) 0]) rfl (bE.sl.get rfl) ⟨Nat.le_of_ble_eq_true rfl,Nat.le_of_ble_eq_true rfl⟩ rfl rfl) rfl ?_
     refine ca (cK.to (σ:=P8 T tbs p1 j4' kv4 r8) (aY (e:=147) (s:=1) (by':=8) (i:=jr+8) (m:=1) (n:=vs.length) (xs:=vs) (ys:=[PV.aV (di m (cb T tb p0 m O.eY.stack) vs1 c) 0]) rfl (bE.rk.get rfl) rfl w8 rfl rfl ⟨by unfold maxLen;omega,by omega⟩) (p':=.own (r8.length+8)) (σ'':=P8 T tbs p1 j4' kv4 (r8.set jr none++[ez (vs++[PV.aV (di m (cb T tb p0 m O.eY.stack) vs1 c) 0])])) rfl (by unfold ez;rw[List.length_append];rfl)) rfl ?_
     refine au 2 rfl ?_
     refine br (cK.to (σ:=P8 T tbs p1 j4' kv4 (r8.set jr none++[ez (vs++[PV.aV (di m (cb T tb p0 m O.eY.stack) vs1 c) 0])])) (cH rfl (bE.tk.get rfl) rfl rfl x8b (Nat.le_of_ble_eq_true rfl)) (σ'':=P8 T tbs p1 j4' kv4 ((r8.set jr none++[ez (vs++[PV.aV (di m (cb T tb p0 m O.eY.stack) vs1 c) 0])]).set (rest.length+1) (some (.cells 152 [num n,num O.dJ,ax O.aK,.own (r8.length+8),flag true,num (i7 O.aK cs)])))) rfl rfl) rfl rfl ?_
     refine aH [3,5,7,13,14,17,75,76,77] rfl ?_
     obtain⟨r9,hr9⟩:∃r9,(r8.set jr none++[ez (vs++[PV.aV (di m (cb T tb p0 m O.eY.stack) vs1 c) 0])]).set (rest.length+1) (some (.cells 152 [num n,num O.dJ,ax O.aK,.own (r8.length+8),flag true,num (i7 O.aK cs)]))=r9:=⟨_,rfl⟩
     have l9:r9.length=r8.length+1:=by rw[←hr9];simp
     have kk9:gN j rest r9:=hr9▸((kk8.put (.inr (by omega)) _).app _).put (.inr (by omega)) _
     have x9:r9[rest.length+1]? =some (some (.cells 152 [num n,num O.dJ,ax O.aK,.own (r8.length+8),flag true,num (i7 O.aK cs)])):=hr9▸bM x8b
     have n9:r9[rest.length+3]? =some (some (.cells 66 (dK O.eY))):=hr9▸aE (cf (aE n8 (by omega))) (by omega)
     have w9:r9[r8.length]? =some (ez (vs++[PV.aV (di m (cb T tb p0 m O.eY.stack) vs1 c) 0])):=hr9▸aE (fx (by simp)) (by omega)
     have a9:r9[j4']? =some (ez L4):=hr9▸aE (cf (aE a8 (by omega))) (by omega)
     rw[hr9]
     have hcb:0≤i7 O.aK cs∧i7 O.aK cs≤1001:=by
      unfold i7
      rw[if_neg hne]
      refine lW cs 0 (by omega) (by omega) fun z hz=>?_
      obtain⟨i,hi⟩:=List.getElem?_of_mem hz
      have hil:=(List.getElem?_eq_some_iff.1 hi).1
      have:=(V.ch i (by omega)).bound.1
      rwa [List.getD_eq_getElem?_getD,hi]at this
     have hbs:i7 O.aK (cs++[c])=min (i7 O.aK cs+c) 1001:=by unfold i7;rw[if_neg hne,if_neg hne,uQ]
     refine dI 13 20 mixed (
      .val [13] rfl (bF rfl) rfl rfl<|
      .val [13] rfl (bF rfl) rfl rfl<|
      .val [99] rfl (bF rfl) rfl rfl<|
      .val [100] rfl (bF rfl) rfl rfl<|
      .val [101] rfl (cX rfl (bE.tk.get rfl) rfl x9 rfl) rfl rfl<|
      .val [17] rfl (bF rfl) rfl rfl<|
      .val [103] rfl (bF rfl) rfl rfl<|
      .val [104] rfl (bF rfl) rfl rfl<|
      .val [105] rfl (aL rfl (rfl)) rfl rfl<|
      .val [102,106] rfl (aR rfl) rfl rfl<|
      .val [107] rfl (yY rfl rfl rfl (hbs.symm)) rfl rfl<|
      .val [98] rfl (bF rfl) rfl rfl<|
      .val [109] rfl (bF rfl) rfl rfl<|
      .nil) (by kernel_rfl) rfl rfl (bh (ks:=[3,5,7,13,14,75,76,77,108,110]) rfl) ?_
     refine br (cK.to (σ:=P8 T tbs p1 j4' kv4 r9) (cH rfl (bE.tk.get rfl) rfl rfl x9 (Nat.le_of_ble_eq_true rfl)) (σ'':=P8 T tbs p1 j4' kv4 (r9.set (rest.length+1) (some (.cells 152 [num n,num O.dJ,ax O.aK,.own (r8.length+8),flag true,num (i7 O.aK (cs++[c]))])))) rfl rfl) rfl rfl<|aH [3,5,7,13,14,75,76,77] rfl ?_
     refine ay (.v (aR rfl) rfl<|.a 1 rfl<|.k [3,5,7,13,14,75,76,77] rfl) ?_
     refine⟨O.aK.length - (k+1),by omega,k+1,kv4,L4,j4',r8.length,_,vs++[PV.aV (di m (cb T tb p0 m O.eY.stack) vs1 c) 0],cs++[c],by omega,rfl,⟨kk9.put (.inr (by omega)) _,by simp[l9];omega,by rw[hOO];exact bM x9,by rw[hOO];exact aE n9 (by omega),aE w9 (by omega),aE a9 (by omega),by omega,by omega,?_,hok8,by simp[hlv],by simp[hlc],fun i hi=>?_⟩,rfl⟩
     ·have:=(List.getElem?_eq_some_iff.1 a8).1;omega
     ·by_cases hik:i<k
      ·have h1:(vs++[PV.aV (di m (cb T tb p0 m O.eY.stack) vs1 c) 0]).getD i .any=vs.getD i .any:=by rw[List.getD_eq_getElem?_getD,List.getD_eq_getElem?_getD,List.getElem?_append_left (by omega)]
       have h2:(cs++[c]).getD i 0=cs.getD i 0:=by rw[List.getD_eq_getElem?_getD,List.getD_eq_getElem?_getD,List.getElem?_append_left (by omega)]
       rw[h1,h2]
       exact V.ch i hik
      ·obtain rfl:i=k:=by omega
       have h1:(vs++[PV.aV (di m (cb T tb p0 m O.eY.stack) vs1 c) 0]).getD i .any=PV.aV (di m (cb T tb p0 m O.eY.stack) vs1 c) 0:=by rw[List.getD_eq_getElem?_getD,fx hlv];rfl
       have h2:(cs++[c]).getD i 0=c:=by rw[List.getD_eq_getElem?_getD,fx hlc];rfl
       rw[h1,h2,hOO,hab,Int.toNat_natCast,hm,Int.toNat_natCast]
       exact hg
   ·have hke:k=O.aK.length:=by have:=ff hc;omega
    refine bn<|aQ<|au 3 rfl<|br (cK.to (σ:=P8 T tbs p1 j' kv' rest') (cH rfl (bE.tk.get rfl) rfl rfl vx (Nat.le_of_ble_eq_true rfl)) (σ'':=P8 T tbs p1 j' kv' (rest'.set (rest.length+1) (some (.cells 152 [num n,num O.dJ,ax O.aK,.own (jr+8),flag false,num (i7 O.aK cs)])))) rfl rfl) rfl rfl<|aH [13] rfl ?_
    subst hke
    have hlv:=V.lv
    have hlc:=V.lc
    have hgood:Good T tb p0 Φ (.aV (di n O vs (i7 O.aK cs)) 0) n p.stack (i7 O.aK cs):=by
     have:=Good.mk (T:=T) (tb:=tb) (p0:=p0) (Φ:=Φ) (vs:=vs) (cs:=cs) hΦ (by rw[hOO];exact hlv) (by rw[hOO];exact hlc) (fun i hi=>by rw[hOO]at hi;exact V.ch i hi)
     rwa [hOO]at this
    obtain⟨kv9,L9,hok9,hk9,hf9,hL9⟩:=mD.close (ty:=152) V.ok hgood
    refine vR (jr+8) (σ':=P8 T tbs p1 j' kv' ((rest'.set jr none).set (rest.length+1) (some (.cells 152 (di n O vs (i7 O.aK cs)))))) (aE vr (by omega)) (tS (by simp) (aE (bM vr) (by omega)) (fun z hz=>?_) rfl (jY.refl _)) (.cons 13 rfl (.same _) .nil) ?_
    ·by_cases h1:z=rest.length+1
     ·subst h1
      exact .inr ⟨_,_,bM vx,bM (aE vx (by omega)),.cells (.cons (.same _)<|.cons (.same _)<|.cons (.same _)<|.cons .own<|.cons (.same _)<|.cons (.same _) .nil)⟩
     ·refine .inl ?_
      rw[List.getElem?_set,if_neg (by omega),List.getElem?_set,if_neg (by omega),List.getElem?_set,if_neg (by omega)]
    refine vR (rest.length+1+8) (σ':=P8 T tbs p1 j' kv9 ((((rest'.set jr none).set (rest.length+1) (some (.cells 152 (di n O vs (i7 O.aK cs))))).set (rest.length+1) none).set j' (ez L9))) (bM (aE vx (by omega))) (tS (by simp) (aE (bM (bM (aE vx (by omega)))) (by omega)) (fun z hz=>?_) hk9 hf9) (.cons 13 rfl (.ptr 0) .nil) ?_
    ·by_cases h1:z=j'
     ·subst h1
      refine .inr ⟨_,_,aE (aE va (by omega)) (by omega),bM (aE (aE (aE va (by omega)) (by omega)) (by omega)),?_⟩
      have:=hL9.1
      rw[this]
      exact .row hL9
     ·refine .inl ?_
      rw[List.getElem?_set,if_neg (by omega),List.getElem?_set,if_neg (by omega)]
    refine ab (.a 2 rfl<|.k [10] rfl)<|aq<|⟨_,aA.of rfl,i7 O.aK cs,kv9,L9,j',_,hgood,rfl,?_,?_,by omega,hok9⟩
    ·exact bM (aE (aE (aE va (by omega)) (by omega)) (by omega))
    ·exact(((V.DN.put (.inr (by omega)) _).put (.inr (by omega)) _).put (.inr (by omega)) _).put (by omega) _
end
end PW
end Go.Proofs.YtnegbdpggideiaaGreatDoor
namespace Go.Proofs.YtnegbdpggideiaaGreatDoor
namespace PW
open Go.RowKit cA Mem Net eS
section
variable {T:ai} {tb:Nat→dR} {p0:fh} {Φ:Nat→Nat→List bW→Prop}
def IV(T:ai)(tb:Nat→dR)(p0:fh)(Φ:Nat→Nat→List bW→Prop)(n:Nat)(s:List bW)(r:PV):Prop:=
 ∃v c L,r= .tuple [v,.slice L.length L,num 0]∧Good T tb p0 Φ v n s c∧L.length≤1000000∧∀x∈L,∃n s c,Good T tb p0 Φ x n s c
instance:eM EE:=by unfold EE;infer_instance
theorem Ig:uU Tryz.prog 189=some [.nilFunc]:=by kernel_rfl
set_option maxHeartbeats 4000000 in
theorem wX(R:iL T tb p0 Φ)(hv:ao T=true)(h12:T.nodes≤12){U:List (Nat×List bW)}(hU:∀ {u n s},Φ u n s→(n,s)∈U)(hUl:U.length≤1000000)(tbs:List dR)(htl:(tbs.length:Int)=T.nodes)(htb:∀n:Nat,(n:Int)<T.nodes→tbs[n]? =some (tb n))
  (hok:∀n:Nat,(n:Int)<T.nodes→(tb n).node=(n:Int)∧ef T (tb n)=true) {u n:Nat} {p:fh} (hΦ:Φ u n p.stack) (hp:ev p p.stack=ev p0 p.stack):
  Can Tryz.prog 115 [aP T,fR tbs,eJ p,num n] (IV T tb p0 Φ n p.stack):=by
 have hn:=R.node hΦ
 have hck:=wz T tbs n hv htl (fun i x hx=>by
  have hil:=(List.getElem?_eq_some_iff.1 hx).1
  have:=htb i (by omega)
  rw[this]at hx
  cases hx
  exact hok i (by omega)) (aW.2 ⟨by omega,hn⟩)
 refine aF Tryz.func115 rfl Tryz.ntmps115 rfl<|aQ<|ca (fw rfl rfl rfl) rfl<|ca (fw (xs:=[_]) rfl rfl rfl) rfl<|ca (fw rfl rfl rfl) rfl<|au 3 rfl<|aH [3,4,5,6,9] rfl ?_
 refine aj<|ab (.a 3 rfl<|.c rfl (hck) rfl<|.a 1 rfl<|.k [3,4,5,6,9,11] rfl)<|ab (.a 2 rfl<|.k [3,4,5,6,9,11,20] rfl)<|ah rfl (fun hc=>?_) (fun hc=>?_)
 ·cases hc
 ·refine ak<|aQ<|ca (nX oQ rfl) rfl<|au 2 rfl<|aH [3,4,5,6,9,12] rfl ?_
  refine aQ<|au 2 rfl<|aH [3,4,5,6,9,12,13] rfl ?_
  refine aQ<|ca (sJ (z:=[.nilFunc]) rfl Ig) rfl<|aH [3,4,5,6,9,12,13,14] rfl ?_
  refine aQ<|au 1 rfl ?_
  refine br (cH (p:=EE) rfl (bE.tk.get rfl) rfl rfl rfl (Nat.le_of_ble_eq_true rfl)) rfl rfl ?_
  refine aH [3,6,9,13,14] rfl ?_
  refine cm 3 0 147 1 rfl rfl ?_
  refine eh (σ':=P8 T tbs p 0 [] [ez []]) rfl ?_
  refine aQ<|au 3 rfl<|cM rfl rfl (bS.mono (zX R hv h12 hU hUl tbs htb p u n p hΦ hp [] [] [] 0 [ez []] rfl ⟨fun e he=>(by cases he),List.nodup_nil,fun e he=>(by cases he),rfl⟩ (fun x hx=>(by cases hx))) (fun y σ' h=>?_))
  obtain⟨c,kv,L,j,rest,hg,rfl,hj,_,_,hkv⟩:=h
  refine au 1 rfl<|aH [8,9,13] rfl ?_
  haveI:=hg.pure
  refine aj<|ab (.a 1 rfl<|.k [8,9,28] rfl)<|ah rfl (fun hc=>?_) (fun hc=>?_)
  ·cases hc
  ·refine ak<|pA ([(8,y),(9,.ptr 3 0),(10,num 0)]) (P8 T tbs p j kv rest) mixed ?_ ?_
   ·refine bI 0 [1] (by kernel_rfl) ?_
    refine aZ rfl rfl (bz (bF rfl) rfl (aO ?_)) ?_
    ·refine bI 1 [2] (by kernel_rfl) ?_
     refine aZ rfl rfl (bz (bF rfl) rfl (aO ?_)) ?_
     ·refine bI 2 [] (by kernel_rfl) ?_
      refine aZ rfl rfl (bz (bF rfl) rfl (aO ?_)) bH
      refine bI 3 [] (by kernel_rfl) ?_
      refine aZ rfl rfl (br (cK.to (σ:=P8 T tbs p j kv rest) (cH rfl (bE.tk.get rfl) rfl rfl rfl (Nat.le_of_ble_eq_true rfl)) (σ'':=P8 T tbs p j kv rest) rfl rfl) rfl rfl (aO ?_)) bH
      refine bI 4 [] (by kernel_rfl) ?_
      refine aZ rfl rfl (bz (bF rfl) rfl (aO ?_)) bH
      exact jj (by kernel_rfl) ⟨rfl,bh (ks:=[8,9,10]) rfl⟩
     refine aZ rfl rfl (bz (bF rfl) rfl (aO ?_)) bH
     refine bI 1 [] (by kernel_rfl) ?_
     refine aZ rfl rfl (bz (bF rfl) rfl (aO ?_)) bH
     refine bI 3 [] (by kernel_rfl) ?_
     refine aZ rfl rfl (br (cK.to (σ:=P8 T tbs p j kv rest) (cH rfl (bE.tk.get rfl) rfl rfl rfl (Nat.le_of_ble_eq_true rfl)) (σ'':=P8 T tbs p j kv rest) rfl rfl) rfl rfl (aO ?_)) bH
     refine bI 4 [] (by kernel_rfl) ?_
     refine aZ rfl rfl (bz (bF rfl) rfl (aO ?_)) bH
     exact jj (by kernel_rfl) ⟨rfl,bh (ks:=[8,9,10]) rfl⟩
    refine aZ rfl rfl (bz (bF rfl) rfl (aO ?_)) bH
    refine bI 0 [] (by kernel_rfl) ?_
    refine aZ rfl rfl (bz (bF rfl) rfl (aO ?_)) bH
    refine bI 2 [] (by kernel_rfl) ?_
    refine aZ rfl rfl (bz (bF rfl) rfl (aO ?_)) bH
    refine bI 3 [] (by kernel_rfl) ?_
    refine aZ rfl rfl (br (cK.to (σ:=P8 T tbs p j kv rest) (cH rfl (bE.tk.get rfl) rfl rfl rfl (Nat.le_of_ble_eq_true rfl)) (σ'':=P8 T tbs p j kv rest) rfl rfl) rfl rfl (aO ?_)) bH
    refine bI 4 [] (by kernel_rfl) ?_
    refine aZ rfl rfl (bz (bF rfl) rfl (aO ?_)) bH
    exact jj (by kernel_rfl) ⟨rfl,bh (ks:=[8,9,10]) rfl⟩
   refine aq ?_
   have hall:∀x∈L,∃n s c,Good T tb p0 Φ x n s c:=fun x hx=>by
    obtain⟨n1,s1,h1⟩:=hkv.all x hx
    rcases h1 with⟨c1,h1⟩|⟨_,h1,_⟩
    ·exact⟨n1,s1,c1,h1⟩
    ·cases h1
   haveI:aG L:=⟨fun i x hx=>by
    obtain⟨_,_,_,h⟩:=hall x (List.mem_of_getElem? hx)
    exact h.pure⟩
   have hfew:=hkv.I7 R h12 hU
   have hlen:=hkv.len
   exact⟨_,_,aA.of rfl,aB.bG (an.cons aB.pure<|an.cons (aB.ey (i:=j+8) (show(P8 T tbs p j kv rest)[j+8]? =_ from hj) an.pure)<|an.cons aB.pure an.nil),y,c,L,rfl,hg,by omega,hall⟩
end
end PW
end Go.Proofs.YtnegbdpggideiaaGreatDoor
namespace Go.Proofs.YtnegbdpggideiaaGreatDoor
namespace eS
open Go.RowKit Go.Shelf cA
structure Rest (a b:Nat) (w w':World):Prop where
 os:w'.os=w.os
 tape:w'.tape=w.tape
 output:w'.output=w.output
 size:w.heap.size≤w'.heap.size
 block:∀k,k<w.heap.size→(k<a∨b≤k)→w'.heap[k]? =w.heap[k]?
 cells:∀(k:Nat) (o:Obj),w.heap[k]? =some o→o.isCells=true→w'.heap[k]? =some o
theorem Rest.refl(a b:Nat)(w:World):Rest a b w w:=⟨rfl,rfl,rfl,Nat.le_refl _,fun _ _ _=>rfl,fun _ _ h _=>h⟩
theorem Rest.trans{a b:Nat}{w w' w'':World}(h:Rest a b w w')(k:Rest a b w' w''):Rest a b w w'':=
 ⟨k.os.trans h.os,k.tape.trans h.tape,k.output.trans h.output,Nat.le_trans h.size k.size,fun j h1 h2=>(k.block j (Nat.lt_of_lt_of_le h1 h.size) h2).trans (h.block j h1 h2),fun j o h1 h2=>k.cells j o (h.cells j o h1 h2) h2⟩
theorem Rest.wide{a b a' b':Nat}{w w':World}(h:Rest a b w w')(h1:a'≤a)(h2:b≤b'):Rest a' b' w w':=
 ⟨h.os,h.tape,h.output,h.size,fun k k1 k2=>h.block k k1 (by omega),h.cells⟩
theorem Rest.put{a b l:Nat}{w:World}{o o0:Obj}(h0:w.heap[l]? =some o0)(hc:o0.isCells=false)(h1:a≤l)(h2:l<b):Rest a b w (w.putObj l o):=
 ⟨rfl,rfl,rfl,by simp,fun k _ k2=>World.putObj_heap_other (by omega),fun k o1 k1 k2=>(World.putObj_heap_other (fun e=>by subst e;rw[h0]at k1;cases k1;rw[hc]at k2;cases k2)).trans k1⟩
theorem EM{w w':World}(h:Ext w w'){l:Nat}{o:Obj}(hl:w.heap.size≤l):Ext w (w'.putObj l o):=
 ⟨h.os,h.tape,h.output,by simp;exact h.size,fun k hk=>(World.putObj_heap_other (by omega)).trans (h.block k hk)⟩
def Calm(G:Value→World→Prop):Prop:=∀v w l r o,G v w→w.heap[l]? =some (Obj.loop r)→G v (w.putObj l o)
def xC(P:Program)(g:Nat)(lb:Array Value)(G:Value→World→Prop)(W₀:World):Prop:=
 ∀(n l:Nat) (W:World) (R:World→World→Prop),Below W₀.heap.size W₀ W→
  (∀W1 W2,R W1 W2→W1.heap.size≤W2.heap.size∧∀k,W.heap.size≤k→k<W1.heap.size→W2.heap[k]? =W1.heap[k]?)→
  (∀m v W1,Ext W W1→G v W1→YieldAt Fence.wide m P l #[v] W1 fun e W2=>e= .returned (.bool true)∧R W1 W2)→
  CallsIn Fence.wide n P g (#[.func (.yield l) #[] #[]]++lb) W fun e W'=>(∃v,e= .returned v)∧∃W1 W2,Ext W W1∧R W1 W2∧Rest W.heap.size W1.heap.size W2 W'
structure Left (s:Nat) (W1 W3:World):Prop where
 size:W1.heap.size≤W3.heap.size
 block:∀k,s≤k→k<W1.heap.size→W3.heap[k]? =W1.heap[k]?
theorem kF{P:Program}{n:Nat}{g:Operand}{ps:Array Tmp}{assign body:Code}{Q:Exit→Act→World→Prop}{a:Act}{w:World}
    {gf:Nat} {lb:Array Value} (hg:a.eval g= .func (.func gf) #[] lb) (eg:∀args w,(callFunc gf args).run P w= .ok (.enter gf args) w)
    {G:Value→World→Prop} (hG:Calm G) (hGx:∀v W W',G v W→Ext W W'→G v W') {W₀:World} (G8:xC P gf lb G W₀) (hb0:Below W₀.heap.size W₀ w) (hps:ps.size=1) (Rx:World→World→Prop)
    (hround:∀m l v (W1:World),l=w.heap.size+1→(∃r,W1.heap[l]? =some (.loop r))→Ext w W1→G v W1→
      assign.wpIn (Fence.wide.inRound l) m P (Exit.then (fun a₁ Wa=>Ext W1 Wa∧∀Wb,(∃r,Wb.heap[l]? =some (.loop r))→Ext w Wb→Wb.heap.size=Wa.heap.size→(∀k,k≠l→Wb.heap[k]? =Wa.heap[k]?)→G v Wb→
        body.wpIn (Fence.wide.inRound l) m P (Exit.then (fun _ W3=>Left w.heap.size Wb W3∧Rx Wb W3) (fun _ _ _=>False)) a₁ Wb) (fun _ _ _=>False))
        {tmps:=(ps.zip #[v]).foldl (fun t (p,v)=>t.setIfInBounds p v) a.tmps,defers:=[]} W1)
    (hdone:∀(Wb W3 W':World),Ext w Wb→w.heap.size<Wb.heap.size→Wb.heap.size≤W3.heap.size→Rx Wb W3→Rest w.heap.size Wb.heap.size W3 W'→W'.heap[w.heap.size]? =some (.deferred (some []))→Q .normal {a with defers:= {target:=.collected w.heap.size,args:= #[]}::a.defers} W'):
    (Code.rangeFunc g ps assign body).wpIn Fence.wide n P Q a w:=by
  refine wpIn_rangeFunc ?_
  intro fn hfn
  obtain⟨rec,hrec⟩:∃rec:LoopState→Option Code→Loop,rec=fun st pe=> {state:=st,pending:=pe,fn,tmps:=a.tmps,params:=ps,assign,body,defers:=w.heap.size}:=⟨_,rfl⟩
  obtain⟨W1,hW1⟩:∃W1,(w.alloc (.deferred (some []))).alloc (.loop (rec .ready none))=W1:=⟨_,rfl⟩
  have hL1:W1.heap[w.heap.size+1]? =some (.loop (rec .ready none)):=by
    rw[←hW1];have:=World.alloc_heap_new (w.alloc (.deferred (some []))) (.loop (rec .ready none));rwa [World.size_alloc]at this
  have hK1:W1.heap[w.heap.size]? =some (.deferred (some [])):=by
    rw[←hW1];exact(Below.heap_alloc _ _ _ (by simp)).trans (World.alloc_heap_new w _)
  have hz1:W1.heap.size=w.heap.size+2:=by rw[←hW1];simp
  have hE1:Ext w W1:=by rw[←hW1];exact((Ext.refl w).alloc _).alloc _
  have hb1:Below W₀.heap.size W₀ W1:=hb0.trans (Below.mono hE1 hb0.size)
  refine⟨w.heap.size+1,[{target:=.collected w.heap.size,args:= #[]}],W1,{target:=.fn (.func gf) lb,args:= #[.func (.yield (w.heap.size+1)) #[] #[]]},W1,gf,
    #[.func (.yield (w.heap.size+1)) #[] #[]]++lb,W1,?_,?_,?_,?_,fun h=>by simp[Fence.wide]at h,?_⟩
  · rw[←hW1,hrec];exact run_enterLoop_outer _ _ _ _ _
  · simp only[resolve,hg]
    simp[go_sem]
  · intro f' _;trivial
  · simp[invoke,go_sem,eg]
  · refine (G8 (n - 1) (w.heap.size + 1) W1 (fun A B => A.heap.size ≤ B.heap.size ∧ (∀ k, W1.heap.size ≤ k → k < A.heap.size → B.heap[k]? = A.heap[k]?) ∧
        ∃Wb W3,Ext w Wb∧A.heap.size≤Wb.heap.size∧Wb.heap.size≤W3.heap.size∧Rx Wb W3∧Rest w.heap.size W1.heap.size W3 B∧B.heap[w.heap.size+1]? =some (.loop (rec .ready none))∧B.heap[w.heap.size]? =some (.deferred (some []))) hb1 (fun A B h=>⟨h.1,h.2.1⟩) ?_).mono ?_
    ·
      intro m v W2 hE2 hv
      have hl:W2.heap[w.heap.size+1]? =some (.loop (rec .ready none)):=(hE2.block _ (by omega)).trans hL1
      have hk:W2.heap[w.heap.size]? =some (.deferred (some [])):=(hE2.block _ (by omega)).trans hK1
      have hlt:w.heap.size+1<W2.heap.size:=(Array.getElem?_eq_some_iff.1 hl).1
      have hy:=run_yield (P:=P) (args:= #[v]) hl (by rw[hrec];exact hps.symm)
      rw[hrec]at hy
      refine⟨fn,_,assign,body,hy,roundIn_of_wpIn hfn (wpIn_mono (hround m _ v W2 rfl ⟨_,hl⟩ (hE1.trans hE2) hv) ?_)⟩
      rintro e a1 Wa he
      cases e with
      |normal=>
        obtain⟨hEa,hb⟩:=he
        have hla:Wa.heap[w.heap.size+1]? =some (.loop (rec .ready none)):=(hEa.block _ hlt).trans hl
        have hlta:w.heap.size+1<Wa.heap.size:=(Array.getElem?_eq_some_iff.1 hla).1
        have hza:=hEa.size
        refine⟨_,run_beginRound hla (by rw[hrec]),?_⟩
        obtain⟨Wb,hWb⟩:∃Wb,Wb=Wa.putObj (w.heap.size+1) (.loop {rec .ready none with state:=.busy}):=⟨_,rfl⟩
        have hl2:Wb.heap[w.heap.size+1]? =some (.loop {rec .ready none with state:=.busy}):=by rw[hWb];exact World.putObj_heap_same hlta
        have hk2:Wb.heap[w.heap.size]? =some (.deferred (some [])):=by rw[hWb];exact(World.putObj_heap_other (by omega)).trans ((hEa.block _ (by omega)).trans hk)
        have hzb:Wb.heap.size=Wa.heap.size:=by rw[hWb];simp
        have hEb:Ext w Wb:=by rw[hWb];exact EM ((hE1.trans hE2).trans hEa) (by omega)
        have hother:∀k,k≠w.heap.size+1→Wb.heap[k]? =Wa.heap[k]? :=fun k hk=>by rw[hWb];exact World.putObj_heap_other hk
        rw[←hWb]
        refine wpIn_mono (hb Wb ⟨_,hl2⟩ hEb hzb hother (by rw[hWb];exact hG _ _ _ _ _ (hGx _ _ _ hv hEa) hla)) ?_
        rintro e2 a3 W3 hp
        cases e2 with
        |normal=>
          obtain⟨hleft,hrx⟩:=hp
          have hl3:W3.heap[w.heap.size+1]? =some (.loop {rec .ready none with state:=.busy}):=(hleft.block _ (by omega) (by omega)).trans hl2
          have hk3:W3.heap[w.heap.size]? =some (.deferred (some [])):=(hleft.block _ (by omega) (by omega)).trans hk2
          have he:=run_endRound (P:=P) none hl3
          rw[hrec]at he
          have hs3:=hleft.size
          refine⟨_,_,he,rfl,?_,?_,Wb,W3,hEb,by omega,hs3,hrx,?_,?_,?_⟩
          · simp only[World.putObj_size];omega
          · intro k h1 h2
            rw[World.putObj_heap_other (by omega),hleft.block k (by omega) (by omega),hother k (by omega),hEa.block k h2]
          · exact Rest.put hl3 rfl (by omega) (by omega)
          · have:=World.putObj_heap_same (w:=W3) (r:=w.heap.size+1) (o:=.loop (rec .ready none)) (by omega)
            rw[hrec]at this ⊢
            exact this
          · rw[World.putObj_heap_other (by omega)];exact hk3
        |_=>exact hp.elim
      |_=>exact he.elim
    ·
      rintro e W' ⟨⟨v,rfl⟩,A,B,hEA,⟨h1,h2,Wb,W3,k1,k2,k3,k4,k5,k6,k7⟩,hrest⟩
      have hzB:w.heap.size+1<B.heap.size:=(Array.getElem?_eq_some_iff.1 k6).1
      have hzA:=hEA.size
      have hl4:W'.heap[w.heap.size+1]? =some (.loop (rec .ready none)):=(hrest.block _ hzB (by omega)).trans k6
      have hk4:W'.heap[w.heap.size]? =some (.deferred (some [])):=(hrest.block _ (by omega) (by omega)).trans k7
      have he:=run_endLoop (P:=P) hl4 (by rw[hrec];simp)
      rw[hrec]at he
      refine⟨none,_,he,hdone Wb W3 _ k1 (by omega) k3 k4 ?_ ?_⟩
      · refine Rest.trans (k5.wide (Nat.le_refl _) (by omega)) (Rest.trans (hrest.wide (by omega) (by omega)) (Rest.put hl4 rfl (by omega) (by omega)))
      · rw[World.putObj_heap_other (by omega)];exact hk4
end eS
end Go.Proofs.YtnegbdpggideiaaGreatDoor
namespace Go.Proofs.YtnegbdpggideiaaGreatDoor
namespace PW
open Go.RowKit cA Mem
section
variable {P:Program} {ops:Array Oper} {n:Nat}
theorem FL{o:Oper}{a:Act}{w:World}{K K':Act→World→Prop}{Q Q':Exit→Act→World→Prop}(hK:∀a w,K a w→K' a w)(hp:∀c a w,Q (.panic c) a w→Q' (.panic c) a w)(hL:¬LetsOut Q)(h:o.wp P a w K Q):o.wpIn Fence.wide n P a w K' Q':=by
 refine⟨fun _ _=>trivial,?_⟩
 rw[show Fence.wide.round=none from rfl,Oper.semAt_none]
 unfold Oper.wp at h
 generalize (execOp a.eval o).run P w=x at*
 cases x with
 |ok x w'=>
  cases x<;>simp only[Oper.uponIn,Oper.upon]at h ⊢
  case value v=>exact hK _ _ h
  case skip=>exact hK _ _ h
  case defer d=>exact hK _ _ h
  case enter f args=>exact⟨fun h=>by simp[Fence.wide]at h,callsIn_wide.2 (h.mono fun e w'' he=>by cases e<;>first|exact hK _ _ he|exact hp _ _ _ he|exact(hL he).elim)⟩
  case row r args=>exact⟨fun h=>by simp[Fence.wide]at h,fun c cs _=>by
   obtain⟨v,w',r,s⟩:=h c cs
   exact⟨v,w',hK _ _ r,stepsIn_wide.2 s⟩⟩
  all_goals exact h.elim
 |halt x w'=>cases x<;>simp only[Oper.uponIn,Oper.upon]at h ⊢ <;>first|exact hp _ _ _ h|exact h
section
variable {f m:Nat} (hB:xX ops f m=true)
include hB
theorem np{Q:Exit→Act→World→Prop}:∀(r k:Nat) (a:Act) (w:World),k+r=ops.size→m≤k→wpOpsIn Fence.wide n P ops Q (List.range' k r) a w→wpAnyIn Fence.wide n P .any ops Q r (upto ops.size k) a w
 |0,k,a,w,hk,_,h=>by
  obtain rfl:k=ops.size:=by omega
  exact⟨sB,h⟩
 |r+1,k,a,w,hk,hm,h=>by
  have hr:=qo hB k (by omega) hm
  refine⟨fun h0=>absurd (hr.symm.trans h0) (by simp),fun i hi=>?_⟩
  rw[hr]at hi
  simp at hi
  subst hi
  rw[List.range'_succ,wpOpsIn_cons]at h
  rw[uq]
  exact wpOpIn_mono (fun a w h=>np r (i+1) a w (by omega) (by omega) h) h
end
def oZ(n:Nat)(P:Program)(ops:Array Oper)(Q:Exit→Act→World→Prop)(m r:Nat):Exit→Act→World→Prop
 | .normal,a,w=>wpOpsIn Fence.wide n P ops Q (List.range' m r) a w
 |_,_,_=>False
theorem rG{Q:Exit→Act→World→Prop}{m r:Nat}:¬LetsOut (oZ n P ops Q m r):=fun⟨_,_,h⟩=>h
theorem qX{f m:Nat}(hB:xX ops f m=true)(hm:m≤ops.size){Q:Exit→Act→World→Prop}:∀(fuel:Nat) (l₁ ls:Array Bool) (a:Act) (w:World),l₁.size=m→ls.size=ops.size→(∀i,i<m→ls.getD i true=l₁.getD i true)→(∀i,m≤i→i<ops.size→ls.getD i true=false)→Down ops ls→bJ ls m=fuel→
  wpAny P .any (ops.extract 0 m) (oZ n P ops Q m (ops.size - m)) fuel l₁ a w→wpAnyIn Fence.wide n P .any ops Q (fuel+(ops.size - m)) ls a w:=by
 have hsz:(ops.extract 0 m).size=m:=by simp;omega
 have hget:∀i,i<m→(ops.extract 0 m)[i]? =ops[i]? :=fun i hi=>by rw[Array.getElem?_extract];simp;omega
 have haft:∀i,i<m→kT (ops.extract 0 m) i=kT ops i:=fun i hi=>by unfold kT;rw[hget i hi]
 intro fuel
 induction fuel with
 |zero=>
  intro l₁ ls a w hs1 hs2 hsame hrest hd hu h
  have:ls=upto ops.size m:=by
   apply Array.ext
   ·simp[upto,hs2]
   ·intro i h1 h2
    have hi:i<ops.size:=by omega
    have e:ls.getD i true=(upto ops.size m).getD i true:=by
     rw[ga _ _ _ hi]
     by_cases him:i<m
     ·rw[cQ hu i him];simp[him]
     ·rw[hrest i (by omega) hi];simp[him]
    simpa[h1,h2]using e
  rw[this]
  simpa using np hB (ops.size - m) m a w (by omega) (Nat.le_refl _) h.2
 |succ fuel ih=>
  intro l₁ ls a w hs1 hs2 hsame hrest hd hu h
  have hf:∀b c (i:Nat),i<ops.size→ls.getD i b=ls.getD i c:=fun b c i hi=>by simp[show i<ls.size by omega]
  obtain⟨i0,hi0,hi1,hi2⟩:=fc (ls:=ls) (m:=m) (by omega)
  have hrd:∀i,i∈Region.ready .any ops ls→i<m:=fun i hi=>by
   obtain⟨h1,h2,h3⟩:=cw.1 hi
   rcases Nat.lt_or_ge i m with h'|h'
   ·exact h'
   ·have:=dO hs2 hd (fV hB) f i i0 h1 (ob hB i h1 h' i0 (by omega)) h3
    rw[hf false true i0 (by omega),hi1]at this
    cases this
  have hin:∀i,i∈Region.ready .any ops ls→i∈Region.ready .any (ops.extract 0 m) l₁:=fun i hi=>by
   have him:=hrd i hi
   obtain⟨h1,h2,h3⟩:=cw.1 hi
   refine cw.2 ⟨by omega,by rw[←hsame i him];exact h2,fun k hk=>?_⟩
   rw[haft i him]at hk
   have hki:=fV hB i h1 k hk
   have:=h3 k hk
   rw[hf false true k (by omega),hsame k (by omega)]at this
   simpa[show k<l₁.size by omega]using this
  have hi0r:i0∈Region.ready .any ops ls:=cw.2 ⟨by omega,hi1,fun k hk=>by
   have:=fV hB i0 (by omega) k hk
   rw[hf false true k (by omega)];exact hi2 k this⟩
  rw[show fuel+1+(ops.size - m)=(fuel+(ops.size - m))+1 by omega]
  refine⟨fun h0=>absurd hi0r (by rw[h0];simp),fun i hi=>?_⟩
  have him:=hrd i hi
  obtain⟨h1,h2,h3⟩:=cw.1 hi
  have hstep:=h.2 i (hin i hi)
  have next:∀a w,wpAny P .any (ops.extract 0 m) (oZ n P ops Q m (ops.size - m)) fuel (l₁.setIfInBounds i true) a w→wpAnyIn Fence.wide n P .any ops Q (fuel+(ops.size - m)) (ls.setIfInBounds i true) a w:=fun a w hh=>by
   refine ih _ _ a w (by simpa using hs1) (by simpa using hs2) (fun j hj=>?_) (fun j hj hj'=>?_) (fun j hj hj' k hk=>?_) (by have:=fe h2 him (by omega);omega) hh
   ·by_cases e:i=j
    ·subst e;simp[show i<ls.size by omega,show i<l₁.size by omega]
    ·have:=hsame j hj
     simp only[Array.getD_eq_getD_getElem?,Array.getElem?_setIfInBounds_ne e]at this ⊢
     exact this
   ·have:=hrest j hj hj'
    simp only[Array.getD_eq_getD_getElem?,Array.getElem?_setIfInBounds_ne (show i≠j by omega)]at this ⊢
    exact this
   ·by_cases e:i=j
    ·subst e
     have hki:=fV hB i h1 k hk
     have:=h3 k hk
     simp only[Array.getD_eq_getD_getElem?,Array.getElem?_setIfInBounds_ne (show i≠k by omega)]at this ⊢
     exact this
    ·have hj2:ls.getD j true=true:=by
      simp only[Array.getD_eq_getD_getElem?,Array.getElem?_setIfInBounds_ne e]at hj ⊢
      exact hj
     have:=hd j hj2 hj' k hk
     by_cases e2:i=k
     ·subst e2;simp[show i<ls.size by omega]
     ·simp only[Array.getD_eq_getD_getElem?,Array.getElem?_setIfInBounds_ne e2]at this ⊢
      exact this
  unfold wpOp at hstep
  unfold wpOpIn
  rw[hget i him]at hstep
  have ho:ops[i]? =some ops[i]:=by simp[h1]
  rw[ho]at hstep ⊢
  simp only at hstep ⊢
  have hy:Region.wanted ops[i] (yielded (ops.extract 0 m) a.tmps)=Region.wanted ops[i] (yielded ops a.tmps):=by
   unfold Region.wanted
   cases hg:(ops[i]).guard with
   |none=>rfl
   |some g=>
    obtain⟨j,wt⟩:=g
    have:=sq hB i ops[i] j wt ho hg
    simp only[yielded]
    rw[hget j (by omega)]
  rw[hy]at hstep
  split
  ·rename_i hw
   rw[if_pos hw]at hstep
   rcases hstep with hh|⟨hh,hl⟩
   ·exact FL next (fun _ _ _ h=>h.elim) rG hh
   ·exact absurd hl rG
  ·rename_i hw
   rw[if_neg hw]at hstep
   exact⟨fun _ _=>trivial,next _ _ hstep⟩
theorem qT{N:Nat}{id:Nat}{l:List Oper}{t t':bZ}{σ:cd}{F:Nat→Prop}{base:Nat}{E:Env}{a:Act}{w:World}{Q:Exit→Act→World→Prop}(m f:Nat)(D:List Nat)(hm:P.follows .mixedOrders=true)(hB:Region.lexB .any (l.take m).toArray=true)
    (hn:((l.take m).all fun o=>o.dst.all fun e=>decide (e<N)&&D.contains e)=true) (hbar:xX l.toArray f m=true) (hml:Nat.ble m l.length=true) (hs:dy F base N ⟨t,σ⟩ E a w)
    (h:dt P N (l.take m).toArray σ (l.take m) t t') (hw:∀a' w',Ext w w'→dy F base N ⟨t',σ⟩ E a' w'→wpOpsIn Fence.wide n P l.toArray Q (List.range' m (l.toArray.size - m)) a' w'):(Code.region id l.toArray true).wpIn Fence.wide n P Q a w:=by
  obtain⟨arr,ds⟩:=a
  have hds:ds=[]:=hs.jQ
  have hmle:m≤l.length:=Nat.ble_eq.mp hml
  have hlt:(l.take m).length=m:=by simp;omega
  refine wpIn_region_any hm ?_
  have hfr:=sw (Q:=oZ n P l.toArray Q m (l.toArray.size - m)) hs D hB hn h (fun b w' hE hs'=>hw _ _ hE hs')
  have he:l.toArray.extract 0 m=(l.take m).toArray:=by simp
  have := qX (P := P) (n := n) hbar (by simpa using hmle) (Q := Q) m (Array.replicate m false) (Array.replicate l.toArray.size false) ⟨arr, ds⟩ { w with drawn := w.drawn + 1 } (by simp) (by simp) (fun i hi => by rw [eP _ _ hi, eP _ _ (by simp; omega)]) (fun i _ hi => eP _ _ hi _) (fun i hi hi' => by
      have:(Array.replicate l.toArray.size false).getD i true=false:=eP _ _ hi' _
      rw[this]at hi;cases hi) (by
      have:∀k,k≤l.length→bJ (Array.replicate l.toArray.size false) k=k:=by
        intro k
        induction k with
        |zero=>intro _;rfl
        |succ k ih=>
          intro hk
          simp only[bJ]
          rw[ih (by omega)]
          have:(Array.replicate l.toArray.size false).getD k true=false:=eP _ _ (by simp;omega) _
          rw[this];simp
      exact this m hmle) (by rw[he];rw[hlt]at hfr;exact hfr)
  rw[show m+(l.toArray.size - m)=l.toArray.size by simp;omega]at this
  exact this
end
end PW
end Go.Proofs.YtnegbdpggideiaaGreatDoor
namespace Go.Proofs.YtnegbdpggideiaaGreatDoor
namespace PW
open Go.RowKit cA Mem
theorem oC{w w':World}{l:Nat}{r:Loop}(hl:w.heap[l]? =some (.loop r))(ho:∀k,k≠l→w'.heap[k]? =w.heap[k]?){a:Addr}{x:Value}(h:w.cell? a=some x):w'.cell? a=some x:=by
 have hne:a.block≠l:=fun e=>by
  unfold World.cell? at h
  rw[e,hl]at h
  simp at h
 rw[jx (ho _ hne)]
 exact h
theorem cz.other{E:Env}{w w':World}{l:Nat}{r:Loop}(hl:w.heap[l]? =some (.loop r))(hz:w'.heap.size=w.heap.size)(ho:∀k,k≠l→w'.heap[k]? =w.heap[k]?){v:Value}{p:PV}(h:cz E w v p):cz E w' v p:=by
 induction h with
 |any v=>exact .any v
 |raw v=>exact .raw v
 |b9=>exact .b9
 |empty a c h=>exact .empty a c h
 |slice b off n c cs xs h0 h1 h2 hb hM hc hl2 _ ih=>exact .slice b off n c cs xs h0 h1 h2 (by omega) hM (fun i x hx=>oC hl ho (hc i x hx)) hl2 ih
 |aV b o' off cs xs hb hM hc hl2 _ ih=>exact .aV b o' off cs xs (by omega) hM (fun i x hx=>oC hl ho (hc i x hx)) hl2 ih
 |agg cs xs hl2 _ ih=>exact .agg cs xs hl2 ih
 |tuple cs xs hl2 _ ih=>exact .tuple cs xs hl2 ih
 |func f cs xs hl2 _ ih=>exact .func f cs xs hl2 ih
 |ptr i off b hi h=>exact .ptr i off b hi h
 |own i hi v h hs=>exact .own i hi v h hs
theorem gI.other{F:Nat→Prop}{w w':World}{l:Nat}{r:Loop}(hl:w.heap[l]? =some (.loop r))(ho:∀k,k≠l→w'.heap[k]? =w.heap[k]?)(h:gI F w):gI F w':=fun g cs hg=>by
 obtain⟨h1,t,fz,h2⟩:=h g cs hg
 have hne:g≠l:=fun e=>by rw[e,hl]at h2;cases h2
 exact⟨h1,t,fz,by rw[ho g hne];exact h2⟩
section
variable {P:Program} {ops:Array Oper} {n:Nat}
theorem BP{lp:Nat}{o:Oper}{a:Act}{w:World}{K K':Act→World→Prop}{Q Q':Exit→Act→World→Prop}(hnd:∀c,o.op≠ .defer c)(hK:∀a w,K a w→K' a w)(hp:∀c a w,Q (.panic c) a w→Q' (.panic c) a w)(hL:¬LetsOut Q)(h:o.wp P a w K Q):o.wpIn (Fence.wide.inRound lp) n P a w K' Q':=by
 refine⟨fun _ _=>trivial,?_⟩
 rw[Fence.inRound_round,Oper.semAt_eq _ _ _ hnd]
 unfold Oper.wp at h
 generalize (execOp a.eval o).run P w=x at*
 cases x with
 |ok x w'=>
  cases x<;>simp only[Oper.uponIn,Oper.upon]at h ⊢
  case value v=>exact hK _ _ h
  case skip=>exact hK _ _ h
  case defer d=>exact hK _ _ h
  case enter f args=>exact⟨fun h=>by simp[Fence.wide]at h,CallsIn.inRound lp (callsIn_wide.2 (h.mono fun e w'' he=>by cases e<;>first|exact hK _ _ he|exact hp _ _ _ he|exact(hL he).elim))⟩
  case row r args=>exact⟨fun h=>by simp[Fence.wide]at h,fun c cs _=>by
   obtain⟨v,w',r,s⟩:=h c cs
   exact⟨v,w',hK _ _ r,stepsIn_wide.2 s⟩⟩
  all_goals exact h.elim
 |halt x w'=>cases x<;>simp only[Oper.uponIn,Oper.upon]at h ⊢ <;>first|exact hp _ _ _ h|exact h
def BO(lp n:Nat)(P:Program)(ops:Array Oper)(Q:Exit→Act→World→Prop)(js:List Nat):Exit→Act→World→Prop
 | .normal,a,w=>wpOpsIn (Fence.wide.inRound lp) n P ops Q js a w
 |_,_,_=>False
theorem rO{lp:Nat}{Q:Exit→Act→World→Prop}{js:List Nat}:¬LetsOut (BO lp n P ops Q js):=fun⟨_,_,h⟩=>h
theorem yV{lp m:Nat}{Q:Exit→Act→World→Prop}{js:List Nat}(hm:m≤ops.size)(hg:∀(i:Nat) o,i<m→ops[i]? =some o→o.guard=none∧∀c,o.op≠ .defer c):∀(is:List Nat) (a:Act) (w:World),(∀i∈is,i<m)→wpOps P (ops.extract 0 m) (BO lp n P ops Q js) is a w→wpOpsIn (Fence.wide.inRound lp) n P ops Q (is++js) a w
 | [],a,w,_,h=>h
 |i::is,a,w,hi,h=>by
  have him:=hi i (by simp)
  have hget:(ops.extract 0 m)[i]? =ops[i]? :=by rw[Array.getElem?_extract];simp;omega
  rw[wpOps_cons]at h
  rw[List.cons_append,wpOpsIn_cons]
  unfold wpOp at h
  unfold wpOpIn
  rw[hget]at h
  have ho:ops[i]? =some ops[i]:=Array.getElem?_eq_getElem (by omega)
  rw[ho]at h ⊢
  simp only at h ⊢
  obtain⟨h1,h2⟩:=hg i _ him ho
  have hw:∀x,Region.wanted ops[i] x=true:=fun x=>by unfold Region.wanted;rw[h1]
  rw[if_pos (hw _)]at h ⊢
  rcases h with h|⟨_,h⟩
  ·exact BP h2 (fun a' w' h=>yV hm hg is a' w' (fun j hj=>hi j (by simp[hj])) h) (fun _ _ _ h=>h.elim) rO h
  ·exact absurd h rO
theorem lA{lp m id N L:Nat}{l:List Oper}{st:St}{F:Nat→Prop}{base:Nat}{E:Env}{a:Act}{w:World}{Q:Exit→Act→World→Prop}(hm:Nat.ble m l.length=true)(hg:((l.take m).all fun o=>o.guard.isNone&& !tu o.op)=true){K:St→Prop}(hs:dy F base N st E a w)(hL:E.L=L)
  (h:WR P N L (l.take m).toArray (l.take m) st K) (hk:∀s E' a' w',K s→dy F base N s E' a' w'→cP E w E' w'→Below base w w'→wpOpsIn (Fence.wide.inRound lp) n P l.toArray Q (List.range' m (l.length - m)) a' w'):(Code.region id l.toArray false).wpIn (Fence.wide.inRound lp) n P Q a w:=by
 have hmle:m≤l.length:=Nat.ble_eq.mp hm
 have hlt:(l.take m).length=m:=by simp;omega
 refine wpIn_region ?_
 have hr:List.range l.toArray.size=List.range' 0 m++List.range' m (l.length - m):=by
  have h:= @List.range'_append_1 0 m (l.length - m)
  rw[Nat.zero_add,show m+(l.length - m)=l.length by omega]at h
  rw[List.range_eq_range',List.size_toArray]
  exact h.symm
 rw[hr]
 refine yV (m:=m) (by simpa using hmle) (fun i o hi ho=>?_) _ a w (fun i hi=>by simp at hi;omega) ?_
 ·have hmem:o∈l.take m:=by
   have:(l.take m)[i]? =some o:=by rw[List.getElem?_take,if_pos hi];simpa using ho
   exact List.mem_of_getElem? this
  have:=List.all_eq_true.1 hg o hmem
  simp only[Bool.and_eq_true,Option.isNone_iff_eq_none,Bool.not_eq_true']at this
  exact⟨this.1,fun c e=>by rw[e]at this;exact absurd this.2 (by simp[tu])⟩
 ·have he:l.toArray.extract 0 m=(l.take m).toArray:=by simp
  rw[he]
  have:=h F base E w E a w ⟨hL,cP.refl _ _,Below.refl _ _⟩ hs (BO lp n P l.toArray Q (List.range' m (l.length - m))) 0 (fun a' w' ⟨s,E',h1,h2,h3,h4⟩=>hk s E' a' w' h1 h2 h3 h4) (fun j=>by simp)
  rw[hlt]at this
  exact this
theorem lE{F:Fence}(hF:F=Fence.wide∨∃lp,F=Fence.wide.inRound lp){i:Nat}{is:List Nat}{o:Oper}{a:Act}{w:World}{v:Value}{Q:Exit→Act→World→Prop}(ho:ops[i]? =some o)(hg:o.guard=none)(hnd:∀c,o.op≠ .defer c)(hr:(execOp a.eval o).run P w= .ok (.value v) w)(h:wpOpsIn F n P ops Q is (a.put o.dst v) w):wpOpsIn F n P ops Q (i::is) a w:=by
 rw[wpOpsIn_cons]
 unfold wpOpIn
 rw[ho]
 simp only
 rw[if_pos (by unfold Region.wanted;rw[hg])]
 have hsem:o.semAt F.round a.eval=execOp a.eval o:=by
  rcases hF with rfl|⟨lp,rfl⟩
  ·exact Oper.semAt_none _ _
  ·rw[Fence.inRound_round,Oper.semAt_eq _ _ _ hnd]
 refine⟨fun _ _=>?_,?_⟩
 ·rcases hF with rfl|⟨lp,rfl⟩<;>trivial
 ·rw[hsem,hr]
  exact h
theorem AF{lp:Nat}{i l:Nat}{is:List Nat}{o:Oper}{a:Act}{w:World}{Q:Exit→Act→World→Prop}{x y:Operand}{ats:Array TypeId}{R:Ending→World→Prop}(ho:ops[i]? =some o)(hg:o.guard=none)(hop:o.op= .call {callee:=.value x,args:= #[y],argTypes:=ats})
  (hx:a.eval x= .func (.yield l) #[] #[]) (hy:YieldAt Fence.wide (n - 1) P l #[a.eval y] w R) (hR:∀e w',R e w'→∃v,e= .returned v∧wpOpsIn (Fence.wide.inRound lp) n P ops Q is (a.put o.dst v) w'):wpOpsIn (Fence.wide.inRound lp) n P ops Q (i::is) a w:=by
 obtain⟨fn,tmps,assign,body,h1,h2⟩:=hy
 rw[wpOpsIn_cons]
 unfold wpOpIn
 rw[ho]
 simp only
 rw[if_pos (by unfold Region.wanted;rw[hg])]
 refine⟨fun _ _=>trivial,?_⟩
 rw[Fence.inRound_round,Oper.semAt_eq _ _ _ (fun c e=>by rw[hop]at e;cases e)]
 have hr:(execOp a.eval o).run P w= .ok (.round l fn tmps assign body) w:=by
  simp[execOp,hop,resolve,hx,Deferred.ofValue,invoke,h1]
 rw[hr]
 refine⟨fun h=>by simp[Fence.wide]at h,RoundIn.mono h2 fun e w' he=>?_⟩
 obtain⟨v,rfl,hq⟩:=hR e w' he
 exact hq
theorem CD{o:Oper}{a:Act}{w:World}{x:Operand}{ty:TypeId}{q:Bool}(ho:o.op= .unOp .not ty x)(hx:a.eval x= .bool q):(execOp a.eval o).run P w= .ok (.value (.bool (!q))) w:=by
 simp only[execOp,ho,hx,Op.unary,Sem.run_bind,Sem.run_pure,Result.andThen_ok]
theorem AW{o:Oper}{a:Act}{w:World}{x:Operand}{ty:TypeId}{b:Nat}{c:Value}(ho:o.op= .load ty x)(hk:qV P ty=some none)(hx:a.eval x= .pointer (some ⟨b,0,none⟩))(hc:w.cell? ⟨b,0,none⟩=some c):(execOp a.eval o).run P w= .ok (.value c) w:=by
 have h:=je (P:=P) hk hc
 simp only[execOp,ho,hx,Sem.run_bind,h,Result.andThen_ok,Sem.run_pure]
theorem uD{o:Oper}{a:Act}{w:World}{x:Operand}(ho:o.op= .assign x):(execOp a.eval o).run P w= .ok (.value (a.eval x)) w:=by
 simp only[execOp,ho,Sem.run_pure]
theorem Sat.other{F:Nat→Prop}{base:Nat}{σ:cd}{E:Env}{w w':World}{l:Nat}{r:Loop}(hl:w.heap[l]? =some (.loop r))(hz:w'.heap.size=w.heap.size)(ho:∀k,k≠l→w'.heap[k]? =w.heap[k]?)(h:Sat F base σ E w):Sat F base σ E w':=by
 have hne:∀ {k:Nat} {o:Obj},w.heap[k]? =some o→(∀r,o≠ .loop r)→k≠l:=fun {k o} hk hr e=>by subst e;rw[hl]at hk;cases hk;exact hr _ rfl
 have hL:∀ {cs:List Value} {xs:List PV},aU E w cs xs→aU E w' cs xs:=fun hr=>⟨hr.1,fun i x u k1 k2=>(hr.2 i x u k1 k2).other hl hz ho⟩
 refine⟨by rw[hz];exact h.bl,fun b hb=>⟨by rw[hz];exact(h.fb b hb).1,(h.fb b hb).2⟩,h.len,h.mm,fun i blk hi=>?_,h.inj,h.gl.other hl ho⟩
 have hb:=h.blk i blk hi
 generalize E.at_ i=v at hb
 cases blk with
 |cells t xs=>
  obtain⟨b',cs,rfl,h1,h2,h3⟩:=hb
  exact⟨b',cs,rfl,h1,(ho b' (hne h2 (fun r e=>by cases e))).trans h2,hL h3⟩
 |row e size n xs=>
  obtain⟨cs,h1,h2⟩:=hb
  refine⟨cs,⟨h1.1,?_⟩,hL h2⟩
  rcases h1.2 with h|⟨g',cap,cur,rfl,k1,k2,k3⟩
  ·exact .inl h
  ·exact .inr ⟨g',cap,cur,rfl,k1,(ho g' (hne k2 (fun r e=>by cases e))).trans k2,k3⟩
 |mp kv=>
  obtain⟨r',es,ck,rfl,h1,h2,h3,h4⟩:=hb
  exact⟨r',es,ck,rfl,h1,(ho r' (hne h2 (fun r e=>by cases e))).trans h2,h3,hL h4⟩
theorem dQ.other{E:Env}{w w':World}{l:Nat}{r:Loop}(hl:w.heap[l]? =some (.loop r))(hz:w'.heap.size=w.heap.size)(ho:∀k,k≠l→w'.heap[k]? =w.heap[k]?){ρ:Operand→Value}{t:bZ}(h:dQ E w ρ t):dQ E w' ρ t:=fun k p hk=>(h k p hk).other hl hz ho
theorem zr{o:Oper}{a:Act}{w:World}{x:Operand}(ho:o.op= .move x):(execOp a.eval o).run P w= .ok (.value (a.eval x)) w:=by
 simp only[execOp,ho,Sem.run_pure]
theorem vy{o:Oper}{a:Act}{w:World}{op:BinOp}{x y:Operand}{ty tz:TypeId}{c b:Int}{v:Value}(ho:o.op= .binOp op ty x y tz)(hx:a.eval x= .int .i64 c)(hy:a.eval y= .int .i64 b)(hv:(binOp op ty (.int .i64 c) (.int .i64 b)).run P w= .ok v w):(execOp a.eval o).run P w= .ok (.value v) w:=by
 have hg:(eqGuard op ty x y (.int .i64 c) (.int .i64 b)).run P w= .ok () w:=by unfold eqGuard;split<;>rfl
 simp only[execOp,ho,hx,hy,Sem.run_bind,Sem.run_pure,Result.andThen_ok,hg,hv]
end
end PW
end Go.Proofs.YtnegbdpggideiaaGreatDoor
