/- Texts of the proof, part 13. -/
import Derived.Lib.AppendStr
import Derived.Lib.UnsafeStr
import Derived.Lib.Builder
import Derived.Shelf.Strings.Builder1
import Derived.Shelf.Strings.BuilderF
import Derived.Shelf.Strings.BuilderK
import Derived.Shelf.Strconv.Itoa0
import Derived.Shelf.Strconv.Itoa1
import Derived.Shelf.LaysM
import Derived.Shelf.Strconv.Itoa2
import Derived.Shelf.Strconv.Itoa3
import Derived.Test.YtnegbdpggideiaaGreatDoorProg
import Derived.Test.YtnegbdpggideiaaGreatDoorCardMLB12
set_option linter.unusedVariables false
set_option linter.unusedSimpArgs false
set_option maxRecDepth 10000
set_option maxHeartbeats 1000000
namespace Go.Proofs.YtnegbdpggideiaaGreatDoor
namespace PW
open Go.RowKit cE Mem Net fk
def Jz(P:Program)(ty:TypeId):Option (Nat×List Value):=match P.info? ty,P.underlying ty with
 |some it,some (.array _ e)=>match it.zero,P.info? e with
  |some z,some ie=>some (ie.size,z.cells.toList)
  |_,_=>none
 |_,_=>none
theorem yf{P:Program}{σ:cf}{t:bZ}{o:Oper}{ty s:TypeId}{parts:Array (Nat×Operand)}{zero:List Value}{ps:List (Nat×List PV)}{xs:List PV}(ho:o.op= .build ty parts)(hk:Jz P ty=some (s,zero))(hp:gT t parts.toList=some ps)
  (hf:jR (fun i=>some (i*s,s)) (zero.map .raw) ps=some xs):bh P σ t o (.agg xs):=by
 intro F base E ρ w hρ hS hT
 obtain⟨h1,h2⟩:=jU hρ hT parts.toList ps hp
 have hz:aW E w zero.toArray.toList (zero.map .raw):=⟨by simp,fun i x u k1 k2=>by
  simp only[List.getElem?_map,Option.map_eq_some_iff]at k2
  obtain⟨y,hy,rfl⟩:=k2
  simp only at k1
  rw[hy]at k1
  cases k1
  exact .raw _⟩
 obtain⟨cs,hc,hR⟩:=kU (fun i=>some (i*s,s)) _ ps zero.toArray _ xs hz h1 h2 hf
 have hb:P.built ty ((parts.map fun(i,x)=>(i,ρ x)).toList)=some cs:=by
  unfold Jz at hk
  split at hk
  ·rename_i it n e DB hu
   split at hk
   ·rename_i z ie hz' hie
    cases hk
    simp only[Program.built,DB,hu,hz',hie,Array.toList_map]
    simpa using hc
   ·cases hk
  ·cases hk
 have hrun:=run_build (P:=P) w ty (parts.map fun(i,x)=>(i,ρ x)) cs hb
 simp only[execOp,ho,Sem.run_bind,hrun,Result.andThen_ok,Sem.run_pure]
 exact bg (.agg cs xs (by have:=hR.1;rw[Array.length_toList]at this;exact this) (fun i x u k1 k2=>hR.2 i x u (by simpa using k1) k2))
theorem j8.HP{n:Nat}{xs ys:List PV}(hl:ys.length=xs.length)(h:∀(i:Nat) x y,xs[i]? =some x→ys[i]? =some y→j8 x y):j8 (.slice n xs) (.slice n ys):=fun E w v hv=>by
 cases hv with
 |b7=>
  have:ys=[]:=List.eq_nil_of_length_eq_zero hl
  subst this
  exact .b7
 |empty a c hc=>
  have:ys=[]:=List.eq_nil_of_length_eq_zero hl
  subst this
  exact .empty a c hc
 |slice b off _ c cs _ h0 h1 h2 hb hM hc hl2 hr=>
  exact .slice b off n c cs ys h0 h1 h2 hb hM hc (hl2.trans hl.symm) (fun i x u k1 k2=>by
   have hi:i<xs.length:=by rw[←hl];exact(List.getElem?_eq_some_iff.1 k2).1
   exact h i xs[i] u (by simp[hi]) k2 E w x (hr i x _ k1 (by simp[hi])))
def zt(T:ai)(n:Nat):dR:=⟨n,List.replicate T.nodes.toNat ⟨[],false,[]⟩,bH T n⟩
noncomputable def EZ(T:ai)(k x:Int)(n:Nat)(s:Int):dR:=if oo k x n=true then zt T n else fH T (ay T k x) s n
noncomputable def qt(T:ai)(k x:Int)(l:List Int)(m:Nat):List dR:=(List.range m).map fun n=>EZ T k x n (eO l n)
def Au(T:ai)(k x:Int)(l:List Int):Int:=if((ao T&&bW T k x)&&decide ((l.length:Int)=T.nodes))=true then(if fw T k x l=true then 0 else 7) else 1
noncomputable def Hc(e:Int)(L:List dR):PV:=.tuple [iw (if e=0 then L else []),num e]
theorem Dz{T:ai}{k x:Int}{l:List Int}{m:Nat}:qt T k x l (m+1)=qt T k x l m++[EZ T k x m (eO l m)]:=by simp[qt,List.range_succ]
theorem A0(n:Nat):(dv [.raw (.slice none 0 0),.raw (.bool false),.raw (.slice none 0 0)] n).length=(dw (List.replicate n ⟨[],false,[]⟩)).length∧∀(i:Nat) x y,(dv [.raw (.slice none 0 0),.raw (.bool false),.raw (.slice none 0 0)] n)[i]? =some x→(dw (List.replicate n ⟨[],false,[]⟩))[i]? =some y→j8 x y:=by
 induction n with
 |zero=>exact⟨rfl,fun i x y h=>by simp[dv]at h⟩
 |succ n ih=>
  refine⟨by simp only[dv,List.replicate_succ,dw,List.flatMap_cons,List.length_append]at ih ⊢;rw[ih.1];rfl,fun i x y h1 h2=>?_⟩
  simp only[dv,List.replicate_succ,dw,List.flatMap_cons]at h1 h2
  match i,h1,h2 with
  |0,h1,h2=>simp[kq]at h1 h2;subst h1 h2;exact .b7
  |1,h1,h2=>simp[kq]at h1 h2;subst h1 h2;exact j8.refl _
  |2,h1,h2=>simp[kq]at h1 h2;subst h1 h2;exact .b7
  |i+3,h1,h2=>exact ih.2 i x y (by simpa using h1) (by simpa[dw,kq]using h2)
theorem GF(T:ai)(n:Int)(X:dR)(h:Can Tryz.prog 67 [aN T,num n] (· = .tuple [fV X,num 0])):Can Tryz.prog 66 [num n,.aX (bw T) 0] (· = .tuple [fV X,num 0]):=by
 refine aG Tryz.func66 rfl Tryz.ntmps66 rfl<|aR<|au 2 rfl<|aH [0,1,3] rfl ?_
 refine aR<|au 2 rfl<|er rfl (h) rfl<|au 4 rfl<|aH [3,4] rfl ?_
 exact aq<|⟨_,_,az.of rfl,aC.pure (p:=.tuple [fV X,num 0]),rfl⟩
theorem Ge(T:ai)(k x n:Int)(X:dR)(h:Can Tryz.prog 55 [aN T,bS k x,num n] (· = .tuple [fV X,num 0])):Can Tryz.prog 68 [num n,.aX (bw T) 0,.aX (cn k x) 0] (· = .tuple [fV X,num 0]):=by
 refine aG Tryz.func68 rfl Tryz.ntmps68 rfl<|aR<|au 2 rfl<|aH [0,1,2,4] rfl ?_
 refine aR<|au 3 rfl<|er rfl (h) rfl<|au 4 rfl<|aH [4,5] rfl ?_
 exact aq<|⟨_,_,az.of rfl,aC.pure (p:=.tuple [fV X,num 0]),rfl⟩
theorem Gg(T:ai)(k x n:Int)(X:dR)(h:Can Tryz.prog 70 [aN T,bS k x,num n] (· = .tuple [fV X,num 0])):Can Tryz.prog 69 [num n,.aX (bw T) 0,.aX (cn k x) 0] (· = .tuple [fV X,num 0]):=by
 refine aG Tryz.func69 rfl Tryz.ntmps69 rfl<|aR<|au 2 rfl<|aH [0,1,2,4] rfl ?_
 refine aR<|au 3 rfl<|er rfl (h) rfl<|au 4 rfl<|aH [4,5] rfl ?_
 exact aq<|⟨_,_,az.of rfl,aC.pure (p:=.tuple [fV X,num 0]),rfl⟩
theorem F6(T:ai)(k x n:Int)(X:dR)(h:Can Tryz.prog 72 [aN T,bS k x,num n] (· = .tuple [fV X,num 0])):Can Tryz.prog 71 [num n,.aX (bw T) 0,.aX (cn k x) 0] (· = .tuple [fV X,num 0]):=by
 refine aG Tryz.func71 rfl Tryz.ntmps71 rfl<|aR<|au 2 rfl<|aH [0,1,2,4] rfl ?_
 refine aR<|au 3 rfl<|er rfl (h) rfl<|au 4 rfl<|aH [4,5] rfl ?_
 exact aq<|⟨_,_,az.of rfl,aC.pure (p:=.tuple [fV X,num 0]),rfl⟩
theorem lO(x:dR):jB 0 x= .tuple [fV x,num 0]:=rfl
theorem HU(T:ai)(k x:Int)(h12:T.nodes≤12)(hvc:(ao T&&bW T k x)=true){i:Nat}(hi:(i:Int)<T.nodes){s:Int}(hs:pH s=true){FS:List PV}(hFS:[.func 66 [.aX (bw T) 0],.func 68 [.aX (bw T) 0,.aX (cn k x) 0],.func 69 [.aX (bw T) 0,.aX (cn k x) 0],.func 71 [.aX (bw T) 0,.aX (cn k x) 0]]=FS):
  ∃f cap,FS[s.toNat]? =some (.func f cap)∧enters Tryz.prog f=true∧Can Tryz.prog f ([num i]++cap) (· = .tuple [fV (fH T (ay T k x) s i),num 0])∧aJ ([num i]++cap):=by
 have hv:=(Bool.and_eq_true_iff.1 hvc).1
 have hme:dM T k x=0:=by unfold dM;rw[if_pos hvc]
 have hn:bn T i=true:=by rw[aU];omega
 have htr:jZ T k x i=0:=by unfold jZ;rw[if_pos hme,if_pos hn]
 have hch:cw T [] [(i:Int)]=0:=by
  unfold cw
  rw[hv]
  simp[bP,hn]
 subst hFS
 obtain⟨h0,h3⟩:=Bool.and_eq_true_iff.1 hs
 have h0:=of_decide_eq_true h0
 have h3:=of_decide_eq_true h3
 have h1:=B9 T i
 rw[hch,lO,Int.toNat_natCast]at h1
 have h2:=A8 T k x i h12
 rw[if_pos hme,if_pos hn,lO,Int.toNat_natCast]at h2
 have h4:=Ek T k x i h12
 rw[htr,lO,Int.toNat_natCast]at h4
 have h5:=Dw T k x i
 rw[htr,lO,Int.toNat_natCast]at h5
 rcases(by omega:s=0∨s=1∨s=2∨s=3)with e|e|e|e
 ·subst e
  exact⟨_,_,rfl,by kernel_rfl,GF T i _ h1,by infer_instance⟩
 ·subst e
  exact⟨_,_,rfl,by kernel_rfl,Ge T k x i _ h2,by infer_instance⟩
 ·subst e
  exact⟨_,_,rfl,by kernel_rfl,Gg T k x i _ h4,by infer_instance⟩
 ·subst e
  exact⟨_,_,rfl,by kernel_rfl,F6 T k x i _ h5,by infer_instance⟩
theorem Kj:Jz Tryz.prog 100=some (1,[.nilFunc,.nilFunc,.nilFunc,.nilFunc]):=by kernel_rfl
theorem uG{T:ai}{k x:Int}{l:List Int}{m:Nat}:(qt T k x l m).length=m:=by simp[qt]
set_option maxHeartbeats 4000000 in
theorem As(T:ai)(k x:Int)(l:List Int)(hl:l.length≤1000)(h12:T.nodes≤12):Can Tryz.prog 20 [aN T,bS k x,aw l] (· =Hc (Au T k x l) (qt T k x l l.length)):=by
  obtain⟨q1,hq1⟩:∃q,(ao T&&bW T k x)=q:=⟨_,rfl⟩
  obtain⟨q2,hq2⟩:∃q,decide ((l.length:Int)≠T.nodes)=q:=⟨_,rfl⟩
  obtain⟨q3,hq3⟩:∃q,fw T k x l=q:=⟨_,rfl⟩
  have hE:Au T k x l=if(q1&& !q2)=true then(if q3=true then 0 else 7) else 1:=by
    unfold Au
    rw[hq1,hq3,←hq2]
    simp
  rw[hE]
  refine aG Tryz.func20 rfl Tryz.ntmps20 rfl<|ab (.a 4 rfl<|.k [2,3,4] rfl)<|ak<|bu 23 (.raw (.bool (!q1 ||q2))) [2,3,4] rfl ?_ ?_
  · refine .a 2 rfl<|.c rfl (hq1▸yr T k x) rfl<|.a 2 rfl<|?_
    cases q1
    · exact .a 6 rfl<|.k [23,2,3,4] rfl
    · exact .a 4 rfl<|.v (cg rfl (hq2)) rfl<|.a 1 rfl<|.k [23,2,3,4] rfl
  refine ah rfl (fun hc=>?_) (fun hc=>?_)
  · have hno:(q1&& !q2)=false:=by cases q1<;>cases q2<;>simp_all
    exact ab (.a 2 rfl<|.k [6,7] rfl)<|aq<|⟨_,_,az.of rfl,aC.bz (an.cons aC.b7 (an.cons aC.pure an.nil)),by rw[hno];rfl⟩
  · obtain ⟨h1, rfl⟩ := Bool.or_eq_false_iff.1 hc
    have h1:q1=true:=by simpa using h1
    subst h1
    have hln:(l.length:Int)=T.nodes:=by have:=ff hq2;simpa using this
    refine aj<|ak<|ab (.a 3 rfl<|.c rfl (hq3▸lI T k x l hl) rfl<|.a 1 rfl<|.k [2,3,4,28] rfl)<|ah rfl (fun hc=>?_) (fun hc=>?_)
    · have h3:q3=false:=by simpa using hc
      subst h3
      exact ab (.a 2 rfl<|.k [6,7] rfl)<|aq<|⟨_,_,az.of rfl,aC.bz (an.cons aC.b7 (an.cons aC.pure an.nil)),rfl⟩
    · have h3:q3=true:=by simpa using hc
      subst h3
      have hv:=(Bool.and_eq_true_iff.1 hq1).1
      have hll:=bO hv
      have hP1:dA k x (fun n=>pH (eO l n)) l.length=true:=by
        have h:=hq3
        unfold fw at h
        split at h
        · exact(Bool.and_eq_true_iff.1 h).1
        · cases h
      refine aj<|aR<|au 4 rfl<|bE (yf rfl Kj rfl rfl) rfl<|au 2 rfl<|aH [2,3,4,8] rfl ?_
      refine fT 8 0 0 rfl rfl ?_
      refine dp [] (.c 2<|.c 3<|.c 4<|.c 8<|.nil) .nil rfl rfl ?_
      obtain⟨FS,hFS⟩:∃z:List PV,[.func 66 [.aX (bw T) 0],.func 68 [.aX (bw T) 0,.aX (cn k x) 0],.func 69 [.aX (bw T) 0,.aX (cn k x) 0],.func 71 [.aX (bw T) 0,.aX (cn k x) 0]]=z:=⟨_,rfl⟩
      have hFp:aJ FS:=by rw[←hFS];infer_instance
      rw[hFS]
      refine ab (.a 1 rfl<|.k [2,3,4,8,9] rfl)<|gM 9 56 3 rfl ?_
      refine ak<|ab (.a 3 rfl<|.k [3,4,8,9,34,35,36] rfl)<|av<|fp [3,4,8,9,34,35,36] rfl<|bq (fun r s=>∃i,i≤l.length∧r=l.length - i∧s=⟨[(3,.aX (bw T) 0),(4,.aX (cn k x) 0),(8,.aX FS 0),(9,.own 0),(34,aw l),(35,num l.length),(36,num i)],[some (.row 56 3 i (mD (qt T k x l i)))]⟩) l.length ⟨0,by omega,by omega,rfl⟩ ?_
      rintro r s ⟨i,hi,rfl,rfl⟩
      refine ab (.a 1 rfl<|.k [3,4,8,9,34,35,36,37] rfl)<|ak<|ah rfl (fun hc=>?_) (fun hc=>?_)
      · have hlt:i<l.length:=by have:=tt hc;omega
        have hil:(i:Int)<T.nodes:=by omega
        obtain⟨N,hN⟩:∃N:Nat,T.nodes=(N:Int):=⟨T.nodes.toNat,by omega⟩
        obtain⟨s,hs⟩:∃s,eO l i=s:=⟨_,rfl⟩
        have hsl:l.getD i 0=s:=hs
        obtain⟨g,hg⟩:∃g,oo k x i=g:=⟨_,rfl⟩
        have hX:qt T k x l (i+1)=qt T k x l i++[EZ T k x i s]:=by rw[Dz,hs]
        have hXg:EZ T k x i s=if g=true then zt T i else fH T (ay T k x) s i:=by unfold EZ;rw[hg]
        have hmL:(qt T k x l i).length=i:=uG
        obtain⟨L,hL⟩:∃L,qt T k x l i=L:=⟨_,rfl⟩
        obtain⟨X,hXX⟩:∃X,EZ T k x i s=X:=⟨_,rfl⟩
        rw[hL,hXX]at hX
        rw[hL]at hmL ⊢
        rw[hXX]at hXg
        refine aj<|ak<|av<|ab (.a 1 rfl<|.v (aM (i) rfl) rfl<|.v (aO rfl ((aA l i hlt).trans (by rw[hsl]))) rfl<|.a 2 rfl<|.k [3,4,8,9,10,11,34,35,36] rfl)<|aR<|au 2 rfl<|bE (aO rfl ((show some (num T.nodes)=some (num (N:Int)) by rw[hN]))) rfl<|cz (dz rfl (bL.rk.get rfl) rfl rfl (rfl:(N:Int)=(N:Int)) (rfl:(N:Int)=(N:Int)) ⟨by unfold maxLen;omega,by omega⟩) rfl<|au 3 rfl<|aH [3,4,8,9,10,11,12,34,35,36] rfl ?_
        refine wD 1 (σ':=[some (.row 56 3 i (mD L)),none,some (.cells 56 [num i,.slice N (dv [.raw (.slice none 0 0),.raw (.bool false),.raw (.slice none 0 0)] N),.raw (.slice none 0 0)])]) (t':=[(3,.aX (bw T) 0),(4,.aX (cn k x) 0),(8,.aX FS 0),(9,.own 0),(10,num i),(11,num s),(12,.ptr 2 0),(34,aw l),(35,num l.length),(36,num i)]) (blk:=.row 76 3 N (dv [.raw (.slice none 0 0),.raw (.bool false),.raw (.slice none 0 0)] N)) rfl ⟨rfl,rfl,fun j hj=>by
          match j,hj with
          |0,_=>exact .inl rfl
          |1,h=>exact absurd rfl h
          |2,_=>exact .inr ⟨_,_,rfl,rfl,.cells (.cons (.same _)<|.cons .own<|.cons (.same _) .nil)⟩
          |_+3,_=>exact .inl rfl⟩ (.cons 3 rfl (.same _)<|.cons 4 rfl (.same _)<|.cons 8 rfl (.same _)<|.cons 9 rfl (.same _)<|.cons 10 rfl (.same _)<|.cons 11 rfl (.same _)<|.cons 12 rfl (.same _)<|.cons 34 rfl (.same _)<|.cons 35 rfl (.same _)<|.cons 36 rfl (.same _) .nil) ?_
        refine ak<|ab (.a 2 rfl<|.c rfl (hg▸sd k x i) rfl<|.k [3,4,8,9,10,11,12,34,35,36,48] rfl)<|ah rfl (fun hc=>?_) (fun hc=>?_)
        · subst hc
          rw[if_pos rfl]at hXg
          have hle:j8 (.agg [num i,.slice N (dv [.raw (.slice none 0 0),.raw (.bool false),.raw (.slice none 0 0)] N),aw (bH T i)]) (fV X):=by
            rw[hXg]
            have hz:=A0 N
            have hTN:T.nodes.toNat=N:=by omega
            refine j8.ja ⟨rfl,fun j a b h1 h2=>?_⟩
            match j,h1,h2 with
            |0,h1,h2=>cases h1;cases h2;exact j8.refl _
            |1,h1,h2=>
              cases h1;cases h2
              show j8 (.slice N _) (.slice (List.replicate T.nodes.toNat (⟨[],false,[]⟩:iE)).length (dw (List.replicate T.nodes.toNat ⟨[],false,[]⟩)))
              rw[List.length_replicate,hTN]
              exact j8.HP hz.1.symm hz.2
            |2,h1,h2=>cases h1;cases h2;exact j8.refl _
            |j+3,h1,h2=>exact absurd h1 (by simp)
          refine bI<|au 2 rfl<|er rfl (nU T hll _) rfl<|au 2 rfl<|aH [3,4,8,9,12,34,35,36] rfl ?_
          refine bI<|au 1 rfl<|bE (FR (gh rfl (bL.tk.get rfl) rfl rfl rfl) hle) rfl<|au 1 rfl<|cz (bA rfl (bL.rk.get rfl) rfl rfl rfl rfl (by unfold maxLen;omega)) rfl<|au 1 rfl<|aH [3,4,8,9,34,35,36] rfl ?_
          refine dp [3] (.c 3<|.c 4<|.c 8<|.cons 9 rfl (.own (i:=0) (j:=3) rfl)<|.c 34<|.c 35<|.c 36<|.nil) (.kept rfl (.row aE.pure) .nil) rfl rfl ?_
          refine aB (.v (aT rfl) rfl<|.a 1 rfl<|.k [3,4,8,9,34,35,36] rfl) ?_
          exact⟨l.length - (i+1),by omega,i+1,by omega,rfl,by rw[hX,←p6];rfl⟩
        · subst hc
          have hle:j8 (fV X) (fV X):=j8.refl _
          rw[if_neg (by decide)]at hXg
          have hos:pH s=true:=by
            rw[←hs]
            exact jM.1 hP1 i hlt hg
          obtain⟨f,cap,r1,r2,r3,r4⟩:=HU T k x h12 hq1 hil hos hFS
          rw[←hXg]at r3
          obtain⟨hs0,hs3⟩:0≤s∧s<4:=by
            obtain⟨h0,h3⟩:=Bool.and_eq_true_iff.1 hos
            have h0:=of_decide_eq_true h0
            have h3:=of_decide_eq_true h3
            omega
          refine bI<|au 1 rfl<|bE (mB rfl (bL.ar.get rfl) rfl rfl hs0 hs3 (j:=s.toNat) (Nat.mul_one _)) rfl<|bE (aO rfl ((show FS[0+s.toNat]? =_ by rw[Nat.zero_add];exact r1))) rfl<|au 1 rfl<|bE (qi rfl r2 rfl rfl r3) rfl<|au 4 rfl<|aH [3,4,8,9,12,34,35,36] rfl ?_
          refine bI<|au 1 rfl<|bE (FR (gh rfl (bL.tk.get rfl) rfl rfl rfl) hle) rfl<|au 1 rfl<|cz (bA rfl (bL.rk.get rfl) rfl rfl rfl rfl (by unfold maxLen;omega)) rfl<|au 1 rfl<|aH [3,4,8,9,34,35,36] rfl ?_
          refine dp [3] (.c 3<|.c 4<|.c 8<|.cons 9 rfl (.own (i:=0) (j:=3) rfl)<|.c 34<|.c 35<|.c 36<|.nil) (.kept rfl (.row aE.pure) .nil) rfl rfl ?_
          refine aB (.v (aT rfl) rfl<|.a 1 rfl<|.k [3,4,8,9,34,35,36] rfl) ?_
          exact⟨l.length - (i+1),by omega,i+1,by omega,rfl,by rw[hX,←p6];rfl⟩
      · have hie:i=l.length:=by have:=ff hc;omega
        subst hie
        exact bf<|ab (.a 3 rfl<|.k [6,7] rfl)<|aq<|⟨_,_,az.of rfl,aC.bz (an.cons (aC.fu rfl an.pure) (an.cons aC.pure an.nil)),by show PV.tuple [.slice l.length (mD (qt T k x l l.length)),num 0]= .tuple [iw (qt T k x l l.length),num 0];unfold iw;rw[uG]⟩
end PW
end Go.Proofs.YtnegbdpggideiaaGreatDoor
namespace Go.Proofs.YtnegbdpggideiaaGreatDoor
namespace PW
open Go.RowKit cE Mem
section
variable {P:Program} {σ:cf} {t:bZ} {o:Oper}
def dY(l:List UInt8):List PV:=l.map fun b=>.raw (.int .u8 b.toNat)
instance (l:List UInt8):aJ (dY l):=aJ.map _ _ fun _=>inferInstance
instance (l:List UInt8):ct (dY l):=ct.map _ _ fun _=>inferInstance
theorem jy(a b:List UInt8):dY a++dY b=dY (a++b):=by simp[dY]
theorem nt{w:World}(base:Nat)(t u ty e:TypeId)(i:TypeInfo)(ht:P.underlying t=some (.slice e))(hu:P.underlying u=some .string)(hi:P.info? e=some i)(hz:i.zero=some (.int .u8 0))
  (hsize:i.size=1) (hby:i.bytes=1) (v:Value) (n:Nat) (xs:List Value) (hown:w.ownsRow base e 1 v n xs) (s:ByteArray)
  (h63:n+s.size≤maxLen) (hbytes:n+s.size≤140737488355328) (hbase:base≤w.heap.size):
  ∃v' w',(Builtin.append_ #[t,u] ty #[v,.string s]).run P w= .ok v' w'∧w'.ownsRow base e 1 v' (n+s.size) (xs++Lib.strCells s)∧w.grownBy w' v.ownBlock∧(v'.ownBlock=v.ownBlock∨v'.ownBlock=some w.heap.size):=by
 obtain⟨v',w',hr,h2,h3,h4⟩:=Lib.run_append_own_string (P:=P) w base t u ty e i ht hu hi hz hsize hby v n xs hown s h63 hbytes hbase
 refine⟨v',w',hr,h2,h3,?_⟩
 have hsmall:n+s.size≤9223372036854775807:=by simp only[maxLen]at h63;omega
 rcases hown.2 with⟨rfl,rfl⟩|⟨g,cap,cur,rfl,hbg,hg,hnc,hcm,hcs,htake⟩
 ·by_cases hm:s.size=0
  ·rw[h4.2 ⟨rfl,hm⟩];exact .inl rfl
  ·have hr':=run_append_nil_string (P:=P) w t u ty e i (.int .u8 0) ht hu hi hz s (by omega) (by omega) (by rw[hby];omega)
   rw[hr']at hr
   cases hr
   exact .inr rfl
 ·by_cases hroom:n+s.size≤cap
  ·have hr':=Lib.run_append_room_string (P:=P) w t u ty e i ht hu hi hsize g n cap cur hg s hroom (by rw[hcs];omega)
   rw[hr']at hr
   cases hr
   exact .inl rfl
  ·have holds:∀(j:Nat) u,xs[j]? =some u→w.cell? ((⟨g,0,none⟩:Addr).add j)=some u:=hown.cells (g:=g) rfl
   have hr':=Lib.run_append_grow_string (P:=P) w t u ty e i (.int .u8 0) ht hu hi hz ⟨g,0,none⟩ n cap xs (by rw[hsize];exact hown.1) holds s (by omega) (by omega) (growslice_fits (by omega) (by rw[hby];omega))
   rw[hr']at hr
   cases hr
   exact .inr rfl
def za(P:Program)(ty sy:TypeId):Option TypeId:=
 match P.underlying ty,P.underlying sy with
 |some (.slice e),some .string=>match P.info? e with
  |some i=>match i.zero with
   |some (.int .u8 0)=>bif Nat.beq i.size 1&&Nat.beq i.bytes 1 then some e else none
   |_=>none
  |none=>none
 |_,_=>none
theorem xX{ty sy e:TypeId}(h:za P ty sy=some e):P.underlying ty=some (.slice e)∧P.underlying sy=some .string∧∃i,P.info? e=some i∧i.zero=some (.int .u8 0)∧i.size=1∧i.bytes=1:=by
 unfold za at h
 split at h
 ·rename_i e' h1 h2
  split at h
  ·rename_i i hi
   split at h
   ·rename_i hz
    rw[Bool.cond_eq_ite]at h
    split at h
    ·rename_i hb
     cases h
     obtain⟨b1,b2⟩:=Bool.and_eq_true_iff.1 hb
     exact⟨h1,h2,i,hi,hz,Nat.eq_of_beq_eq_true b1,Nat.eq_of_beq_eq_true b2⟩
    ·cases h
   ·cases h
  ·cases h
 ·cases h
theorem px{ty sy e n i:Nat}{xs:List PV}{x y:Operand}{s:ByteArray}(ho:o.op= .call {callee:=.builtin .append,args:= #[x,y],argTypes:= #[ty,sy]})(hk:za P ty sy=some e)(hx:aD t x=some (.own i))(hi:σ[i]? =some (some (.row e 1 n xs)))
  (hy:aD t y=some (.raw (.string s))) (hn:n+s.size≤140737488355328):
  cI P σ t o (.own σ.length) (σ.set i none++[some (.row e 1 (n+s.size) (xs++dY s.data.toList))]):=by
 intro F base E ρ w hρ hS hT
 have h1:=ax hρ hT hx
 have h2:=ax hρ hT hy
 generalize hz1:ρ x=v at h1
 generalize hz2:ρ y=u at h2
 cases h2
 obtain⟨hu,hu2,inf,hinf,hz,hs,hby⟩:=xX hk
 cases h1 with
 |own _ hiL _ hat hone=>
  obtain⟨cs,k1,k2⟩:=hS.blk i _ hi
  rw[hat]at k1
  have hob:bp (E.at_ i)=v.ownBlock:=by rw[hat];exact fQ k1
  obtain⟨v',w',hrun,hown,hg,hw⟩:=nt (P:=P) (w:=w) base ty sy o.type e inf hu hu2 hinf hz hs hby v n cs k1 s (by unfold maxLen;omega) hn hS.bl
  have hr:(execOp ρ o).run P w= .ok (.value v') w':=by
   simp only[execOp,ho,resolve,invoke,builtin,Sem.run_bind,Sem.run_pure,Result.andThen_ok,List.map_toArray,List.map_cons,List.map_nil,hz1,hz2,hrun]
  have hnw:aW E w (Lib.strCells s) (dY s.data.toList):=by
   refine⟨by simp[Lib.strCells,dY],fun j c u h1 h2=>?_⟩
   simp only[Lib.strCells,dY,List.getElem?_map,Option.map_eq_some_iff]at h1 h2
   obtain⟨b,hb,rfl⟩:=h1
   obtain⟨b',hb',rfl⟩:=h2
   rw[hb]at hb'
   cases hb'
   exact .raw _
  have hv':∀b,bp v'=some b→bp (E.at_ i)=some b∨w.heap.size≤b:=fun b hb=>by
   rw[fQ hown]at hb
   rcases hw with h|h
   ·rw[hob,←h];exact .inl hb
   ·rw[h]at hb;cases hb;exact .inr (Nat.le_refl _)
  obtain⟨a1,a2⟩:=hS.swap (w':=w') (blk:=.row e 1 (n+s.size) (xs++dY s.data.toList)) hi hg.size (fun k hk hne=>hg.block k hk (by rw[←hob];exact Ne.symm hne)) hv' (fun E' g=>⟨cs++Lib.strCells s,hown,(k2.append hnw).goes g⟩)
  refine⟨v',w',_,.inl hr,a1,a2,⟨hg.os,hg.tape,hg.output,hg.size,fun k hk=>hg.block k (Nat.lt_of_lt_of_le hk hS.bl) (fun e=>?_)⟩,.own σ.length (by simp[Env.push,Env.kill,hS.len]) v' (by simp[Env.push,Env.kill,hS.len]) ?_⟩
  ·have:=(k1.lt k e.symm).1;omega
  ·rcases hown.2 with⟨rfl,_⟩|⟨g',cap,cur,rfl,_⟩<;>rfl
theorem Sat.drop{F:Nat→Prop}{base:Nat}{E:Env}{w w':World}(hS:Sat F base σ E w){j g:Nat}{bj:cU}(hj:σ[j]? =some (some bj))(hb:bp (E.at_ j)=some g)(hs:w.heap.size≤w'.heap.size)(ho:∀k,k<w.heap.size→k≠g→w'.heap[k]? =w.heap[k]?):
  Sat F base (σ.set j none) (E.kill j) w'∧cP E w (E.kill j) w':=by
 have hgM:E.M g:=(hS.mm g).2 (.inr ⟨j,bj,hj,hb⟩)
 obtain⟨k1,_⟩:=hS.kill j hj
 have g':cP E w (E.kill j) w':=⟨Nat.le_refl _,fun _ _=>rfl,fun b _ hM h=>hM h.1,hs,fun k hk hM=>ho k hk (fun e=>hM (by rw[e];exact hgM))⟩
 refine⟨⟨Nat.le_trans hS.bl hs,fun b hb'=>⟨Nat.lt_of_lt_of_le (k1.fb b hb').1 hs,(k1.fb b hb').2⟩,k1.len,k1.mm,fun i bl hi=>?_,k1.inj,hS.gl.goes g'⟩,g'⟩
 obtain⟨hne,h3⟩:=gY hi
 exact(hS.blk i bl h3).goes g' (fun k hk=>ho k ((hS.blk i bl h3).lt hk).2 (fun e=>hne (hS.inj i j bl bj g h3 hj (by rw[←e];exact hk) hb)))
theorem vN{ty:TypeId}{x:Operand}{s:ByteArray}(ho:o.op= .call {callee:=.builtin .len,args:= #[x],argTypes:= #[ty]})(hu:P.underlying ty=some .string)(hx:aD t x=some (.raw (.string s))):bh P σ t o (.raw (.int .i64 s.size)):=by
 intro F base E ρ w hρ _ hT
 have h1:=ax hρ hT hx
 generalize hz:ρ x=z at h1
 cases h1
 simp[execOp,ho,resolve,invoke,builtin,Builtin.len_,hz,run_underlying hu,goInt]
 exact bg (.raw _)
theorem wv{ty:TypeId}{x:Operand}{j e s n:Nat}{xs:List PV}(ho:o.op= .call {callee:=.builtin .unsafeSliceData,args:= #[x],argTypes:= #[ty]})(hx:aD t x=some (.own j))(hj:σ[j]? =some (some (.row e s n xs)))(hn:0<n):bh P σ t o (.ptr j 0):=by
 intro F base E ρ w hρ hS hT
 have h1:=ax hρ hT hx
 generalize hz:ρ x=z at h1
 cases h1 with
 |own _ hi _ h hone=>
  obtain⟨cs,k1,_⟩:=hS.blk j _ hj
  rw[h]at k1
  rcases k1.2 with⟨_,h0⟩|⟨g,cap,cur,hv,_,_,hnc,_⟩
  ·omega
  ·subst hv
   have:=Lib.run_unsafeSliceData_row (P:=P) w #[ty] o.type ⟨g,0,none⟩ n cap (by omega)
   simp only[execOp,ho,resolve,invoke,builtin,Sem.run_bind,Sem.run_pure,Result.andThen_ok,List.map_toArray,List.map_cons,List.map_nil,hz,this]
   exact bg (.ptr j 0 g hi (.inr ⟨n,cap,h⟩))
theorem wL{pt it:TypeId}{x y:Operand}{j e:Nat}{l:List UInt8}(ho:o.op= .call {callee:=.builtin .unsafeString,args:= #[x,y],argTypes:= #[pt,it]})(hp:P.underlying pt=some (.pointer e))(hc:P.cellsOf e=1)(hx:aD t x=some (.ptr j 0))(hy:aD t y=some (.raw (.int .i64 l.length)))(hj:σ[j]? =some (some (.row e 1 l.length (dY l))))(hl:0<l.length):
  cI P σ t o (.raw (.string ⟨l.toArray⟩)) (σ.set j none):=by
 intro F base E ρ w hρ hS hT
 have h1:=ax hρ hT hx
 have h2:=ax hρ hT hy
 generalize hz:ρ x=z at h1
 generalize hz':ρ y=z' at h2
 cases h2
 cases h1 with
 |ptr _ _ b hi h=>
  obtain⟨cs,k1,k2⟩:=hS.blk j _ hj
  have hcs:cs=Lib.byteCells l:=by
   apply List.ext_getElem?
   intro i
   by_cases hi':i<l.length
   ·have h3:=k2.2 i (cs[i]'(by rw[k2.1];simpa[dY]using hi')) (.raw (.int .u8 (l[i]).toNat)) (by simp) (by simp[dY,hi'])
    have h4:cs[i]'(by rw[k2.1];simpa[dY]using hi')= .int .u8 (l[i]).toNat:=by
     generalize cs[i]'(by rw[k2.1];simpa[dY]using hi')=q at h3
     cases h3;rfl
    rw[List.getElem?_eq_getElem (by rw[k2.1];simpa[dY]using hi'),h4]
    simp[Lib.byteCells,hi']
   ·rw[List.getElem?_eq_none (by rw[k2.1];simp[dY];omega),List.getElem?_eq_none (by simp[Lib.byteCells];omega)]
  subst hcs
  have k3:=k1
  rcases k1.2 with⟨hv,h0⟩|⟨g,cap,cur,hv,hbg,hg,hnc,hcm,hsz,htk⟩
  ·omega
  ·have hbeq:b=g:=by
    rcases h with h|⟨n,c,h⟩
    ·rw[hv]at h;cases h
    ·rw[hv]at h;cases h;rfl
   subst hbeq
   have hblk:bp (E.at_ j)=some b:=by rw[hv];rfl
   have hrun:=Lib.run_unsafeString_row (P:=P) w pt it o.type e hp hc b cur.size (by simp[World.shape?,hg]) l (by intro e';rw[e']at hl;simp at hl) (by omega) (by unfold maxLen at hcm;omega) (fun i x hx'=>k3.cells (g:=b) (by rw[hv];rfl) i (.int .u8 x.toNat) (by simp[Lib.byteCells,hx']))
   have hr:(execOp ρ o).run P w= .ok (.value (.string ⟨l.toArray⟩)) (w.freeze ⟨b,0,none⟩ l.length):=by
    simp only[execOp,ho,resolve,invoke,builtin,Sem.run_bind,Sem.run_pure,Result.andThen_ok,List.map_toArray,List.map_cons,List.map_nil,hz,hz',hrun]
   have hfz:∀k,k≠b→(w.freeze ⟨b,0,none⟩ l.length).heap[k]? =w.heap[k]? :=fun k hk=>by
    unfold World.freeze
    split
    ·rfl
    ·simp only[Array.getElem?_modify]
     rw[if_neg (Ne.symm hk)]
   have hsz':w.heap.size≤(w.freeze ⟨b,0,none⟩ l.length).heap.size:=by
    unfold World.freeze
    split<;>simp
   obtain⟨a1,a2⟩:=Sat.drop (w':=w.freeze ⟨b,0,none⟩ l.length) hS hj hblk hsz' (fun k _ hk=>hfz k hk)
   exact⟨_,_,_,.inl hr,a1,a2,Lib.below_freeze (Below.refl base w) (p:=⟨b,0,none⟩) hbg _,.raw _⟩
theorem D1{x y:Operand}{ty tz:TypeId}(ho:o.op= .binOp .eql ty x y tz)(hk:oY P ty=true)(hx:aD t x=some (.raw (.pointer none)))(hy:aD t y=some (.raw (.pointer none))):bh P σ t o (.raw (.bool true)):=by
 refine u6 ho hx hy fun w=>?_
 unfold oY at hk
 split at hk
 ·rename_i e hu
  have key:∀d,(Op.equalIn (d+1) ty (.pointer none) (.pointer none)).run P w= .ok true w:=fun d=>by
   simp only[Op.equalIn,Sem.run_bind,run_underlying hu,Result.andThen_ok,Sem.run_pure,Option.isNone_none]
  have:=key 9999
  simp only[Nat.reduceAdd]at this
  simp[eqGuard,binOp,Op.equal,Op.maxDepth,this]
 ·cases hk
theorem sO{x y:Operand}{ty te tz:TypeId}{i k:Nat}{ji:TypeInfo}(ho:o.op= .binOp .neq ty x y tz)(hp:P.underlying ty=some (.pointer te))(hte:P.info? te=some ji)(hx:aD t x=some (.ptr i k))(hy:aD t y=some (.ptr i k)):bh P σ t o (.raw (.bool false)):=by
 intro F base E ρ w hρ hS hT
 have h1:=ax hρ hT hx
 have h2:=ax hρ hT hy
 have he:ρ x=ρ y:=su.JS E w _ _ h1 h2
 generalize hz:ρ x=z at h1
 have hz':ρ y=z:=by rw[←he,hz]
 cases h1 with
 |ptr _ _ b hi h=>
  have hb:=Lib.run_neq_ptr_same (P:=P) w ⟨b,k,none⟩ hp hte
  have hr:(execOp ρ o).run P w= .ok (.value (.bool false)) w:=by
   simp only[execOp,ho,hz,hz',Sem.run_bind,Sem.run_pure]
   have hg:(eqGuard .neq ty x y (.pointer (some ⟨b,k,none⟩)) (.pointer (some ⟨b,k,none⟩))).run P w= .ok () w:=rfl
   rw[hg]
   simp only[Result.andThen_ok,hb]
  rw[hr]
  exact bg (.raw _)
theorem yv{src dst te ty:TypeId}{x:Operand}{i:Nat}{ji:TypeInfo}{xs:List PV}(ho:o.op= .convert src dst x)(hs:P.underlying src=some (.pointer te))(hd:P.underlying dst=some .unsafePointer)(ht:P.info? te=some ji)(hj:ji.size≠0)(hx:aD t x=some (.ptr i 0))(hi:σ[i]? =some (some (.cells ty xs)))(hl:0<xs.length):bh P σ t o (.ptr i 0):=by
 intro F base E ρ w hρ hS hT
 have h1:=ax hρ hT hx
 have h1':=h1
 generalize hz:ρ x=z at h1 h1'
 obtain⟨b,cs,k1,k2,k3,k4⟩:=hS.blk i _ hi
 cases h1 with
 |ptr _ _ b' hi' h=>
  have hb:b'=b:=by
   rcases h with h|⟨n,c,h⟩<;>rw[k1]at h<;>cases h
   rfl
  subst hb
  have:=Lib.run_to_unsafe (P:=P) w ⟨b',0,none⟩ hs hd ht hj (e:=ty) (cells:=cs.size) (by simp[World.shape?,k3]) (by have:=k4.1;simp at this ⊢;omega)
  simp only[execOp,ho,hz,Sem.run_bind,this,Result.andThen_ok,Sem.run_pure]
  exact bg h1'
theorem tn{src dst u ty:TypeId}{x:Operand}{i:Nat}{ji:TypeInfo}{xs:List PV}(ho:o.op= .convert src dst x)(hs:P.underlying src=some .unsafePointer)(hd:P.underlying dst=some (.pointer u))(ht:P.info? u=some ji)(hx:aD t x=some (.ptr i 0))(hi:σ[i]? =some (some (.cells ty xs)))(hl:liesAt P P.depth ty (xs.length / P.cellsOf ty) 0 u 1=true):bh P σ t o (.ptr i 0):=by
 intro F base E ρ w hρ hS hT
 have h1:=ax hρ hT hx
 have h1':=h1
 generalize hz:ρ x=z at h1 h1'
 obtain⟨b,cs,k1,k2,k3,k4⟩:=hS.blk i _ hi
 cases h1 with
 |ptr _ _ b' hi' h=>
  have hb:b'=b:=by
   rcases h with h|⟨n,c,h⟩<;>rw[k1]at h<;>cases h
   rfl
  subst hb
  have hsz:cs.size=xs.length:=by have:=k4.1;simpa using this
  have:=Lib.run_from_unsafe (P:=P) w ⟨b',0,none⟩ hs hd ht (e:=ty) (cells:=cs.size) (by simp[World.shape?,k3]) (by rw[hsz];exact hl)
  simp only[execOp,ho,hz,Sem.run_bind,this,Result.andThen_ok,Sem.run_pure]
  exact bg h1'
theorem yc{f:FuncId}{x a:Operand}{ats:Array TypeId}{p:PV}(ho:o.op= .call {callee:=.value x,args:= #[a],argTypes:=ats})(hx:aD t x=some (.func f []))(ha:aD t a=some p)(hr:∀v w,(callFunc f #[v]).run P w= .ok (.value v) w):bh P σ t o p:=by
 intro F base E ρ w hρ hS hT
 have h1:=ax hρ hT hx
 have h2:=ax hρ hT ha
 generalize hz:ρ x=z at h1
 cases h1 with
 |func _ cs _ hl hr'=>
  have hcs:cs= #[]:=Array.eq_empty_of_size_eq_zero (by simpa using hl)
  subst hcs
  have h3:(execOp ρ o).run P w= .ok (.value (ρ a)) w:=by
   have:=hr (ρ a) w
   simp[execOp,ho,resolve,hz,Deferred.ofValue,invoke,this]
  rw[h3]
  exact bg h2
end
end PW
end Go.Proofs.YtnegbdpggideiaaGreatDoor
namespace Go.Proofs
open Go.Shelf
open Go.RowKit in
open Go.RowKit in
open Go.RowKit in
open Go.RowKit in
open Go.RowKit in
open Go.RowKit in
open Go.RowKit in
open Go.RowKit in
open Go.RowKit in
open Go.Lib in
open Go.Lib in
open Go.Lib in
open Go.Lib in
open Go.RowKit Go.Sort Go.Lib in
def Tryz.Fk:Go.Shelf.Ren:=⟨fun|246=>220|283=>227|284=>228|285=>229|286=>230|129=>241|317=>242|318=>243|319=>244|320=>245|337=>252|338=>253|n=>n,fun|2=>2|3=>3|9=>9|4=>4|171=>248|0=>0|53=>249|37=>26|5=>5|173=>252|212=>264|51=>262|20=>20|213=>265|46=>247|232=>275|233=>276|n=>n,fun|17=>0|18=>1|19=>2|n=>n⟩
open Go.RowKit Go.Sort Go.Lib in
open Go.RowKit Go.Sort Go.Lib in
def Tryz.ED:Go.Shelf.Ren:=⟨fun|243=>208|246=>220|283=>227|284=>228|285=>229|286=>230|129=>241|317=>242|318=>243|319=>244|320=>245|337=>252|338=>253|n=>n,fun|3=>3|9=>9|2=>2|4=>4|171=>248|0=>0|53=>249|37=>26|5=>5|173=>252|212=>264|51=>262|20=>20|213=>265|46=>247|232=>275|233=>276|n=>n,fun|17=>0|18=>1|19=>2|n=>n⟩
open Go.RowKit Go.Sort Go.Lib in
open Go.RowKit Go.Sort Go.Lib in
def Tryz.GQ:Go.Shelf.Ren:=⟨fun|171=>187|243=>208|246=>220|283=>227|284=>228|285=>229|286=>230|129=>241|317=>242|318=>243|319=>244|320=>245|337=>252|338=>253|n=>n,fun|3=>3|9=>9|2=>2|4=>4|171=>248|0=>0|53=>249|37=>26|5=>5|173=>252|212=>264|51=>262|20=>20|213=>265|46=>247|232=>275|233=>276|n=>n,fun|17=>0|18=>1|19=>2|n=>n⟩
open Go.RowKit Go.Sort Go.Lib in
def Tryz.wh:Go.Shelf.Ren:=⟨fun|171=>187|243=>208|246=>220|283=>227|284=>228|285=>229|286=>230|129=>241|317=>242|318=>243|319=>244|320=>245|337=>252|338=>253|n=>n,fun|3=>3|9=>9|2=>2|4=>4|171=>248|0=>0|53=>249|37=>26|5=>5|173=>252|212=>264|51=>262|20=>20|213=>265|46=>247|232=>275|233=>276|n=>n,fun|17=>0|18=>1|19=>2|n=>n⟩
theorem Tryz.E9:Go.Proofs.Lays.n171 Tryz.prog Tryz.wh:= {
 mixed:=by kernel_rfl
 f129:=Tryz.func241.trans (congrArg some (by kernel_rfl))
 f171:=Tryz.func187.trans (congrArg some (by kernel_rfl))
 f243:=Tryz.func208.trans (congrArg some (by kernel_rfl))
 f246:=Tryz.func220.trans (congrArg some (by kernel_rfl))
 f283:=Tryz.func227.trans (congrArg some (by kernel_rfl))
 f284:=Tryz.func228.trans (congrArg some (by kernel_rfl))
 f285:=Tryz.func229.trans (congrArg some (by kernel_rfl))
 f286:=Tryz.func230.trans (congrArg some (by kernel_rfl))
 f317:=Tryz.func242.trans (congrArg some (by kernel_rfl))
 f318:=Tryz.func243.trans (congrArg some (by kernel_rfl))
 f319:=Tryz.func244.trans (congrArg some (by kernel_rfl))
 f320:=Tryz.func245.trans (congrArg some (by kernel_rfl))
 f337:=Tryz.func252.trans (congrArg some (by kernel_rfl))
 f338:=Tryz.func253.trans (congrArg some (by kernel_rfl))
 t0:=Tryz.underlying0
 a0:=Tryz.isAgg0
 z0:=Tryz.sizeOf0
 v0:=Tryz.zeroValue0
 t2:=Tryz.underlying2
 a2:=Tryz.isAgg2
 z2:=Tryz.sizeOf2
 v2:=Tryz.zeroValue2
 t3:=Tryz.underlying3
 a3:=Tryz.isAgg3
 z3:=Tryz.sizeOf3
 v3:=Tryz.zeroValue3
 t4:=Tryz.underlying4
 a4:=Tryz.isAgg4
 z4:=Tryz.sizeOf4
 v4:=Tryz.zeroValue4
 t5:=Tryz.underlying5
 a5:=Tryz.isAgg5
 z5:=Tryz.sizeOf5
 v5:=Tryz.zeroValue5
 t9:=Tryz.underlying9
 a9:=Tryz.isAgg9
 z9:=Tryz.sizeOf9
 v9:=Tryz.zeroValue9
 t20:=Tryz.underlying20
 a20:=Tryz.isAgg20
 z20:=Tryz.sizeOf20
 v20:=Tryz.zeroValue20
 t37:=Tryz.underlying26
 a37:=Tryz.isAgg26
 z37:=Tryz.sizeOf26
 v37:=Tryz.zeroValue26
 t46:=Tryz.underlying247
 a46:=Tryz.isAgg247
 z46:=Tryz.sizeOf247
 v46:=Tryz.zeroValue247
 t51:=Tryz.underlying262
 a51:=Tryz.isAgg262
 z51:=Tryz.sizeOf262
 v51:=Tryz.zeroValue262
 t53:=Tryz.underlying249
 a53:=Tryz.isAgg249
 z53:=Tryz.sizeOf249
 v53:=Tryz.zeroValue249
 t171:=Tryz.underlying248
 a171:=Tryz.isAgg248
 z171:=Tryz.sizeOf248
 v171:=Tryz.zeroValue248
 t173:=Tryz.underlying252
 a173:=Tryz.isAgg252
 z173:=Tryz.sizeOf252
 v173:=Tryz.zeroValue252
 t212:=Tryz.underlying264
 a212:=Tryz.isAgg264
 z212:=Tryz.sizeOf264
 v212:=Tryz.zeroValue264
 t213:=Tryz.underlying265
 a213:=Tryz.isAgg265
 z213:=Tryz.sizeOf265
 t232:=Tryz.underlying275
 a232:=Tryz.isAgg275
 z232:=Tryz.sizeOf275
 v232:=Tryz.zeroValue275
 t233:=Tryz.underlying276
 a233:=Tryz.isAgg276
 z233:=Tryz.sizeOf276
 v233:=Tryz.zeroValue276
 g17:=by kernel_rfl
 g18:=by kernel_rfl
 g19:=by kernel_rfl}
open Go.RowKit Go.Sort Go.Lib in
theorem Tryz.strconv_Itoa_small(i:Nat)(hi:i<100)(w:World):
  Calls Tryz.prog 187 #[.int .i64 i] w fun e w'=>e= .returned (.string ⟨(Lib.decDigits i).toArray⟩)∧w'=w:=Any.strconv_Itoa_small Tryz.E9 i hi w
end Go.Proofs
namespace Go.Proofs.YtnegbdpggideiaaGreatDoor
namespace PW
open Go.RowKit cE Mem
def Cn(j:Nat)(u:Bool)(l:List UInt8):cf:=some (.cells 214 [if u then .ptr 0 0 else .raw (.pointer none),.own j])::(List.replicate (j - 1) none++[some (.row 5 1 l.length (dY l))])
theorem wk:∃i,Tryz.prog.info? 214=some i∧i.size=2:=by
 have h:(Tryz.prog.info? 214).map (·.size)=some 2:=by kernel_rfl
 obtain⟨i,h1,h2⟩:=Option.map_eq_some_iff.1 h
 exact⟨i,h1,h2⟩
theorem tu(v:Value)(w:World):(callFunc 219 #[v]).run Tryz.prog w= .ok (.value v) w:=by
 rw[run_callFunc_extern Tryz.func219 (by kernel_rfl) (by kernel_rfl) (by kernel_rfl) (e:=Extern.AbiNoEscape.same) (by kernel_rfl),Lib.run_noEscape]
 rfl
theorem qu:za Tryz.prog 26 9=some 5:=by kernel_rfl
theorem Gp(u:Bool)(l:List UInt8):bU Tryz.prog 207 [.ptr 0 0] (Cn 1 u l) (fun _ σ'=>σ'=Cn 1 true l):=by
 obtain⟨ji,hji,hjs⟩:=wk
 refine cr Tryz.func207 rfl Tryz.ntmps207 rfl ?_
 cases u
 ·refine aR<|bC (fC rfl rfl) rfl rfl rfl ?_
  refine bC (iX rfl rfl) rfl rfl rfl ?_
  refine bC (bF rfl) rfl rfl rfl ?_
  refine bC (db rfl (bL.tk.get rfl) rfl rfl rfl) rfl rfl rfl ?_
  refine bC (D1 rfl (bL.pk.get rfl) rfl rfl) rfl rfl rfl (aZ ?_)
  refine GX rfl ?_
  refine bI<|bC (fC rfl rfl) rfl rfl rfl ?_
  refine bC (fC rfl rfl) rfl rfl rfl ?_
  refine bC (yv rfl Tryz.underlying212 Tryz.underlying241 hji (by rw[hjs];decide) rfl rfl (by decide)) rfl rfl rfl ?_
  refine bC (yc rfl rfl rfl tu) rfl rfl rfl ?_
  refine bC (tn rfl Tryz.underlying241 Tryz.underlying212 hji rfl rfl (by kernel_rfl)) rfl rfl rfl ?_
  refine bC (iX rfl rfl) rfl rfl rfl ?_
  refine bC (bF rfl) rfl rfl rfl ?_
  refine bd (cG rfl (bL.tk.get rfl) rfl rfl rfl (Nat.le_of_ble_eq_true rfl)) rfl rfl (aZ ?_)
  exact⟨_,.nil,rfl⟩
 ·refine aR<|bC (fC rfl rfl) rfl rfl rfl ?_
  refine bC (iX rfl rfl) rfl rfl rfl ?_
  refine bC (bF rfl) rfl rfl rfl ?_
  refine bC (db rfl (bL.tk.get rfl) rfl rfl rfl) rfl rfl rfl ?_
  refine bC (p7 rfl (bL.pk.get rfl) rfl rfl) rfl rfl rfl (aZ ?_)
  refine pP rfl ?_
  refine aR<|bC (fC rfl rfl) rfl rfl rfl ?_
  refine bC (iX rfl rfl) rfl rfl rfl ?_
  refine bC (bF rfl) rfl rfl rfl ?_
  refine bC (db rfl (bL.tk.get rfl) rfl rfl rfl) rfl rfl rfl ?_
  refine bC (fC rfl rfl) rfl rfl rfl ?_
  refine bC (sO rfl Tryz.underlying212 hji rfl rfl) rfl rfl rfl (aZ ?_)
  refine pP rfl ?_
  exact aj ⟨_,.nil,rfl⟩
theorem IY(u:Bool)(l:List UInt8)(s:ByteArray)(hn:l.length+s.size≤1000000000):bU Tryz.prog 186 [.ptr 0 0,.raw (.string s)] (Cn 1 u l) (fun _ σ'=>σ'=Cn 2 true (l++s.data.toList)):=by
 refine cr Tryz.func186 rfl Tryz.ntmps186 rfl<|ab (.a 2 rfl<|.k [0,1] rfl)<|aR<|au 1 rfl<|cQ rfl rfl (bU.mono (Gp u l) (fun _ σ' h=>?_))
 subst h
 refine aH [0,1] rfl ?_
 refine aR<|au 6 rfl<|cz (px rfl qu rfl rfl rfl (by omega)) rfl<|au 3 rfl<|aH [1] rfl ?_
 refine ab (.a 1 rfl<|.v (vN rfl Tryz.underlying9 rfl) rfl<|.a 2 rfl<|.k [4,5] rfl)<|aq<|⟨_,az.of rfl,?_⟩
 have hl:(l++s.data.toList).length=l.length+s.size:=by simp
 unfold Cn
 rw[hl,←jy]
 rfl
theorem Fz(u:Bool)(l:List UInt8)(hl:0<l.length):bU Tryz.prog 189 [.ptr 0 0] (Cn 1 u l) (fun r _=>r= .raw (.string ⟨l.toArray⟩)):=by
 refine cr Tryz.func189 rfl Tryz.ntmps189 rfl ?_
 cases u
 all_goals
  refine ab (.a 1 rfl<|.k [0] rfl)<|lj 10 20 mixed (
   .val [0] rfl (bF rfl) rfl rfl<|
   .val [3] rfl (bF rfl) rfl rfl<|
   .val [4] rfl (bF rfl) rfl rfl<|
   .val [5] rfl (bF rfl) rfl rfl<|
   .val [6] rfl (wv rfl rfl rfl hl) rfl rfl<|
   .val [0] rfl (bF rfl) rfl rfl<|
   .val [8] rfl (bF rfl) rfl rfl<|
   .val [9] rfl (bF rfl) rfl rfl<|
   .val [10] rfl (bF rfl) rfl rfl<|
   .val [11] rfl (bF rfl) rfl rfl<|
   .nil) (by kernel_rfl) rfl rfl (bm (ks:=[7,12]) rfl) ?_
  refine cz (wL rfl Tryz.underlying233 (by kernel_rfl) rfl rfl rfl hl) rfl<|au 1 rfl<|aH [2] rfl ?_
  exact aq<|⟨_,az.of rfl,rfl⟩
def BL(l:List UInt8):PV:=.raw (.string ⟨l.toArray⟩)
theorem mY(i:Nat)(hi:i<100):Can Tryz.prog 187 [num i] (· =BL (Lib.decDigits i)):=fun F w vs _ _ hR=>by
 obtain⟨v,rfl,h1⟩:=It hR
 cases dO h1
 refine(Tryz.strconv_Itoa_small i hi w).mono ?_
 rintro e w' ⟨rfl,rfl⟩
 exact⟨_,rfl,Ext.refl _,_,rfl,.raw _⟩
instance (l:List UInt8):IsPure (BL l):=by unfold BL;infer_instance
instance (l:List UInt8):eL (BL l):=by unfold BL;infer_instance
end PW
end Go.Proofs.YtnegbdpggideiaaGreatDoor
namespace Go.Proofs.YtnegbdpggideiaaGreatDoor
namespace PW
open Go.RowKit cE Mem Net
def Bs(l:List UInt8)(x:Option cU):cf:=[some (.cells 214 [.ptr 0 0,.own 1]),some (.row 5 1 l.length (dY l)),x]
def Aw(l:List UInt8)(x:Option cU):cf:=[some (.cells 214 [.ptr 0 0,.own 3]),none,x,some (.row 5 1 l.length (dY l))]
theorem zh(l:List UInt8)(x:Option cU):bU Tryz.prog 207 [.ptr 0 0] (Bs l x) (fun _ σ'=>σ'=Bs l x):=by
 obtain⟨ji,hji,hjs⟩:=wk
 refine cr Tryz.func207 rfl Tryz.ntmps207 rfl<|aR<|bC (fC rfl rfl) rfl rfl rfl ?_
 refine bC (iX rfl rfl) rfl rfl rfl ?_
 refine bC (bF rfl) rfl rfl rfl ?_
 refine bC (db rfl (bL.tk.get rfl) rfl rfl rfl) rfl rfl rfl ?_
 refine bC (p7 rfl (bL.pk.get rfl) rfl rfl) rfl rfl rfl (aZ ?_)
 refine pP rfl ?_
 refine aR<|bC (fC rfl rfl) rfl rfl rfl ?_
 refine bC (iX rfl rfl) rfl rfl rfl ?_
 refine bC (bF rfl) rfl rfl rfl ?_
 refine bC (db rfl (bL.tk.get rfl) rfl rfl rfl) rfl rfl rfl ?_
 refine bC (fC rfl rfl) rfl rfl rfl ?_
 refine bC (sO rfl Tryz.underlying212 hji rfl rfl) rfl rfl rfl (aZ ?_)
 refine pP rfl ?_
 exact aj ⟨_,.nil,rfl⟩
theorem G6(l:List UInt8)(x:Option cU)(s:ByteArray)(hn:l.length+s.size≤1000000000):bU Tryz.prog 186 [.ptr 0 0,.raw (.string s)] (Bs l x) (fun _ σ'=>σ'=Aw (l++s.data.toList) x):=by
 refine cr Tryz.func186 rfl Tryz.ntmps186 rfl<|ab (.a 2 rfl<|.k [0,1] rfl)<|aR<|au 1 rfl<|cQ rfl rfl (bU.mono (zh l x) (fun _ σ' h=>?_))
 subst h
 refine aH [0,1] rfl ?_
 refine aR<|au 6 rfl<|cz (px rfl qu rfl rfl rfl (by omega)) rfl<|au 3 rfl<|aH [1] rfl ?_
 refine ab (.a 1 rfl<|.v (vN rfl Tryz.underlying9 rfl) rfl<|.a 2 rfl<|.k [4,5] rfl)<|aq<|⟨_,az.of rfl,?_⟩
 have hl:(l++s.data.toList).length=l.length+s.size:=by simp
 unfold Aw
 rw[hl,←jy]
 rfl
theorem Dm(l:List UInt8)(x:Option cU)(c:UInt8)(hn:l.length≤1000000000):bU Tryz.prog 188 [.ptr 0 0,.raw (.int .u8 c.toNat)] (Bs l x) (fun _ σ'=>σ'=Aw (l++[c]) x):=by
 refine cr Tryz.func188 rfl Tryz.ntmps188 rfl<|ab (.a 1 rfl<|.k [0,1] rfl)<|aR<|au 1 rfl<|cQ rfl rfl (bU.mono (zh l x) (fun _ σ' h=>?_))
 subst h
 refine aH [0,1] rfl ?_
 refine aR<|au 7 rfl<|cz (bA rfl (bL.rk.get rfl) rfl rfl rfl rfl (by unfold maxLen;omega)) rfl<|au 3 rfl<|aH [] rfl ?_
 refine ab (.a 1 rfl<|.k [4] rfl)<|aq<|⟨_,az.of rfl,?_⟩
 unfold Aw
 rw[←jy]
 simp only[List.length_append,List.length_singleton]
 rfl
theorem HT{P:Program}{M:Nat}{c:Code}{t:bZ}{Q:Exit→St→Prop}{l:List UInt8}{ty:TypeId}{xs:List PV}[aJ xs](hT:mE [0,3,2] t t)(h:W P M 0 c ⟨t,Bs l (some (.cells ty xs))⟩ Q):W P M 0 c ⟨t,Aw l (some (.cells ty xs))⟩ Q:=
 dp [0,3,2] hT (.kept rfl (.cells (aE.cons (Ren.ptr (i:=0) rfl)<|aE.cons (Ren.own (i:=1) rfl) aE.nil))<|.kept rfl (.row aE.pure)<|.kept rfl (.cells aE.pure)<|.nil) rfl rfl h
theorem JA{P:Program}{M:Nat}{c:Code}{t:bZ}{Q:Exit→St→Prop}{l:List UInt8}{x:Option cU}(hT:mE [0,3] t t)(h:W P M 0 c ⟨t,Cn 1 true l⟩ Q):W P M 0 c ⟨t,Aw l x⟩ Q:=
 dp [0,3] hT (.kept rfl (.cells (aE.cons (Ren.ptr (i:=0) rfl)<|aE.cons (Ren.own (i:=1) rfl) aE.nil))<|.kept rfl (.row aE.pure)<|.nil) rfl rfl h
theorem Jv{P:Program}{M:Nat}{c:Code}{t:bZ}{Q:Exit→St→Prop}{l:List UInt8}(hT:mE [0,2] t t)(h:W P M 0 c ⟨t,Cn 1 true l⟩ Q):W P M 0 c ⟨t,Cn 2 true l⟩ Q:=
 dp [0,2] hT (.kept rfl (.cells (aE.cons (Ren.ptr (i:=0) rfl)<|aE.cons (Ren.own (i:=1) rfl) aE.nil))<|.kept rfl (.row aE.pure)<|.nil) rfl rfl h
theorem BR(s:List bY)(i:Nat)(g:bY)(h:s[i]? =some g)(n:Nat):dQ n (s.take (i+1))=(((dQ n (s.take i)++[32])++Lib.decDigits g.kind.toNat)++[58])++Lib.decDigits g.num.toNat:=by
 unfold dQ
 rw[List.take_add_one,h]
 simp[Fg]
theorem xA{s:List bY}(h:gE s)(i:Nat):gE (s.take i):=fun g hg=>h g (List.mem_of_mem_take hg)
theorem BA{n:Nat}{s:List bY}(hn:n<100)(h:gE s):(dQ n s).length≤2+s.length*6:=by
 have h1:=kd hn
 have h2:=Dk h
 unfold dQ
 rw[List.length_append]
 omega
theorem Eu(n:Nat)(s:List bY)(hn:n<100)(hs:gE s)(hl:s.length≤1000):Can Tryz.prog 159 [num n,cH s] (· =BL (dQ n s)):=by
 refine aG Tryz.func159 rfl Tryz.ntmps159 rfl<|ab (.a 1 rfl<|.k [0,1] rfl)<|aR<|au 1 rfl<|aH [0,1,5] rfl ?_
 refine cq 0 1 5 1 rfl rfl ?_
 refine eD (σ':=Cn 1 false []) rfl ?_
 refine aR<|au 1 rfl<|er rfl (mY n hn) rfl<|cQ rfl rfl (bU.mono (IY false [] ⟨(Lib.decDigits n).toArray⟩ (show([]:List UInt8).length+(Lib.decDigits n).toArray.size≤1000000000 by have:=kd hn;simp;omega)) (fun _ σ' h=>?_))
 subst h
 refine aH [1,5] rfl ?_
 refine Jv (.cons 1 rfl Ren.pure<|.cons 5 rfl (Ren.ptr (i:=0) rfl)<|.nil) ?_
 refine ak<|ab (.a 3 rfl<|.k [5,11,12,13] rfl)<|av<|fp [5,11,12,13] rfl<|bq (fun r st=>∃i,i≤s.length∧r=s.length - i∧st=⟨[(5,.ptr 0 0),(11,cH s),(12,num s.length),(13,num i)],Cn 1 true (dQ n (s.take i))⟩) s.length ⟨0,by omega,by omega,by simp[dQ]⟩ ?_
 rintro r st ⟨i,hi,rfl,rfl⟩
 refine ab (.a 1 rfl<|.k [5,11,12,13,14] rfl)<|ak<|ah rfl (fun hc=>?_) (fun hc=>?_)
 ·have hlt:i<s.length:=by have:=of_decide_eq_true hc;omega
  obtain⟨g,hg,_⟩:=AP s i hlt
  obtain⟨a1,a2,a3,a4⟩:=hs g (List.mem_of_getElem? hg)
  have hst:=BR s i g hg n
  have hln:=BA hn (xA hs i)
  rw[List.length_take]at hln
  obtain⟨gk,gn⟩:=g
  simp only at a1 a2 a3 a4 hst
  obtain⟨ka,rfl⟩:=Int.eq_ofNat_of_zero_le a1
  obtain⟨na,rfl⟩:=Int.eq_ofNat_of_zero_le a3
  have hk2:=kd (n:=ka) (by omega)
  have hn2:=kd (n:=na) (by omega)
  rw[Int.toNat_natCast,Int.toNat_natCast]at hst
  have hmin:min i s.length=i:=by omega
  rw[hmin]at hln
  generalize hl0:dQ n (s.take i)=l0 at*
  refine aj<|ak<|av<|aR<|bE (aM ((i*2)) rfl) rfl<|bE (iF rfl (oK s i _ hg) rfl) rfl<|au 2 rfl<|aH [5,7,11,12,13] rfl ?_
  refine eD (σ':=Bs l0 (some (.cells 103 (mU ⟨(ka:Int),(na:Int)⟩)))) rfl ?_
  refine aR<|cQ rfl rfl (bU.mono (Dm l0 _ 32 (by omega)) (fun _ σ' h=>?_))
  subst h
  refine aH [5,7,11,12,13] rfl ?_
  refine HT (.cons 5 rfl (Ren.ptr (i:=0) rfl)<|.cons 7 rfl (Ren.ptr (i:=2) rfl)<|.cons 11 rfl Ren.pure<|.cons 12 rfl Ren.pure<|.cons 13 rfl Ren.pure<|.nil) ?_
  refine aR<|au 1 rfl<|bE (aO rfl (rfl)) rfl<|er rfl (mY ka (by omega)) rfl<|cQ rfl rfl (bU.mono (G6 (l0++[32]) _ ⟨(Lib.decDigits ka).toArray⟩ (show(l0++[32]).length+(Lib.decDigits ka).toArray.size≤1000000000 by simp;omega)) (fun _ σ' h=>?_))
  subst h
  refine aH [5,7,11,12,13] rfl ?_
  refine HT (.cons 5 rfl (Ren.ptr (i:=0) rfl)<|.cons 7 rfl (Ren.ptr (i:=2) rfl)<|.cons 11 rfl Ren.pure<|.cons 12 rfl Ren.pure<|.cons 13 rfl Ren.pure<|.nil) ?_
  refine aR<|cQ rfl rfl (bU.mono (Dm ((l0++[32])++Lib.decDigits ka) _ 58 (by simp;omega)) (fun _ σ' h=>?_))
  subst h
  refine aH [5,7,11,12,13] rfl ?_
  refine HT (.cons 5 rfl (Ren.ptr (i:=0) rfl)<|.cons 7 rfl (Ren.ptr (i:=2) rfl)<|.cons 11 rfl Ren.pure<|.cons 12 rfl Ren.pure<|.cons 13 rfl Ren.pure<|.nil) ?_
  refine bI<|au 1 rfl<|bE (aO rfl (rfl)) rfl<|er rfl (mY na (by omega)) rfl<|cQ rfl rfl (bU.mono (G6 (((l0++[32])++Lib.decDigits ka)++[58]) _ ⟨(Lib.decDigits na).toArray⟩ (show(((l0++[32])++Lib.decDigits ka)++[58]).length+(Lib.decDigits na).toArray.size≤1000000000 by simp;omega)) (fun _ σ' h=>?_))
  subst h
  refine aH [5,11,12,13] rfl ?_
  refine JA (.cons 5 rfl (Ren.ptr (i:=0) rfl)<|.cons 11 rfl Ren.pure<|.cons 12 rfl Ren.pure<|.cons 13 rfl Ren.pure<|.nil) ?_
  refine aB (.v (aT rfl) rfl<|.a 1 rfl<|.k [5,11,12,13] rfl) ?_
  exact⟨s.length - (i+1),by omega,i+1,by omega,rfl,by rw[hst];rfl⟩
 ·have hie:i=s.length:=by have:=of_decide_eq_false hc;omega
  subst hie
  rw[List.take_length]
  refine bf<|aR<|cQ rfl rfl (bU.mono (Fz true (dQ n s) (by have:=kd hn;unfold dQ;simp;omega)) (fun _ σ' h=>?_))
  subst h
  refine au 1 rfl<|aH [4] rfl ?_
  exact aq<|⟨_,_,az.of rfl,aC.pure,rfl⟩
theorem xn(T:ai)(L:List dR)(n:Int)(hv:ao T=true)(hL:(L.length:Int)=T.nodes)(hok:∀(i:Nat) x,L[i]? =some x→x.node=(i:Int)∧dD T x=true)(hn:bn T n=true):Can Tryz.prog 157 [aN T,iw L,num n] (· =num 0):=by
 have hN:=gm hv
 obtain⟨q1,hq1⟩:∃q,ao T=q:=⟨_,rfl⟩
 obtain⟨q2,hq2⟩:∃q,decide ((L.length:Int)≠T.nodes)=q:=⟨_,rfl⟩
 refine aG Tryz.func157 rfl Tryz.ntmps157 rfl<|ab (.a 2 rfl<|.k [1,2,3] rfl)<|ak<|bu 18 (.raw (.bool (!q1 ||q2))) [1,2,3] rfl ?_ ?_
 ·refine .a 1 rfl<|.c rfl (hq1▸ej T) rfl<|.a 2 rfl<|?_
  cases q1
  ·exact .a 6 rfl<|.k [18,1,2,3] rfl
  ·exact .a 3 rfl<|.v (aO rfl (rfl)) rfl<|.v (cg rfl (hq2)) rfl<|.a 1 rfl<|.k [18,1,2,3] rfl
 refine ah rfl (fun hc=>?_) (fun hc=>?_)
 ·rw[←hq1,hv,←hq2,decide_eq_false (by rw[hL];simp)]at hc
  cases hc
 ·refine aj<|ak<|ab (.a 3 rfl<|.k [2,3,19,20,21] rfl)<|av<|fp [2,3,19,20,21] rfl<|bq (fun r st=>∃i,i≤L.length∧r=L.length - i∧st=⟨[(2,num n),(3,.aX (bw T) 0),(19,iw L),(20,num L.length),(21,num i)],[]⟩) L.length ⟨0,by omega,by omega,rfl⟩ ?_
  rintro r st ⟨i,hi,rfl,rfl⟩
  refine ab (.a 1 rfl<|.k [2,3,19,20,21,22] rfl)<|ak<|ah rfl (fun hc=>?_) (fun hc=>?_)
  ·have hlt:i<L.length:=by have:=of_decide_eq_true hc;omega
   obtain⟨x,hx⟩:∃x,L[i]? =some x:=⟨_,List.getElem?_eq_getElem hlt⟩
   obtain⟨h1,h2⟩:=hok i x hx
   obtain⟨q3,hq3⟩:∃q,decide (x.node≠(i:Int))=q:=⟨_,rfl⟩
   obtain⟨q4,hq4⟩:∃q,dD T x=q:=⟨_,rfl⟩
   refine aj<|ak<|av<|aR<|au 1 rfl<|bE (aM ((i*3)) rfl) rfl<|bE (iF rfl (rX L i x hx) rfl) rfl<|au 3 rfl<|aH [2,3,7,8,19,20,21] rfl ?_
   refine bu 35 (.raw (.bool (q3|| !q4))) [2,3,19,20,21] rfl ?_ ?_
   ·refine .a 1 rfl<|.v (aO rfl ((rfl:(fU x)[0]? =some (num x.node)))) rfl<|.a 1 rfl<|.v (cg rfl (hq3)) rfl<|.a 1 rfl<|?_
    cases q3
    ·exact .a 1 rfl<|.v (iF rfl ((rfl:(fU x).take 3=fU x)) rfl) rfl<|.c rfl (hq4▸qW T x) rfl<|.a 2 rfl<|.k [35,2,3,19,20,21] rfl
    ·exact .a 5 rfl<|.k [35,2,3,19,20,21] rfl
   refine ah rfl (fun hc=>?_) (fun hc=>?_)
   ·rw[←hq3,←hq4,h2,decide_eq_false (by rw[h1];simp)]at hc
    cases hc
   ·refine aj<|dp [] (.c 2<|.c 3<|.c 19<|.c 20<|.c 21<|.nil) .nil rfl rfl ?_
    refine aB (.v (aT rfl) rfl<|.a 1 rfl<|.k [2,3,19,20,21] rfl) ?_
    exact⟨L.length - (i+1),by omega,i+1,by omega,rfl,rfl⟩
  ·have hie:i=L.length:=by have:=of_decide_eq_false hc;omega
   refine bf<|ak<|ab (.a 2 rfl<|.c rfl (hn▸df T n) rfl<|.a 1 rfl<|.k [40] rfl)<|ah rfl (fun hc=>?_) (fun hc=>?_)
   ·cases hc
   ·exact aj<|ab (.a 1 rfl<|.k [6] rfl)<|aq<|⟨_,_,az.of rfl,aC.pure,rfl⟩
end PW
end Go.Proofs.YtnegbdpggideiaaGreatDoor
namespace Go.Proofs.YtnegbdpggideiaaGreatDoor
namespace PW
open Go.RowKit cE Mem Net fk
theorem cI.to{P:Program}{σ σ' σ'':cf}{t:bZ}{o:Oper}{p p':PV}(h:cI P σ t o p σ')(hp:p=p')(hs:σ'=σ''):cI P σ t o p' σ'':=by subst hp;subst hs;exact h
theorem Ij{P:Program}{σ:cf}{t:bZ}{o:Oper}{x y:Operand}{ty tz:TypeId}{p:PV}{q:Bool}(ho:o.op= .binOp .neq ty x y tz)(hk:oY P ty=true)(hx:aD t x=some p)(hy:aD t y=some (.raw (.pointer none)))(h:(p= .raw (.pointer none)∧q=false)∨∃xs k,p= .aX xs k∧q=true):bh P σ t o (.raw (.bool q)):=by
 rcases h with⟨rfl,rfl⟩|⟨xs,k,rfl,rfl⟩
 ·exact Gi ho hk hx hy
 ·exact FL ho hk hx hy
def E0:PV:=.func 158 [.ptr 5 0,.ptr 6 0,.ptr 3 0,.ptr 0 0,.ptr 1 0,.ptr 7 0]
def P8(T:ai)(tbs:List dR)(p1:eU)(j:Nat)(kv:List (List UInt8×PV))(rest:cf):cf:=
 some (.cells 25 (bw T))::some (.cells 43 [iw tbs])::some (.cells 66 (dW p1))::some (.cells 148 [.own (j+8)])::some (.mp (fN pA kv))::
 some (.cells 188 [.own 4])::some (.cells 4 [flag false])::some (.cells 189 [E0])::rest
abbrev ev(L:List PV):Option cU:=some (.row 147 1 L.length L)
structure gW (j:Nat) (rest rest':cf):Prop where
 len:rest.length≤rest'.length
 same:∀i,i<rest.length→i≠j→rest'[i]? =rest[i]?
theorem gW.trans{j j':Nat}{a b c:cf}(h:gW j a b)(k:gW j' b c)(hj:j'=j∨a.length≤j'):gW j a c:=
 ⟨Nat.le_trans h.len k.len,fun i h1 h2=>(k.same i (Nat.lt_of_lt_of_le h1 h.len) (by omega)).trans (h.same i h1 h2)⟩
section
variable {T:ai} {tb:Nat→dR} {p0:eU} {Φ:Nat→Nat→List bY→Prop}
def Jp(T:ai)(tb:Nat→dR)(p0:eU)(Φ:Nat→Nat→List bY→Prop)(tbs:List dR)(p1:eU)(op:EA)(j:Nat)(rest:cf)(n:Nat)(s:List bY)(r:PV)(σ':cf):Prop:=
 ∃c kv' L' j' rest',Good T tb p0 Φ r n s c∧σ'=P8 T tbs p1 j' kv' rest'∧rest'[j']? =some (ev L')∧gW j rest rest'∧(j'=j∨rest.length≤j')∧mG T tb p0 Φ op kv' L'
structure Jd (T:ai) (tb:Nat→dR) (p0:eU) (Φ:Nat→Nat→List bY→Prop) (op:EA) (j0:Nat) (rest0:cf) (n:Nat) (s:List bY) (kv:List (List UInt8×PV)) (L:List PV) (j jr:Nat) (rest:cf) (k:Nat) (vs:List PV) (cs:List Int):Prop where
 EC:gW j0 rest0 rest
 len:rest0.length+5≤rest.length
 x:rest[rest0.length+1]? =some (some (.cells 152 [num n,num (bV T tb p0 n s).dI,aw (bV T tb p0 n s).aI,.own (jr+8),flag true,num (jf (bV T tb p0 n s).aI cs)]))
 nb:rest[rest0.length+3]? =some (some (.cells 66 (dW (bV T tb p0 n s).ft)))
 row:rest[jr]? =some (ev vs)
 al:rest[j]? =some (ev L)
 JZ:rest0.length+4≤jr
 j1:j=rest0.length+2∨rest0.length+5≤j
 ne:j≠jr
 ok:mG T tb p0 Φ ((rest0.length+1,n,s)::op) kv L
 lv:vs.length=k
 lc:cs.length=k
 ch:∀i,i<k→Good T tb p0 Φ (vs.getD i .any) (aS T ((bV T tb p0 n s).aI.getD i 0).toNat).toNat (bV T tb p0 n s).ft.stack (cs.getD i 0)
instance (l:List bY):eL (cH l):=by unfold cH;infer_instance
instance (p:eU):ct (dW p):=by unfold dW;infer_instance
theorem IP:ts Tryz.prog 188=some (9,147):=by kernel_rfl
theorem Kg:Hb Tryz.prog 147=some (.pointer none):=by kernel_rfl
theorem I0:ir Tryz.prog 9 pA:=Ic Tryz.underlying9
theorem fK{α:Type}{l:List α}{a:α}{i:Nat}(h:l.length=i):(l++[a])[i]? =some a:=by subst h;simp
theorem cj{α:Type}{l:List α}{a b:α}{i:Nat}(h:l[i]? =some b):(l++[a])[i]? =some b:=by
 rw[List.getElem?_append_left (List.getElem?_eq_some_iff.1 h).1];exact h
theorem aF{α:Type}{l:List α}{a:α}{b:Option α}{i j:Nat}(h:l[i]? =b)(hne:j≠i):(l.set j a)[i]? =b:=by
 rw[List.getElem?_set,if_neg hne];exact h
theorem bN{α:Type}{l:List α}{a b:α}{i:Nat}(h:l[i]? =some b):(l.set i a)[i]? =some a:=by
 rw[List.getElem?_set,if_pos rfl,if_pos (List.getElem?_eq_some_iff.1 h).1]
theorem gW.refl(j:Nat)(a:cf):gW j a a:=⟨Nat.le_refl _,fun _ _ _=>rfl⟩
theorem gW.app{j:Nat}{a b:cf}(h:gW j a b)(x:Option cU):gW j a (b++[x]):=
 ⟨by rw[List.length_append];have:=h.len;omega,fun i h1 h2=>by rw[List.getElem?_append_left (Nat.lt_of_lt_of_le h1 h.len)];exact h.same i h1 h2⟩
theorem gW.put{j:Nat}{a b:cf}(h:gW j a b){k:Nat}(hk:k=j∨a.length≤k)(x:Option cU):gW j a (b.set k x):=
 ⟨by rw[List.length_set];exact h.len,fun i h1 h2=>by rw[List.getElem?_set,if_neg (by omega)];exact h.same i h1 h2⟩
theorem uo{tbs:List dR}{p1:eU}{j i:Nat}{blk:cU}{kv kv':List (List UInt8×PV)}{rest rest':cf}(hl:rest'.length=rest.length)(h0:rest'[i]? =some none)
  (h:∀k,k≠i→(rest'[k]? =rest[k]? ∨∃b b',rest[k]? =some (some b)∧rest'[k]? =some (some b')∧tM (i+8) blk b b')) (hk:kv'.map (·.1)=kv.map (·.1)) (hf:kc (i+8) blk (kv.map (·.2)) (kv'.map (·.2))):
  DN (i+8) blk (P8 T tbs p1 j kv rest) (P8 T tbs p1 j kv' rest'):=by
 refine⟨by simp[P8,hl],h0,fun m hm=>?_⟩
 match m,hm with
 |0,_=>exact .inl rfl
 |1,_=>exact .inl rfl
 |2,_=>exact .inl rfl
 |3,_=>exact .inl rfl
 |4,_=>
  refine .inr ⟨_,_,rfl,rfl,.mp ?_ ?_⟩
  ·have:∀l:List (List UInt8×PV),(fN pA l).map (·.1)=(l.map (·.1)).map pA:=fun l=>by simp[fN]
   rw[this,this,hk]
  ·have:∀l:List (List UInt8×PV),(fN pA l).map (·.2)=l.map (·.2):=fun l=>by simp[fN]
   rw[this,this]
   exact hf
 |5,_=>exact .inl rfl
 |6,_=>exact .inl rfl
 |7,_=>exact .inl rfl
 |k+8,hm=>exact h k (by omega)
theorem Jd.ft(R:ib T tb p0 Φ){u n:Nat}{s:List bY}(h:Φ u n s)(hne:(bV T tb p0 n s).aI≠[]):cS (bV T tb p0 n s).ft (bV T tb p0 n s).ft.stack=cS p0 (bV T tb p0 n s).ft.stack:=by
 rcases R.step h with h|⟨_,h,_⟩
 ·exact absurd h hne
 ·generalize bV T tb p0 n s=O at*
  obtain⟨aI,ft,dI⟩:=O
  simp only at h ⊢
  unfold cd at h
  injection h with _ h2 _
  rw[h2]
  rfl
set_option maxHeartbeats 4000000 in
theorem AR(R:ib T tb p0 Φ)(hv:ao T=true)(h12:T.nodes≤12){U:List (Nat×List bY)}(hU:∀ {u n s},Φ u n s→(n,s)∈U)(hUl:U.length≤1000000)(tbs:List dR)(htb:∀n:Nat,(n:Int)<T.nodes→tbs[n]? =some (tb n))(p1:eU):
  ∀(u n:Nat) (p:eU),Φ u n p.stack→cS p p.stack=cS p0 p.stack→∀(op:EA) (kv:List (List UInt8×PV)) (L:List PV) (j:Nat) (rest:cf),rest[j]? =some (ev L)→mG T tb p0 Φ op kv L→(∀x∈op,Fe T tb p0 x.2.1 x.2.2 n p.stack)→
   bU Tryz.prog 158 [num n,eS p,.ptr 5 0,.ptr 6 0,.ptr 3 0,.ptr 0 0,.ptr 1 0,.ptr 7 0] (P8 T tbs p1 j kv rest) (Jp T tb p0 Φ tbs p1 op j rest n p.stack):=by
 intro u
 induction u using Nat.strongRecOn with
 |_ u ih=>
 intro n p hΦ hp op kv L j rest hj hok hop
 have hnn:=R.node hΦ
 obtain⟨hsm,hsl⟩:=R.small hΦ
 obtain⟨pv,hpv⟩:∃pv,(de (dQ n p.stack) kv).getD (.raw (.pointer none))=pv:=⟨_,rfl⟩
 obtain⟨q,hq1,hq2,hq3⟩:∃q,((pv= .raw (.pointer none)∧q=false)∨∃xs k,pv= .aX xs k∧q=true)∧(q=false→de (dQ n p.stack) kv=none)∧(q=true→∃vs c,pv= .aX (du n (bV T tb p0 n p.stack) vs c) 0∧Good T tb p0 Φ pv n p.stack c):=by
  cases hl:de (dQ n p.stack) kv with
  |none=>exact⟨false,.inl ⟨by rw[←hpv,hl];rfl,rfl⟩,fun _=>rfl,fun h=>(by cases h)⟩
  |some v=>
   obtain⟨c,hg⟩:=hok.DB R h12 hΦ hop hl
   have hvv:pv=v:=by rw[←hpv,hl];rfl
   obtain⟨vs,cs,e1,_⟩:=hg.parts
   exact⟨true,.inr ⟨_,_,hvv.trans e1,rfl⟩,fun h=>(by cases h),fun _=>⟨vs,c,hvv.trans e1,hvv▸hg⟩⟩
 have hjl:=(List.getElem?_eq_some_iff.1 hj).1
 refine cr Tryz.func158 rfl Tryz.ntmps158 rfl<|aR<|cz (cI.to (fJ rfl rfl rfl) (p':=.ptr (rest.length+8) 0) (σ'':=P8 T tbs p1 j kv (rest++[some (.cells 66 (dW p))])) rfl rfl) rfl<|au 1 rfl<|aH [0,2,3,4,5,6,7,9] rfl ?_
 obtain⟨r1,hr1⟩:∃r1,rest++[some (.cells 66 (dW p))]=r1:=⟨_,rfl⟩
 have l1:r1.length=rest.length+1:=by rw[←hr1];simp
 have k1:gW j rest r1:=hr1▸(gW.refl j rest).app _
 have b1:r1[rest.length]? =some (some (.cells 66 (dW p))):=hr1▸fK rfl
 have j1:r1[j]? =some (ev L):=hr1▸cj hj
 rw[hr1]
 refine ab (.a 2 rfl<|.v (db rfl (bL.tk.get rfl) rfl b1 rfl) rfl<|.c rfl (Eu n p.stack (by omega) hsm hsl) rfl<|.a 1 rfl<|.k [0,2,3,4,5,6,7,9,11] rfl)<|ak<|ab (.a 2 rfl<|.v (tK I0 rfl IP Kg rfl rfl rfl (oR _) hpv) rfl<|.a 1 rfl<|.k [0,2,3,4,5,6,7,9,11,12] rfl)<|ab (.a 1 rfl<|.v (Ij rfl (bL.pk.get rfl) rfl rfl hq1) rfl<|.k [0,2,3,4,5,6,7,9,11,12,26] rfl)<|ah rfl (fun hc=>?_) (fun hc=>?_)
 ·obtain⟨vs0,c0,e0,hg0⟩:=hq3 hc
  subst e0
  refine aR<|au 7 rfl<|bd (cI.to (cG rfl (bL.tk.get rfl) rfl rfl rfl (Nat.le_of_ble_eq_true rfl)) (σ'':=P8 T tbs p1 j kv r1) rfl rfl) rfl rfl<|aH [12] rfl ?_
  exact ab (.a 2 rfl<|.k [10] rfl)<|aq<|⟨_,az.of rfl,c0,kv,L,j,r1,hg0,rfl,j1,k1,.inl rfl,hok⟩
 ·have hno:=s8 (hq2 hc)
  have hno2:=nA (p:=PV.ptr (rest.length+1+8) 0) (hq2 hc)
  refine aj<|aR<|au 2 rfl<|cz (cI.to (fJ rfl rfl rfl) (p':=.ptr (rest.length+1+8) 0) (σ'':=P8 T tbs p1 j kv (r1++[some (.cells 152 [num n,num 0,.raw (.slice none 0 0),.raw (.slice none 0 0),flag true,num 0])])) (by rw[←l1];rfl) rfl) rfl<|au 1 rfl<|aH [0,2,3,4,5,6,7,9,11,13] rfl ?_
  obtain⟨r2,hr2⟩:∃r2,r1++[some (.cells 152 [num n,num 0,.raw (.slice none 0 0),.raw (.slice none 0 0),flag true,num 0])]=r2:=⟨_,rfl⟩
  have l2:r2.length=rest.length+2:=by rw[←hr2];simp[l1]
  have k2:gW j rest r2:=hr2▸k1.app _
  have b2:r2[rest.length]? =some (some (.cells 66 (dW p))):=hr2▸cj b1
  have x2:r2[rest.length+1]? =some (some (.cells 152 [num n,num 0,.raw (.slice none 0 0),.raw (.slice none 0 0),flag true,num 0])):=hr2▸fK l1
  have j2:r2[j]? =some (ev L):=hr2▸cj j1
  rw[hr2]
  refine aR<|au 3 rfl<|bd (cI.to (nj I0 rfl IP rfl rfl rfl (oR _) rfl) (σ'':=P8 T tbs p1 j (kv++[(dQ n p.stack,PV.ptr (rest.length+1+8) 0)]) r2) rfl (by rw[←hno2];rfl)) rfl rfl<|aH [0,3,4,5,6,7,9,13] rfl ?_
  have hfew:=hok.JW R h12 hU
  have hlen:=hok.len
  refine aR<|au 3 rfl<|cz (cI.to (σ:=P8 T tbs p1 j (kv++[(dQ n p.stack,PV.ptr (rest.length+1+8) 0)]) r2) (bA (m:=1) (n:=L.length) (xs:=L) rfl (bL.rk.get rfl) rfl j2 rfl rfl ⟨by unfold maxLen;omega,by omega⟩) (p':=.own (rest.length+2+8)) (σ'':=P8 T tbs p1 j (kv++[(dQ n p.stack,PV.ptr (rest.length+1+8) 0)]) (r2.set j none++[ev (L++[PV.ptr (rest.length+1+8) 0])])) (by rw[←l2];rfl) (by unfold ev;rw[List.length_append];rfl)) rfl<|bd (cI.to (cG rfl (bL.tk.get rfl) rfl rfl rfl (Nat.le_of_ble_eq_true rfl)) (σ'':=P8 T tbs p1 (rest.length+2) (kv++[(dQ n p.stack,PV.ptr (rest.length+1+8) 0)]) (r2.set j none++[ev (L++[PV.ptr (rest.length+1+8) 0])])) rfl rfl) rfl rfl<|aH [0,3,5,6,7,9,13] rfl ?_
  obtain⟨r3,hr3⟩:∃r3,r2.set j none++[ev (L++[PV.ptr (rest.length+1+8) 0])]=r3:=⟨_,rfl⟩
  have l3:r3.length=rest.length+3:=by rw[←hr3];simp[l2]
  have k3:gW j rest r3:=hr3▸(k2.put (.inl rfl) _).app _
  have b3:r3[rest.length]? =some (some (.cells 66 (dW p))):=hr3▸cj (aF b2 (by omega))
  have x3:r3[rest.length+1]? =some (some (.cells 152 [num n,num 0,.raw (.slice none 0 0),.raw (.slice none 0 0),flag true,num 0])):=hr3▸cj (aF x2 (by omega))
  have j3:r3[rest.length+2]? =some (ev (L++[PV.ptr (rest.length+1+8) 0])):=hr3▸fK (by simp[l2])
  rw[hr3]
  have hok3:=hok.push (i:=rest.length+1) hΦ hno
  obtain⟨kv3,hkv3⟩:∃k,kv++[(dQ n p.stack,PV.ptr (rest.length+1+8) 0)]=k:=⟨_,rfl⟩
  obtain⟨L3,hL3⟩:∃k,L++[PV.ptr (rest.length+1+8) 0]=k:=⟨_,rfl⟩
  rw[hkv3,hL3]at hok3
  rw[hL3]at j3
  rw[hkv3]
  refine aR<|au 1 rfl<|bd (cI.to (σ:=P8 T tbs p1 (rest.length+2) kv3 r3) (cG rfl (bL.tk.get rfl) rfl rfl b3 (Nat.le_of_ble_eq_true rfl)) (σ'':=P8 T tbs p1 (rest.length+2) kv3 (r3.set rest.length (some (.cells 66 (dW (cS p p.stack)))))) rfl rfl) rfl rfl<|aH [0,3,5,6,7,9,13] rfl ?_
  obtain⟨r4,hr4⟩:∃r4,r3.set rest.length (some (.cells 66 (dW (cS p p.stack))))=r4:=⟨_,rfl⟩
  have l4:r4.length=rest.length+3:=by rw[←hr4];simp[l3]
  have k4:gW j rest r4:=hr4▸k3.put (.inr (Nat.le_refl _)) _
  have b4:r4[rest.length]? =some (some (.cells 66 (dW (cS p p.stack)))):=hr4▸bN b3
  have x4:r4[rest.length+1]? =some (some (.cells 152 [num n,num 0,.raw (.slice none 0 0),.raw (.slice none 0 0),flag true,num 0])):=hr4▸aF x3 (by omega)
  have j4:r4[rest.length+2]? =some (ev L3):=hr4▸aF j3 (by omega)
  rw[hr4]
  refine aR<|cz (cI.to (tV rfl (bL.zk.get rfl)) (p':=.ptr (rest.length+3+8) 0) (σ'':=P8 T tbs p1 (rest.length+2) kv3 (r4++[some (.cells 66 [num 0,num 0,num 0,num 0,.raw (.slice none 0 0),num 0])])) (by rw[←l4];rfl) rfl) rfl<|aH [0,3,5,6,7,9,13,14] rfl ?_
  obtain⟨r5,hr5⟩:∃r5,r4++[some (.cells 66 [num 0,num 0,num 0,num 0,.raw (.slice none 0 0),num 0])]=r5:=⟨_,rfl⟩
  have l5:r5.length=rest.length+4:=by rw[←hr5];simp[l4]
  have k5:gW j rest r5:=hr5▸k4.app _
  have b5:r5[rest.length]? =some (some (.cells 66 (dW (cS p p.stack)))):=hr5▸cj b4
  have x5:r5[rest.length+1]? =some (some (.cells 152 [num n,num 0,.raw (.slice none 0 0),.raw (.slice none 0 0),flag true,num 0])):=hr5▸cj x4
  have j5:r5[rest.length+2]? =some (ev L3):=hr5▸cj j4
  have n5:r5[rest.length+3]? =some (some (.cells 66 [num 0,num 0,num 0,num 0,.raw (.slice none 0 0),num 0])):=hr5▸fK l4
  rw[hr5]
  have hO:dj T (tb n) (cS p p.stack)=bV T tb p0 n p.stack:=by rw[hp];rfl
  have hbr:=R.step hΦ
  have hpk:=fun h=>Jd.ft R hΦ h
  obtain⟨O,hOO⟩:∃O,bV T tb p0 n p.stack=O:=⟨_,rfl⟩
  rw[hOO]at hO hbr hpk
  have htn:=htb n hnn
  have htl:=(List.getElem?_eq_some_iff.1 htn).1
  have hal:O.aI.length≤1000:=by
   rcases hbr with h|⟨h,_⟩
   ·rw[h];simp
   ·exact h
  refine Ib 20 3 (P8 T tbs p1 (rest.length+2) kv3 r5::P8 T tbs p1 (rest.length+2) kv3 (r5.set (rest.length+1) (some (.cells 152 [num n,num 0,aw O.aI,.raw (.slice none 0 0),flag true,num 0])))::P8 T tbs p1 (rest.length+2) kv3 ((r5.set (rest.length+1) (some (.cells 152 [num n,num 0,aw O.aI,.raw (.slice none 0 0),flag true,num 0]))).set (rest.length+3) (some (.cells 66 (dW O.ft))))::P8 T tbs p1 (rest.length+2) kv3 (((r5.set (rest.length+1) (some (.cells 152 [num n,num 0,aw O.aI,.raw (.slice none 0 0),flag true,num 0]))).set (rest.length+3) (some (.cells 66 (dW O.ft)))).set (rest.length+1) (some (.cells 152 [num n,num O.dI,aw O.aI,.raw (.slice none 0 0),flag true,num 0])))::[]) (⟨_,none,0,0⟩::⟨_,none,0,2⟩::⟨aN T,none,0,0⟩::⟨_,none,0,0⟩::⟨_,none,0,0⟩::⟨_,none,0,0⟩::⟨fV (tb n),none,0,0⟩::⟨eS (cS p p.stack),none,0,0⟩::⟨Ae O,none,0,0⟩::⟨Ae O,none,0,0⟩::⟨aw O.aI,none,0,0⟩::⟨eS O.ft,none,0,1⟩::⟨num O.dI,none,0,2⟩::⟨_,none,0,0⟩::⟨_,none,0,0⟩::⟨_,some 0,0,0⟩::⟨_,some 1,0,0⟩::⟨_,none,2,2⟩::⟨_,none,2,2⟩::⟨_,some 2,0,0⟩::[]) _ mixed ?grd1 rfl rfl rfl rfl (.cons (.val [13] rfl rfl (yz (eN (bF rfl) gC)) rfl rfl)<|.cons (.val [13] rfl rfl (yz (eN (bF rfl) (eN (bF rfl) (eN (bF rfl) gC)))) rfl rfl)<|.cons (.val [5] rfl rfl (yz (eN (bF rfl) gC)) rfl rfl)<|.cons (.val [6] rfl rfl (yz (eN (bF rfl) gC)) rfl rfl)<|.cons (.val [0] rfl rfl (yz (eN (bF rfl) gC)) rfl rfl)<|.cons (.val [50,51] rfl rfl (yz (eN (aM ((n*3)) rfl) gC)) rfl rfl)<|.cons (.val [52] rfl rfl (yz (eN (iF rfl (rX tbs n (tb n) htn) rfl) gC)) rfl rfl)<|.cons (.val [9] rfl rfl (yz (eN (gh (σ:=P8 T tbs p1 (rest.length+2) kv3 r5) (blk:=.cells 66 (dW (cS p p.stack))) rfl (bL.tk.get rfl) rfl b5 rfl) gC)) rfl rfl)<|.cons (.val [49,53,54] rfl rfl (yz (eN (dX rfl (hO▸Ej T (tb n) (cS p p.stack) hsl)) gC)) rfl rfl)<|.cons (.val [55] rfl rfl (yz (eN (bF rfl) gC)) rfl rfl)<|.cons (.val [46] rfl rfl (yz (eN (bF rfl) gC)) rfl rfl)<|.cons (.val [46] rfl rfl (yz (eN (bF rfl) (eN (bF rfl) gC))) rfl rfl)<|.cons (.val [46] rfl rfl (yz (eN (bF rfl) (eN (bF rfl) (eN (bF rfl) gC)))) rfl rfl)<|.cons (.val [47] rfl rfl (yz (eN (bF rfl) gC)) rfl rfl)<|.cons (.val [59] rfl rfl (yz (eN (bF rfl) gC)) rfl rfl)<|.cons (.pd [56,60] rfl rfl rfl rfl (cI.to (σ:=P8 T tbs p1 (rest.length+2) kv3 r5) (σ'':=P8 T tbs p1 (rest.length+2) kv3 (r5.set (rest.length+1) (some (.cells 152 [num n,num 0,aw O.aI,.raw (.slice none 0 0),flag true,num 0])))) (cG rfl (bL.tk.get rfl) rfl rfl x5 (Nat.le_of_ble_eq_true rfl)) rfl rfl) rfl)<|.cons (.pd [14,57] rfl rfl rfl rfl (cI.to (σ:=P8 T tbs p1 (rest.length+2) kv3 (r5.set (rest.length+1) (some (.cells 152 [num n,num 0,aw O.aI,.raw (.slice none 0 0),flag true,num 0])))) (σ'':=P8 T tbs p1 (rest.length+2) kv3 ((r5.set (rest.length+1) (some (.cells 152 [num n,num 0,aw O.aI,.raw (.slice none 0 0),flag true,num 0]))).set (rest.length+3) (some (.cells 66 (dW O.ft))))) (uC (ys:=dW O.ft) rfl (bL.tk.get rfl) rfl rfl rfl rfl (aF n5 (by omega)) (Nat.le_of_ble_eq_true rfl)) rfl rfl) rfl)<|.cons (.val [48] rfl rfl (yz (eN (bF rfl) gC)) rfl rfl)<|.cons (.val [61] rfl rfl (yz (eN (bF rfl) gC)) rfl rfl)<|.cons (.pd [58,62] rfl rfl rfl rfl (cI.to (σ:=P8 T tbs p1 (rest.length+2) kv3 ((r5.set (rest.length+1) (some (.cells 152 [num n,num 0,aw O.aI,.raw (.slice none 0 0),flag true,num 0]))).set (rest.length+3) (some (.cells 66 (dW O.ft))))) (σ'':=P8 T tbs p1 (rest.length+2) kv3 (((r5.set (rest.length+1) (some (.cells 152 [num n,num 0,aw O.aI,.raw (.slice none 0 0),flag true,num 0]))).set (rest.length+3) (some (.cells 66 (dW O.ft)))).set (rest.length+1) (some (.cells 152 [num n,num O.dI,aw O.aI,.raw (.slice none 0 0),flag true,num 0])))) (cG rfl (bL.tk.get rfl) rfl rfl (aF (bN x5) (by omega)) (Nat.le_of_ble_eq_true rfl)) rfl rfl) rfl) .nil) (bm (ks:=[3,5,7,13,14]) rfl) ?_
  case grd1=>kernel_rfl
  obtain⟨r6,hr6⟩:∃r6,((r5.set (rest.length+1) (some (.cells 152 [num n,num 0,aw O.aI,.raw (.slice none 0 0),flag true,num 0]))).set (rest.length+3) (some (.cells 66 (dW O.ft)))).set (rest.length+1) (some (.cells 152 [num n,num O.dI,aw O.aI,.raw (.slice none 0 0),flag true,num 0]))=r6:=⟨_,rfl⟩
  have l6:r6.length=rest.length+4:=by rw[←hr6];simp[l5]
  have k6:gW j rest r6:=hr6▸((k5.put (.inr (by omega)) _).put (.inr (by omega)) _).put (.inr (by omega)) _
  have x6:r6[rest.length+1]? =some (some (.cells 152 [num n,num O.dI,aw O.aI,.raw (.slice none 0 0),flag true,num 0])):=hr6▸bN (aF (bN x5) (by omega))
  have j6:r6[rest.length+2]? =some (ev L3):=hr6▸aF (aF (aF j5 (by omega)) (by omega)) (by omega)
  have n6:r6[rest.length+3]? =some (some (.cells 66 (dW O.ft))):=hr6▸aF (bN (aF n5 (by omega))) (by omega)
  rw[hr6]
  refine ak<|ab (.a 3 rfl<|.v (db rfl (bL.tk.get rfl) rfl x6 rfl) rfl<|.a 2 rfl<|.k [3,5,7,13,14,68] rfl)<|ah rfl (fun hc=>?_) (fun hc=>?_)
  ·have harc:O.aI=[]:=List.eq_nil_of_length_eq_zero (by have:=tt hc;omega)
   refine bI<|au 3 rfl<|bd (cI.to (σ:=P8 T tbs p1 (rest.length+2) kv3 r6) (cG rfl (bL.tk.get rfl) rfl rfl x6 (Nat.le_of_ble_eq_true rfl)) (σ'':=P8 T tbs p1 (rest.length+2) kv3 (r6.set (rest.length+1) (some (.cells 152 [num n,num O.dI,aw O.aI,.raw (.slice none 0 0),flag true,num 1])))) rfl rfl) rfl rfl<|aH [3,5,7,13,14] rfl ?_
   obtain⟨r7,hr7⟩:∃r7,r6.set (rest.length+1) (some (.cells 152 [num n,num O.dI,aw O.aI,.raw (.slice none 0 0),flag true,num 1]))=r7:=⟨_,rfl⟩
   have x7:r7[rest.length+1]? =some (some (.cells 152 [num n,num O.dI,aw O.aI,.raw (.slice none 0 0),flag true,num (jf O.aI [])])):=by
    rw[←hr7,bN x6];unfold jf;rw[if_pos harc]
   replace l6:r7.length=rest.length+4:=by rw[←hr7];simp[l6]
   replace k6:gW j rest r7:=hr7▸k6.put (.inr (by omega)) _
   replace j6:r7[rest.length+2]? =some (ev L3):=hr7▸aF j6 (by omega)
   replace n6:r7[rest.length+3]? =some (some (.cells 66 (dW O.ft))):=hr7▸aF n6 (by omega)
   rw[hr7]
   refine ak<|ab (.a 3 rfl<|.v (db rfl (bL.tk.get rfl) rfl x7 rfl) rfl<|.a 2 rfl<|.k [3,5,7,13,14,75,76,77] rfl)<|av<|fp [3,5,7,13,14,75,76,77] rfl<|cq (rest.length+1+8) 3 147 1 x7 rfl ?_
   have hz:(P8 T tbs p1 (rest.length+2) kv3 r7).length=rest.length+4+8:=by rw[←l6];rfl
   rw[hz]
   refine eD (σ':=P8 T tbs p1 (rest.length+2) kv3 ((r7++[ev []]).set (rest.length+1) (some (.cells 152 [num n,num O.dI,aw O.aI,.own (rest.length+4+8),flag true,num (jf O.aI [])])))) rfl ?_
   refine bq (fun r st=>∃(k:Nat) (kv':List (List UInt8×PV)) (L':List PV) (j' jr:Nat) (rest':cf) (vs:List PV) (cs:List Int),k≤O.aI.length∧r=O.aI.length - k∧Jd T tb p0 Φ op j rest n p.stack kv' L' j' jr rest' k vs cs∧st=⟨[(3,.ptr 6 0),(5,.ptr 0 0),(7,.ptr 7 0),(13,.ptr (rest.length+1+8) 0),(14,.ptr (rest.length+3+8) 0),(75,aw O.aI),(76,num O.aI.length),(77,num k)],P8 T tbs p1 j' kv' rest'⟩) O.aI.length ⟨0,kv3,L3,rest.length+2,rest.length+4,_,[],[],Nat.zero_le _,rfl,⟨(k6.app _).put (.inr (by omega)) _,by simp[l6],by rw[hOO];exact bN (cj x7),by rw[hOO];exact aF (cj n6) (by omega),aF (fK l6) (by omega),aF (cj j6) (by omega),by omega,.inl rfl,by omega,hok3,rfl,rfl,fun i hi=>absurd hi (Nat.not_lt_zero i)⟩,rfl⟩ ?_
   rintro r st ⟨k,kv',L',j',jr,rest',vs,cs,hk,rfl,V,rfl⟩
   have vx:=V.x
   have vn:=V.nb
   have vr:=V.row
   have va:=V.al
   have vlen:=V.len
   have vj:=V.j1
   have vjr:=V.JZ
   have vne:=V.ne
   have vrl:=(List.getElem?_eq_some_iff.1 vr).1
   rw[hOO]at vx vn
   refine ab (.a 1 rfl<|.k [3,5,7,13,14,75,76,77,78] rfl)<|ak<|ah rfl (fun hc=>?_) (fun hc=>?_)
   ·have hlt:k<O.aI.length:=by have:=tt hc;omega
    have hne:O.aI≠[]:=fun h=>by rw[h]at hlt;simp at hlt
    have hst:∀a∈O.aI,∃b m:Nat,a=(b:Int)∧b<2*T.ae.length∧aS T b=(m:Int)∧∃u',u'<u∧Φ u' m O.ft.stack:=by
     rcases hbr with h|⟨_,_,h⟩
     ·exact absurd h hne
     ·exact h
    have hmem:O.aI.getD k 0∈O.aI:=ca hlt
    obtain⟨b,m,hab,hb,hm,u',hu',hΦ'⟩:=hst _ hmem
    have hop':∀x∈(rest.length+1,n,p.stack)::op,Fe T tb p0 x.2.1 x.2.2 m O.ft.stack:=fun x hx=>by
     have ha:O.aI.getD k 0∈(bV T tb p0 n p.stack).aI:=by rw[hOO];exact hmem
     have hm':aS T (O.aI.getD k 0).toNat=(m:Int):=by rw[hab,Int.toNat_natCast];exact hm
     rw[←hOO]
     rcases List.mem_cons.1 hx with rfl|hx
     ·exact .one ha hm'
     ·exact .more (hop x hx) ha hm'
    have hll:=bO hv
    refine aj<|ak<|av<|ab (.v (aM (k) rfl) rfl<|.v (aO rfl ((aA _ k hlt).trans (by rw[hab]))) rfl<|.a 1 rfl<|.k [3,5,7,13,14,16,75,76,77] rfl)<|ak<|ab (.a 1 rfl<|.k [3,5,7,13,14,16,75,76,77,81] rfl)<|ah rfl (fun hc=>?_) (fun hc=>?_)
    ·cases hc
    ·refine aj<|Ht 5 20 [82,83,84,85,86] mixed (by kernel_rfl) (by kernel_rfl) (by kernel_rfl) rfl (.a 3 rfl<|.v [83,84] (dX rfl ((show Can Tryz.prog 150 [aN T,num b] (· =num m) by have h:=fI T b hb (by omega);rw[hm]at h;exact h))) rfl rfl<|.v [14] (gh (σ:=P8 T tbs p1 j' kv' rest') (blk:=.cells 66 (dW O.ft)) rfl (bL.tk.get rfl) rfl vn rfl) rfl rfl<|.k [3,5,7,13,14,75,76,77,82,85,86] rfl) ?_
     refine cQ rfl rfl (bU.mono (ih u' hu' m O.ft hΦ' (hpk hne) ((rest.length+1,n,p.stack)::op) kv' L' j' rest' va V.ok hop') (fun y σ' h=>?_))
     obtain⟨c,kv4,L4,j4',r8,hg,rfl,a8,k8,hj8,hok8⟩:=h
     refine au 1 rfl<|aH [3,5,7,13,14,17,75,76,77] rfl ?_
     obtain⟨vs1,cs1,hgv,_,_,_,_⟩:=hg.parts
     subst hgv
     have l8:=k8.len
     have x8:r8[rest.length+1]? =some (some (.cells 152 [num n,num O.dI,aw O.aI,.own (jr+8),flag true,num (jf O.aI cs)])):=(k8.same _ (by omega) (by omega)).trans vx
     have n8:r8[rest.length+3]? =some (some (.cells 66 (dW O.ft))):=(k8.same _ (by omega) (by omega)).trans vn
     have w8:r8[jr]? =some (ev vs):=(k8.same _ vrl (by omega)).trans vr
     have kk8:gW j rest r8:=V.EC.trans k8 (by omega)
     have hgb:=hg.bound
     have hlv:=V.lv
     have hlc:=V.lc
     have e8:j4'≠jr:=by omega
     have x8b:(r8.set jr none++[ev (vs++[PV.aX (du m (bV T tb p0 m O.ft.stack) vs1 c) 0])])[rest.length+1]? =some (some (.cells 152 [num n,num O.dI,aw O.aI,.own (jr+8),flag true,num (jf O.aI cs)])):=cj (aF x8 (by omega))
     refine aR<|au 4 rfl ?_
     refine bE (db rfl (bL.tk.get rfl) rfl x8 rfl) rfl ?_
     refine au 1 rfl ?_
     refine bE (aQ (xs:=[PV.aX (du m (bV T tb p0 m O.ft.stack) vs1 c) 0]) rfl (bL.sl.get rfl) ⟨Nat.le_of_ble_eq_true rfl,Nat.le_of_ble_eq_true rfl⟩ rfl rfl) rfl ?_
     refine cz (cI.to (σ:=P8 T tbs p1 j4' kv4 r8) (bA (e:=147) (s:=1) (by':=8) (i:=jr+8) (m:=1) (n:=vs.length) (xs:=vs) (ys:=[PV.aX (du m (bV T tb p0 m O.ft.stack) vs1 c) 0]) rfl (bL.rk.get rfl) rfl w8 rfl rfl ⟨by unfold maxLen;omega,by omega⟩) (p':=.own (r8.length+8)) (σ'':=P8 T tbs p1 j4' kv4 (r8.set jr none++[ev (vs++[PV.aX (du m (bV T tb p0 m O.ft.stack) vs1 c) 0])])) rfl (by unfold ev;rw[List.length_append];rfl)) rfl ?_
     refine au 2 rfl ?_
     refine bd (cI.to (σ:=P8 T tbs p1 j4' kv4 (r8.set jr none++[ev (vs++[PV.aX (du m (bV T tb p0 m O.ft.stack) vs1 c) 0])])) (cG rfl (bL.tk.get rfl) rfl rfl x8b (Nat.le_of_ble_eq_true rfl)) (σ'':=P8 T tbs p1 j4' kv4 ((r8.set jr none++[ev (vs++[PV.aX (du m (bV T tb p0 m O.ft.stack) vs1 c) 0])]).set (rest.length+1) (some (.cells 152 [num n,num O.dI,aw O.aI,.own (r8.length+8),flag true,num (jf O.aI cs)])))) rfl rfl) rfl rfl ?_
     refine aH [3,5,7,13,14,17,75,76,77] rfl ?_
     obtain⟨r9,hr9⟩:∃r9,(r8.set jr none++[ev (vs++[PV.aX (du m (bV T tb p0 m O.ft.stack) vs1 c) 0])]).set (rest.length+1) (some (.cells 152 [num n,num O.dI,aw O.aI,.own (r8.length+8),flag true,num (jf O.aI cs)]))=r9:=⟨_,rfl⟩
     have l9:r9.length=r8.length+1:=by rw[←hr9];simp
     have kk9:gW j rest r9:=hr9▸((kk8.put (.inr (by omega)) _).app _).put (.inr (by omega)) _
     have x9:r9[rest.length+1]? =some (some (.cells 152 [num n,num O.dI,aw O.aI,.own (r8.length+8),flag true,num (jf O.aI cs)])):=hr9▸bN x8b
     have n9:r9[rest.length+3]? =some (some (.cells 66 (dW O.ft))):=hr9▸aF (cj (aF n8 (by omega))) (by omega)
     have w9:r9[r8.length]? =some (ev (vs++[PV.aX (du m (bV T tb p0 m O.ft.stack) vs1 c) 0])):=hr9▸aF (fK (by simp)) (by omega)
     have a9:r9[j4']? =some (ev L4):=hr9▸aF (cj (aF a8 (by omega))) (by omega)
     rw[hr9]
     have hcb:0≤jf O.aI cs∧jf O.aI cs≤1001:=by
      unfold jf
      rw[if_neg hne]
      refine lZ cs 0 (by omega) (by omega) fun z hz=>?_
      obtain⟨i,hi⟩:=List.getElem?_of_mem hz
      have hil:=(List.getElem?_eq_some_iff.1 hi).1
      have:=(V.ch i (by omega)).bound.1
      rwa [List.getD_eq_getElem?_getD,hi]at this
     have hbs:jf O.aI (cs++[c])=min (jf O.aI cs+c) 1001:=by unfold jf;rw[if_neg hne,if_neg hne,wR]
     refine dS 13 20 mixed (
      .val [13] rfl (bF rfl) rfl rfl<|
      .val [13] rfl (bF rfl) rfl rfl<|
      .val [99] rfl (bF rfl) rfl rfl<|
      .val [100] rfl (bF rfl) rfl rfl<|
      .val [101] rfl (db rfl (bL.tk.get rfl) rfl x9 rfl) rfl rfl<|
      .val [17] rfl (bF rfl) rfl rfl<|
      .val [103] rfl (bF rfl) rfl rfl<|
      .val [104] rfl (bF rfl) rfl rfl<|
      .val [105] rfl (aO rfl (rfl)) rfl rfl<|
      .val [102,106] rfl (aT rfl) rfl rfl<|
      .val [107] rfl (zN rfl rfl rfl (hbs.symm)) rfl rfl<|
      .val [98] rfl (bF rfl) rfl rfl<|
      .val [109] rfl (bF rfl) rfl rfl<|
      .nil) (by kernel_rfl) rfl rfl (bm (ks:=[3,5,7,13,14,75,76,77,108,110]) rfl) ?_
     refine bd (cI.to (σ:=P8 T tbs p1 j4' kv4 r9) (cG rfl (bL.tk.get rfl) rfl rfl x9 (Nat.le_of_ble_eq_true rfl)) (σ'':=P8 T tbs p1 j4' kv4 (r9.set (rest.length+1) (some (.cells 152 [num n,num O.dI,aw O.aI,.own (r8.length+8),flag true,num (jf O.aI (cs++[c]))])))) rfl rfl) rfl rfl<|aH [3,5,7,13,14,75,76,77] rfl ?_
     refine aB (.v (aT rfl) rfl<|.a 1 rfl<|.k [3,5,7,13,14,75,76,77] rfl) ?_
     refine⟨O.aI.length - (k+1),by omega,k+1,kv4,L4,j4',r8.length,_,vs++[PV.aX (du m (bV T tb p0 m O.ft.stack) vs1 c) 0],cs++[c],by omega,rfl,⟨kk9.put (.inr (by omega)) _,by simp[l9];omega,by rw[hOO];exact bN x9,by rw[hOO];exact aF n9 (by omega),aF w9 (by omega),aF a9 (by omega),by omega,by omega,?_,hok8,by simp[hlv],by simp[hlc],fun i hi=>?_⟩,rfl⟩
     ·have:=(List.getElem?_eq_some_iff.1 a8).1;omega
     ·by_cases hik:i<k
      ·have h1:(vs++[PV.aX (du m (bV T tb p0 m O.ft.stack) vs1 c) 0]).getD i .any=vs.getD i .any:=by rw[List.getD_eq_getElem?_getD,List.getD_eq_getElem?_getD,List.getElem?_append_left (by omega)]
       have h2:(cs++[c]).getD i 0=cs.getD i 0:=by rw[List.getD_eq_getElem?_getD,List.getD_eq_getElem?_getD,List.getElem?_append_left (by omega)]
       rw[h1,h2]
       exact V.ch i hik
      ·obtain rfl:i=k:=by omega
       have h1:(vs++[PV.aX (du m (bV T tb p0 m O.ft.stack) vs1 c) 0]).getD i .any=PV.aX (du m (bV T tb p0 m O.ft.stack) vs1 c) 0:=by rw[List.getD_eq_getElem?_getD,fK hlv];rfl
       have h2:(cs++[c]).getD i 0=c:=by rw[List.getD_eq_getElem?_getD,fK hlc];rfl
       rw[h1,h2,hOO,hab,Int.toNat_natCast,hm,Int.toNat_natCast]
       exact hg
   ·have hke:k=O.aI.length:=by have:=ff hc;omega
    refine bf<|aR<|au 3 rfl<|bd (cI.to (σ:=P8 T tbs p1 j' kv' rest') (cG rfl (bL.tk.get rfl) rfl rfl vx (Nat.le_of_ble_eq_true rfl)) (σ'':=P8 T tbs p1 j' kv' (rest'.set (rest.length+1) (some (.cells 152 [num n,num O.dI,aw O.aI,.own (jr+8),flag false,num (jf O.aI cs)])))) rfl rfl) rfl rfl<|aH [13] rfl ?_
    subst hke
    have hlv:=V.lv
    have hlc:=V.lc
    have hgood:Good T tb p0 Φ (.aX (du n O vs (jf O.aI cs)) 0) n p.stack (jf O.aI cs):=by
     have:=Good.mk (T:=T) (tb:=tb) (p0:=p0) (Φ:=Φ) (vs:=vs) (cs:=cs) hΦ (by rw[hOO];exact hlv) (by rw[hOO];exact hlc) (fun i hi=>by rw[hOO]at hi;exact V.ch i hi)
     rwa [hOO]at this
    obtain⟨kv9,L9,hok9,hk9,hf9,hL9⟩:=mG.close (ty:=152) V.ok hgood
    refine wD (jr+8) (σ':=P8 T tbs p1 j' kv' ((rest'.set jr none).set (rest.length+1) (some (.cells 152 (du n O vs (jf O.aI cs)))))) (aF vr (by omega)) (uo (by simp) (aF (bN vr) (by omega)) (fun z hz=>?_) rfl (kc.refl _)) (.cons 13 rfl (.same _) .nil) ?_
    ·by_cases h1:z=rest.length+1
     ·subst h1
      exact .inr ⟨_,_,bN vx,bN (aF vx (by omega)),.cells (.cons (.same _)<|.cons (.same _)<|.cons (.same _)<|.cons .own<|.cons (.same _)<|.cons (.same _) .nil)⟩
     ·refine .inl ?_
      rw[List.getElem?_set,if_neg (by omega),List.getElem?_set,if_neg (by omega),List.getElem?_set,if_neg (by omega)]
    refine wD (rest.length+1+8) (σ':=P8 T tbs p1 j' kv9 ((((rest'.set jr none).set (rest.length+1) (some (.cells 152 (du n O vs (jf O.aI cs))))).set (rest.length+1) none).set j' (ev L9))) (bN (aF vx (by omega))) (uo (by simp) (aF (bN (bN (aF vx (by omega)))) (by omega)) (fun z hz=>?_) hk9 hf9) (.cons 13 rfl (.ptr 0) .nil) ?_
    ·by_cases h1:z=j'
     ·subst h1
      refine .inr ⟨_,_,aF (aF va (by omega)) (by omega),bN (aF (aF (aF va (by omega)) (by omega)) (by omega)),?_⟩
      have:=hL9.1
      rw[this]
      exact .row hL9
     ·refine .inl ?_
      rw[List.getElem?_set,if_neg (by omega),List.getElem?_set,if_neg (by omega)]
    refine ab (.a 2 rfl<|.k [10] rfl)<|aq<|⟨_,az.of rfl,jf O.aI cs,kv9,L9,j',_,hgood,rfl,?_,?_,by omega,hok9⟩
    ·exact bN (aF (aF (aF va (by omega)) (by omega)) (by omega))
    ·exact(((V.EC.put (.inr (by omega)) _).put (.inr (by omega)) _).put (.inr (by omega)) _).put (by omega) _
  ·have harc:O.aI≠[]:=fun h=>by have:=ff hc;rw[h]at this;simp at this
   have x7:r6[rest.length+1]? =some (some (.cells 152 [num n,num O.dI,aw O.aI,.raw (.slice none 0 0),flag true,num (jf O.aI [])])):=by rw[x6];unfold jf;rw[if_neg harc];rfl
   obtain⟨r7,hr7⟩:∃r7,r6=r7:=⟨_,rfl⟩
   rw[hr7]at l6 k6 x7 j6 n6 ⊢
   refine aj<|ak<|ab (.a 3 rfl<|.v (db rfl (bL.tk.get rfl) rfl x7 rfl) rfl<|.a 2 rfl<|.k [3,5,7,13,14,75,76,77] rfl)<|av<|fp [3,5,7,13,14,75,76,77] rfl<|cq (rest.length+1+8) 3 147 1 x7 rfl ?_
   have hz:(P8 T tbs p1 (rest.length+2) kv3 r7).length=rest.length+4+8:=by rw[←l6];rfl
   rw[hz]
   refine eD (σ':=P8 T tbs p1 (rest.length+2) kv3 ((r7++[ev []]).set (rest.length+1) (some (.cells 152 [num n,num O.dI,aw O.aI,.own (rest.length+4+8),flag true,num (jf O.aI [])])))) rfl ?_
   refine bq (fun r st=>∃(k:Nat) (kv':List (List UInt8×PV)) (L':List PV) (j' jr:Nat) (rest':cf) (vs:List PV) (cs:List Int),k≤O.aI.length∧r=O.aI.length - k∧Jd T tb p0 Φ op j rest n p.stack kv' L' j' jr rest' k vs cs∧st=⟨[(3,.ptr 6 0),(5,.ptr 0 0),(7,.ptr 7 0),(13,.ptr (rest.length+1+8) 0),(14,.ptr (rest.length+3+8) 0),(75,aw O.aI),(76,num O.aI.length),(77,num k)],P8 T tbs p1 j' kv' rest'⟩) O.aI.length ⟨0,kv3,L3,rest.length+2,rest.length+4,_,[],[],Nat.zero_le _,rfl,⟨(k6.app _).put (.inr (by omega)) _,by simp[l6],by rw[hOO];exact bN (cj x7),by rw[hOO];exact aF (cj n6) (by omega),aF (fK l6) (by omega),aF (cj j6) (by omega),by omega,.inl rfl,by omega,hok3,rfl,rfl,fun i hi=>absurd hi (Nat.not_lt_zero i)⟩,rfl⟩ ?_
   rintro r st ⟨k,kv',L',j',jr,rest',vs,cs,hk,rfl,V,rfl⟩
   have vx:=V.x
   have vn:=V.nb
   have vr:=V.row
   have va:=V.al
   have vlen:=V.len
   have vj:=V.j1
   have vjr:=V.JZ
   have vne:=V.ne
   have vrl:=(List.getElem?_eq_some_iff.1 vr).1
   rw[hOO]at vx vn
   refine ab (.a 1 rfl<|.k [3,5,7,13,14,75,76,77,78] rfl)<|ak<|ah rfl (fun hc=>?_) (fun hc=>?_)
   ·have hlt:k<O.aI.length:=by have:=tt hc;omega
    have hne:O.aI≠[]:=fun h=>by rw[h]at hlt;simp at hlt
    have hst:∀a∈O.aI,∃b m:Nat,a=(b:Int)∧b<2*T.ae.length∧aS T b=(m:Int)∧∃u',u'<u∧Φ u' m O.ft.stack:=by
     rcases hbr with h|⟨_,_,h⟩
     ·exact absurd h hne
     ·exact h
    have hmem:O.aI.getD k 0∈O.aI:=ca hlt
    obtain⟨b,m,hab,hb,hm,u',hu',hΦ'⟩:=hst _ hmem
    have hop':∀x∈(rest.length+1,n,p.stack)::op,Fe T tb p0 x.2.1 x.2.2 m O.ft.stack:=fun x hx=>by
     have ha:O.aI.getD k 0∈(bV T tb p0 n p.stack).aI:=by rw[hOO];exact hmem
     have hm':aS T (O.aI.getD k 0).toNat=(m:Int):=by rw[hab,Int.toNat_natCast];exact hm
     rw[←hOO]
     rcases List.mem_cons.1 hx with rfl|hx
     ·exact .one ha hm'
     ·exact .more (hop x hx) ha hm'
    have hll:=bO hv
    refine aj<|ak<|av<|ab (.v (aM (k) rfl) rfl<|.v (aO rfl ((aA _ k hlt).trans (by rw[hab]))) rfl<|.a 1 rfl<|.k [3,5,7,13,14,16,75,76,77] rfl)<|ak<|ab (.a 1 rfl<|.k [3,5,7,13,14,16,75,76,77,81] rfl)<|ah rfl (fun hc=>?_) (fun hc=>?_)
    ·cases hc
    ·refine aj<|Ht 5 20 [82,83,84,85,86] mixed (by kernel_rfl) (by kernel_rfl) (by kernel_rfl) rfl (.a 3 rfl<|.v [83,84] (dX rfl ((show Can Tryz.prog 150 [aN T,num b] (· =num m) by have h:=fI T b hb (by omega);rw[hm]at h;exact h))) rfl rfl<|.v [14] (gh (σ:=P8 T tbs p1 j' kv' rest') (blk:=.cells 66 (dW O.ft)) rfl (bL.tk.get rfl) rfl vn rfl) rfl rfl<|.k [3,5,7,13,14,75,76,77,82,85,86] rfl) ?_
     refine cQ rfl rfl (bU.mono (ih u' hu' m O.ft hΦ' (hpk hne) ((rest.length+1,n,p.stack)::op) kv' L' j' rest' va V.ok hop') (fun y σ' h=>?_))
     obtain⟨c,kv4,L4,j4',r8,hg,rfl,a8,k8,hj8,hok8⟩:=h
     refine au 1 rfl<|aH [3,5,7,13,14,17,75,76,77] rfl ?_
     obtain⟨vs1,cs1,hgv,_,_,_,_⟩:=hg.parts
     subst hgv
     have l8:=k8.len
     have x8:r8[rest.length+1]? =some (some (.cells 152 [num n,num O.dI,aw O.aI,.own (jr+8),flag true,num (jf O.aI cs)])):=(k8.same _ (by omega) (by omega)).trans vx
     have n8:r8[rest.length+3]? =some (some (.cells 66 (dW O.ft))):=(k8.same _ (by omega) (by omega)).trans vn
     have w8:r8[jr]? =some (ev vs):=(k8.same _ vrl (by omega)).trans vr
     have kk8:gW j rest r8:=V.EC.trans k8 (by omega)
     have hgb:=hg.bound
     have hlv:=V.lv
     have hlc:=V.lc
     have e8:j4'≠jr:=by omega
     have x8b:(r8.set jr none++[ev (vs++[PV.aX (du m (bV T tb p0 m O.ft.stack) vs1 c) 0])])[rest.length+1]? =some (some (.cells 152 [num n,num O.dI,aw O.aI,.own (jr+8),flag true,num (jf O.aI cs)])):=cj (aF x8 (by omega))
     refine aR<|au 4 rfl ?_
     refine bE (db rfl (bL.tk.get rfl) rfl x8 rfl) rfl ?_
     refine au 1 rfl ?_
     refine bE (aQ (xs:=[PV.aX (du m (bV T tb p0 m O.ft.stack) vs1 c) 0]) rfl (bL.sl.get rfl) ⟨Nat.le_of_ble_eq_true rfl,Nat.le_of_ble_eq_true rfl⟩ rfl rfl) rfl ?_
     refine cz (cI.to (σ:=P8 T tbs p1 j4' kv4 r8) (bA (e:=147) (s:=1) (by':=8) (i:=jr+8) (m:=1) (n:=vs.length) (xs:=vs) (ys:=[PV.aX (du m (bV T tb p0 m O.ft.stack) vs1 c) 0]) rfl (bL.rk.get rfl) rfl w8 rfl rfl ⟨by unfold maxLen;omega,by omega⟩) (p':=.own (r8.length+8)) (σ'':=P8 T tbs p1 j4' kv4 (r8.set jr none++[ev (vs++[PV.aX (du m (bV T tb p0 m O.ft.stack) vs1 c) 0])])) rfl (by unfold ev;rw[List.length_append];rfl)) rfl ?_
     refine au 2 rfl ?_
     refine bd (cI.to (σ:=P8 T tbs p1 j4' kv4 (r8.set jr none++[ev (vs++[PV.aX (du m (bV T tb p0 m O.ft.stack) vs1 c) 0])])) (cG rfl (bL.tk.get rfl) rfl rfl x8b (Nat.le_of_ble_eq_true rfl)) (σ'':=P8 T tbs p1 j4' kv4 ((r8.set jr none++[ev (vs++[PV.aX (du m (bV T tb p0 m O.ft.stack) vs1 c) 0])]).set (rest.length+1) (some (.cells 152 [num n,num O.dI,aw O.aI,.own (r8.length+8),flag true,num (jf O.aI cs)])))) rfl rfl) rfl rfl ?_
     refine aH [3,5,7,13,14,17,75,76,77] rfl ?_
     obtain⟨r9,hr9⟩:∃r9,(r8.set jr none++[ev (vs++[PV.aX (du m (bV T tb p0 m O.ft.stack) vs1 c) 0])]).set (rest.length+1) (some (.cells 152 [num n,num O.dI,aw O.aI,.own (r8.length+8),flag true,num (jf O.aI cs)]))=r9:=⟨_,rfl⟩
     have l9:r9.length=r8.length+1:=by rw[←hr9];simp
     have kk9:gW j rest r9:=hr9▸((kk8.put (.inr (by omega)) _).app _).put (.inr (by omega)) _
     have x9:r9[rest.length+1]? =some (some (.cells 152 [num n,num O.dI,aw O.aI,.own (r8.length+8),flag true,num (jf O.aI cs)])):=hr9▸bN x8b
     have n9:r9[rest.length+3]? =some (some (.cells 66 (dW O.ft))):=hr9▸aF (cj (aF n8 (by omega))) (by omega)
     have w9:r9[r8.length]? =some (ev (vs++[PV.aX (du m (bV T tb p0 m O.ft.stack) vs1 c) 0])):=hr9▸aF (fK (by simp)) (by omega)
     have a9:r9[j4']? =some (ev L4):=hr9▸aF (cj (aF a8 (by omega))) (by omega)
     rw[hr9]
     have hcb:0≤jf O.aI cs∧jf O.aI cs≤1001:=by
      unfold jf
      rw[if_neg hne]
      refine lZ cs 0 (by omega) (by omega) fun z hz=>?_
      obtain⟨i,hi⟩:=List.getElem?_of_mem hz
      have hil:=(List.getElem?_eq_some_iff.1 hi).1
      have:=(V.ch i (by omega)).bound.1
      rwa [List.getD_eq_getElem?_getD,hi]at this
     have hbs:jf O.aI (cs++[c])=min (jf O.aI cs+c) 1001:=by unfold jf;rw[if_neg hne,if_neg hne,wR]
     refine dS 13 20 mixed (
      .val [13] rfl (bF rfl) rfl rfl<|
      .val [13] rfl (bF rfl) rfl rfl<|
      .val [99] rfl (bF rfl) rfl rfl<|
      .val [100] rfl (bF rfl) rfl rfl<|
      .val [101] rfl (db rfl (bL.tk.get rfl) rfl x9 rfl) rfl rfl<|
      .val [17] rfl (bF rfl) rfl rfl<|
      .val [103] rfl (bF rfl) rfl rfl<|
      .val [104] rfl (bF rfl) rfl rfl<|
      .val [105] rfl (aO rfl (rfl)) rfl rfl<|
      .val [102,106] rfl (aT rfl) rfl rfl<|
      .val [107] rfl (zN rfl rfl rfl (hbs.symm)) rfl rfl<|
      .val [98] rfl (bF rfl) rfl rfl<|
      .val [109] rfl (bF rfl) rfl rfl<|
      .nil) (by kernel_rfl) rfl rfl (bm (ks:=[3,5,7,13,14,75,76,77,108,110]) rfl) ?_
     refine bd (cI.to (σ:=P8 T tbs p1 j4' kv4 r9) (cG rfl (bL.tk.get rfl) rfl rfl x9 (Nat.le_of_ble_eq_true rfl)) (σ'':=P8 T tbs p1 j4' kv4 (r9.set (rest.length+1) (some (.cells 152 [num n,num O.dI,aw O.aI,.own (r8.length+8),flag true,num (jf O.aI (cs++[c]))])))) rfl rfl) rfl rfl<|aH [3,5,7,13,14,75,76,77] rfl ?_
     refine aB (.v (aT rfl) rfl<|.a 1 rfl<|.k [3,5,7,13,14,75,76,77] rfl) ?_
     refine⟨O.aI.length - (k+1),by omega,k+1,kv4,L4,j4',r8.length,_,vs++[PV.aX (du m (bV T tb p0 m O.ft.stack) vs1 c) 0],cs++[c],by omega,rfl,⟨kk9.put (.inr (by omega)) _,by simp[l9];omega,by rw[hOO];exact bN x9,by rw[hOO];exact aF n9 (by omega),aF w9 (by omega),aF a9 (by omega),by omega,by omega,?_,hok8,by simp[hlv],by simp[hlc],fun i hi=>?_⟩,rfl⟩
     ·have:=(List.getElem?_eq_some_iff.1 a8).1;omega
     ·by_cases hik:i<k
      ·have h1:(vs++[PV.aX (du m (bV T tb p0 m O.ft.stack) vs1 c) 0]).getD i .any=vs.getD i .any:=by rw[List.getD_eq_getElem?_getD,List.getD_eq_getElem?_getD,List.getElem?_append_left (by omega)]
       have h2:(cs++[c]).getD i 0=cs.getD i 0:=by rw[List.getD_eq_getElem?_getD,List.getD_eq_getElem?_getD,List.getElem?_append_left (by omega)]
       rw[h1,h2]
       exact V.ch i hik
      ·obtain rfl:i=k:=by omega
       have h1:(vs++[PV.aX (du m (bV T tb p0 m O.ft.stack) vs1 c) 0]).getD i .any=PV.aX (du m (bV T tb p0 m O.ft.stack) vs1 c) 0:=by rw[List.getD_eq_getElem?_getD,fK hlv];rfl
       have h2:(cs++[c]).getD i 0=c:=by rw[List.getD_eq_getElem?_getD,fK hlc];rfl
       rw[h1,h2,hOO,hab,Int.toNat_natCast,hm,Int.toNat_natCast]
       exact hg
   ·have hke:k=O.aI.length:=by have:=ff hc;omega
    refine bf<|aR<|au 3 rfl<|bd (cI.to (σ:=P8 T tbs p1 j' kv' rest') (cG rfl (bL.tk.get rfl) rfl rfl vx (Nat.le_of_ble_eq_true rfl)) (σ'':=P8 T tbs p1 j' kv' (rest'.set (rest.length+1) (some (.cells 152 [num n,num O.dI,aw O.aI,.own (jr+8),flag false,num (jf O.aI cs)])))) rfl rfl) rfl rfl<|aH [13] rfl ?_
    subst hke
    have hlv:=V.lv
    have hlc:=V.lc
    have hgood:Good T tb p0 Φ (.aX (du n O vs (jf O.aI cs)) 0) n p.stack (jf O.aI cs):=by
     have:=Good.mk (T:=T) (tb:=tb) (p0:=p0) (Φ:=Φ) (vs:=vs) (cs:=cs) hΦ (by rw[hOO];exact hlv) (by rw[hOO];exact hlc) (fun i hi=>by rw[hOO]at hi;exact V.ch i hi)
     rwa [hOO]at this
    obtain⟨kv9,L9,hok9,hk9,hf9,hL9⟩:=mG.close (ty:=152) V.ok hgood
    refine wD (jr+8) (σ':=P8 T tbs p1 j' kv' ((rest'.set jr none).set (rest.length+1) (some (.cells 152 (du n O vs (jf O.aI cs)))))) (aF vr (by omega)) (uo (by simp) (aF (bN vr) (by omega)) (fun z hz=>?_) rfl (kc.refl _)) (.cons 13 rfl (.same _) .nil) ?_
    ·by_cases h1:z=rest.length+1
     ·subst h1
      exact .inr ⟨_,_,bN vx,bN (aF vx (by omega)),.cells (.cons (.same _)<|.cons (.same _)<|.cons (.same _)<|.cons .own<|.cons (.same _)<|.cons (.same _) .nil)⟩
     ·refine .inl ?_
      rw[List.getElem?_set,if_neg (by omega),List.getElem?_set,if_neg (by omega),List.getElem?_set,if_neg (by omega)]
    refine wD (rest.length+1+8) (σ':=P8 T tbs p1 j' kv9 ((((rest'.set jr none).set (rest.length+1) (some (.cells 152 (du n O vs (jf O.aI cs))))).set (rest.length+1) none).set j' (ev L9))) (bN (aF vx (by omega))) (uo (by simp) (aF (bN (bN (aF vx (by omega)))) (by omega)) (fun z hz=>?_) hk9 hf9) (.cons 13 rfl (.ptr 0) .nil) ?_
    ·by_cases h1:z=j'
     ·subst h1
      refine .inr ⟨_,_,aF (aF va (by omega)) (by omega),bN (aF (aF (aF va (by omega)) (by omega)) (by omega)),?_⟩
      have:=hL9.1
      rw[this]
      exact .row hL9
     ·refine .inl ?_
      rw[List.getElem?_set,if_neg (by omega),List.getElem?_set,if_neg (by omega)]
    refine ab (.a 2 rfl<|.k [10] rfl)<|aq<|⟨_,az.of rfl,jf O.aI cs,kv9,L9,j',_,hgood,rfl,?_,?_,by omega,hok9⟩
    ·exact bN (aF (aF (aF va (by omega)) (by omega)) (by omega))
    ·exact(((V.EC.put (.inr (by omega)) _).put (.inr (by omega)) _).put (.inr (by omega)) _).put (by omega) _
end
end PW
end Go.Proofs.YtnegbdpggideiaaGreatDoor
namespace Go.Proofs.YtnegbdpggideiaaGreatDoor
namespace PW
open Go.RowKit cE Mem Net fk
section
variable {T:ai} {tb:Nat→dR} {p0:eU} {Φ:Nat→Nat→List bY→Prop}
def JE(T:ai)(tb:Nat→dR)(p0:eU)(Φ:Nat→Nat→List bY→Prop)(n:Nat)(s:List bY)(r:PV):Prop:=
 ∃v c L,r= .tuple [v,.slice L.length L,num 0]∧Good T tb p0 Φ v n s c∧L.length≤1000000∧∀x∈L,∃n s c,Good T tb p0 Φ x n s c
instance:eL E0:=by unfold E0;infer_instance
theorem IC:uR Tryz.prog 189=some [.nilFunc]:=by kernel_rfl
set_option maxHeartbeats 4000000 in
theorem ry(R:ib T tb p0 Φ)(hv:ao T=true)(h12:T.nodes≤12){U:List (Nat×List bY)}(hU:∀ {u n s},Φ u n s→(n,s)∈U)(hUl:U.length≤1000000)(tbs:List dR)(htl:(tbs.length:Int)=T.nodes)(htb:∀n:Nat,(n:Int)<T.nodes→tbs[n]? =some (tb n))
  (hok:∀n:Nat,(n:Int)<T.nodes→(tb n).node=(n:Int)∧dD T (tb n)=true) {u n:Nat} {p:eU} (hΦ:Φ u n p.stack) (hp:cS p p.stack=cS p0 p.stack):
  Can Tryz.prog 115 [aN T,iw tbs,eS p,num n] (JE T tb p0 Φ n p.stack):=by
 have hn:=R.node hΦ
 have hck:=xn T tbs n hv htl (fun i x hx=>by
  have hil:=(List.getElem?_eq_some_iff.1 hx).1
  have:=htb i (by omega)
  rw[this]at hx
  cases hx
  exact hok i (by omega)) (aU.2 ⟨by omega,hn⟩)
 refine aG Tryz.func115 rfl Tryz.ntmps115 rfl<|aR<|cz (fJ rfl rfl rfl) rfl<|cz (fJ (xs:=[_]) rfl rfl rfl) rfl<|cz (fJ rfl rfl rfl) rfl<|au 3 rfl<|aH [3,4,5,6,9] rfl ?_
 refine ak<|ab (.a 3 rfl<|.c rfl (hck) rfl<|.a 1 rfl<|.k [3,4,5,6,9,11] rfl)<|ab (.a 2 rfl<|.k [3,4,5,6,9,11,20] rfl)<|ah rfl (fun hc=>?_) (fun hc=>?_)
 ·cases hc
 ·refine aj<|aR<|cz (ot pA rfl) rfl<|au 2 rfl<|aH [3,4,5,6,9,12] rfl ?_
  refine aR<|au 2 rfl<|aH [3,4,5,6,9,12,13] rfl ?_
  refine aR<|cz (tV (z:=[.nilFunc]) rfl IC) rfl<|aH [3,4,5,6,9,12,13,14] rfl ?_
  refine aR<|au 1 rfl ?_
  refine bd (cG (p:=E0) rfl (bL.tk.get rfl) rfl rfl rfl (Nat.le_of_ble_eq_true rfl)) rfl rfl ?_
  refine aH [3,6,9,13,14] rfl ?_
  refine cq 3 0 147 1 rfl rfl ?_
  refine eD (σ':=P8 T tbs p 0 [] [ev []]) rfl ?_
  refine aR<|au 3 rfl<|cQ rfl rfl (bU.mono (AR R hv h12 hU hUl tbs htb p u n p hΦ hp [] [] [] 0 [ev []] rfl ⟨fun e he=>(by cases he),List.nodup_nil,fun e he=>(by cases he),rfl⟩ (fun x hx=>(by cases hx))) (fun y σ' h=>?_))
  obtain⟨c,kv,L,j,rest,hg,rfl,hj,_,_,hkv⟩:=h
  refine au 1 rfl<|aH [8,9,13] rfl ?_
  haveI:=hg.pure
  refine ak<|ab (.a 1 rfl<|.k [8,9,28] rfl)<|ah rfl (fun hc=>?_) (fun hc=>?_)
  ·cases hc
  ·refine aj<|qw ([(8,y),(9,.ptr 3 0),(10,num 0)]) (P8 T tbs p j kv rest) mixed ?_ ?_
   ·refine bK 0 [1] (by kernel_rfl) ?_
    refine ba rfl rfl (bE (bF rfl) rfl (aZ ?_)) ?_
    ·refine bK 1 [2] (by kernel_rfl) ?_
     refine ba rfl rfl (bE (bF rfl) rfl (aZ ?_)) ?_
     ·refine bK 2 [] (by kernel_rfl) ?_
      refine ba rfl rfl (bE (bF rfl) rfl (aZ ?_)) bJ
      refine bK 3 [] (by kernel_rfl) ?_
      refine ba rfl rfl (bd (cI.to (σ:=P8 T tbs p j kv rest) (cG rfl (bL.tk.get rfl) rfl rfl rfl (Nat.le_of_ble_eq_true rfl)) (σ'':=P8 T tbs p j kv rest) rfl rfl) rfl rfl (aZ ?_)) bJ
      refine bK 4 [] (by kernel_rfl) ?_
      refine ba rfl rfl (bE (bF rfl) rfl (aZ ?_)) bJ
      exact jz (by kernel_rfl) ⟨rfl,bm (ks:=[8,9,10]) rfl⟩
     refine ba rfl rfl (bE (bF rfl) rfl (aZ ?_)) bJ
     refine bK 1 [] (by kernel_rfl) ?_
     refine ba rfl rfl (bE (bF rfl) rfl (aZ ?_)) bJ
     refine bK 3 [] (by kernel_rfl) ?_
     refine ba rfl rfl (bd (cI.to (σ:=P8 T tbs p j kv rest) (cG rfl (bL.tk.get rfl) rfl rfl rfl (Nat.le_of_ble_eq_true rfl)) (σ'':=P8 T tbs p j kv rest) rfl rfl) rfl rfl (aZ ?_)) bJ
     refine bK 4 [] (by kernel_rfl) ?_
     refine ba rfl rfl (bE (bF rfl) rfl (aZ ?_)) bJ
     exact jz (by kernel_rfl) ⟨rfl,bm (ks:=[8,9,10]) rfl⟩
    refine ba rfl rfl (bE (bF rfl) rfl (aZ ?_)) bJ
    refine bK 0 [] (by kernel_rfl) ?_
    refine ba rfl rfl (bE (bF rfl) rfl (aZ ?_)) bJ
    refine bK 2 [] (by kernel_rfl) ?_
    refine ba rfl rfl (bE (bF rfl) rfl (aZ ?_)) bJ
    refine bK 3 [] (by kernel_rfl) ?_
    refine ba rfl rfl (bd (cI.to (σ:=P8 T tbs p j kv rest) (cG rfl (bL.tk.get rfl) rfl rfl rfl (Nat.le_of_ble_eq_true rfl)) (σ'':=P8 T tbs p j kv rest) rfl rfl) rfl rfl (aZ ?_)) bJ
    refine bK 4 [] (by kernel_rfl) ?_
    refine ba rfl rfl (bE (bF rfl) rfl (aZ ?_)) bJ
    exact jz (by kernel_rfl) ⟨rfl,bm (ks:=[8,9,10]) rfl⟩
   refine aq ?_
   have hall:∀x∈L,∃n s c,Good T tb p0 Φ x n s c:=fun x hx=>by
    obtain⟨n1,s1,h1⟩:=hkv.all x hx
    rcases h1 with⟨c1,h1⟩|⟨_,h1,_⟩
    ·exact⟨n1,s1,c1,h1⟩
    ·cases h1
   haveI:aJ L:=⟨fun i x hx=>by
    obtain⟨_,_,_,h⟩:=hall x (List.mem_of_getElem? hx)
    exact h.pure⟩
   have hfew:=hkv.JW R h12 hU
   have hlen:=hkv.len
   exact⟨_,_,az.of rfl,aC.bz (an.cons aC.pure<|an.cons (aC.fu (i:=j+8) (show(P8 T tbs p j kv rest)[j+8]? =_ from hj) an.pure)<|an.cons aC.pure an.nil),y,c,L,rfl,hg,by omega,hall⟩
set_option maxHeartbeats 4000000 in
theorem uu(R:ib T tb p0 Φ)(hdel:∀ {u n s},Φ u n s→(bV T tb p0 n s).aI=[]→(bV T tb p0 n s).dI= -1)(hv:ao T=true)(h12:T.nodes≤12){U:List (Nat×List bY)}(hU:∀ {u n s},Φ u n s→(n,s)∈U)(hUl:U.length≤1000000)(tbs:List dR)(htl:(tbs.length:Int)=T.nodes)(htb:∀n:Nat,(n:Int)<T.nodes→tbs[n]? =some (tb n))
  (hok:∀n:Nat,(n:Int)<T.nodes→(tb n).node=(n:Int)∧dD T (tb n)=true) {u n:Nat} {p:eU} (hΦ:Φ u n p.stack) (hp:cS p p.stack=cS p0 p.stack):
  Can Tryz.prog 56 [aN T,iw tbs,eS p,num n] (· = .tuple [flag true,num 0]):=by
 refine aG Tryz.func56 rfl Tryz.ntmps56 rfl<|ab (.a 4 rfl<|.k [1,3,4,6] rfl)<|aR<|au 4 rfl<|cQ rfl rfl (bU.mono (bU.Co (ry R hv h12 hU hUl tbs htl htb hok hΦ hp)) (fun y σ' h=>?_))
 obtain⟨⟨v,c,L,rfl,hg,hL,hall⟩,rfl⟩:=h
 refine au 7 rfl<|aH [11,12] rfl ?_
 haveI:aJ L:=⟨fun i x hx=>by
  obtain⟨_,_,_,h⟩:=hall x (List.mem_of_getElem? hx)
  exact h.pure⟩
 refine ak<|ab (.a 2 rfl<|.k [11,12,25] rfl)<|ah rfl (fun hc=>?_) (fun hc=>?_)
 ·cases hc
 ·refine aj<|ak<|ab (.a 3 rfl<|.k [27,28,29] rfl)<|av<|fp [27,28,29] rfl<|bq (fun r st=>∃k,k≤L.length∧r=L.length - k∧st=⟨[(27,.slice L.length L),(28,num L.length),(29,num k)],[]⟩) L.length ⟨0,by omega,by omega,rfl⟩ ?_
  rintro r st ⟨k,hk,rfl,rfl⟩
  refine ab (.a 1 rfl<|.k [27,28,29,30] rfl)<|ak<|ah rfl (fun hc=>?_) (fun hc=>?_)
  ·have hlt:k<L.length:=by have:=tt hc;omega
   obtain⟨x,hx⟩:∃x,L[k]? =some x:=⟨_,List.getElem?_eq_getElem hlt⟩
   obtain⟨n1,s1,c1,hg1⟩:=hall x (List.mem_of_getElem? hx)
   obtain⟨vs,cs,rfl,_⟩:=hg1.parts
   obtain⟨u1,h1⟩:=hg1.state
   have hd1:=hdel h1
   obtain⟨O,hO⟩:∃O,bV T tb p0 n1 s1=O:=⟨_,rfl⟩
   rw[hO]at hx hd1
   obtain⟨q1,hq1⟩:∃q,decide ((O.aI.length:Int)=0)=q:=⟨_,rfl⟩
   obtain⟨q2,hq2⟩:∃q,decide (O.dI≠ -1)=q:=⟨_,rfl⟩
   refine aj<|ak<|av<|ab (.v (aM (k) rfl) rfl<|.v (aO rfl (hx)) rfl<|.a 1 rfl<|.k [14,27,28,29] rfl)<|bu 45 (.raw (.bool (q1&&q2))) [27,28,29] rfl ?_ ?_
   ·refine .a 5 rfl<|.v (cg rfl (hq1)) rfl<|.a 1 rfl<|?_
    cases q1
    ·exact .a 6 rfl<|.k [45,27,28,29] rfl
    ·exact .a 3 rfl<|.v (aO rfl (rfl)) rfl<|.v (cg rfl (hq2)) rfl<|.a 1 rfl<|.k [45,27,28,29] rfl
   refine ah rfl (fun hc=>?_) (fun hc=>?_)
   ·have hz:(q1&&q2)=false:=by
     cases q1 with
     |false=>rfl
     |true=>
      cases q2 with
      |false=>rfl
      |true=>exact absurd (hd1 (List.eq_nil_of_length_eq_zero (by have:=tt hq1;omega))) (tt hq2)
    rw[hz]at hc
    cases hc
   ·refine aj<|aB (.v (aT rfl) rfl<|.a 1 rfl<|.k [27,28,29] rfl) ?_
    exact⟨L.length - (k+1),by omega,k+1,by omega,rfl,rfl⟩
  ·have hke:k=L.length:=by have:=ff hc;omega
   exact bf<|ab (.a 2 rfl<|.k [8,9] rfl)<|aq<|⟨_,_,az.of rfl,aC.pure,rfl⟩
end
end PW
end Go.Proofs.YtnegbdpggideiaaGreatDoor
namespace Go.Proofs.YtnegbdpggideiaaGreatDoor
namespace PW
open Go.RowKit cE Mem Net fk
structure Lone (T:ai) (tb:Nat→dR) (p0:eU) (Φ:Nat→Nat→List bY→Prop):Prop where
 runs:ib T tb p0 Φ
 one:∀ {u n s},Φ u n s→(bV T tb p0 n s).aI.length≤1
 del:∀ {u n s},Φ u n s→(bV T tb p0 n s).aI=[]→(bV T tb p0 n s).dI= -1
section
variable {T:ai} {k x:Int} {d:Nat} {st:Nat→Int} {p0:eU}
theorem wx(hv:ao T=true)(h12:T.nodes≤12)(h16:T.ae.length≤16)(hd:(d:Int)<T.nodes)(hp0:p0.dst=(d:Int)):Lone T (lr T (ay T k x) st) p0 (fun u n s=>∃q,fD T k x d n s q∧u=q.length) where
 runs:=vR hv h12 h16 hd hp0
 one:=fun {u n s} ⟨q,h,hu⟩=>by
  cases q with
  |nil=>
   obtain⟨_,e2,_⟩:=fL hv h12 hd h (st n) (p:=cS p0 s) hp0 rfl
   have e2':(bV T (lr T (ay T k x) st) p0 n s).aI=[]:=e2
   rw[e2'];simp
  |cons a q=>
   obtain⟨b,m,s',g,e1,e2⟩:=eY hv h12 hd h (st n) (p:=cS p0 s) hp0 rfl rfl
   have e1':bV T (lr T (ay T k x) st) p0 n s=cd (cS p0 s) s' [a]:=e1
   rw[e1'];simp[cd]
 del:=fun {u n s} ⟨q,h,hu⟩ ha=>by
  cases q with
  |nil=>
   obtain⟨_,_,e3⟩:=fL hv h12 hd h (st n) (p:=cS p0 s) hp0 rfl
   exact e3
  |cons a q=>
   obtain⟨b,m,s',g,e1,e2⟩:=eY hv h12 hd h (st n) (p:=cS p0 s) hp0 rfl rfl
   have e1':bV T (lr T (ay T k x) st) p0 n s=cd (cS p0 s) s' [a]:=e1
   rw[e1']at ha
   cases ha
theorem ye(hv:ao T=true)(h12:T.nodes≤12)(h16:T.ae.length≤16)(hd:(d:Int)<T.nodes)(hp0:p0.dst=(d:Int)){n0 b m:Nat}{s':List bY}{q:List Int}(hn0:(n0:Int)<T.nodes)
  (h0:dj T (lr T (ay T k x) st n0) (cS p0 [])=cd (cS p0 []) s' [(b:Int)]) (hb:b<2*T.ae.length) (hm:aS T b=(m:Int)) (hl:fD T k x d m s' q):
  Lone T (lr T (ay T k x) st) p0 (fun u n s=>(n=n0∧s=[]∧u=q.length+1)∨∃q,fD T k x d n s q∧u=q.length):=by
 have hL:=wx (T:=T) (k:=k) (x:=x) (d:=d) (st:=st) hv h12 h16 hd hp0
 have e0:bV T (lr T (ay T k x) st) p0 n0 []=cd (cS p0 []) s' [(b:Int)]:=h0
 refine⟨⟨?_,?_,?_⟩,?_,?_⟩
 ·rintro u n s (⟨rfl,rfl,_⟩|h)
  ·exact hn0
  ·exact hL.runs.node h
 ·rintro u n s (⟨rfl,rfl,_⟩|h)
  ·exact⟨fun g hg=>(by cases hg),by simp⟩
  ·exact hL.runs.small h
 ·rintro u n s (⟨rfl,rfl,rfl⟩|h)
  ·refine .inr ⟨jW _ _ _,by rw[e0];rfl,fun a ha=>?_⟩
   rw[e0]at ha ⊢
   have ha:a∈[(b:Int)]:=ha
   rw[List.mem_singleton]at ha
   subst ha
   exact⟨b,m,rfl,hb,hm,q.length,Nat.lt_succ_self _,.inr ⟨q,hl,rfl⟩⟩
  ·rcases hL.runs.step h with h1|⟨h1,h2,h3⟩
   ·exact .inl h1
   ·refine .inr ⟨h1,h2,fun a ha=>?_⟩
    obtain⟨b',m',g1,g2,g3,u',g4,g5⟩:=h3 a ha
    exact⟨b',m',g1,g2,g3,u',g4,.inr g5⟩
 ·rintro u n s (⟨rfl,rfl,_⟩|h)
  ·rw[e0];simp[cd]
  ·exact hL.one h
 ·rintro u n s (⟨rfl,rfl,_⟩|h) ha
  ·rw[e0]at ha;cases ha
  ·exact hL.del h ha
end
end PW
end Go.Proofs.YtnegbdpggideiaaGreatDoor
