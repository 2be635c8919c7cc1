/- Texts of the proof, part 13. -/
import Derived.Lib.AppendStr
import Derived.Lib.UnsafeStr
import Derived.Lib.Builder
import Derived.Shelf.Strings.Builder1
import Derived.Shelf.Strings.BuilderF
import Derived.Shelf.Strings.BuilderK
import Derived.Shelf.Strconv.Itoa0
import Derived.Shelf.Strconv.Itoa1
import Derived.Shelf.LaysM
import Derived.Shelf.Strconv.Itoa2
import Derived.Shelf.Strconv.Itoa3
import Derived.Test.YtnegbdpggideiaaGreatDoorProg
import Derived.Test.YtnegbdpggideiaaGreatDoorCardXEB12
set_option linter.unusedVariables false
set_option linter.unusedSimpArgs false
set_option maxRecDepth 10000
set_option maxHeartbeats 1000000
namespace Go.Proofs.YtnegbdpggideiaaGreatDoor
namespace PW
section
open Go.RowKit cG Mem Net eY
def Lh(P:Program)(ty:TypeId):Option (Nat×List Value):=match P.info? ty,P.underlying ty with
 |some it,some (.array _ e)=>match it.zero,P.info? e with
  |some z,some ie=>some (ie.size,z.cells.toList)
  |_,_=>none
 |_,_=>none
theorem zz{P:Program}{σ:cg}{t:cn}{o:Oper}{ty s:TypeId}{parts:Array (Nat×Operand)}{zero:List Value}{ps:List (Nat×List PV)}{xs:List PV}(ho:o.op= .build ty parts)(hk:Lh P ty=some (s,zero))(hp:iz t parts.toList=some ps)
  (hf:kA (fun i=>some (i*s,s)) (zero.map .raw) ps=some xs):bE P σ t o (.agg xs):=by
 intro F base E ρ w hρ hS hT
 obtain⟨h1,h2⟩:=kb hρ hT parts.toList ps hp
 have hz:bf E w zero.toArray.toList (zero.map .raw):=⟨by simp,fun i x u k1 k2=>by
  simp only[List.getElem?_map,Option.map_eq_some_iff]at k2
  obtain⟨y,hy,rfl⟩:=k2
  simp only at k1
  rw[hy]at k1
  cases k1
  exact .raw _⟩
 obtain⟨cs,hc,hR⟩:=lL (fun i=>some (i*s,s)) _ ps zero.toArray _ xs hz h1 h2 hf
 have hb:P.built ty ((parts.map fun(i,x)=>(i,ρ x)).toList)=some cs:=by
  unfold Lh at hk
  split at hk
  ·rename_i it n e Dg hu
   split at hk
   ·rename_i z ie hz' hie
    cases hk
    simp only[Program.built,Dg,hu,hz',hie,Array.toList_map]
    simpa using hc
   ·cases hk
  ·cases hk
 have hrun:=run_build (P:=P) w ty (parts.map fun(i,x)=>(i,ρ x)) cs hb
 simp only[execOp,ho,Sem.run_bind,hrun,Result.andThen_ok,Sem.run_pure]
 exact bA (.agg cs xs (by have:=hR.1;rw[Array.length_toList]at this;exact this) (fun i x u k1 k2=>hR.2 i x u (by simpa using k1) k2))
theorem kK.JA{n:Nat}{xs ys:List PV}(hl:ys.length=xs.length)(h:∀(i:Nat) x y,xs[i]? =some x→ys[i]? =some y→kK x y):kK (.slice n xs) (.slice n ys):=fun E w v hv=>by
 cases hv with
 |bM=>
  have:ys=[]:=List.eq_nil_of_length_eq_zero hl
  subst this
  exact .bM
 |empty a c hc=>
  have:ys=[]:=List.eq_nil_of_length_eq_zero hl
  subst this
  exact .empty a c hc
 |slice b off _ c cs _ h0 h1 h2 hb hM hc hl2 hr=>
  exact .slice b off n c cs ys h0 h1 h2 hb hM hc (hl2.trans hl.symm) (fun i x u k1 k2=>by
   have hi:i<xs.length:=by rw[←hl];exact(List.getElem?_eq_some_iff.1 k2).1
   exact h i xs[i] u (by simp[hi]) k2 E w x (hr i x _ k1 (by simp[hi])))
def Ax(T:ak)(n:Nat):de:=⟨n,List.replicate T.nodes.toNat ⟨[],false,[]⟩,bP T n⟩
noncomputable def Gb(T:ak)(k x:Int)(n:Nat)(s:Int):de:=if oY k x n=true then Ax T n else fW T (aF T k x) s n
noncomputable def oS(T:ak)(k x:Int)(l:List Int)(m:Nat):List de:=(List.range m).map fun n=>Gb T k x n (fq l n)
def B4(T:ak)(k x:Int)(l:List Int):Int:=if((aq T&&cj T k x)&&decide ((l.length:Int)=T.nodes))=true then(if fS T k x l=true then 0 else 7) else 1
noncomputable def D0(e:Int)(L:List de):PV:=.tuple [eE (if e=0 then L else []),num e]
theorem EX{T:ak}{k x:Int}{l:List Int}{m:Nat}:oS T k x l (m+1)=oS T k x l m++[Gb T k x m (fq l m)]:=by simp[oS,List.range_succ]
theorem BA(n:Nat):(dS [.raw (.slice none 0 0),.raw (.bool false),.raw (.slice none 0 0)] n).length=(dZ (List.replicate n ⟨[],false,[]⟩)).length∧∀(i:Nat) x y,(dS [.raw (.slice none 0 0),.raw (.bool false),.raw (.slice none 0 0)] n)[i]? =some x→(dZ (List.replicate n ⟨[],false,[]⟩))[i]? =some y→kK x y:=by
 induction n with
 |zero=>exact⟨rfl,fun i x y h=>by simp[dS]at h⟩
 |succ n ih=>
  refine⟨by simp only[dS,List.replicate_succ,dZ,List.flatMap_cons,List.length_append]at ih ⊢;rw[ih.1];rfl,fun i x y h1 h2=>?_⟩
  simp only[dS,List.replicate_succ,dZ,List.flatMap_cons]at h1 h2
  match i,h1,h2 with
  |0,h1,h2=>simp[gF]at h1 h2;subst h1 h2;exact .bM
  |1,h1,h2=>simp[gF]at h1 h2;subst h1 h2;exact kK.refl _
  |2,h1,h2=>simp[gF]at h1 h2;subst h1 h2;exact .bM
  |i+3,h1,h2=>exact ih.2 i x y (by simpa using h1) (by simpa[dZ,gF]using h2)
theorem Hd(T:ak)(n:Int)(X:de)(h:Can Tryz.prog 67 [aP T,num n] (· = .tuple [fw X,num 0])):Can Tryz.prog 66 [num n,.bb (bC T) 0] (· = .tuple [fw X,num 0]):=by
 refine aH Tryz.func66 I Tryz.ntmps66 I<|aO<|aw 2 I<|aE [0,1,3] I ?_
 refine aO<|aw 2 I<|eW I (h) I<|aw 4 I<|aE [3,4] I ?_
 exact ao<|⟨_,_,az.of I,ay.pure (p:=.tuple [fw X,num 0]),rfl⟩
theorem HE(T:ak)(k x n:Int)(X:de)(h:Can Tryz.prog 55 [aP T,ca k x,num n] (· = .tuple [fw X,num 0])):Can Tryz.prog 68 [num n,.bb (bC T) 0,.bb (cC k x) 0] (· = .tuple [fw X,num 0]):=by
 refine aH Tryz.func68 I Tryz.ntmps68 I<|aO<|aw 2 I<|aE [0,1,2,4] I ?_
 refine aO<|aw 3 I<|eW I (h) I<|aw 4 I<|aE [4,5] I ?_
 exact ao<|⟨_,_,az.of I,ay.pure (p:=.tuple [fw X,num 0]),rfl⟩
theorem GZ(T:ak)(k x n:Int)(X:de)(h:Can Tryz.prog 70 [aP T,ca k x,num n] (· = .tuple [fw X,num 0])):Can Tryz.prog 69 [num n,.bb (bC T) 0,.bb (cC k x) 0] (· = .tuple [fw X,num 0]):=by
 refine aH Tryz.func69 I Tryz.ntmps69 I<|aO<|aw 2 I<|aE [0,1,2,4] I ?_
 refine aO<|aw 3 I<|eW I (h) I<|aw 4 I<|aE [4,5] I ?_
 exact ao<|⟨_,_,az.of I,ay.pure (p:=.tuple [fw X,num 0]),rfl⟩
theorem Hy(T:ak)(k x n:Int)(X:de)(h:Can Tryz.prog 72 [aP T,ca k x,num n] (· = .tuple [fw X,num 0])):Can Tryz.prog 71 [num n,.bb (bC T) 0,.bb (cC k x) 0] (· = .tuple [fw X,num 0]):=by
 refine aH Tryz.func71 I Tryz.ntmps71 I<|aO<|aw 2 I<|aE [0,1,2,4] I ?_
 refine aO<|aw 3 I<|eW I (h) I<|aw 4 I<|aE [4,5] I ?_
 exact ao<|⟨_,_,az.of I,ay.pure (p:=.tuple [fw X,num 0]),rfl⟩
theorem mL(x:de):j8 0 x= .tuple [fw x,num 0]:=rfl
theorem I4(T:ak)(k x:Int)(h12:T.nodes≤12)(hvc:(aq T&&cj T k x)=true){i:Nat}(hi:(i:Int)<T.nodes){s:Int}(hs:qI s=true){FS:List PV}(hFS:[.func 66 [.bb (bC T) 0],.func 68 [.bb (bC T) 0,.bb (cC k x) 0],.func 69 [.bb (bC T) 0,.bb (cC k x) 0],.func 71 [.bb (bC T) 0,.bb (cC k x) 0]]=FS):
  ∃f cap,FS[s.toNat]? =some (.func f cap)∧enters Tryz.prog f=true∧Can Tryz.prog f ([num i]++cap) (· = .tuple [fw (fW T (aF T k x) s i),num 0])∧aL ([num i]++cap):=by
 have hv:=(Bool.and_eq_true_iff.1 hvc).1
 have hme:ej T k x=0:=by unfold ej;rw[if_pos hvc]
 have hn:bu T i=true:=by rw[aT];omega
 have htr:kc T k x i=0:=by unfold kc;rw[if_pos hme,if_pos hn]
 have hch:cD T [] [(i:Int)]=0:=by
  unfold cD
  rw[hv]
  simp[bW,hn]
 subst hFS
 obtain⟨h0,h3⟩:=Bool.and_eq_true_iff.1 hs
 have h0:=of_decide_eq_true h0
 have h3:=of_decide_eq_true h3
 have h1:=Fi T i
 rw[hch,mL,Int.toNat_natCast]at h1
 have h2:=Ck T k x i h12
 rw[if_pos hme,if_pos hn,mL,Int.toNat_natCast]at h2
 have h4:=Du T k x i h12
 rw[htr,mL,Int.toNat_natCast]at h4
 have h5:=Ei T k x i
 rw[htr,mL,Int.toNat_natCast]at h5
 rcases(by omega:s=0∨s=1∨s=2∨s=3)with e|e|e|e
 ·subst e
  exact⟨_,_,rfl,by kernel_rfl,Hd T i _ h1,by infer_instance⟩
 ·subst e
  exact⟨_,_,rfl,by kernel_rfl,HE T k x i _ h2,by infer_instance⟩
 ·subst e
  exact⟨_,_,rfl,by kernel_rfl,GZ T k x i _ h4,by infer_instance⟩
 ·subst e
  exact⟨_,_,rfl,by kernel_rfl,Hy T k x i _ h5,by infer_instance⟩
theorem LG:Lh Tryz.prog 100=some (1,[.nilFunc,.nilFunc,.nilFunc,.nilFunc]):=by kernel_rfl
theorem qC{T:ak}{k x:Int}{l:List Int}{m:Nat}:(oS T k x l m).length=m:=by simp[oS]
set_option maxHeartbeats 4000000 in
theorem tV(T:ak)(k x:Int)(l:List Int)(hl:l.length≤1000)(h12:T.nodes≤12):Can Tryz.prog 20 [aP T,ca k x,av l] (· =D0 (B4 T k x l) (oS T k x l l.length)):=by
  obtain⟨q1,hq1⟩:∃q,(aq T&&cj T k x)=q:=⟨_,rfl⟩
  obtain⟨q2,hq2⟩:∃q,decide ((l.length:Int)≠T.nodes)=q:=⟨_,rfl⟩
  obtain⟨q3,hq3⟩:∃q,fS T k x l=q:=⟨_,rfl⟩
  have hE:B4 T k x l=if(q1&& !q2)=true then(if q3=true then 0 else 7) else 1:=by
    unfold B4
    rw[hq1,hq3,←hq2]
    simp
  rw[hE]
  refine aH Tryz.func20 I Tryz.ntmps20 I<|ab (.a 4 I<|.k [2,3,4] I)<|aj<|bz 23 (.raw (.bool (!q1 ||q2))) [2,3,4] I ?_ ?_
  · refine .a 2 I<|.c rfl (hq1▸zt T k x) I<|.a 2 I<|?_
    cases q1
    · exact .a 6 I<|.k [23,2,3,4] I
    · exact .a 4 I<|.v (cf I (hq2)) I<|.a 1 I<|.k [23,2,3,4] I
  refine ag I (fun hc=>?_) (fun hc=>?_)
  · have hno:(q1&& !q2)=false:=by cases q1<;>cases q2<;>simp_all
    exact ab (.a 2 I<|.k [6,7] I)<|ao<|⟨_,_,az.of I,ay.aX (ah.cons ay.bM (ah.cons ay.pure ah.nil)),by rw[hno];rfl⟩
  · obtain ⟨h1, rfl⟩ := Bool.or_eq_false_iff.1 hc
    have h1:q1=true:=by simpa using h1
    subst h1
    have hln:(l.length:Int)=T.nodes:=by have:=ff hq2;simpa using this
    refine ai<|aj<|ab (.a 3 I<|.c rfl (hq3▸mP T k x l hl) I<|.a 1 I<|.k [2,3,4,28] I)<|ag I (fun hc=>?_) (fun hc=>?_)
    · have h3:q3=false:=by simpa using hc
      subst h3
      exact ab (.a 2 I<|.k [6,7] I)<|ao<|⟨_,_,az.of I,ay.aX (ah.cons ay.bM (ah.cons ay.pure ah.nil)),rfl⟩
    · have h3:q3=true:=by simpa using hc
      subst h3
      have hv:=(Bool.and_eq_true_iff.1 hq1).1
      have hll:=bT hv
      have hP1:dW k x (fun n=>qI (fq l n)) l.length=true:=by
        have h:=hq3
        unfold fS at h
        split at h
        · exact(Bool.and_eq_true_iff.1 h).1
        · cases h
      refine ai<|aO<|aw 4 I<|bw (zz I LG rfl rfl) I<|aw 2 I<|aE [2,3,4,8] I ?_
      refine fP 8 0 0 I I ?_
      refine dI [] (.c 2<|.c 3<|.c 4<|.c 8<|.nil) .nil rfl rfl ?_
      obtain⟨FS,hFS⟩:∃z:List PV,[.func 66 [.bb (bC T) 0],.func 68 [.bb (bC T) 0,.bb (cC k x) 0],.func 69 [.bb (bC T) 0,.bb (cC k x) 0],.func 71 [.bb (bC T) 0,.bb (cC k x) 0]]=z:=⟨_,rfl⟩
      have hFp:aL FS:=by rw[←hFS];infer_instance
      rw[hFS]
      refine ab (.a 1 I<|.k [2,3,4,8,9] I)<|gH 9 56 3 I ?_
      refine aj<|ab (.a 3 I<|.k [3,4,8,9,34,35,36] I)<|au<|eH [3,4,8,9,34,35,36] I<|bq (fun r s=>∃i,i≤l.length∧r=l.length - i∧s=⟨[(3,.bb (bC T) 0),(4,.bb (cC k x) 0),(8,.bb FS 0),(9,.own 0),(34,av l),(35,num l.length),(36,num i)],[some (.row 56 3 i (oA (oS T k x l i)))]⟩) l.length ⟨0,by omega,by omega,rfl⟩ ?_
      rintro r s ⟨i,hi,rfl,rfl⟩
      refine ab (.a 1 I<|.k [3,4,8,9,34,35,36,37] I)<|aj<|ag I (fun hc=>?_) (fun hc=>?_)
      · have hlt:i<l.length:=by have:=tt hc;omega
        have hil:(i:Int)<T.nodes:=by omega
        obtain⟨N,hN⟩:∃N:Nat,T.nodes=(N:Int):=⟨T.nodes.toNat,by omega⟩
        obtain⟨s,hs⟩:∃s,fq l i=s:=⟨_,rfl⟩
        have hsl:l.getD i 0=s:=hs
        obtain⟨g,hg⟩:∃g,oY k x i=g:=⟨_,rfl⟩
        have hX:oS T k x l (i+1)=oS T k x l i++[Gb T k x i s]:=by rw[EX,hs]
        have hXg:Gb T k x i s=if g=true then Ax T i else fW T (aF T k x) s i:=by unfold Gb;rw[hg]
        have hmL:(oS T k x l i).length=i:=qC
        obtain⟨L,hL⟩:∃L,oS T k x l i=L:=⟨_,rfl⟩
        obtain⟨X,hXX⟩:∃X,Gb T k x i s=X:=⟨_,rfl⟩
        rw[hL,hXX]at hX
        rw[hL]at hmL ⊢
        rw[hXX]at hXg
        refine ai<|aj<|au<|ab (.a 1 I<|.v (aN (i) I) I<|.v (aJ I ((aB l i hlt).trans (by rw[hsl]))) I<|.a 2 I<|.k [3,4,8,9,10,11,34,35,36] I)<|aO<|aw 2 I<|bw (aJ I ((show some (num T.nodes)=some (num (N:Int)) by rw[hN]))) I<|b7 (dX I (ba.rk.get I) I I (rfl:(N:Int)=(N:Int)) (rfl:(N:Int)=(N:Int)) ⟨by unfold maxLen;omega,by omega⟩) I<|aw 3 I<|aE [3,4,8,9,10,11,12,34,35,36] I ?_
        refine oo 1 (σ':=[some (.row 56 3 i (oA L)),none,some (.cells 56 [num i,.slice N (dS [.raw (.slice none 0 0),.raw (.bool false),.raw (.slice none 0 0)] N),.raw (.slice none 0 0)])]) (t':=[(3,.bb (bC T) 0),(4,.bb (cC k x) 0),(8,.bb FS 0),(9,.own 0),(10,num i),(11,num s),(12,.ptr 2 0),(34,av l),(35,num l.length),(36,num i)]) (blk:=.row 76 3 N (dS [.raw (.slice none 0 0),.raw (.bool false),.raw (.slice none 0 0)] N)) I ⟨rfl,rfl,fun j hj=>by
          match j,hj with
          |0,_=>exact .inl rfl
          |1,h=>exact absurd rfl h
          |2,_=>exact .inr ⟨_,_,rfl,rfl,.cells (.cons (.same _)<|.cons .own<|.cons (.same _) .nil)⟩
          |_+3,_=>exact .inl rfl⟩ (.cons 3 rfl (.same _)<|.cons 4 rfl (.same _)<|.cons 8 rfl (.same _)<|.cons 9 rfl (.same _)<|.cons 10 rfl (.same _)<|.cons 11 rfl (.same _)<|.cons 12 rfl (.same _)<|.cons 34 rfl (.same _)<|.cons 35 rfl (.same _)<|.cons 36 rfl (.same _) .nil) ?_
        refine aj<|ab (.a 2 I<|.c rfl (hg▸tL k x i) I<|.k [3,4,8,9,10,11,12,34,35,36,48] I)<|ag I (fun hc=>?_) (fun hc=>?_)
        · subst hc
          rw[if_pos rfl]at hXg
          have hle:kK (.agg [num i,.slice N (dS [.raw (.slice none 0 0),.raw (.bool false),.raw (.slice none 0 0)] N),av (bP T i)]) (fw X):=by
            rw[hXg]
            have hz:=BA N
            have hTN:T.nodes.toNat=N:=by omega
            refine kK.gY ⟨rfl,fun j a b h1 h2=>?_⟩
            match j,h1,h2 with
            |0,h1,h2=>cases h1;cases h2;exact kK.refl _
            |1,h1,h2=>
              cases h1;cases h2
              show kK (.slice N _) (.slice (List.replicate T.nodes.toNat (⟨[],false,[]⟩:i6)).length (dZ (List.replicate T.nodes.toNat ⟨[],false,[]⟩)))
              rw[List.length_replicate,hTN]
              exact kK.JA hz.1.symm hz.2
            |2,h1,h2=>cases h1;cases h2;exact kK.refl _
            |j+3,h1,h2=>exact absurd h1 (by simp)
          refine bI<|aw 2 I<|eW I (oF T hll _) I<|aw 2 I<|aE [3,4,8,9,12,34,35,36] I ?_
          refine bI<|aw 1 I<|bw (Gx (cR I (ba.tk.get I) I I I) hle) I<|aw 1 I<|b7 (bh I (ba.rk.get I) I I I I (by unfold maxLen;omega)) I<|aw 1 I<|aE [3,4,8,9,34,35,36] I ?_
          refine dI [3] (.c 3<|.c 4<|.c 8<|.cons 9 I (.own (i:=0) (j:=3) I)<|.c 34<|.c 35<|.c 36<|.nil) (.kept rfl (.row aI.pure) .nil) I I ?_
          refine aC (.v (aU I) I<|.a 1 I<|.k [3,4,8,9,34,35,36] I) ?_
          exact⟨l.length - (i+1),by omega,i+1,by omega,rfl,by rw[hX,←qY];rfl⟩
        · subst hc
          have hle:kK (fw X) (fw X):=kK.refl _
          rw[if_neg (by decide)]at hXg
          have hos:qI s=true:=by
            rw[←hs]
            exact kG.1 hP1 i hlt hg
          obtain⟨f,cap,r1,r2,r3,r4⟩:=I4 T k x h12 hq1 hil hos hFS
          rw[←hXg]at r3
          obtain⟨hs0,hs3⟩:0≤s∧s<4:=by
            obtain⟨h0,h3⟩:=Bool.and_eq_true_iff.1 hos
            have h0:=of_decide_eq_true h0
            have h3:=of_decide_eq_true h3
            omega
          refine bI<|aw 1 I<|bw (nn I (ba.ar.get I) I I hs0 hs3 (j:=s.toNat) (Nat.mul_one _)) I<|bw (aJ I ((show FS[0+s.toNat]? =_ by rw[Nat.zero_add];exact r1))) I<|aw 1 I<|bw (sh I r2 rfl rfl r3) I<|aw 4 I<|aE [3,4,8,9,12,34,35,36] I ?_
          refine bI<|aw 1 I<|bw (Gx (cR I (ba.tk.get I) I I I) hle) I<|aw 1 I<|b7 (bh I (ba.rk.get I) I I I I (by unfold maxLen;omega)) I<|aw 1 I<|aE [3,4,8,9,34,35,36] I ?_
          refine dI [3] (.c 3<|.c 4<|.c 8<|.cons 9 I (.own (i:=0) (j:=3) I)<|.c 34<|.c 35<|.c 36<|.nil) (.kept rfl (.row aI.pure) .nil) I I ?_
          refine aC (.v (aU I) I<|.a 1 I<|.k [3,4,8,9,34,35,36] I) ?_
          exact⟨l.length - (i+1),by omega,i+1,by omega,rfl,by rw[hX,←qY];rfl⟩
      · have hie:i=l.length:=by have:=ff hc;omega
        subst hie
        exact bd<|ab (.a 3 I<|.k [6,7] I)<|ao<|⟨_,_,az.of I,ay.aX (ah.cons (ay.fy rfl ah.pure) (ah.cons ay.pure ah.nil)),by show PV.tuple [.slice l.length (oA (oS T k x l l.length)),num 0]= .tuple [eE (oS T k x l l.length),num 0];unfold eE;rw[qC]⟩
end
section
open Go.RowKit cG Mem
section
variable {P:Program} {σ:cg} {t:cn} {o:Oper}
def eO(l:List UInt8):List PV:=l.map fun b=>.raw (.int .u8 b.toNat)
instance (l:List UInt8):aL (eO l):=aL.map _ _ fun _=>inferInstance
theorem jV(a b:List UInt8):eO a++eO b=eO (a++b):=by simp[eO]
theorem oB{w:World}(base:Nat)(t u ty e:TypeId)(i:TypeInfo)(ht:P.underlying t=some (.slice e))(hu:P.underlying u=some .string)(hi:P.info? e=some i)(hz:i.zero=some (.int .u8 0))
  (hsize:i.size=1) (hby:i.bytes=1) (v:Value) (n:Nat) (xs:List Value) (hown:w.ownsRow base e 1 v n xs) (s:ByteArray)
  (h63:n+s.size≤maxLen) (hbytes:n+s.size≤140737488355328) (hbase:base≤w.heap.size):
  ∃v' w',(Builtin.append_ #[t,u] ty #[v,.string s]).run P w= .ok v' w'∧w'.ownsRow base e 1 v' (n+s.size) (xs++Lib.strCells s)∧w.grownBy w' v.ownBlock∧(v'.ownBlock=v.ownBlock∨v'.ownBlock=some w.heap.size):=by
 obtain⟨v',w',hr,h2,h3,h4⟩:=Lib.run_append_own_string (P:=P) w base t u ty e i ht hu hi hz hsize hby v n xs hown s h63 hbytes hbase
 refine⟨v',w',hr,h2,h3,?_⟩
 have hsmall:n+s.size≤9223372036854775807:=by simp only[maxLen]at h63;omega
 rcases hown.2 with⟨rfl,rfl⟩|⟨g,cap,cur,rfl,hbg,hg,hnc,hcm,hcs,htake⟩
 ·by_cases hm:s.size=0
  ·rw[h4.2 ⟨rfl,hm⟩];exact .inl rfl
  ·have hr':=run_append_nil_string (P:=P) w t u ty e i (.int .u8 0) ht hu hi hz s (by omega) (by omega) (by rw[hby];omega)
   rw[hr']at hr
   cases hr
   exact .inr rfl
 ·by_cases hroom:n+s.size≤cap
  ·have hr':=Lib.run_append_room_string (P:=P) w t u ty e i ht hu hi hsize g n cap cur hg s hroom (by rw[hcs];omega)
   rw[hr']at hr
   cases hr
   exact .inl rfl
  ·have holds:∀(j:Nat) u,xs[j]? =some u→w.cell? ((⟨g,0,none⟩:Addr).add j)=some u:=hown.cells (g:=g) I
   have hr':=Lib.run_append_grow_string (P:=P) w t u ty e i (.int .u8 0) ht hu hi hz ⟨g,0,none⟩ n cap xs (by rw[hsize];exact hown.1) holds s (by omega) (by omega) (growslice_fits (by omega) (by rw[hby];omega))
   rw[hr']at hr
   cases hr
   exact .inr rfl
def AM(P:Program)(ty sy:TypeId):Option TypeId:=
 match P.underlying ty,P.underlying sy with
 |some (.slice e),some .string=>match P.info? e with
  |some i=>match i.zero with
   |some (.int .u8 0)=>bif Nat.beq i.size 1&&Nat.beq i.bytes 1 then some e else none
   |_=>none
  |none=>none
 |_,_=>none
theorem yK{ty sy e:TypeId}(h:AM P ty sy=some e):P.underlying ty=some (.slice e)∧P.underlying sy=some .string∧∃i,P.info? e=some i∧i.zero=some (.int .u8 0)∧i.size=1∧i.bytes=1:=by
 unfold AM at h
 split at h
 ·rename_i e' h1 h2
  split at h
  ·rename_i i hi
   split at h
   ·rename_i hz
    rw[Bool.cond_eq_ite]at h
    split at h
    ·rename_i hb
     cases h
     obtain⟨b1,b2⟩:=Bool.and_eq_true_iff.1 hb
     exact⟨h1,h2,i,hi,hz,Nat.eq_of_beq_eq_true b1,Nat.eq_of_beq_eq_true b2⟩
    ·cases h
   ·cases h
  ·cases h
 ·cases h
theorem pX{ty sy e n i:Nat}{xs:List PV}{x y:Operand}{s:ByteArray}(ho:o.op= .call {callee:=.builtin .append,args:= #[x,y],argTypes:= #[ty,sy]})(hk:AM P ty sy=some e)(hx:aG t x=some (.own i))(hi:σ[i]? =some (some (.row e 1 n xs)))
  (hy:aG t y=some (.raw (.string s))) (hn:n+s.size≤140737488355328):
  cq P σ t o (.own σ.length) (σ.set i none++[some (.row e 1 (n+s.size) (xs++eO s.data.toList))]):=by
 intro F base E ρ w hρ hS hT
 have h1:=aA hρ hT hx
 have h2:=aA hρ hT hy
 generalize hz1:ρ x=v at h1
 generalize hz2:ρ y=u at h2
 cases h2
 obtain⟨hu,hu2,inf,hinf,hz,hs,hby⟩:=yK hk
 cases h1 with
 |own _ hiL _ hat hone=>
  obtain⟨cs,k1,k2⟩:=hS.blk i _ hi
  rw[hat]at k1
  have hob:bF (E.at_ i)=v.ownBlock:=by rw[hat];exact gw k1
  obtain⟨v',w',hrun,hown,hg,hw⟩:=oB (P:=P) (w:=w) base ty sy o.type e inf hu hu2 hinf hz hs hby v n cs k1 s (by unfold maxLen;omega) hn hS.bl
  have hr:(execOp ρ o).run P w= .ok (.value v') w':=by
   simp only[execOp,ho,resolve,invoke,builtin,Sem.run_bind,Sem.run_pure,Result.andThen_ok,List.map_toArray,List.map_cons,List.map_nil,hz1,hz2,hrun]
  have hnw:bf E w (Lib.strCells s) (eO s.data.toList):=by
   refine⟨by simp[Lib.strCells,eO],fun j c u h1 h2=>?_⟩
   simp only[Lib.strCells,eO,List.getElem?_map,Option.map_eq_some_iff]at h1 h2
   obtain⟨b,hb,rfl⟩:=h1
   obtain⟨b',hb',rfl⟩:=h2
   rw[hb]at hb'
   cases hb'
   exact .raw _
  have hv':∀b,bF v'=some b→bF (E.at_ i)=some b∨w.heap.size≤b:=fun b hb=>by
   rw[gw hown]at hb
   rcases hw with h|h
   ·rw[hob,←h];exact .inl hb
   ·rw[h]at hb;cases hb;exact .inr (Nat.le_refl _)
  obtain⟨a1,a2⟩:=hS.swap (w':=w') (blk:=.row e 1 (n+s.size) (xs++eO s.data.toList)) hi hg.size (fun k hk hne=>hg.block k hk (by rw[←hob];exact Ne.symm hne)) hv' (fun E' g=>⟨cs++Lib.strCells s,hown,(k2.append hnw).goes g⟩)
  refine⟨v',w',_,.inl hr,a1,a2,⟨hg.os,hg.tape,hg.output,hg.size,fun k hk=>hg.block k (Nat.lt_of_lt_of_le hk hS.bl) (fun e=>?_)⟩,.own σ.length (by simp[Env.push,Env.kill,hS.len]) v' (by simp[Env.push,Env.kill,hS.len]) ?_⟩
  ·have:=(k1.lt k e.symm).1;omega
  ·rcases hown.2 with⟨rfl,_⟩|⟨g',cap,cur,rfl,_⟩<;>rfl
theorem Sat.drop{F:Nat→Prop}{base:Nat}{E:Env}{w w':World}(hS:Sat F base σ E w){j g:Nat}{bj:cK}(hj:σ[j]? =some (some bj))(hb:bF (E.at_ j)=some g)(hs:w.heap.size≤w'.heap.size)(ho:∀k,k<w.heap.size→k≠g→w'.heap[k]? =w.heap[k]?):
  Sat F base (σ.set j none) (E.kill j) w'∧di E w (E.kill j) w':=by
 have hgM:E.M g:=(hS.mm g).2 (.inr ⟨j,bj,hj,hb⟩)
 obtain⟨k1,_⟩:=hS.kill j hj
 have g':di E w (E.kill j) w':=⟨Nat.le_refl _,fun _ _=>rfl,fun b _ hM h=>hM h.1,hs,fun k hk hM=>ho k hk (fun e=>hM (by rw[e];exact hgM))⟩
 refine⟨⟨Nat.le_trans hS.bl hs,fun b hb'=>⟨Nat.lt_of_lt_of_le (k1.fb b hb').1 hs,(k1.fb b hb').2⟩,k1.len,k1.mm,fun i bl hi=>?_,k1.inj,hS.gl.goes g'⟩,g'⟩
 obtain⟨hne,h3⟩:=iB hi
 exact(hS.blk i bl h3).goes g' (fun k hk=>ho k ((hS.blk i bl h3).lt hk).2 (fun e=>hne (hS.inj i j bl bj g h3 hj (by rw[←e];exact hk) hb)))
theorem wk{ty:TypeId}{x:Operand}{s:ByteArray}(ho:o.op= .call {callee:=.builtin .len,args:= #[x],argTypes:= #[ty]})(hu:P.underlying ty=some .string)(hx:aG t x=some (.raw (.string s))):bE P σ t o (.raw (.int .i64 s.size)):=by
 intro F base E ρ w hρ _ hT
 have h1:=aA hρ hT hx
 generalize hz:ρ x=z at h1
 cases h1
 simp[execOp,ho,resolve,invoke,builtin,Builtin.len_,hz,run_underlying hu,goInt]
 exact bA (.raw _)
theorem wm{ty:TypeId}{x:Operand}{j e s n:Nat}{xs:List PV}(ho:o.op= .call {callee:=.builtin .unsafeSliceData,args:= #[x],argTypes:= #[ty]})(hx:aG t x=some (.own j))(hj:σ[j]? =some (some (.row e s n xs)))(hn:0<n):bE P σ t o (.ptr j 0):=by
 intro F base E ρ w hρ hS hT
 have h1:=aA hρ hT hx
 generalize hz:ρ x=z at h1
 cases h1 with
 |own _ hi _ h hone=>
  obtain⟨cs,k1,_⟩:=hS.blk j _ hj
  rw[h]at k1
  rcases k1.2 with⟨_,h0⟩|⟨g,cap,cur,hv,_,_,hnc,_⟩
  ·omega
  ·subst hv
   have:=Lib.run_unsafeSliceData_row (P:=P) w #[ty] o.type ⟨g,0,none⟩ n cap (by omega)
   simp only[execOp,ho,resolve,invoke,builtin,Sem.run_bind,Sem.run_pure,Result.andThen_ok,List.map_toArray,List.map_cons,List.map_nil,hz,this]
   exact bA (.ptr j 0 g hi (.inr ⟨n,cap,h⟩))
theorem wu{pt it:TypeId}{x y:Operand}{j e:Nat}{l:List UInt8}(ho:o.op= .call {callee:=.builtin .unsafeString,args:= #[x,y],argTypes:= #[pt,it]})(hp:P.underlying pt=some (.pointer e))(hc:P.cellsOf e=1)(hx:aG t x=some (.ptr j 0))(hy:aG t y=some (.raw (.int .i64 l.length)))(hj:σ[j]? =some (some (.row e 1 l.length (eO l))))(hl:0<l.length):
  cq P σ t o (.raw (.string ⟨l.toArray⟩)) (σ.set j none):=by
 intro F base E ρ w hρ hS hT
 have h1:=aA hρ hT hx
 have h2:=aA hρ hT hy
 generalize hz:ρ x=z at h1
 generalize hz':ρ y=z' at h2
 cases h2
 cases h1 with
 |ptr _ _ b hi h=>
  obtain⟨cs,k1,k2⟩:=hS.blk j _ hj
  have hcs:cs=Lib.byteCells l:=by
   apply List.ext_getElem?
   intro i
   by_cases hi':i<l.length
   ·have h3:=k2.2 i (cs[i]'(by rw[k2.1];simpa[eO]using hi')) (.raw (.int .u8 (l[i]).toNat)) (by simp) (by simp[eO,hi'])
    have h4:cs[i]'(by rw[k2.1];simpa[eO]using hi')= .int .u8 (l[i]).toNat:=by
     generalize cs[i]'(by rw[k2.1];simpa[eO]using hi')=q at h3
     cases h3;rfl
    rw[List.getElem?_eq_getElem (by rw[k2.1];simpa[eO]using hi'),h4]
    simp[Lib.byteCells,hi']
   ·rw[List.getElem?_eq_none (by rw[k2.1];simp[eO];omega),List.getElem?_eq_none (by simp[Lib.byteCells];omega)]
  subst hcs
  have k3:=k1
  rcases k1.2 with⟨hv,h0⟩|⟨g,cap,cur,hv,hbg,hg,hnc,hcm,hsz,htk⟩
  ·omega
  ·have hbeq:b=g:=by
    rcases h with h|⟨n,c,h⟩
    ·rw[hv]at h;cases h
    ·rw[hv]at h;cases h;rfl
   subst hbeq
   have hblk:bF (E.at_ j)=some b:=by rw[hv];rfl
   have hrun:=Lib.run_unsafeString_row (P:=P) w pt it o.type e hp hc b cur.size (by simp[World.shape?,hg]) l (by intro e';rw[e']at hl;simp at hl) (by omega) (by unfold maxLen at hcm;omega) (fun i x hx'=>k3.cells (g:=b) (by rw[hv];rfl) i (.int .u8 x.toNat) (by simp[Lib.byteCells,hx']))
   have hr:(execOp ρ o).run P w= .ok (.value (.string ⟨l.toArray⟩)) (w.freeze ⟨b,0,none⟩ l.length):=by
    simp only[execOp,ho,resolve,invoke,builtin,Sem.run_bind,Sem.run_pure,Result.andThen_ok,List.map_toArray,List.map_cons,List.map_nil,hz,hz',hrun]
   have hfz:∀k,k≠b→(w.freeze ⟨b,0,none⟩ l.length).heap[k]? =w.heap[k]? :=fun k hk=>by
    unfold World.freeze
    split
    ·rfl
    ·simp only[Array.getElem?_modify]
     rw[if_neg (Ne.symm hk)]
   have hsz':w.heap.size≤(w.freeze ⟨b,0,none⟩ l.length).heap.size:=by
    unfold World.freeze
    split<;>simp
   obtain⟨a1,a2⟩:=Sat.drop (w':=w.freeze ⟨b,0,none⟩ l.length) hS hj hblk hsz' (fun k _ hk=>hfz k hk)
   exact⟨_,_,_,.inl hr,a1,a2,Lib.below_freeze (Below.refl base w) (p:=⟨b,0,none⟩) hbg _,.raw _⟩
theorem Fy{x y:Operand}{ty tz:TypeId}(ho:o.op= .binOp .eql ty x y tz)(hk:pr P ty=true)(hx:aG t x=some (.raw (.pointer none)))(hy:aG t y=some (.raw (.pointer none))):bE P σ t o (.raw (.bool true)):=by
 refine yd ho hx hy fun w=>?_
 unfold pr at hk
 split at hk
 ·rename_i e hu
  have key:∀d,(Op.equalIn (d+1) ty (.pointer none) (.pointer none)).run P w= .ok true w:=fun d=>by
   simp only[Op.equalIn,Sem.run_bind,run_underlying hu,Result.andThen_ok,Sem.run_pure,Option.isNone_none]
  have:=key 9999
  simp only[Nat.reduceAdd]at this
  simp[eqGuard,binOp,Op.equal,Op.maxDepth,this]
 ·cases hk
theorem ur{x y:Operand}{ty te tz:TypeId}{i k:Nat}{ji:TypeInfo}(ho:o.op= .binOp .neq ty x y tz)(hp:P.underlying ty=some (.pointer te))(hte:P.info? te=some ji)(hx:aG t x=some (.ptr i k))(hy:aG t y=some (.ptr i k)):bE P σ t o (.raw (.bool false)):=by
 intro F base E ρ w hρ hS hT
 have h1:=aA hρ hT hx
 have h2:=aA hρ hT hy
 have he:ρ x=ρ y:=ua.Lw E w _ _ h1 h2
 generalize hz:ρ x=z at h1
 have hz':ρ y=z:=by rw[←he,hz]
 cases h1 with
 |ptr _ _ b hi h=>
  have hb:=Lib.run_neq_ptr_same (P:=P) w ⟨b,k,none⟩ hp hte
  have hr:(execOp ρ o).run P w= .ok (.value (.bool false)) w:=by
   simp only[execOp,ho,hz,hz',Sem.run_bind,Sem.run_pure]
   have hg:(eqGuard .neq ty x y (.pointer (some ⟨b,k,none⟩)) (.pointer (some ⟨b,k,none⟩))).run P w= .ok () w:=rfl
   rw[hg]
   simp only[Result.andThen_ok,hb]
  rw[hr]
  exact bA (.raw _)
theorem zA{src dst te ty:TypeId}{x:Operand}{i:Nat}{ji:TypeInfo}{xs:List PV}(ho:o.op= .convert src dst x)(hs:P.underlying src=some (.pointer te))(hd:P.underlying dst=some .unsafePointer)(ht:P.info? te=some ji)(hj:ji.size≠0)(hx:aG t x=some (.ptr i 0))(hi:σ[i]? =some (some (.cells ty xs)))(hl:0<xs.length):bE P σ t o (.ptr i 0):=by
 intro F base E ρ w hρ hS hT
 have h1:=aA hρ hT hx
 have h1':=h1
 generalize hz:ρ x=z at h1 h1'
 obtain⟨b,cs,k1,k2,k3,k4⟩:=hS.blk i _ hi
 cases h1 with
 |ptr _ _ b' hi' h=>
  have hb:b'=b:=by
   rcases h with h|⟨n,c,h⟩<;>rw[k1]at h<;>cases h
   rfl
  subst hb
  have:=Lib.run_to_unsafe (P:=P) w ⟨b',0,none⟩ hs hd ht hj (e:=ty) (cells:=cs.size) (by simp[World.shape?,k3]) (by have:=k4.1;simp at this ⊢;omega)
  simp only[execOp,ho,hz,Sem.run_bind,this,Result.andThen_ok,Sem.run_pure]
  exact bA h1'
theorem vL{src dst u ty:TypeId}{x:Operand}{i:Nat}{ji:TypeInfo}{xs:List PV}(ho:o.op= .convert src dst x)(hs:P.underlying src=some .unsafePointer)(hd:P.underlying dst=some (.pointer u))(ht:P.info? u=some ji)(hx:aG t x=some (.ptr i 0))(hi:σ[i]? =some (some (.cells ty xs)))(hl:liesAt P P.depth ty (xs.length / P.cellsOf ty) 0 u 1=true):bE P σ t o (.ptr i 0):=by
 intro F base E ρ w hρ hS hT
 have h1:=aA hρ hT hx
 have h1':=h1
 generalize hz:ρ x=z at h1 h1'
 obtain⟨b,cs,k1,k2,k3,k4⟩:=hS.blk i _ hi
 cases h1 with
 |ptr _ _ b' hi' h=>
  have hb:b'=b:=by
   rcases h with h|⟨n,c,h⟩<;>rw[k1]at h<;>cases h
   rfl
  subst hb
  have hsz:cs.size=xs.length:=by have:=k4.1;simpa using this
  have:=Lib.run_from_unsafe (P:=P) w ⟨b',0,none⟩ hs hd ht (e:=ty) (cells:=cs.size) (by simp[World.shape?,k3]) (by rw[hsz];exact hl)
  simp only[execOp,ho,hz,Sem.run_bind,this,Result.andThen_ok,Sem.run_pure]
  exact bA h1'
theorem zH{f:FuncId}{x a:Operand}{ats:Array TypeId}{p:PV}(ho:o.op= .call {callee:=.value x,args:= #[a],argTypes:=ats})(hx:aG t x=some (.func f []))(ha:aG t a=some p)(hr:∀v w,(callFunc f #[v]).run P w= .ok (.value v) w):bE P σ t o p:=by
 intro F base E ρ w hρ hS hT
 have h1:=aA hρ hT hx
 have h2:=aA hρ hT ha
 generalize hz:ρ x=z at h1
 cases h1 with
 |func _ cs _ hl hr'=>
  have hcs:cs= #[]:=Array.eq_empty_of_size_eq_zero (by simpa using hl)
  subst hcs
  have h3:(execOp ρ o).run P w= .ok (.value (ρ a)) w:=by
   have:=hr (ρ a) w
   simp[execOp,ho,resolve,hz,Deferred.ofValue,invoke,this]
  rw[h3]
  exact bA h2
end
end
end PW
end Go.Proofs.YtnegbdpggideiaaGreatDoor
namespace Go.Proofs
open Go.Shelf
def Tryz.Gf:Go.Shelf.Ren:=⟨fun|246=>220|283=>227|284=>228|285=>229|286=>230|129=>241|317=>242|318=>243|319=>244|320=>245|337=>252|338=>253|n=>n,fun|2=>2|3=>3|9=>9|4=>4|171=>248|0=>0|53=>249|37=>26|5=>5|173=>252|212=>264|51=>262|20=>20|213=>265|46=>247|232=>275|233=>276|n=>n,fun|17=>0|18=>1|19=>2|n=>n⟩
def Tryz.G2:Go.Shelf.Ren:=⟨fun|243=>208|246=>220|283=>227|284=>228|285=>229|286=>230|129=>241|317=>242|318=>243|319=>244|320=>245|337=>252|338=>253|n=>n,fun|3=>3|9=>9|2=>2|4=>4|171=>248|0=>0|53=>249|37=>26|5=>5|173=>252|212=>264|51=>262|20=>20|213=>265|46=>247|232=>275|233=>276|n=>n,fun|17=>0|18=>1|19=>2|n=>n⟩
def Tryz.Hl:Go.Shelf.Ren:=⟨fun|171=>187|243=>208|246=>220|283=>227|284=>228|285=>229|286=>230|129=>241|317=>242|318=>243|319=>244|320=>245|337=>252|338=>253|n=>n,fun|3=>3|9=>9|2=>2|4=>4|171=>248|0=>0|53=>249|37=>26|5=>5|173=>252|212=>264|51=>262|20=>20|213=>265|46=>247|232=>275|233=>276|n=>n,fun|17=>0|18=>1|19=>2|n=>n⟩
def Tryz.wM:Go.Shelf.Ren:=⟨fun|171=>187|243=>208|246=>220|283=>227|284=>228|285=>229|286=>230|129=>241|317=>242|318=>243|319=>244|320=>245|337=>252|338=>253|n=>n,fun|3=>3|9=>9|2=>2|4=>4|171=>248|0=>0|53=>249|37=>26|5=>5|173=>252|212=>264|51=>262|20=>20|213=>265|46=>247|232=>275|233=>276|n=>n,fun|17=>0|18=>1|19=>2|n=>n⟩
theorem Tryz.Gk:Go.Proofs.Lays.n171 Tryz.prog Tryz.wM:= {
 mixed:=by kernel_rfl
 f129:=Tryz.func241.trans (congrArg some (by kernel_rfl))
 f171:=Tryz.func187.trans (congrArg some (by kernel_rfl))
 f243:=Tryz.func208.trans (congrArg some (by kernel_rfl))
 f246:=Tryz.func220.trans (congrArg some (by kernel_rfl))
 f283:=Tryz.func227.trans (congrArg some (by kernel_rfl))
 f284:=Tryz.func228.trans (congrArg some (by kernel_rfl))
 f285:=Tryz.func229.trans (congrArg some (by kernel_rfl))
 f286:=Tryz.func230.trans (congrArg some (by kernel_rfl))
 f317:=Tryz.func242.trans (congrArg some (by kernel_rfl))
 f318:=Tryz.func243.trans (congrArg some (by kernel_rfl))
 f319:=Tryz.func244.trans (congrArg some (by kernel_rfl))
 f320:=Tryz.func245.trans (congrArg some (by kernel_rfl))
 f337:=Tryz.func252.trans (congrArg some (by kernel_rfl))
 f338:=Tryz.func253.trans (congrArg some (by kernel_rfl))
 t0:=Tryz.underlying0
 a0:=Tryz.isAgg0
 z0:=Tryz.sizeOf0
 v0:=Tryz.zeroValue0
 t2:=Tryz.underlying2
 a2:=Tryz.isAgg2
 z2:=Tryz.sizeOf2
 v2:=Tryz.zeroValue2
 t3:=Tryz.underlying3
 a3:=Tryz.isAgg3
 z3:=Tryz.sizeOf3
 v3:=Tryz.zeroValue3
 t4:=Tryz.underlying4
 a4:=Tryz.isAgg4
 z4:=Tryz.sizeOf4
 v4:=Tryz.zeroValue4
 t5:=Tryz.underlying5
 a5:=Tryz.isAgg5
 z5:=Tryz.sizeOf5
 v5:=Tryz.zeroValue5
 t9:=Tryz.underlying9
 a9:=Tryz.isAgg9
 z9:=Tryz.sizeOf9
 v9:=Tryz.zeroValue9
 t20:=Tryz.underlying20
 a20:=Tryz.isAgg20
 z20:=Tryz.sizeOf20
 v20:=Tryz.zeroValue20
 t37:=Tryz.underlying26
 a37:=Tryz.isAgg26
 z37:=Tryz.sizeOf26
 v37:=Tryz.zeroValue26
 t46:=Tryz.underlying247
 a46:=Tryz.isAgg247
 z46:=Tryz.sizeOf247
 v46:=Tryz.zeroValue247
 t51:=Tryz.underlying262
 a51:=Tryz.isAgg262
 z51:=Tryz.sizeOf262
 v51:=Tryz.zeroValue262
 t53:=Tryz.underlying249
 a53:=Tryz.isAgg249
 z53:=Tryz.sizeOf249
 v53:=Tryz.zeroValue249
 t171:=Tryz.underlying248
 a171:=Tryz.isAgg248
 z171:=Tryz.sizeOf248
 v171:=Tryz.zeroValue248
 t173:=Tryz.underlying252
 a173:=Tryz.isAgg252
 z173:=Tryz.sizeOf252
 v173:=Tryz.zeroValue252
 t212:=Tryz.underlying264
 a212:=Tryz.isAgg264
 z212:=Tryz.sizeOf264
 v212:=Tryz.zeroValue264
 t213:=Tryz.underlying265
 a213:=Tryz.isAgg265
 z213:=Tryz.sizeOf265
 t232:=Tryz.underlying275
 a232:=Tryz.isAgg275
 z232:=Tryz.sizeOf275
 v232:=Tryz.zeroValue275
 t233:=Tryz.underlying276
 a233:=Tryz.isAgg276
 z233:=Tryz.sizeOf276
 v233:=Tryz.zeroValue276
 g17:=by kernel_rfl
 g18:=by kernel_rfl
 g19:=by kernel_rfl}
open Go.RowKit Go.Sort Go.Lib in
theorem Tryz.strconv_Itoa_small(i:Nat)(hi:i<100)(w:World):
  Calls Tryz.prog 187 #[.int .i64 i] w fun e w'=>e= .returned (.string ⟨(Lib.decDigits i).toArray⟩)∧w'=w:=Any.strconv_Itoa_small Tryz.Gk i hi w
end Go.Proofs
namespace Go.Proofs.YtnegbdpggideiaaGreatDoor
namespace PW
section
open Go.RowKit cG Mem
def Dn(j:Nat)(u:Bool)(l:List UInt8):cg:=some (.cells 214 [if u then .ptr 0 0 else .raw (.pointer none),.own j])::(List.replicate (j - 1) none++[some (.row 5 1 l.length (eO l))])
theorem wU:∃i,Tryz.prog.info? 214=some i∧i.size=2:=by
 have h:(Tryz.prog.info? 214).map (·.size)=some 2:=by kernel_rfl
 obtain⟨i,h1,h2⟩:=Option.map_eq_some_iff.1 h
 exact⟨i,h1,h2⟩
theorem vP(v:Value)(w:World):(callFunc 219 #[v]).run Tryz.prog w= .ok (.value v) w:=by
 rw[run_callFunc_extern Tryz.func219 (by kernel_rfl) (by kernel_rfl) (by kernel_rfl) (e:=Extern.AbiNoEscape.same) (by kernel_rfl),Lib.run_noEscape]
 rfl
theorem rV:AM Tryz.prog 26 9=some 5:=by kernel_rfl
theorem Hf(u:Bool)(l:List UInt8):bU Tryz.prog 207 [.ptr 0 0] (Dn 1 u l) (fun _ σ'=>σ'=Dn 1 true l):=by
 obtain⟨ji,hji,hjs⟩:=wU
 refine ct Tryz.func207 I Tryz.ntmps207 I ?_
 cases u
 ·refine aO<|bJ (fV I I) I I I ?_
  refine bJ (jD I I) I I I ?_
  refine bJ (aZ I) I I I ?_
  refine bJ (aR I (ba.tk.get I) I I I) I I I ?_
  refine bJ (Fy I (ba.pk.get I) I I) I I I (bp ?_)
  refine GU I ?_
  refine bI<|bJ (fV I I) I I I ?_
  refine bJ (fV I I) I I I ?_
  refine bJ (zA I Tryz.underlying212 Tryz.underlying241 hji (by rw[hjs];decide) I I (by decide)) I I I ?_
  refine bJ (zH I I I vP) I I I ?_
  refine bJ (vL I Tryz.underlying241 Tryz.underlying212 hji rfl rfl (by kernel_rfl)) I I I ?_
  refine bJ (jD I I) I I I ?_
  refine bJ (aZ I) I I I ?_
  refine bc (cd I (ba.tk.get I) I I I (Nat.le_of_ble_eq_true rfl)) I I (bp ?_)
  exact⟨_,.nil,rfl⟩
 ·refine aO<|bJ (fV I I) I I I ?_
  refine bJ (jD I I) I I I ?_
  refine bJ (aZ I) I I I ?_
  refine bJ (aR I (ba.tk.get I) I I I) I I I ?_
  refine bJ (sI I (ba.pk.get I) I I) I I I (bp ?_)
  refine qK I ?_
  refine aO<|bJ (fV I I) I I I ?_
  refine bJ (jD I I) I I I ?_
  refine bJ (aZ I) I I I ?_
  refine bJ (aR I (ba.tk.get I) I I I) I I I ?_
  refine bJ (fV I I) I I I ?_
  refine bJ (ur I Tryz.underlying212 hji rfl rfl) I I I (bp ?_)
  refine qK I ?_
  exact ai ⟨_,.nil,rfl⟩
theorem J7(u:Bool)(l:List UInt8)(s:ByteArray)(hn:l.length+s.size≤1000000000):bU Tryz.prog 186 [.ptr 0 0,.raw (.string s)] (Dn 1 u l) (fun _ σ'=>σ'=Dn 2 true (l++s.data.toList)):=by
 refine ct Tryz.func186 I Tryz.ntmps186 I<|ab (.a 2 I<|.k [0,1] I)<|aO<|aw 1 I<|cN I I (bU.mono (Hf u l) (fun _ σ' h=>?_))
 subst h
 refine aE [0,1] I ?_
 refine aO<|aw 6 I<|b7 (pX I rV rfl rfl rfl (by omega)) I<|aw 3 I<|aE [1] I ?_
 refine ab (.a 1 I<|.v (wk I Tryz.underlying9 rfl) I<|.a 2 I<|.k [4,5] I)<|ao<|⟨_,az.of I,?_⟩
 have hl:(l++s.data.toList).length=l.length+s.size:=by simp
 unfold Dn
 rw[hl,←jV]
 rfl
theorem Gm(u:Bool)(l:List UInt8)(hl:0<l.length):bU Tryz.prog 189 [.ptr 0 0] (Dn 1 u l) (fun r _=>r= .raw (.string ⟨l.toArray⟩)):=by
 refine ct Tryz.func189 I Tryz.ntmps189 I ?_
 cases u
 all_goals
  refine ab (.a 1 I<|.k [0] I)<|iw 10 20 mixed (
   .val [0] I (aZ I) I I<|
   .val [3] I (aZ I) I I<|
   .val [4] I (aZ I) I I<|
   .val [5] I (aZ I) I I<|
   .val [6] I (wm I I I hl) I I<|
   .val [0] I (aZ I) I I<|
   .val [8] I (aZ I) I I<|
   .val [9] I (aZ I) I I<|
   .val [10] I (aZ I) I I<|
   .val [11] I (aZ I) I I<|
   .nil) (by kernel_rfl) I I (aY (ks:=[7,12]) I) ?_
  refine b7 (wu I Tryz.underlying233 (by kernel_rfl) I I I hl) I<|aw 1 I<|aE [2] I ?_
  exact ao<|⟨_,az.of I,rfl⟩
def Ks(l:List UInt8):PV:=.raw (.string ⟨l.toArray⟩)
theorem nC(i:Nat)(hi:i<100):Can Tryz.prog 187 [num i] (· =Ks (Lib.decDigits i)):=fun F w vs _ _ hR=>by
 obtain⟨v,rfl,h1⟩:=JV hR
 cases ek h1
 refine(Tryz.strconv_Itoa_small i hi w).mono ?_
 rintro e w' ⟨rfl,rfl⟩
 exact⟨_,rfl,Ext.refl _,_,rfl,.raw _⟩
open Net
def CV(l:List UInt8)(x:Option cK):cg:=[some (.cells 214 [.ptr 0 0,.own 1]),some (.row 5 1 l.length (eO l)),x]
def C0(l:List UInt8)(x:Option cK):cg:=[some (.cells 214 [.ptr 0 0,.own 3]),none,x,some (.row 5 1 l.length (eO l))]
theorem AH(l:List UInt8)(x:Option cK):bU Tryz.prog 207 [.ptr 0 0] (CV l x) (fun _ σ'=>σ'=CV l x):=by
 obtain⟨ji,hji,hjs⟩:=wU
 refine ct Tryz.func207 I Tryz.ntmps207 I<|aO<|bJ (fV I I) I I I ?_
 refine bJ (jD I I) I I I ?_
 refine bJ (aZ I) I I I ?_
 refine bJ (aR I (ba.tk.get I) I I I) I I I ?_
 refine bJ (sI I (ba.pk.get I) I I) I I I (bp ?_)
 refine qK I ?_
 refine aO<|bJ (fV I I) I I I ?_
 refine bJ (jD I I) I I I ?_
 refine bJ (aZ I) I I I ?_
 refine bJ (aR I (ba.tk.get I) I I I) I I I ?_
 refine bJ (fV I I) I I I ?_
 refine bJ (ur I Tryz.underlying212 hji rfl rfl) I I I (bp ?_)
 refine qK I ?_
 exact ai ⟨_,.nil,rfl⟩
theorem IL(l:List UInt8)(x:Option cK)(s:ByteArray)(hn:l.length+s.size≤1000000000):bU Tryz.prog 186 [.ptr 0 0,.raw (.string s)] (CV l x) (fun _ σ'=>σ'=C0 (l++s.data.toList) x):=by
 refine ct Tryz.func186 I Tryz.ntmps186 I<|ab (.a 2 I<|.k [0,1] I)<|aO<|aw 1 I<|cN I I (bU.mono (AH l x) (fun _ σ' h=>?_))
 subst h
 refine aE [0,1] I ?_
 refine aO<|aw 6 I<|b7 (pX I rV rfl rfl rfl (by omega)) I<|aw 3 I<|aE [1] I ?_
 refine ab (.a 1 I<|.v (wk I Tryz.underlying9 rfl) I<|.a 2 I<|.k [4,5] I)<|ao<|⟨_,az.of I,?_⟩
 have hl:(l++s.data.toList).length=l.length+s.size:=by simp
 unfold C0
 rw[hl,←jV]
 rfl
theorem Es(l:List UInt8)(x:Option cK)(c:UInt8)(hn:l.length≤1000000000):bU Tryz.prog 188 [.ptr 0 0,.raw (.int .u8 c.toNat)] (CV l x) (fun _ σ'=>σ'=C0 (l++[c]) x):=by
 refine ct Tryz.func188 I Tryz.ntmps188 I<|ab (.a 1 I<|.k [0,1] I)<|aO<|aw 1 I<|cN I I (bU.mono (AH l x) (fun _ σ' h=>?_))
 subst h
 refine aE [0,1] I ?_
 refine aO<|aw 7 I<|b7 (bh I (ba.rk.get I) I I I I (by unfold maxLen;omega)) I<|aw 3 I<|aE [] I ?_
 refine ab (.a 1 I<|.k [4] I)<|ao<|⟨_,az.of I,?_⟩
 unfold C0
 rw[←jV]
 simp only[List.length_append,List.length_singleton]
 rfl
theorem IT{P:Program}{M:Nat}{c:Code}{t:cn}{Q:Exit→St→Prop}{l:List UInt8}{ty:TypeId}{xs:List PV}[aL xs](hT:nA [0,3,2] t t)(h:W P M 0 c ⟨t,CV l (some (.cells ty xs))⟩ Q):W P M 0 c ⟨t,C0 l (some (.cells ty xs))⟩ Q:=
 dI [0,3,2] hT (.kept rfl (.cells (aI.cons (Ren.ptr (i:=0) I)<|aI.cons (Ren.own (i:=1) I) aI.nil))<|.kept rfl (.row aI.pure)<|.kept rfl (.cells aI.pure)<|.nil) I I h
theorem Li{P:Program}{M:Nat}{c:Code}{t:cn}{Q:Exit→St→Prop}{l:List UInt8}{x:Option cK}(hT:nA [0,3] t t)(h:W P M 0 c ⟨t,Dn 1 true l⟩ Q):W P M 0 c ⟨t,C0 l x⟩ Q:=
 dI [0,3] hT (.kept rfl (.cells (aI.cons (Ren.ptr (i:=0) I)<|aI.cons (Ren.own (i:=1) I) aI.nil))<|.kept rfl (.row aI.pure)<|.nil) I I h
theorem KS{P:Program}{M:Nat}{c:Code}{t:cn}{Q:Exit→St→Prop}{l:List UInt8}(hT:nA [0,2] t t)(h:W P M 0 c ⟨t,Dn 1 true l⟩ Q):W P M 0 c ⟨t,Dn 2 true l⟩ Q:=
 dI [0,2] hT (.kept rfl (.cells (aI.cons (Ren.ptr (i:=0) I)<|aI.cons (Ren.own (i:=1) I) aI.nil))<|.kept rfl (.row aI.pure)<|.nil) I I h
theorem Ca(s:List bV)(i:Nat)(g:bV)(h:s[i]? =some g)(n:Nat):ev n (s.take (i+1))=(((ev n (s.take i)++[32])++Lib.decDigits g.kind.toNat)++[58])++Lib.decDigits g.num.toNat:=by
 unfold ev
 rw[List.take_add_one,h]
 simp[Gl]
theorem Ab{s:List bV}(h:ij s)(i:Nat):ij (s.take i):=fun g hg=>h g (List.mem_of_mem_take hg)
theorem B7{n:Nat}{s:List bV}(hn:n<100)(h:ij s):(ev n s).length≤2+s.length*6:=by
 have h1:=kT hn
 have h2:=EE h
 unfold ev
 rw[List.length_append]
 omega
theorem Dt(n:Nat)(s:List bV)(hn:n<100)(hs:ij s)(hl:s.length≤1000):Can Tryz.prog 159 [num n,cc s] (· =Ks (ev n s)):=by
 refine aH Tryz.func159 I Tryz.ntmps159 I<|ab (.a 1 I<|.k [0,1] I)<|aO<|aw 1 I<|aE [0,1,5] I ?_
 refine cz 0 1 5 1 I I ?_
 refine eF (σ':=Dn 1 false []) I ?_
 refine aO<|aw 1 I<|eW I (nC n hn) I<|cN I I (bU.mono (J7 false [] ⟨(Lib.decDigits n).toArray⟩ (show([]:List UInt8).length+(Lib.decDigits n).toArray.size≤1000000000 by have:=kT hn;simp;omega)) (fun _ σ' h=>?_))
 subst h
 refine aE [1,5] I ?_
 refine KS (.cons 1 I Ren.pure<|.cons 5 I (Ren.ptr (i:=0) I)<|.nil) ?_
 refine aj<|ab (.a 3 I<|.k [5,11,12,13] I)<|au<|eH [5,11,12,13] I<|bq (fun r st=>∃i,i≤s.length∧r=s.length - i∧st=⟨[(5,.ptr 0 0),(11,cc s),(12,num s.length),(13,num i)],Dn 1 true (ev n (s.take i))⟩) s.length ⟨0,by omega,by omega,by simp[ev]⟩ ?_
 rintro r st ⟨i,hi,rfl,rfl⟩
 refine ab (.a 1 I<|.k [5,11,12,13,14] I)<|aj<|ag I (fun hc=>?_) (fun hc=>?_)
 ·have hlt:i<s.length:=by have:=of_decide_eq_true hc;omega
  obtain⟨g,hg,_⟩:=BX s i hlt
  obtain⟨a1,a2,a3,a4⟩:=hs g (List.mem_of_getElem? hg)
  have hst:=Ca s i g hg n
  have hln:=B7 hn (Ab hs i)
  rw[List.length_take]at hln
  obtain⟨gk,gn⟩:=g
  simp only at a1 a2 a3 a4 hst
  obtain⟨ka,rfl⟩:=Int.eq_ofNat_of_zero_le a1
  obtain⟨na,rfl⟩:=Int.eq_ofNat_of_zero_le a3
  have hk2:=kT (n:=ka) (by omega)
  have hn2:=kT (n:=na) (by omega)
  rw[Int.toNat_natCast,Int.toNat_natCast]at hst
  have hmin:min i s.length=i:=by omega
  rw[hmin]at hln
  generalize hl0:ev n (s.take i)=l0 at*
  refine ai<|aj<|au<|aO<|bw (aN ((i*2)) I) I<|bw (eU I (gv s i _ hg) I) I<|aw 2 I<|aE [5,7,11,12,13] I ?_
  refine eF (σ':=CV l0 (some (.cells 103 (oN ⟨(ka:Int),(na:Int)⟩)))) I ?_
  refine aO<|cN I I (bU.mono (Es l0 _ 32 (by omega)) (fun _ σ' h=>?_))
  subst h
  refine aE [5,7,11,12,13] I ?_
  refine IT (.cons 5 I (Ren.ptr (i:=0) I)<|.cons 7 I (Ren.ptr (i:=2) I)<|.cons 11 I Ren.pure<|.cons 12 I Ren.pure<|.cons 13 I Ren.pure<|.nil) ?_
  refine aO<|aw 1 I<|bw (aJ I (rfl)) I<|eW I (nC ka (by omega)) I<|cN I I (bU.mono (IL (l0++[32]) _ ⟨(Lib.decDigits ka).toArray⟩ (show(l0++[32]).length+(Lib.decDigits ka).toArray.size≤1000000000 by simp;omega)) (fun _ σ' h=>?_))
  subst h
  refine aE [5,7,11,12,13] I ?_
  refine IT (.cons 5 I (Ren.ptr (i:=0) I)<|.cons 7 I (Ren.ptr (i:=2) I)<|.cons 11 I Ren.pure<|.cons 12 I Ren.pure<|.cons 13 I Ren.pure<|.nil) ?_
  refine aO<|cN I I (bU.mono (Es ((l0++[32])++Lib.decDigits ka) _ 58 (by simp;omega)) (fun _ σ' h=>?_))
  subst h
  refine aE [5,7,11,12,13] I ?_
  refine IT (.cons 5 I (Ren.ptr (i:=0) I)<|.cons 7 I (Ren.ptr (i:=2) I)<|.cons 11 I Ren.pure<|.cons 12 I Ren.pure<|.cons 13 I Ren.pure<|.nil) ?_
  refine bI<|aw 1 I<|bw (aJ I (rfl)) I<|eW I (nC na (by omega)) I<|cN I I (bU.mono (IL (((l0++[32])++Lib.decDigits ka)++[58]) _ ⟨(Lib.decDigits na).toArray⟩ (show(((l0++[32])++Lib.decDigits ka)++[58]).length+(Lib.decDigits na).toArray.size≤1000000000 by simp;omega)) (fun _ σ' h=>?_))
  subst h
  refine aE [5,11,12,13] I ?_
  refine Li (.cons 5 I (Ren.ptr (i:=0) I)<|.cons 11 I Ren.pure<|.cons 12 I Ren.pure<|.cons 13 I Ren.pure<|.nil) ?_
  refine aC (.v (aU I) I<|.a 1 I<|.k [5,11,12,13] I) ?_
  exact⟨s.length - (i+1),by omega,i+1,by omega,rfl,by rw[hst];rfl⟩
 ·have hie:i=s.length:=by have:=of_decide_eq_false hc;omega
  subst hie
  rw[List.take_length]
  refine bd<|aO<|cN I I (bU.mono (Gm true (ev n s) (by have:=kT hn;unfold ev;simp;omega)) (fun _ σ' h=>?_))
  subst h
  refine aw 1 I<|aE [4] I ?_
  exact ao<|⟨_,_,az.of I,ay.pure,rfl⟩
theorem Af(T:ak)(L:List de)(n:Int)(hv:aq T=true)(hL:(L.length:Int)=T.nodes)(hok:∀(i:Nat) x,L[i]? =some x→x.node=(i:Int)∧cT T x=true)(hn:bu T n=true):Can Tryz.prog 157 [aP T,eE L,num n] (· =num 0):=by
 have hN:=fY hv
 obtain⟨q1,hq1⟩:∃q,aq T=q:=⟨_,rfl⟩
 obtain⟨q2,hq2⟩:∃q,decide ((L.length:Int)≠T.nodes)=q:=⟨_,rfl⟩
 refine aH Tryz.func157 I Tryz.ntmps157 I<|ab (.a 2 I<|.k [1,2,3] I)<|aj<|bz 18 (.raw (.bool (!q1 ||q2))) [1,2,3] I ?_ ?_
 ·refine .a 1 I<|.c rfl (hq1▸eJ T) I<|.a 2 I<|?_
  cases q1
  ·exact .a 6 I<|.k [18,1,2,3] I
  ·exact .a 3 I<|.v (aJ I (rfl)) I<|.v (cf I (hq2)) I<|.a 1 I<|.k [18,1,2,3] I
 refine ag I (fun hc=>?_) (fun hc=>?_)
 ·rw[←hq1,hv,←hq2,decide_eq_false (by rw[hL];simp)]at hc
  cases hc
 ·refine ai<|aj<|ab (.a 3 I<|.k [2,3,19,20,21] I)<|au<|eH [2,3,19,20,21] I<|bq (fun r st=>∃i,i≤L.length∧r=L.length - i∧st=⟨[(2,num n),(3,.bb (bC T) 0),(19,eE L),(20,num L.length),(21,num i)],[]⟩) L.length ⟨0,by omega,by omega,rfl⟩ ?_
  rintro r st ⟨i,hi,rfl,rfl⟩
  refine ab (.a 1 I<|.k [2,3,19,20,21,22] I)<|aj<|ag I (fun hc=>?_) (fun hc=>?_)
  ·have hlt:i<L.length:=by have:=of_decide_eq_true hc;omega
   obtain⟨x,hx⟩:∃x,L[i]? =some x:=⟨_,List.getElem?_eq_getElem hlt⟩
   obtain⟨h1,h2⟩:=hok i x hx
   obtain⟨q3,hq3⟩:∃q,decide (x.node≠(i:Int))=q:=⟨_,rfl⟩
   obtain⟨q4,hq4⟩:∃q,cT T x=q:=⟨_,rfl⟩
   refine ai<|aj<|au<|aO<|aw 1 I<|bw (aN ((i*3)) I) I<|bw (eU I (kz L i x hx) I) I<|aw 3 I<|aE [2,3,7,8,19,20,21] I ?_
   refine bz 35 (.raw (.bool (q3|| !q4))) [2,3,19,20,21] I ?_ ?_
   ·refine .a 1 I<|.v (aJ I ((rfl:(eL x)[0]? =some (num x.node)))) I<|.a 1 I<|.v (cf I (hq3)) I<|.a 1 I<|?_
    cases q3
    ·exact .a 1 I<|.v (eU I ((rfl:(eL x).take 3=eL x)) I) I<|.c rfl (hq4▸sK T x) I<|.a 2 I<|.k [35,2,3,19,20,21] I
    ·exact .a 5 I<|.k [35,2,3,19,20,21] I
   refine ag I (fun hc=>?_) (fun hc=>?_)
   ·rw[←hq3,←hq4,h2,decide_eq_false (by rw[h1];simp)]at hc
    cases hc
   ·refine ai<|dI [] (.c 2<|.c 3<|.c 19<|.c 20<|.c 21<|.nil) .nil rfl rfl ?_
    refine aC (.v (aU I) I<|.a 1 I<|.k [2,3,19,20,21] I) ?_
    exact⟨L.length - (i+1),by omega,i+1,by omega,rfl,rfl⟩
  ·have hie:i=L.length:=by have:=of_decide_eq_false hc;omega
   refine bd<|aj<|ab (.a 2 I<|.c rfl (hn▸dJ T n) I<|.a 1 I<|.k [40] I)<|ag I (fun hc=>?_) (fun hc=>?_)
   ·cases hc
   ·exact ai<|ab (.a 1 I<|.k [6] I)<|ao<|⟨_,_,az.of I,ay.pure,rfl⟩
open eY
theorem cq.to{P:Program}{σ σ' σ'':cg}{t:cn}{o:Oper}{p p':PV}(h:cq P σ t o p σ')(hp:p=p')(hs:σ'=σ''):cq P σ t o p' σ'':=by subst hp;subst hs;exact h
theorem Jk{P:Program}{σ:cg}{t:cn}{o:Oper}{x y:Operand}{ty tz:TypeId}{p:PV}{q:Bool}(ho:o.op= .binOp .neq ty x y tz)(hk:pr P ty=true)(hx:aG t x=some p)(hy:aG t y=some (.raw (.pointer none)))(h:(p= .raw (.pointer none)∧q=false)∨∃xs k,p= .bb xs k∧q=true):bE P σ t o (.raw (.bool q)):=by
 rcases h with⟨rfl,rfl⟩|⟨xs,k,rfl,rfl⟩
 ·exact GM ho hk hx hy
 ·exact H2 ho hk hx hy
def Hj:PV:=.func 158 [.ptr 5 0,.ptr 6 0,.ptr 3 0,.ptr 0 0,.ptr 1 0,.ptr 7 0]
def P8(T:ak)(tbs:List de)(p1:dx)(j:Nat)(kv:List (List UInt8×PV))(rest:cg):cg:=
 some (.cells 25 (bC T))::some (.cells 43 [eE tbs])::some (.cells 66 (cL p1))::some (.cells 148 [.own (j+8)])::some (.mp (gg qm kv))::
 some (.cells 188 [.own 4])::some (.cells 4 [flag false])::some (.cells 189 [Hj])::rest
abbrev fi(L:List PV):Option cK:=some (.row 147 1 L.length L)
structure gE (j:Nat) (rest rest':cg):Prop where
 len:rest.length≤rest'.length
 same:∀i,i<rest.length→i≠j→rest'[i]? =rest[i]?
theorem gE.trans{j j':Nat}{a b c:cg}(h:gE j a b)(k:gE j' b c)(hj:j'=j∨a.length≤j'):gE j a c:=
 ⟨Nat.le_trans h.len k.len,fun i h1 h2=>(k.same i (Nat.lt_of_lt_of_le h1 h.len) (by omega)).trans (h.same i h1 h2)⟩
section
variable {T:ak} {tb:Nat→de} {p0:dx} {Φ:Nat→Nat→List bV→Prop}
def K9(T:ak)(tb:Nat→de)(p0:dx)(Φ:Nat→Nat→List bV→Prop)(tbs:List de)(p1:dx)(op:F4)(j:Nat)(rest:cg)(n:Nat)(s:List bV)(r:PV)(σ':cg):Prop:=
 ∃c kv' L' j' rest',Good T tb p0 Φ r n s c∧σ'=P8 T tbs p1 j' kv' rest'∧rest'[j']? =some (fi L')∧gE j rest rest'∧(j'=j∨rest.length≤j')∧nu T tb p0 Φ op kv' L'
structure J5 (T:ak) (tb:Nat→de) (p0:dx) (Φ:Nat→Nat→List bV→Prop) (op:F4) (j0:Nat) (rest0:cg) (n:Nat) (s:List bV) (kv:List (List UInt8×PV)) (L:List PV) (j jr:Nat) (rest:cg) (k:Nat) (vs:List PV) (cs:List Int):Prop where
 Ii:gE j0 rest0 rest
 len:rest0.length+5≤rest.length
 x:rest[rest0.length+1]? =some (some (.cells 152 [num n,num (bL T tb p0 n s).cS,av (bL T tb p0 n s).ax,.own (jr+8),flag true,num (eK (bL T tb p0 n s).ax cs)]))
 nb:rest[rest0.length+3]? =some (some (.cells 66 (cL (bL T tb p0 n s).eo)))
 row:rest[jr]? =some (fi vs)
 al:rest[j]? =some (fi L)
 KD:rest0.length+4≤jr
 j1:j=rest0.length+2∨rest0.length+5≤j
 ne:j≠jr
 ok:nu T tb p0 Φ ((rest0.length+1,n,s)::op) kv L
 lv:vs.length=k
 lc:cs.length=k
 ch:∀i,i<k→Good T tb p0 Φ (vs.getD i .any) (aS T ((bL T tb p0 n s).ax.getD i 0).toNat).toNat (bL T tb p0 n s).eo.stack (cs.getD i 0)
instance (l:List bV):gm (cc l):=by unfold cc;infer_instance
instance (p:dx):dD (cL p):=by unfold cL;infer_instance
theorem Kq:vt Tryz.prog 188=some (9,147):=by kernel_rfl
theorem LB:IH Tryz.prog 147=some (.pointer none):=by kernel_rfl
theorem Ka:iN Tryz.prog 9 qm:=I6 Tryz.underlying9
theorem cU{α:Type}{l:List α}{a:α}{i:Nat}(h:l.length=i):(l++[a])[i]? =some a:=by subst h;simp
theorem bS{α:Type}{l:List α}{a b:α}{i:Nat}(h:l[i]? =some b):(l++[a])[i]? =some b:=by
 rw[List.getElem?_append_left (List.getElem?_eq_some_iff.1 h).1];exact h
theorem aD{α:Type}{l:List α}{a:α}{b:Option α}{i j:Nat}(h:l[i]? =b)(hne:j≠i):(l.set j a)[i]? =b:=by
 rw[List.getElem?_set,if_neg hne];exact h
theorem aW{α:Type}{l:List α}{a b:α}{i:Nat}(h:l[i]? =some b):(l.set i a)[i]? =some a:=by
 rw[List.getElem?_set,if_pos rfl,if_pos (List.getElem?_eq_some_iff.1 h).1]
theorem gE.refl(j:Nat)(a:cg):gE j a a:=⟨Nat.le_refl _,fun _ _ _=>rfl⟩
theorem gE.app{j:Nat}{a b:cg}(h:gE j a b)(x:Option cK):gE j a (b++[x]):=
 ⟨by rw[List.length_append];have:=h.len;omega,fun i h1 h2=>by rw[List.getElem?_append_left (Nat.lt_of_lt_of_le h1 h.len)];exact h.same i h1 h2⟩
theorem gE.put{j:Nat}{a b:cg}(h:gE j a b){k:Nat}(hk:k=j∨a.length≤k)(x:Option cK):gE j a (b.set k x):=
 ⟨by rw[List.length_set];exact h.len,fun i h1 h2=>by rw[List.getElem?_set,if_neg (by omega)];exact h.same i h1 h2⟩
theorem uU{tbs:List de}{p1:dx}{j i:Nat}{blk:cK}{kv kv':List (List UInt8×PV)}{rest rest':cg}(hl:rest'.length=rest.length)(h0:rest'[i]? =some none)
  (h:∀k,k≠i→(rest'[k]? =rest[k]? ∨∃b b',rest[k]? =some (some b)∧rest'[k]? =some (some b')∧uZ (i+8) blk b b')) (hk:kv'.map (·.1)=kv.map (·.1)) (hf:jK (i+8) blk (kv.map (·.2)) (kv'.map (·.2))):
  zb (i+8) blk (P8 T tbs p1 j kv rest) (P8 T tbs p1 j kv' rest'):=by
 refine⟨by simp[P8,hl],h0,fun m hm=>?_⟩
 match m,hm with
 |0,_=>exact .inl rfl
 |1,_=>exact .inl rfl
 |2,_=>exact .inl rfl
 |3,_=>exact .inl rfl
 |4,_=>
  refine .inr ⟨_,_,rfl,rfl,.mp ?_ ?_⟩
  ·have:∀l:List (List UInt8×PV),(gg qm l).map (·.1)=(l.map (·.1)).map qm:=fun l=>by simp[gg]
   rw[this,this,hk]
  ·have:∀l:List (List UInt8×PV),(gg qm l).map (·.2)=l.map (·.2):=fun l=>by simp[gg]
   rw[this,this]
   exact hf
 |5,_=>exact .inl rfl
 |6,_=>exact .inl rfl
 |7,_=>exact .inl rfl
 |k+8,hm=>exact h k (by omega)
theorem J5.eo(R:iK T tb p0 Φ){u n:Nat}{s:List bV}(h:Φ u n s)(hne:(bL T tb p0 n s).ax≠[]):cV (bL T tb p0 n s).eo (bL T tb p0 n s).eo.stack=cV p0 (bL T tb p0 n s).eo.stack:=by
 rcases R.step h with h|⟨_,h,_⟩
 ·exact absurd h hne
 ·generalize bL T tb p0 n s=O at*
  obtain⟨ax,eo,cS⟩:=O
  simp only at h ⊢
  unfold cB at h
  injection h with _ h2 _
  rw[h2]
  rfl
set_option maxHeartbeats 4000000 in
theorem B3(R:iK T tb p0 Φ)(hv:aq T=true)(h12:T.nodes≤12){U:List (Nat×List bV)}(hU:∀ {u n s},Φ u n s→(n,s)∈U)(hUl:U.length≤1000000)(tbs:List de)(htb:∀n:Nat,(n:Int)<T.nodes→tbs[n]? =some (tb n))(p1:dx):
  ∀(u n:Nat) (p:dx),Φ u n p.stack→cV p p.stack=cV p0 p.stack→∀(op:F4) (kv:List (List UInt8×PV)) (L:List PV) (j:Nat) (rest:cg),rest[j]? =some (fi L)→nu T tb p0 Φ op kv L→(∀x∈op,Da T tb p0 x.2.1 x.2.2 n p.stack)→
   bU Tryz.prog 158 [num n,dB p,.ptr 5 0,.ptr 6 0,.ptr 3 0,.ptr 0 0,.ptr 1 0,.ptr 7 0] (P8 T tbs p1 j kv rest) (K9 T tb p0 Φ tbs p1 op j rest n p.stack):=by
 intro u
 induction u using Nat.strongRecOn with
 |_ u ih=>
 intro n p hΦ hp op kv L j rest hj hok hop
 have hnn:=R.node hΦ
 obtain⟨hsm,hsl⟩:=R.small hΦ
 obtain⟨pv,hpv⟩:∃pv,(dF (ev n p.stack) kv).getD (.raw (.pointer none))=pv:=⟨_,rfl⟩
 obtain⟨q,hq1,hq2,hq3⟩:∃q,((pv= .raw (.pointer none)∧q=false)∨∃xs k,pv= .bb xs k∧q=true)∧(q=false→dF (ev n p.stack) kv=none)∧(q=true→∃vs c,pv= .bb (dP n (bL T tb p0 n p.stack) vs c) 0∧Good T tb p0 Φ pv n p.stack c):=by
  cases hl:dF (ev n p.stack) kv with
  |none=>exact⟨false,.inl ⟨by rw[←hpv,hl];rfl,rfl⟩,fun _=>rfl,fun h=>(by cases h)⟩
  |some v=>
   obtain⟨c,hg⟩:=hok.Dg R h12 hΦ hop hl
   have hvv:pv=v:=by rw[←hpv,hl];rfl
   obtain⟨vs,cs,e1,_⟩:=hg.parts
   exact⟨true,.inr ⟨_,_,hvv.trans e1,rfl⟩,fun h=>(by cases h),fun _=>⟨vs,c,hvv.trans e1,hvv▸hg⟩⟩
 have hjl:=(List.getElem?_eq_some_iff.1 hj).1
 refine ct Tryz.func158 I Tryz.ntmps158 I<|aO<|b7 (cq.to (fD I I I) (p':=.ptr (rest.length+8) 0) (σ'':=P8 T tbs p1 j kv (rest++[some (.cells 66 (cL p))])) I I) I<|aw 1 I<|aE [0,2,3,4,5,6,7,9] I ?_
 obtain⟨r1,hr1⟩:∃r1,rest++[some (.cells 66 (cL p))]=r1:=⟨_,rfl⟩
 have l1:r1.length=rest.length+1:=by rw[←hr1];simp
 have k1:gE j rest r1:=hr1▸(gE.refl j rest).app _
 have b1:r1[rest.length]? =some (some (.cells 66 (cL p))):=hr1▸cU rfl
 have j1:r1[j]? =some (fi L):=hr1▸bS hj
 rw[hr1]
 refine ab (.a 2 I<|.v (aR I (ba.tk.get I) I b1 rfl) I<|.c rfl (Dt n p.stack (by omega) hsm hsl) I<|.a 1 I<|.k [0,2,3,4,5,6,7,9,11] I)<|aj<|ab (.a 2 I<|.v (vR Ka rfl Kq LB rfl rfl rfl (pN _) hpv) I<|.a 1 I<|.k [0,2,3,4,5,6,7,9,11,12] I)<|ab (.a 1 I<|.v (Jk I (ba.pk.get I) I I hq1) I<|.k [0,2,3,4,5,6,7,9,11,12,26] I)<|ag I (fun hc=>?_) (fun hc=>?_)
 ·obtain⟨vs0,c0,e0,hg0⟩:=hq3 hc
  subst e0
  refine aO<|aw 7 I<|bc (cq.to (cd I (ba.tk.get I) I I I (Nat.le_of_ble_eq_true rfl)) (σ'':=P8 T tbs p1 j kv r1) I I) I I<|aE [12] I ?_
  exact ab (.a 2 I<|.k [10] I)<|ao<|⟨_,az.of I,c0,kv,L,j,r1,hg0,rfl,j1,k1,.inl rfl,hok⟩
 ·have hno:=th (hq2 hc)
  have hno2:=nT (p:=PV.ptr (rest.length+1+8) 0) (hq2 hc)
  refine ai<|aO<|aw 2 I<|b7 (cq.to (fD I I I) (p':=.ptr (rest.length+1+8) 0) (σ'':=P8 T tbs p1 j kv (r1++[some (.cells 152 [num n,num 0,.raw (.slice none 0 0),.raw (.slice none 0 0),flag true,num 0])])) (by rw[←l1];rfl) I) I<|aw 1 I<|aE [0,2,3,4,5,6,7,9,11,13] I ?_
  obtain⟨r2,hr2⟩:∃r2,r1++[some (.cells 152 [num n,num 0,.raw (.slice none 0 0),.raw (.slice none 0 0),flag true,num 0])]=r2:=⟨_,rfl⟩
  have l2:r2.length=rest.length+2:=by rw[←hr2];simp[l1]
  have k2:gE j rest r2:=hr2▸k1.app _
  have b2:r2[rest.length]? =some (some (.cells 66 (cL p))):=hr2▸bS b1
  have x2:r2[rest.length+1]? =some (some (.cells 152 [num n,num 0,.raw (.slice none 0 0),.raw (.slice none 0 0),flag true,num 0])):=hr2▸cU l1
  have j2:r2[j]? =some (fi L):=hr2▸bS j1
  rw[hr2]
  refine aO<|aw 3 I<|bc (cq.to (oy Ka rfl Kq rfl rfl rfl (pN _) I) (σ'':=P8 T tbs p1 j (kv++[(ev n p.stack,PV.ptr (rest.length+1+8) 0)]) r2) I (by rw[←hno2];rfl)) I I<|aE [0,3,4,5,6,7,9,13] I ?_
  have hfew:=hok.JM R h12 hU
  have hlen:=hok.len
  refine aO<|aw 3 I<|b7 (cq.to (σ:=P8 T tbs p1 j (kv++[(ev n p.stack,PV.ptr (rest.length+1+8) 0)]) r2) (bh (m:=1) (n:=L.length) (xs:=L) I (ba.rk.get I) I j2 rfl rfl ⟨by unfold maxLen;omega,by omega⟩) (p':=.own (rest.length+2+8)) (σ'':=P8 T tbs p1 j (kv++[(ev n p.stack,PV.ptr (rest.length+1+8) 0)]) (r2.set j none++[fi (L++[PV.ptr (rest.length+1+8) 0])])) (by rw[←l2];rfl) (by unfold fi;rw[List.length_append];rfl)) I<|bc (cq.to (cd I (ba.tk.get I) I I I (Nat.le_of_ble_eq_true rfl)) (σ'':=P8 T tbs p1 (rest.length+2) (kv++[(ev n p.stack,PV.ptr (rest.length+1+8) 0)]) (r2.set j none++[fi (L++[PV.ptr (rest.length+1+8) 0])])) I I) I I<|aE [0,3,5,6,7,9,13] I ?_
  obtain⟨r3,hr3⟩:∃r3,r2.set j none++[fi (L++[PV.ptr (rest.length+1+8) 0])]=r3:=⟨_,rfl⟩
  have l3:r3.length=rest.length+3:=by rw[←hr3];simp[l2]
  have k3:gE j rest r3:=hr3▸(k2.put (.inl rfl) _).app _
  have b3:r3[rest.length]? =some (some (.cells 66 (cL p))):=hr3▸bS (aD b2 (by omega))
  have x3:r3[rest.length+1]? =some (some (.cells 152 [num n,num 0,.raw (.slice none 0 0),.raw (.slice none 0 0),flag true,num 0])):=hr3▸bS (aD x2 (by omega))
  have j3:r3[rest.length+2]? =some (fi (L++[PV.ptr (rest.length+1+8) 0])):=hr3▸cU (by simp[l2])
  rw[hr3]
  have hok3:=hok.push (i:=rest.length+1) hΦ hno
  obtain⟨kv3,hkv3⟩:∃k,kv++[(ev n p.stack,PV.ptr (rest.length+1+8) 0)]=k:=⟨_,rfl⟩
  obtain⟨L3,hL3⟩:∃k,L++[PV.ptr (rest.length+1+8) 0]=k:=⟨_,rfl⟩
  rw[hkv3,hL3]at hok3
  rw[hL3]at j3
  rw[hkv3]
  refine aO<|aw 1 I<|bc (cq.to (σ:=P8 T tbs p1 (rest.length+2) kv3 r3) (cd I (ba.tk.get I) I I b3 (Nat.le_of_ble_eq_true rfl)) (σ'':=P8 T tbs p1 (rest.length+2) kv3 (r3.set rest.length (some (.cells 66 (cL (cV p p.stack)))))) I I) I I<|aE [0,3,5,6,7,9,13] I ?_
  obtain⟨r4,hr4⟩:∃r4,r3.set rest.length (some (.cells 66 (cL (cV p p.stack))))=r4:=⟨_,rfl⟩
  have l4:r4.length=rest.length+3:=by rw[←hr4];simp[l3]
  have k4:gE j rest r4:=hr4▸k3.put (.inr (Nat.le_refl _)) _
  have b4:r4[rest.length]? =some (some (.cells 66 (cL (cV p p.stack)))):=hr4▸aW b3
  have x4:r4[rest.length+1]? =some (some (.cells 152 [num n,num 0,.raw (.slice none 0 0),.raw (.slice none 0 0),flag true,num 0])):=hr4▸aD x3 (by omega)
  have j4:r4[rest.length+2]? =some (fi L3):=hr4▸aD j3 (by omega)
  rw[hr4]
  refine aO<|b7 (cq.to (nd I (ba.zk.get I)) (p':=.ptr (rest.length+3+8) 0) (σ'':=P8 T tbs p1 (rest.length+2) kv3 (r4++[some (.cells 66 [num 0,num 0,num 0,num 0,.raw (.slice none 0 0),num 0])])) (by rw[←l4];rfl) I) I<|aE [0,3,5,6,7,9,13,14] I ?_
  obtain⟨r5,hr5⟩:∃r5,r4++[some (.cells 66 [num 0,num 0,num 0,num 0,.raw (.slice none 0 0),num 0])]=r5:=⟨_,rfl⟩
  have l5:r5.length=rest.length+4:=by rw[←hr5];simp[l4]
  have k5:gE j rest r5:=hr5▸k4.app _
  have b5:r5[rest.length]? =some (some (.cells 66 (cL (cV p p.stack)))):=hr5▸bS b4
  have x5:r5[rest.length+1]? =some (some (.cells 152 [num n,num 0,.raw (.slice none 0 0),.raw (.slice none 0 0),flag true,num 0])):=hr5▸bS x4
  have j5:r5[rest.length+2]? =some (fi L3):=hr5▸bS j4
  have n5:r5[rest.length+3]? =some (some (.cells 66 [num 0,num 0,num 0,num 0,.raw (.slice none 0 0),num 0])):=hr5▸cU l4
  rw[hr5]
  have hO:dj T (tb n) (cV p p.stack)=bL T tb p0 n p.stack:=by rw[hp];rfl
  have hbr:=R.step hΦ
  have hpk:=fun h=>J5.eo R hΦ h
  obtain⟨O,hOO⟩:∃O,bL T tb p0 n p.stack=O:=⟨_,rfl⟩
  rw[hOO]at hO hbr hpk
  have htn:=htb n hnn
  have htl:=(List.getElem?_eq_some_iff.1 htn).1
  have hal:O.ax.length≤1000:=by
   rcases hbr with h|⟨h,_⟩
   ·rw[h];simp
   ·exact h
  refine vk 20 3 (P8 T tbs p1 (rest.length+2) kv3 r5::P8 T tbs p1 (rest.length+2) kv3 (r5.set (rest.length+1) (some (.cells 152 [num n,num 0,av O.ax,.raw (.slice none 0 0),flag true,num 0])))::P8 T tbs p1 (rest.length+2) kv3 ((r5.set (rest.length+1) (some (.cells 152 [num n,num 0,av O.ax,.raw (.slice none 0 0),flag true,num 0]))).set (rest.length+3) (some (.cells 66 (cL O.eo))))::P8 T tbs p1 (rest.length+2) kv3 (((r5.set (rest.length+1) (some (.cells 152 [num n,num 0,av O.ax,.raw (.slice none 0 0),flag true,num 0]))).set (rest.length+3) (some (.cells 66 (cL O.eo)))).set (rest.length+1) (some (.cells 152 [num n,num O.cS,av O.ax,.raw (.slice none 0 0),flag true,num 0])))::[]) (⟨_,none,0,0⟩::⟨_,none,0,2⟩::⟨aP T,none,0,0⟩::⟨_,none,0,0⟩::⟨_,none,0,0⟩::⟨_,none,0,0⟩::⟨fw (tb n),none,0,0⟩::⟨dB (cV p p.stack),none,0,0⟩::⟨vv O,none,0,0⟩::⟨vv O,none,0,0⟩::⟨av O.ax,none,0,0⟩::⟨dB O.eo,none,0,1⟩::⟨num O.cS,none,0,2⟩::⟨_,none,0,0⟩::⟨_,none,0,0⟩::⟨_,some 0,0,0⟩::⟨_,some 1,0,0⟩::⟨_,none,2,2⟩::⟨_,none,2,2⟩::⟨_,some 2,0,0⟩::[]) _ mixed ?grd1 rfl rfl rfl rfl (.cons (.val [13] I I (yz (bZ (aZ I) df)) I I)<|.cons (.val [13] I I (yz (bZ (aZ I) (bZ (aZ I) (bZ (aZ I) df)))) I I)<|.cons (.val [5] I I (yz (bZ (aZ I) df)) I I)<|.cons (.val [6] I I (yz (bZ (aZ I) df)) I I)<|.cons (.val [0] I I (yz (bZ (aZ I) df)) I I)<|.cons (.val [50,51] I I (yz (bZ (aN ((n*3)) I) df)) I I)<|.cons (.val [52] I I (yz (bZ (eU I (kz tbs n (tb n) htn) I) df)) I I)<|.cons (.val [9] I I (yz (bZ (cR (σ:=P8 T tbs p1 (rest.length+2) kv3 r5) (blk:=.cells 66 (cL (cV p p.stack))) I (ba.tk.get I) I b5 rfl) df)) I I)<|.cons (.val [49,53,54] I I (yz (bZ (dU I (hO▸Dc T (tb n) (cV p p.stack) hsl)) df)) I I)<|.cons (.val [55] I I (yz (bZ (aZ I) df)) I I)<|.cons (.val [46] I I (yz (bZ (aZ I) df)) I I)<|.cons (.val [46] I I (yz (bZ (aZ I) (bZ (aZ I) df))) I I)<|.cons (.val [46] I I (yz (bZ (aZ I) (bZ (aZ I) (bZ (aZ I) df)))) I I)<|.cons (.val [47] I I (yz (bZ (aZ I) df)) I I)<|.cons (.val [59] I I (yz (bZ (aZ I) df)) I I)<|.cons (.ll [56,60] I I I I (cq.to (σ:=P8 T tbs p1 (rest.length+2) kv3 r5) (σ'':=P8 T tbs p1 (rest.length+2) kv3 (r5.set (rest.length+1) (some (.cells 152 [num n,num 0,av O.ax,.raw (.slice none 0 0),flag true,num 0])))) (cd I (ba.tk.get I) I I x5 (Nat.le_of_ble_eq_true rfl)) I I) I)<|.cons (.ll [14,57] I I I I (cq.to (σ:=P8 T tbs p1 (rest.length+2) kv3 (r5.set (rest.length+1) (some (.cells 152 [num n,num 0,av O.ax,.raw (.slice none 0 0),flag true,num 0])))) (σ'':=P8 T tbs p1 (rest.length+2) kv3 ((r5.set (rest.length+1) (some (.cells 152 [num n,num 0,av O.ax,.raw (.slice none 0 0),flag true,num 0]))).set (rest.length+3) (some (.cells 66 (cL O.eo))))) (mQ (ys:=cL O.eo) I (ba.tk.get I) I I I I (aD n5 (by omega)) (Nat.le_of_ble_eq_true rfl)) I I) I)<|.cons (.val [48] I I (yz (bZ (aZ I) df)) I I)<|.cons (.val [61] I I (yz (bZ (aZ I) df)) I I)<|.cons (.ll [58,62] I I I I (cq.to (σ:=P8 T tbs p1 (rest.length+2) kv3 ((r5.set (rest.length+1) (some (.cells 152 [num n,num 0,av O.ax,.raw (.slice none 0 0),flag true,num 0]))).set (rest.length+3) (some (.cells 66 (cL O.eo))))) (σ'':=P8 T tbs p1 (rest.length+2) kv3 (((r5.set (rest.length+1) (some (.cells 152 [num n,num 0,av O.ax,.raw (.slice none 0 0),flag true,num 0]))).set (rest.length+3) (some (.cells 66 (cL O.eo)))).set (rest.length+1) (some (.cells 152 [num n,num O.cS,av O.ax,.raw (.slice none 0 0),flag true,num 0])))) (cd I (ba.tk.get I) I I (aD (aW x5) (by omega)) (Nat.le_of_ble_eq_true rfl)) I I) I) .nil) (aY (ks:=[3,5,7,13,14]) I) ?_
  case grd1=>kernel_rfl
  obtain⟨r6,hr6⟩:∃r6,((r5.set (rest.length+1) (some (.cells 152 [num n,num 0,av O.ax,.raw (.slice none 0 0),flag true,num 0]))).set (rest.length+3) (some (.cells 66 (cL O.eo)))).set (rest.length+1) (some (.cells 152 [num n,num O.cS,av O.ax,.raw (.slice none 0 0),flag true,num 0]))=r6:=⟨_,rfl⟩
  have l6:r6.length=rest.length+4:=by rw[←hr6];simp[l5]
  have k6:gE j rest r6:=hr6▸((k5.put (.inr (by omega)) _).put (.inr (by omega)) _).put (.inr (by omega)) _
  have x6:r6[rest.length+1]? =some (some (.cells 152 [num n,num O.cS,av O.ax,.raw (.slice none 0 0),flag true,num 0])):=hr6▸aW (aD (aW x5) (by omega))
  have j6:r6[rest.length+2]? =some (fi L3):=hr6▸aD (aD (aD j5 (by omega)) (by omega)) (by omega)
  have n6:r6[rest.length+3]? =some (some (.cells 66 (cL O.eo))):=hr6▸aD (aW (aD n5 (by omega))) (by omega)
  rw[hr6]
  refine aj<|ab (.a 3 I<|.v (aR I (ba.tk.get I) I x6 rfl) I<|.a 2 I<|.k [3,5,7,13,14,68] I)<|ag I (fun hc=>?_) (fun hc=>?_)
  ·have harc:O.ax=[]:=List.eq_nil_of_length_eq_zero (by have:=tt hc;omega)
   refine bI<|aw 3 I<|bc (cq.to (σ:=P8 T tbs p1 (rest.length+2) kv3 r6) (cd I (ba.tk.get I) I I x6 (Nat.le_of_ble_eq_true rfl)) (σ'':=P8 T tbs p1 (rest.length+2) kv3 (r6.set (rest.length+1) (some (.cells 152 [num n,num O.cS,av O.ax,.raw (.slice none 0 0),flag true,num 1])))) I I) I I<|aE [3,5,7,13,14] I ?_
   obtain⟨r7,hr7⟩:∃r7,r6.set (rest.length+1) (some (.cells 152 [num n,num O.cS,av O.ax,.raw (.slice none 0 0),flag true,num 1]))=r7:=⟨_,rfl⟩
   have x7:r7[rest.length+1]? =some (some (.cells 152 [num n,num O.cS,av O.ax,.raw (.slice none 0 0),flag true,num (eK O.ax [])])):=by
    rw[←hr7,aW x6];unfold eK;rw[if_pos harc]
   replace l6:r7.length=rest.length+4:=by rw[←hr7];simp[l6]
   replace k6:gE j rest r7:=hr7▸k6.put (.inr (by omega)) _
   replace j6:r7[rest.length+2]? =some (fi L3):=hr7▸aD j6 (by omega)
   replace n6:r7[rest.length+3]? =some (some (.cells 66 (cL O.eo))):=hr7▸aD n6 (by omega)
   rw[hr7]
   refine aj<|ab (.a 3 I<|.v (aR I (ba.tk.get I) I x7 rfl) I<|.a 2 I<|.k [3,5,7,13,14,75,76,77] I)<|au<|eH [3,5,7,13,14,75,76,77] I<|cz (rest.length+1+8) 3 147 1 x7 rfl ?_
   have hz:(P8 T tbs p1 (rest.length+2) kv3 r7).length=rest.length+4+8:=by rw[←l6];rfl
   rw[hz]
   refine eF (σ':=P8 T tbs p1 (rest.length+2) kv3 ((r7++[fi []]).set (rest.length+1) (some (.cells 152 [num n,num O.cS,av O.ax,.own (rest.length+4+8),flag true,num (eK O.ax [])])))) I ?_
   refine bq (fun r st=>∃(k:Nat) (kv':List (List UInt8×PV)) (L':List PV) (j' jr:Nat) (rest':cg) (vs:List PV) (cs:List Int),k≤O.ax.length∧r=O.ax.length - k∧J5 T tb p0 Φ op j rest n p.stack kv' L' j' jr rest' k vs cs∧st=⟨[(3,.ptr 6 0),(5,.ptr 0 0),(7,.ptr 7 0),(13,.ptr (rest.length+1+8) 0),(14,.ptr (rest.length+3+8) 0),(75,av O.ax),(76,num O.ax.length),(77,num k)],P8 T tbs p1 j' kv' rest'⟩) O.ax.length ⟨0,kv3,L3,rest.length+2,rest.length+4,_,[],[],Nat.zero_le _,rfl,⟨(k6.app _).put (.inr (by omega)) _,by simp[l6],by rw[hOO];exact aW (bS x7),by rw[hOO];exact aD (bS n6) (by omega),aD (cU l6) (by omega),aD (bS j6) (by omega),by omega,.inl rfl,by omega,hok3,rfl,rfl,fun i hi=>absurd hi (Nat.not_lt_zero i)⟩,rfl⟩ ?_
   rintro r st ⟨k,kv',L',j',jr,rest',vs,cs,hk,rfl,V,rfl⟩
   have vx:=V.x
   have vn:=V.nb
   have vr:=V.row
   have va:=V.al
   have vlen:=V.len
   have vj:=V.j1
   have vjr:=V.KD
   have vne:=V.ne
   have vrl:=(List.getElem?_eq_some_iff.1 vr).1
   rw[hOO]at vx vn
   refine ab (.a 1 I<|.k [3,5,7,13,14,75,76,77,78] I)<|aj<|ag I (fun hc=>?_) (fun hc=>?_)
   ·have hlt:k<O.ax.length:=by have:=tt hc;omega
    have hne:O.ax≠[]:=fun h=>by rw[h]at hlt;simp at hlt
    have hst:∀a∈O.ax,∃b m:Nat,a=(b:Int)∧b<2*T.ae.length∧aS T b=(m:Int)∧∃u',u'<u∧Φ u' m O.eo.stack:=by
     rcases hbr with h|⟨_,_,h⟩
     ·exact absurd h hne
     ·exact h
    have hmem:O.ax.getD k 0∈O.ax:=cr hlt
    obtain⟨b,m,hab,hb,hm,u',hu',hΦ'⟩:=hst _ hmem
    have hop':∀x∈(rest.length+1,n,p.stack)::op,Da T tb p0 x.2.1 x.2.2 m O.eo.stack:=fun x hx=>by
     have ha:O.ax.getD k 0∈(bL T tb p0 n p.stack).ax:=by rw[hOO];exact hmem
     have hm':aS T (O.ax.getD k 0).toNat=(m:Int):=by rw[hab,Int.toNat_natCast];exact hm
     rw[←hOO]
     rcases List.mem_cons.1 hx with rfl|hx
     ·exact .one ha hm'
     ·exact .more (hop x hx) ha hm'
    have hll:=bT hv
    refine ai<|aj<|au<|ab (.v (aN (k) I) I<|.v (aJ I ((aB _ k hlt).trans (by rw[hab]))) I<|.a 1 I<|.k [3,5,7,13,14,16,75,76,77] I)<|aj<|ab (.a 1 I<|.k [3,5,7,13,14,16,75,76,77,81] I)<|ag I (fun hc=>?_) (fun hc=>?_)
    ·cases hc
    ·refine ai<|EO 5 20 [82,83,84,85,86] mixed (by kernel_rfl) (by kernel_rfl) (by kernel_rfl) I (.a 3 I<|.v [83,84] (dU I ((show Can Tryz.prog 150 [aP T,num b] (· =num m) by have h:=fZ T b hb (by omega);rw[hm]at h;exact h))) I I<|.v [14] (cR (σ:=P8 T tbs p1 j' kv' rest') (blk:=.cells 66 (cL O.eo)) I (ba.tk.get I) I vn rfl) I I<|.k [3,5,7,13,14,75,76,77,82,85,86] I) ?_
     refine cN I I (bU.mono (ih u' hu' m O.eo hΦ' (hpk hne) ((rest.length+1,n,p.stack)::op) kv' L' j' rest' va V.ok hop') (fun y σ' h=>?_))
     obtain⟨c,kv4,L4,j4',r8,hg,rfl,a8,k8,hj8,hok8⟩:=h
     refine aw 1 I<|aE [3,5,7,13,14,17,75,76,77] I ?_
     obtain⟨vs1,cs1,hgv,_,_,_,_⟩:=hg.parts
     subst hgv
     have l8:=k8.len
     have x8:r8[rest.length+1]? =some (some (.cells 152 [num n,num O.cS,av O.ax,.own (jr+8),flag true,num (eK O.ax cs)])):=(k8.same _ (by omega) (by omega)).trans vx
     have n8:r8[rest.length+3]? =some (some (.cells 66 (cL O.eo))):=(k8.same _ (by omega) (by omega)).trans vn
     have w8:r8[jr]? =some (fi vs):=(k8.same _ vrl (by omega)).trans vr
     have kk8:gE j rest r8:=V.Ii.trans k8 (by omega)
     have hgb:=hg.bound
     have hlv:=V.lv
     have hlc:=V.lc
     have e8:j4'≠jr:=by omega
     have x8b:(r8.set jr none++[fi (vs++[PV.bb (dP m (bL T tb p0 m O.eo.stack) vs1 c) 0])])[rest.length+1]? =some (some (.cells 152 [num n,num O.cS,av O.ax,.own (jr+8),flag true,num (eK O.ax cs)])):=bS (aD x8 (by omega))
     refine aO<|aw 4 I ?_
     refine bw (aR I (ba.tk.get I) I x8 rfl) I ?_
     refine aw 1 I ?_
     refine bw (aV (xs:=[PV.bb (dP m (bL T tb p0 m O.eo.stack) vs1 c) 0]) I (ba.sl.get I) ⟨Nat.le_of_ble_eq_true rfl,Nat.le_of_ble_eq_true rfl⟩ rfl rfl) I ?_
     refine b7 (cq.to (σ:=P8 T tbs p1 j4' kv4 r8) (bh (e:=147) (s:=1) (by':=8) (i:=jr+8) (m:=1) (n:=vs.length) (xs:=vs) (ys:=[PV.bb (dP m (bL T tb p0 m O.eo.stack) vs1 c) 0]) I (ba.rk.get I) I w8 rfl rfl ⟨by unfold maxLen;omega,by omega⟩) (p':=.own (r8.length+8)) (σ'':=P8 T tbs p1 j4' kv4 (r8.set jr none++[fi (vs++[PV.bb (dP m (bL T tb p0 m O.eo.stack) vs1 c) 0])])) I (by unfold fi;rw[List.length_append];rfl)) I ?_
     refine aw 2 I ?_
     refine bc (cq.to (σ:=P8 T tbs p1 j4' kv4 (r8.set jr none++[fi (vs++[PV.bb (dP m (bL T tb p0 m O.eo.stack) vs1 c) 0])])) (cd I (ba.tk.get I) I I x8b (Nat.le_of_ble_eq_true rfl)) (σ'':=P8 T tbs p1 j4' kv4 ((r8.set jr none++[fi (vs++[PV.bb (dP m (bL T tb p0 m O.eo.stack) vs1 c) 0])]).set (rest.length+1) (some (.cells 152 [num n,num O.cS,av O.ax,.own (r8.length+8),flag true,num (eK O.ax cs)])))) I I) I I ?_
     refine aE [3,5,7,13,14,17,75,76,77] I ?_
     obtain⟨r9,hr9⟩:∃r9,(r8.set jr none++[fi (vs++[PV.bb (dP m (bL T tb p0 m O.eo.stack) vs1 c) 0])]).set (rest.length+1) (some (.cells 152 [num n,num O.cS,av O.ax,.own (r8.length+8),flag true,num (eK O.ax cs)]))=r9:=⟨_,rfl⟩
     have l9:r9.length=r8.length+1:=by rw[←hr9];simp
     have kk9:gE j rest r9:=hr9▸((kk8.put (.inr (by omega)) _).app _).put (.inr (by omega)) _
     have x9:r9[rest.length+1]? =some (some (.cells 152 [num n,num O.cS,av O.ax,.own (r8.length+8),flag true,num (eK O.ax cs)])):=hr9▸aW x8b
     have n9:r9[rest.length+3]? =some (some (.cells 66 (cL O.eo))):=hr9▸aD (bS (aD n8 (by omega))) (by omega)
     have w9:r9[r8.length]? =some (fi (vs++[PV.bb (dP m (bL T tb p0 m O.eo.stack) vs1 c) 0])):=hr9▸aD (cU (by simp)) (by omega)
     have a9:r9[j4']? =some (fi L4):=hr9▸aD (bS (aD a8 (by omega))) (by omega)
     rw[hr9]
     have hcb:0≤eK O.ax cs∧eK O.ax cs≤1001:=by
      unfold eK
      rw[if_neg hne]
      refine hJ cs 0 (by omega) (by omega) fun z hz=>?_
      obtain⟨i,hi⟩:=List.getElem?_of_mem hz
      have hil:=(List.getElem?_eq_some_iff.1 hi).1
      have:=(V.ch i (by omega)).bound.1
      rwa [List.getD_eq_getElem?_getD,hi]at this
     have hbs:eK O.ax (cs++[c])=min (eK O.ax cs+c) 1001:=by unfold eK;rw[if_neg hne,if_neg hne,lX]
     refine dL 13 20 mixed (
      .val [13] I (aZ I) I I<|
      .val [13] I (aZ I) I I<|
      .val [99] I (aZ I) I I<|
      .val [100] I (aZ I) I I<|
      .val [101] I (aR I (ba.tk.get I) I x9 rfl) I I<|
      .val [17] I (aZ I) I I<|
      .val [103] I (aZ I) I I<|
      .val [104] I (aZ I) I I<|
      .val [105] I (aJ I (rfl)) I I<|
      .val [102,106] I (aU I) I I<|
      .val [107] I (td I I I (hbs.symm)) I I<|
      .val [98] I (aZ I) I I<|
      .val [109] I (aZ I) I I<|
      .nil) (by kernel_rfl) I I (aY (ks:=[3,5,7,13,14,75,76,77,108,110]) I) ?_
     refine bc (cq.to (σ:=P8 T tbs p1 j4' kv4 r9) (cd I (ba.tk.get I) I I x9 (Nat.le_of_ble_eq_true rfl)) (σ'':=P8 T tbs p1 j4' kv4 (r9.set (rest.length+1) (some (.cells 152 [num n,num O.cS,av O.ax,.own (r8.length+8),flag true,num (eK O.ax (cs++[c]))])))) I I) I I<|aE [3,5,7,13,14,75,76,77] I ?_
     refine aC (.v (aU I) I<|.a 1 I<|.k [3,5,7,13,14,75,76,77] I) ?_
     refine⟨O.ax.length - (k+1),by omega,k+1,kv4,L4,j4',r8.length,_,vs++[PV.bb (dP m (bL T tb p0 m O.eo.stack) vs1 c) 0],cs++[c],by omega,rfl,⟨kk9.put (.inr (by omega)) _,by simp[l9];omega,by rw[hOO];exact aW x9,by rw[hOO];exact aD n9 (by omega),aD w9 (by omega),aD a9 (by omega),by omega,by omega,?_,hok8,by simp[hlv],by simp[hlc],fun i hi=>?_⟩,rfl⟩
     ·have:=(List.getElem?_eq_some_iff.1 a8).1;omega
     ·by_cases hik:i<k
      ·have h1:(vs++[PV.bb (dP m (bL T tb p0 m O.eo.stack) vs1 c) 0]).getD i .any=vs.getD i .any:=by rw[List.getD_eq_getElem?_getD,List.getD_eq_getElem?_getD,List.getElem?_append_left (by omega)]
       have h2:(cs++[c]).getD i 0=cs.getD i 0:=by rw[List.getD_eq_getElem?_getD,List.getD_eq_getElem?_getD,List.getElem?_append_left (by omega)]
       rw[h1,h2]
       exact V.ch i hik
      ·obtain rfl:i=k:=by omega
       have h1:(vs++[PV.bb (dP m (bL T tb p0 m O.eo.stack) vs1 c) 0]).getD i .any=PV.bb (dP m (bL T tb p0 m O.eo.stack) vs1 c) 0:=by rw[List.getD_eq_getElem?_getD,cU hlv];rfl
       have h2:(cs++[c]).getD i 0=c:=by rw[List.getD_eq_getElem?_getD,cU hlc];rfl
       rw[h1,h2,hOO,hab,Int.toNat_natCast,hm,Int.toNat_natCast]
       exact hg
   ·have hke:k=O.ax.length:=by have:=ff hc;omega
    refine bd<|aO<|aw 3 I<|bc (cq.to (σ:=P8 T tbs p1 j' kv' rest') (cd I (ba.tk.get I) I I vx (Nat.le_of_ble_eq_true rfl)) (σ'':=P8 T tbs p1 j' kv' (rest'.set (rest.length+1) (some (.cells 152 [num n,num O.cS,av O.ax,.own (jr+8),flag false,num (eK O.ax cs)])))) I I) I I<|aE [13] I ?_
    subst hke
    have hlv:=V.lv
    have hlc:=V.lc
    have hgood:Good T tb p0 Φ (.bb (dP n O vs (eK O.ax cs)) 0) n p.stack (eK O.ax cs):=by
     have:=Good.mk (T:=T) (tb:=tb) (p0:=p0) (Φ:=Φ) (vs:=vs) (cs:=cs) hΦ (by rw[hOO];exact hlv) (by rw[hOO];exact hlc) (fun i hi=>by rw[hOO]at hi;exact V.ch i hi)
     rwa [hOO]at this
    obtain⟨kv9,L9,hok9,hk9,hf9,hL9⟩:=nu.close (ty:=152) V.ok hgood
    refine oo (jr+8) (σ':=P8 T tbs p1 j' kv' ((rest'.set jr none).set (rest.length+1) (some (.cells 152 (dP n O vs (eK O.ax cs)))))) (aD vr (by omega)) (uU (by simp) (aD (aW vr) (by omega)) (fun z hz=>?_) I (jK.refl _)) (.cons 13 I (.same _) .nil) ?_
    ·by_cases h1:z=rest.length+1
     ·subst h1
      exact .inr ⟨_,_,aW vx,aW (aD vx (by omega)),.cells (.cons (.same _)<|.cons (.same _)<|.cons (.same _)<|.cons .own<|.cons (.same _)<|.cons (.same _) .nil)⟩
     ·refine .inl ?_
      rw[List.getElem?_set,if_neg (by omega),List.getElem?_set,if_neg (by omega),List.getElem?_set,if_neg (by omega)]
    refine oo (rest.length+1+8) (σ':=P8 T tbs p1 j' kv9 ((((rest'.set jr none).set (rest.length+1) (some (.cells 152 (dP n O vs (eK O.ax cs))))).set (rest.length+1) none).set j' (fi L9))) (aW (aD vx (by omega))) (uU (by simp) (aD (aW (aW (aD vx (by omega)))) (by omega)) (fun z hz=>?_) hk9 hf9) (.cons 13 I (.ptr 0) .nil) ?_
    ·by_cases h1:z=j'
     ·subst h1
      refine .inr ⟨_,_,aD (aD va (by omega)) (by omega),aW (aD (aD (aD va (by omega)) (by omega)) (by omega)),?_⟩
      have:=hL9.1
      rw[this]
      exact .row hL9
     ·refine .inl ?_
      rw[List.getElem?_set,if_neg (by omega),List.getElem?_set,if_neg (by omega)]
    refine ab (.a 2 I<|.k [10] I)<|ao<|⟨_,az.of I,eK O.ax cs,kv9,L9,j',_,hgood,rfl,?_,?_,by omega,hok9⟩
    ·exact aW (aD (aD (aD va (by omega)) (by omega)) (by omega))
    ·exact(((V.Ii.put (.inr (by omega)) _).put (.inr (by omega)) _).put (.inr (by omega)) _).put (by omega) _
  ·have harc:O.ax≠[]:=fun h=>by have:=ff hc;rw[h]at this;simp at this
   have x7:r6[rest.length+1]? =some (some (.cells 152 [num n,num O.cS,av O.ax,.raw (.slice none 0 0),flag true,num (eK O.ax [])])):=by rw[x6];unfold eK;rw[if_neg harc];rfl
   obtain⟨r7,hr7⟩:∃r7,r6=r7:=⟨_,rfl⟩
   rw[hr7]at l6 k6 x7 j6 n6 ⊢
   refine ai<|aj<|ab (.a 3 I<|.v (aR I (ba.tk.get I) I x7 rfl) I<|.a 2 I<|.k [3,5,7,13,14,75,76,77] I)<|au<|eH [3,5,7,13,14,75,76,77] I<|cz (rest.length+1+8) 3 147 1 x7 rfl ?_
   have hz:(P8 T tbs p1 (rest.length+2) kv3 r7).length=rest.length+4+8:=by rw[←l6];rfl
   rw[hz]
   refine eF (σ':=P8 T tbs p1 (rest.length+2) kv3 ((r7++[fi []]).set (rest.length+1) (some (.cells 152 [num n,num O.cS,av O.ax,.own (rest.length+4+8),flag true,num (eK O.ax [])])))) I ?_
   refine bq (fun r st=>∃(k:Nat) (kv':List (List UInt8×PV)) (L':List PV) (j' jr:Nat) (rest':cg) (vs:List PV) (cs:List Int),k≤O.ax.length∧r=O.ax.length - k∧J5 T tb p0 Φ op j rest n p.stack kv' L' j' jr rest' k vs cs∧st=⟨[(3,.ptr 6 0),(5,.ptr 0 0),(7,.ptr 7 0),(13,.ptr (rest.length+1+8) 0),(14,.ptr (rest.length+3+8) 0),(75,av O.ax),(76,num O.ax.length),(77,num k)],P8 T tbs p1 j' kv' rest'⟩) O.ax.length ⟨0,kv3,L3,rest.length+2,rest.length+4,_,[],[],Nat.zero_le _,rfl,⟨(k6.app _).put (.inr (by omega)) _,by simp[l6],by rw[hOO];exact aW (bS x7),by rw[hOO];exact aD (bS n6) (by omega),aD (cU l6) (by omega),aD (bS j6) (by omega),by omega,.inl rfl,by omega,hok3,rfl,rfl,fun i hi=>absurd hi (Nat.not_lt_zero i)⟩,rfl⟩ ?_
   rintro r st ⟨k,kv',L',j',jr,rest',vs,cs,hk,rfl,V,rfl⟩
   have vx:=V.x
   have vn:=V.nb
   have vr:=V.row
   have va:=V.al
   have vlen:=V.len
   have vj:=V.j1
   have vjr:=V.KD
   have vne:=V.ne
   have vrl:=(List.getElem?_eq_some_iff.1 vr).1
   rw[hOO]at vx vn
   refine ab (.a 1 I<|.k [3,5,7,13,14,75,76,77,78] I)<|aj<|ag I (fun hc=>?_) (fun hc=>?_)
   ·have hlt:k<O.ax.length:=by have:=tt hc;omega
    have hne:O.ax≠[]:=fun h=>by rw[h]at hlt;simp at hlt
    have hst:∀a∈O.ax,∃b m:Nat,a=(b:Int)∧b<2*T.ae.length∧aS T b=(m:Int)∧∃u',u'<u∧Φ u' m O.eo.stack:=by
     rcases hbr with h|⟨_,_,h⟩
     ·exact absurd h hne
     ·exact h
    have hmem:O.ax.getD k 0∈O.ax:=cr hlt
    obtain⟨b,m,hab,hb,hm,u',hu',hΦ'⟩:=hst _ hmem
    have hop':∀x∈(rest.length+1,n,p.stack)::op,Da T tb p0 x.2.1 x.2.2 m O.eo.stack:=fun x hx=>by
     have ha:O.ax.getD k 0∈(bL T tb p0 n p.stack).ax:=by rw[hOO];exact hmem
     have hm':aS T (O.ax.getD k 0).toNat=(m:Int):=by rw[hab,Int.toNat_natCast];exact hm
     rw[←hOO]
     rcases List.mem_cons.1 hx with rfl|hx
     ·exact .one ha hm'
     ·exact .more (hop x hx) ha hm'
    have hll:=bT hv
    refine ai<|aj<|au<|ab (.v (aN (k) I) I<|.v (aJ I ((aB _ k hlt).trans (by rw[hab]))) I<|.a 1 I<|.k [3,5,7,13,14,16,75,76,77] I)<|aj<|ab (.a 1 I<|.k [3,5,7,13,14,16,75,76,77,81] I)<|ag I (fun hc=>?_) (fun hc=>?_)
    ·cases hc
    ·refine ai<|EO 5 20 [82,83,84,85,86] mixed (by kernel_rfl) (by kernel_rfl) (by kernel_rfl) I (.a 3 I<|.v [83,84] (dU I ((show Can Tryz.prog 150 [aP T,num b] (· =num m) by have h:=fZ T b hb (by omega);rw[hm]at h;exact h))) I I<|.v [14] (cR (σ:=P8 T tbs p1 j' kv' rest') (blk:=.cells 66 (cL O.eo)) I (ba.tk.get I) I vn rfl) I I<|.k [3,5,7,13,14,75,76,77,82,85,86] I) ?_
     refine cN I I (bU.mono (ih u' hu' m O.eo hΦ' (hpk hne) ((rest.length+1,n,p.stack)::op) kv' L' j' rest' va V.ok hop') (fun y σ' h=>?_))
     obtain⟨c,kv4,L4,j4',r8,hg,rfl,a8,k8,hj8,hok8⟩:=h
     refine aw 1 I<|aE [3,5,7,13,14,17,75,76,77] I ?_
     obtain⟨vs1,cs1,hgv,_,_,_,_⟩:=hg.parts
     subst hgv
     have l8:=k8.len
     have x8:r8[rest.length+1]? =some (some (.cells 152 [num n,num O.cS,av O.ax,.own (jr+8),flag true,num (eK O.ax cs)])):=(k8.same _ (by omega) (by omega)).trans vx
     have n8:r8[rest.length+3]? =some (some (.cells 66 (cL O.eo))):=(k8.same _ (by omega) (by omega)).trans vn
     have w8:r8[jr]? =some (fi vs):=(k8.same _ vrl (by omega)).trans vr
     have kk8:gE j rest r8:=V.Ii.trans k8 (by omega)
     have hgb:=hg.bound
     have hlv:=V.lv
     have hlc:=V.lc
     have e8:j4'≠jr:=by omega
     have x8b:(r8.set jr none++[fi (vs++[PV.bb (dP m (bL T tb p0 m O.eo.stack) vs1 c) 0])])[rest.length+1]? =some (some (.cells 152 [num n,num O.cS,av O.ax,.own (jr+8),flag true,num (eK O.ax cs)])):=bS (aD x8 (by omega))
     refine aO<|aw 4 I ?_
     refine bw (aR I (ba.tk.get I) I x8 rfl) I ?_
     refine aw 1 I ?_
     refine bw (aV (xs:=[PV.bb (dP m (bL T tb p0 m O.eo.stack) vs1 c) 0]) I (ba.sl.get I) ⟨Nat.le_of_ble_eq_true rfl,Nat.le_of_ble_eq_true rfl⟩ rfl rfl) I ?_
     refine b7 (cq.to (σ:=P8 T tbs p1 j4' kv4 r8) (bh (e:=147) (s:=1) (by':=8) (i:=jr+8) (m:=1) (n:=vs.length) (xs:=vs) (ys:=[PV.bb (dP m (bL T tb p0 m O.eo.stack) vs1 c) 0]) I (ba.rk.get I) I w8 rfl rfl ⟨by unfold maxLen;omega,by omega⟩) (p':=.own (r8.length+8)) (σ'':=P8 T tbs p1 j4' kv4 (r8.set jr none++[fi (vs++[PV.bb (dP m (bL T tb p0 m O.eo.stack) vs1 c) 0])])) I (by unfold fi;rw[List.length_append];rfl)) I ?_
     refine aw 2 I ?_
     refine bc (cq.to (σ:=P8 T tbs p1 j4' kv4 (r8.set jr none++[fi (vs++[PV.bb (dP m (bL T tb p0 m O.eo.stack) vs1 c) 0])])) (cd I (ba.tk.get I) I I x8b (Nat.le_of_ble_eq_true rfl)) (σ'':=P8 T tbs p1 j4' kv4 ((r8.set jr none++[fi (vs++[PV.bb (dP m (bL T tb p0 m O.eo.stack) vs1 c) 0])]).set (rest.length+1) (some (.cells 152 [num n,num O.cS,av O.ax,.own (r8.length+8),flag true,num (eK O.ax cs)])))) I I) I I ?_
     refine aE [3,5,7,13,14,17,75,76,77] I ?_
     obtain⟨r9,hr9⟩:∃r9,(r8.set jr none++[fi (vs++[PV.bb (dP m (bL T tb p0 m O.eo.stack) vs1 c) 0])]).set (rest.length+1) (some (.cells 152 [num n,num O.cS,av O.ax,.own (r8.length+8),flag true,num (eK O.ax cs)]))=r9:=⟨_,rfl⟩
     have l9:r9.length=r8.length+1:=by rw[←hr9];simp
     have kk9:gE j rest r9:=hr9▸((kk8.put (.inr (by omega)) _).app _).put (.inr (by omega)) _
     have x9:r9[rest.length+1]? =some (some (.cells 152 [num n,num O.cS,av O.ax,.own (r8.length+8),flag true,num (eK O.ax cs)])):=hr9▸aW x8b
     have n9:r9[rest.length+3]? =some (some (.cells 66 (cL O.eo))):=hr9▸aD (bS (aD n8 (by omega))) (by omega)
     have w9:r9[r8.length]? =some (fi (vs++[PV.bb (dP m (bL T tb p0 m O.eo.stack) vs1 c) 0])):=hr9▸aD (cU (by simp)) (by omega)
     have a9:r9[j4']? =some (fi L4):=hr9▸aD (bS (aD a8 (by omega))) (by omega)
     rw[hr9]
     have hcb:0≤eK O.ax cs∧eK O.ax cs≤1001:=by
      unfold eK
      rw[if_neg hne]
      refine hJ cs 0 (by omega) (by omega) fun z hz=>?_
      obtain⟨i,hi⟩:=List.getElem?_of_mem hz
      have hil:=(List.getElem?_eq_some_iff.1 hi).1
      have:=(V.ch i (by omega)).bound.1
      rwa [List.getD_eq_getElem?_getD,hi]at this
     have hbs:eK O.ax (cs++[c])=min (eK O.ax cs+c) 1001:=by unfold eK;rw[if_neg hne,if_neg hne,lX]
     refine dL 13 20 mixed (
      .val [13] I (aZ I) I I<|
      .val [13] I (aZ I) I I<|
      .val [99] I (aZ I) I I<|
      .val [100] I (aZ I) I I<|
      .val [101] I (aR I (ba.tk.get I) I x9 rfl) I I<|
      .val [17] I (aZ I) I I<|
      .val [103] I (aZ I) I I<|
      .val [104] I (aZ I) I I<|
      .val [105] I (aJ I (rfl)) I I<|
      .val [102,106] I (aU I) I I<|
      .val [107] I (td I I I (hbs.symm)) I I<|
      .val [98] I (aZ I) I I<|
      .val [109] I (aZ I) I I<|
      .nil) (by kernel_rfl) I I (aY (ks:=[3,5,7,13,14,75,76,77,108,110]) I) ?_
     refine bc (cq.to (σ:=P8 T tbs p1 j4' kv4 r9) (cd I (ba.tk.get I) I I x9 (Nat.le_of_ble_eq_true rfl)) (σ'':=P8 T tbs p1 j4' kv4 (r9.set (rest.length+1) (some (.cells 152 [num n,num O.cS,av O.ax,.own (r8.length+8),flag true,num (eK O.ax (cs++[c]))])))) I I) I I<|aE [3,5,7,13,14,75,76,77] I ?_
     refine aC (.v (aU I) I<|.a 1 I<|.k [3,5,7,13,14,75,76,77] I) ?_
     refine⟨O.ax.length - (k+1),by omega,k+1,kv4,L4,j4',r8.length,_,vs++[PV.bb (dP m (bL T tb p0 m O.eo.stack) vs1 c) 0],cs++[c],by omega,rfl,⟨kk9.put (.inr (by omega)) _,by simp[l9];omega,by rw[hOO];exact aW x9,by rw[hOO];exact aD n9 (by omega),aD w9 (by omega),aD a9 (by omega),by omega,by omega,?_,hok8,by simp[hlv],by simp[hlc],fun i hi=>?_⟩,rfl⟩
     ·have:=(List.getElem?_eq_some_iff.1 a8).1;omega
     ·by_cases hik:i<k
      ·have h1:(vs++[PV.bb (dP m (bL T tb p0 m O.eo.stack) vs1 c) 0]).getD i .any=vs.getD i .any:=by rw[List.getD_eq_getElem?_getD,List.getD_eq_getElem?_getD,List.getElem?_append_left (by omega)]
       have h2:(cs++[c]).getD i 0=cs.getD i 0:=by rw[List.getD_eq_getElem?_getD,List.getD_eq_getElem?_getD,List.getElem?_append_left (by omega)]
       rw[h1,h2]
       exact V.ch i hik
      ·obtain rfl:i=k:=by omega
       have h1:(vs++[PV.bb (dP m (bL T tb p0 m O.eo.stack) vs1 c) 0]).getD i .any=PV.bb (dP m (bL T tb p0 m O.eo.stack) vs1 c) 0:=by rw[List.getD_eq_getElem?_getD,cU hlv];rfl
       have h2:(cs++[c]).getD i 0=c:=by rw[List.getD_eq_getElem?_getD,cU hlc];rfl
       rw[h1,h2,hOO,hab,Int.toNat_natCast,hm,Int.toNat_natCast]
       exact hg
   ·have hke:k=O.ax.length:=by have:=ff hc;omega
    refine bd<|aO<|aw 3 I<|bc (cq.to (σ:=P8 T tbs p1 j' kv' rest') (cd I (ba.tk.get I) I I vx (Nat.le_of_ble_eq_true rfl)) (σ'':=P8 T tbs p1 j' kv' (rest'.set (rest.length+1) (some (.cells 152 [num n,num O.cS,av O.ax,.own (jr+8),flag false,num (eK O.ax cs)])))) I I) I I<|aE [13] I ?_
    subst hke
    have hlv:=V.lv
    have hlc:=V.lc
    have hgood:Good T tb p0 Φ (.bb (dP n O vs (eK O.ax cs)) 0) n p.stack (eK O.ax cs):=by
     have:=Good.mk (T:=T) (tb:=tb) (p0:=p0) (Φ:=Φ) (vs:=vs) (cs:=cs) hΦ (by rw[hOO];exact hlv) (by rw[hOO];exact hlc) (fun i hi=>by rw[hOO]at hi;exact V.ch i hi)
     rwa [hOO]at this
    obtain⟨kv9,L9,hok9,hk9,hf9,hL9⟩:=nu.close (ty:=152) V.ok hgood
    refine oo (jr+8) (σ':=P8 T tbs p1 j' kv' ((rest'.set jr none).set (rest.length+1) (some (.cells 152 (dP n O vs (eK O.ax cs)))))) (aD vr (by omega)) (uU (by simp) (aD (aW vr) (by omega)) (fun z hz=>?_) I (jK.refl _)) (.cons 13 I (.same _) .nil) ?_
    ·by_cases h1:z=rest.length+1
     ·subst h1
      exact .inr ⟨_,_,aW vx,aW (aD vx (by omega)),.cells (.cons (.same _)<|.cons (.same _)<|.cons (.same _)<|.cons .own<|.cons (.same _)<|.cons (.same _) .nil)⟩
     ·refine .inl ?_
      rw[List.getElem?_set,if_neg (by omega),List.getElem?_set,if_neg (by omega),List.getElem?_set,if_neg (by omega)]
    refine oo (rest.length+1+8) (σ':=P8 T tbs p1 j' kv9 ((((rest'.set jr none).set (rest.length+1) (some (.cells 152 (dP n O vs (eK O.ax cs))))).set (rest.length+1) none).set j' (fi L9))) (aW (aD vx (by omega))) (uU (by simp) (aD (aW (aW (aD vx (by omega)))) (by omega)) (fun z hz=>?_) hk9 hf9) (.cons 13 I (.ptr 0) .nil) ?_
    ·by_cases h1:z=j'
     ·subst h1
      refine .inr ⟨_,_,aD (aD va (by omega)) (by omega),aW (aD (aD (aD va (by omega)) (by omega)) (by omega)),?_⟩
      have:=hL9.1
      rw[this]
      exact .row hL9
     ·refine .inl ?_
      rw[List.getElem?_set,if_neg (by omega),List.getElem?_set,if_neg (by omega)]
    refine ab (.a 2 I<|.k [10] I)<|ao<|⟨_,az.of I,eK O.ax cs,kv9,L9,j',_,hgood,rfl,?_,?_,by omega,hok9⟩
    ·exact aW (aD (aD (aD va (by omega)) (by omega)) (by omega))
    ·exact(((V.Ii.put (.inr (by omega)) _).put (.inr (by omega)) _).put (.inr (by omega)) _).put (by omega) _
end
section
variable {T:ak} {tb:Nat→de} {p0:dx} {Φ:Nat→Nat→List bV→Prop}
def Lg(T:ak)(tb:Nat→de)(p0:dx)(Φ:Nat→Nat→List bV→Prop)(n:Nat)(s:List bV)(r:PV):Prop:=
 ∃v c L,r= .tuple [v,.slice L.length L,num 0]∧Good T tb p0 Φ v n s c∧L.length≤1000000∧∀x∈L,∃n s c,Good T tb p0 Φ x n s c
instance:gm Hj:=by unfold Hj;infer_instance
theorem Ke:xV Tryz.prog 189=some [.nilFunc]:=by kernel_rfl
set_option maxHeartbeats 4000000 in
theorem qM(R:iK T tb p0 Φ)(hv:aq T=true)(h12:T.nodes≤12){U:List (Nat×List bV)}(hU:∀ {u n s},Φ u n s→(n,s)∈U)(hUl:U.length≤1000000)(tbs:List de)(htl:(tbs.length:Int)=T.nodes)(htb:∀n:Nat,(n:Int)<T.nodes→tbs[n]? =some (tb n))
  (hok:∀n:Nat,(n:Int)<T.nodes→(tb n).node=(n:Int)∧cT T (tb n)=true) {u n:Nat} {p:dx} (hΦ:Φ u n p.stack) (hp:cV p p.stack=cV p0 p.stack):
  Can Tryz.prog 115 [aP T,eE tbs,dB p,num n] (Lg T tb p0 Φ n p.stack):=by
 have hn:=R.node hΦ
 have hck:=Af T tbs n hv htl (fun i x hx=>by
  have hil:=(List.getElem?_eq_some_iff.1 hx).1
  have:=htb i (by omega)
  rw[this]at hx
  cases hx
  exact hok i (by omega)) (aT.2 ⟨by omega,hn⟩)
 refine aH Tryz.func115 I Tryz.ntmps115 I<|aO<|b7 (fD I I I) I<|b7 (fD (xs:=[_]) I I I) I<|b7 (fD I I I) I<|aw 3 I<|aE [3,4,5,6,9] I ?_
 refine aj<|ab (.a 3 I<|.c rfl (hck) I<|.a 1 I<|.k [3,4,5,6,9,11] I)<|ab (.a 2 I<|.k [3,4,5,6,9,11,20] I)<|ag I (fun hc=>?_) (fun hc=>?_)
 ·cases hc
 ·refine ai<|aO<|b7 (o7 qm rfl) I<|aw 2 I<|aE [3,4,5,6,9,12] I ?_
  refine aO<|aw 2 I<|aE [3,4,5,6,9,12,13] I ?_
  refine aO<|b7 (nd (z:=[.nilFunc]) I Ke) I<|aE [3,4,5,6,9,12,13,14] I ?_
  refine aO<|aw 1 I ?_
  refine bc (cd (p:=Hj) I (ba.tk.get I) I I I (Nat.le_of_ble_eq_true rfl)) I I ?_
  refine aE [3,6,9,13,14] I ?_
  refine cz 3 0 147 1 I I ?_
  refine eF (σ':=P8 T tbs p 0 [] [fi []]) I ?_
  refine aO<|aw 3 I<|cN I I (bU.mono (B3 R hv h12 hU hUl tbs htb p u n p hΦ hp [] [] [] 0 [fi []] I ⟨fun e he=>(by cases he),List.nodup_nil,fun e he=>(by cases he),rfl⟩ (fun x hx=>(by cases hx))) (fun y σ' h=>?_))
  obtain⟨c,kv,L,j,rest,hg,rfl,hj,_,_,hkv⟩:=h
  refine aw 1 I<|aE [8,9,13] I ?_
  haveI:=hg.pure
  refine aj<|ab (.a 1 I<|.k [8,9,28] I)<|ag I (fun hc=>?_) (fun hc=>?_)
  ·cases hc
  ·refine ai<|rq ([(8,y),(9,.ptr 3 0),(10,num 0)]) (P8 T tbs p j kv rest) mixed ?_ ?_
   ·refine bR 0 [1] (by kernel_rfl) ?_
    refine br I I (bw (aZ I) I (bp ?_)) ?_
    ·refine bR 1 [2] (by kernel_rfl) ?_
     refine br I I (bw (aZ I) I (bp ?_)) ?_
     ·refine bR 2 [] (by kernel_rfl) ?_
      refine br I I (bw (aZ I) I (bp ?_)) bQ
      refine bR 3 [] (by kernel_rfl) ?_
      refine br I I (bc (cq.to (σ:=P8 T tbs p j kv rest) (cd I (ba.tk.get I) I I I (Nat.le_of_ble_eq_true rfl)) (σ'':=P8 T tbs p j kv rest) I I) I I (bp ?_)) bQ
      refine bR 4 [] (by kernel_rfl) ?_
      refine br I I (bw (aZ I) I (bp ?_)) bQ
      exact jW (by kernel_rfl) ⟨rfl,aY (ks:=[8,9,10]) I⟩
     refine br I I (bw (aZ I) I (bp ?_)) bQ
     refine bR 1 [] (by kernel_rfl) ?_
     refine br I I (bw (aZ I) I (bp ?_)) bQ
     refine bR 3 [] (by kernel_rfl) ?_
     refine br I I (bc (cq.to (σ:=P8 T tbs p j kv rest) (cd I (ba.tk.get I) I I I (Nat.le_of_ble_eq_true rfl)) (σ'':=P8 T tbs p j kv rest) I I) I I (bp ?_)) bQ
     refine bR 4 [] (by kernel_rfl) ?_
     refine br I I (bw (aZ I) I (bp ?_)) bQ
     exact jW (by kernel_rfl) ⟨rfl,aY (ks:=[8,9,10]) I⟩
    refine br I I (bw (aZ I) I (bp ?_)) bQ
    refine bR 0 [] (by kernel_rfl) ?_
    refine br I I (bw (aZ I) I (bp ?_)) bQ
    refine bR 2 [] (by kernel_rfl) ?_
    refine br I I (bw (aZ I) I (bp ?_)) bQ
    refine bR 3 [] (by kernel_rfl) ?_
    refine br I I (bc (cq.to (σ:=P8 T tbs p j kv rest) (cd I (ba.tk.get I) I I I (Nat.le_of_ble_eq_true rfl)) (σ'':=P8 T tbs p j kv rest) I I) I I (bp ?_)) bQ
    refine bR 4 [] (by kernel_rfl) ?_
    refine br I I (bw (aZ I) I (bp ?_)) bQ
    exact jW (by kernel_rfl) ⟨rfl,aY (ks:=[8,9,10]) I⟩
   refine ao ?_
   have hall:∀x∈L,∃n s c,Good T tb p0 Φ x n s c:=fun x hx=>by
    obtain⟨n1,s1,h1⟩:=hkv.all x hx
    rcases h1 with⟨c1,h1⟩|⟨_,h1,_⟩
    ·exact⟨n1,s1,c1,h1⟩
    ·cases h1
   haveI:aL L:=⟨fun i x hx=>by
    obtain⟨_,_,_,h⟩:=hall x (List.mem_of_getElem? hx)
    exact h.pure⟩
   have hfew:=hkv.JM R h12 hU
   have hlen:=hkv.len
   exact⟨_,_,az.of I,ay.aX (ah.cons ay.pure<|ah.cons (ay.fy (i:=j+8) (show(P8 T tbs p j kv rest)[j+8]? =_ from hj) ah.pure)<|ah.cons ay.pure ah.nil),y,c,L,rfl,hg,by omega,hall⟩
set_option maxHeartbeats 4000000 in
theorem vF(R:iK T tb p0 Φ)(hdel:∀ {u n s},Φ u n s→(bL T tb p0 n s).ax=[]→(bL T tb p0 n s).cS= -1)(hv:aq T=true)(h12:T.nodes≤12){U:List (Nat×List bV)}(hU:∀ {u n s},Φ u n s→(n,s)∈U)(hUl:U.length≤1000000)(tbs:List de)(htl:(tbs.length:Int)=T.nodes)(htb:∀n:Nat,(n:Int)<T.nodes→tbs[n]? =some (tb n))
  (hok:∀n:Nat,(n:Int)<T.nodes→(tb n).node=(n:Int)∧cT T (tb n)=true) {u n:Nat} {p:dx} (hΦ:Φ u n p.stack) (hp:cV p p.stack=cV p0 p.stack):
  Can Tryz.prog 56 [aP T,eE tbs,dB p,num n] (· = .tuple [flag true,num 0]):=by
 refine aH Tryz.func56 I Tryz.ntmps56 I<|ab (.a 4 I<|.k [1,3,4,6] I)<|aO<|aw 4 I<|cN I I (bU.mono (bU.yl (qM R hv h12 hU hUl tbs htl htb hok hΦ hp)) (fun y σ' h=>?_))
 obtain⟨⟨v,c,L,rfl,hg,hL,hall⟩,rfl⟩:=h
 refine aw 7 I<|aE [11,12] I ?_
 haveI:aL L:=⟨fun i x hx=>by
  obtain⟨_,_,_,h⟩:=hall x (List.mem_of_getElem? hx)
  exact h.pure⟩
 refine aj<|ab (.a 2 I<|.k [11,12,25] I)<|ag I (fun hc=>?_) (fun hc=>?_)
 ·cases hc
 ·refine ai<|aj<|ab (.a 3 I<|.k [27,28,29] I)<|au<|eH [27,28,29] I<|bq (fun r st=>∃k,k≤L.length∧r=L.length - k∧st=⟨[(27,.slice L.length L),(28,num L.length),(29,num k)],[]⟩) L.length ⟨0,by omega,by omega,rfl⟩ ?_
  rintro r st ⟨k,hk,rfl,rfl⟩
  refine ab (.a 1 I<|.k [27,28,29,30] I)<|aj<|ag I (fun hc=>?_) (fun hc=>?_)
  ·have hlt:k<L.length:=by have:=tt hc;omega
   obtain⟨x,hx⟩:∃x,L[k]? =some x:=⟨_,List.getElem?_eq_getElem hlt⟩
   obtain⟨n1,s1,c1,hg1⟩:=hall x (List.mem_of_getElem? hx)
   obtain⟨vs,cs,rfl,_⟩:=hg1.parts
   obtain⟨u1,h1⟩:=hg1.state
   have hd1:=hdel h1
   obtain⟨O,hO⟩:∃O,bL T tb p0 n1 s1=O:=⟨_,rfl⟩
   rw[hO]at hx hd1
   obtain⟨q1,hq1⟩:∃q,decide ((O.ax.length:Int)=0)=q:=⟨_,rfl⟩
   obtain⟨q2,hq2⟩:∃q,decide (O.cS≠ -1)=q:=⟨_,rfl⟩
   refine ai<|aj<|au<|ab (.v (aN (k) I) I<|.v (aJ I (hx)) I<|.a 1 I<|.k [14,27,28,29] I)<|bz 45 (.raw (.bool (q1&&q2))) [27,28,29] I ?_ ?_
   ·refine .a 5 I<|.v (cf I (hq1)) I<|.a 1 I<|?_
    cases q1
    ·exact .a 6 I<|.k [45,27,28,29] I
    ·exact .a 3 I<|.v (aJ I (rfl)) I<|.v (cf I (hq2)) I<|.a 1 I<|.k [45,27,28,29] I
   refine ag I (fun hc=>?_) (fun hc=>?_)
   ·have hz:(q1&&q2)=false:=by
     cases q1 with
     |false=>rfl
     |true=>
      cases q2 with
      |false=>rfl
      |true=>exact absurd (hd1 (List.eq_nil_of_length_eq_zero (by have:=tt hq1;omega))) (tt hq2)
    rw[hz]at hc
    cases hc
   ·refine ai<|aC (.v (aU I) I<|.a 1 I<|.k [27,28,29] I) ?_
    exact⟨L.length - (k+1),by omega,k+1,by omega,rfl,rfl⟩
  ·have hke:k=L.length:=by have:=ff hc;omega
   exact bd<|ab (.a 2 I<|.k [8,9] I)<|ao<|⟨_,_,az.of I,ay.pure,rfl⟩
end
structure Lone (T:ak) (tb:Nat→de) (p0:dx) (Φ:Nat→Nat→List bV→Prop):Prop where
 runs:iK T tb p0 Φ
 one:∀ {u n s},Φ u n s→(bL T tb p0 n s).ax.length≤1
 del:∀ {u n s},Φ u n s→(bL T tb p0 n s).ax=[]→(bL T tb p0 n s).cS= -1
section
variable {T:ak} {k x:Int} {d:Nat} {st:Nat→Int} {p0:dx}
end
end
end PW
end Go.Proofs.YtnegbdpggideiaaGreatDoor
