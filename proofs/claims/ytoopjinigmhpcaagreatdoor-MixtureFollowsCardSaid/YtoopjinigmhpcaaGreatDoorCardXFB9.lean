/- Part 9. -/
import Derived.Test.YtoopjinigmhpcaaGreatDoorCardXFB8
set_option maxRecDepth 100000
set_option maxHeartbeats 4000000
namespace Go.Proofs.YtoopjinigmhpcaaGreatDoor
open Go.Proofs.Tryz
namespace PW
section
open Go.RowKit cG Mem Net eE
theorem cK.to{P σ σ' σ'' t o p p'}(h:cK P σ t o p σ')(hp:p=p')(hs:σ'=σ''):cK P σ t o p' σ'':=by subst hp;subst hs;exact h
abbrev Tb:=@cK.to
def Md:PV:=.func 44 [.ptr 5 0,.ptr 6 0,.ptr 3 0,.ptr 0 0,.ptr 1 0,.ptr 7 0]
def P8(T:ak)(tbs:List cQ)(p1:dq)(b:Bool)(j:Nat)(kv:List (List UInt8×PV))(rest:ca):ca:=
 some (.cells 25 (bn T))::some (.cells 41 [dP tbs])::some (.cells 44 (cY p1))::some (.cells 68 [.own (j+8)])::some (.mp (gW sS kv))::some (.cells 100 [.own 4])::some (.cells 4 [flag b])::some (.cells 101 [Md])::rest
abbrev fu(L:List PV):Option cX:=some (.row 67 1 L.length L)
structure gE (j:Nat) (rest rest':ca):Prop where
 len:rest.length<=rest'.length
 same:∀i,i<rest.length->i≠j->rest'[i]? =rest[i]?
theorem gE.trans{j j':Nat}{a b c:ca}(h:gE j a b)(k:gE j' b c)(hj:j'=j\/a.length<=j'):gE j a c:=
 ⟨Rr h.len k.len,λi h1 h2=>(k.same i (RH h1 h.len) (by omega)).trans (h.same i h1 h2)⟩
section
variable {T:ak} {tb:Nat->cQ} {p0:dq} {Ψ:Nat->List bG->Prop}
def pS(rest:ca)(y:PV)(c:Int):Prop:=0<=c/\c<=1001/\((∃xs,y= .bq xs 0/\xs[5]? =some (num c))\/∃(i:Nat) (a0 a a2 a3 f:PV),y= .ptr (i+8) 0/\rest[i]? =some (some (.cells 72 [a0,a,a2,a3,f,num c])))
def qZ(T:ak)(tb:Nat->cQ)(p0:dq)(Ψ:Nat->List bG->Prop):Prop:=∃m s,Ψ m s/\om T tb p0 m s m s
def J7(T:ak)(tb:Nat->cQ)(p0:dq)(Ψ:Nat->List bG->Prop)(tbs:List cQ)(p1:dq)(op:Hb)(j:Nat)(kv:List (List UInt8×PV))(rest:ca)(n:Nat)(s:List bG)(r:PV)(σ':ca):Prop:=
 (∃c kv' a rest',fU T tb p0 Ψ r n s c/\σ'=P8 T tbs p1 false a kv' rest'/\rest'[a]? =some (fu (kv'.map (·.2)))/\gE j rest rest'/\(a=j\/rest.length<=a)/\nj T tb p0 Ψ op kv'/\(∀k∈kv.map (·.1),k∈kv'.map (·.1))/\dz n s∈kv'.map (·.1)/\kv.length<=kv'.length)\/
  ∃c kv' a rest',pS rest' r c/\σ'=P8 T tbs p1 true a kv' rest'/\(∃L',rest'[a]? =some (fu L'))/\gE j rest rest'/\(a=j\/rest.length<=a)/\qZ T tb p0 Ψ
structure Ph (T:ak) (tb:Nat->cQ) (p0:dq) (Ψ:Nat->List bG->Prop) (op:Hb) (j0:Nat) (kv0:List (List UInt8×PV)) (rest0:ca) (n:Nat) (s:List bG) (kv:List (List UInt8×PV)) (j jr:Nat) (rest:ca) (k:Nat) (vs:List PV) (cs:List Int):Prop where
 pw:gE j0 rest0 rest
 len:rest0.length+5<=rest.length
 x:rest[rest0.length+1]? =some (some (.cells 72 [num n,num (bh T tb p0 n s).dJ,aq (bh T tb p0 n s).aA,.own (jr+8),flag true,num (fD (bh T tb p0 n s).aA cs)]))
 nb:rest[rest0.length+3]? =some (some (.cells 44 (cY (bh T tb p0 n s).eJ)))
 row:rest[jr]? =some (fu vs)
 al:rest[j]? =some (fu (kv.map (·.2)))
 PM:rest0.length+4<=jr
 j1:j=rest0.length+2\/rest0.length+5<=j
 ne:j≠jr
 ok:nj T tb p0 Ψ ((rest0.length+1,n,s)::op) kv
 kl:kv0.length+1<=kv.length
 ks:∀k∈kv0.map (·.1),k∈kv.map (·.1)
 nm:dz n s∈kv.map (·.1)
 lv:vs.length=k
 lc:cs.length=k
 ch:∀i,i<k->fU T tb p0 Ψ (vs.getD i .any) (aN T ((bh T tb p0 n s).aA.getD i 0).toNat).toNat (bh T tb p0 n s).eJ.stack (cs.getD i 0)
 cn:∀i,i<k->dz (aN T ((bh T tb p0 n s).aA.getD i 0).toNat).toNat (bh T tb p0 n s).eJ.stack∈kv.map (·.1)
structure QD (j0:Nat) (rest0:ca) (n:Nat) (o:Out) (j:Nat) (rest:ca) (v:PV) (c:Int):Prop where
 pw:gE j0 rest0 rest
 len:rest0.length+5<=rest.length
 x:rest[rest0.length+1]? =some (some (.cells 72 [num n,num o.dJ,aq o.aA,v,flag true,num c]))
 al:∃L',rest[j]? =some (fu L')
 j1:j=rest0.length+2\/rest0.length+5<=j
 c0:0<=c
 c1:c<=1001
theorem Pd{P σ t}{o:Oper}{x y ty b p q}(a:o.op= .binOp .neq ty x y b)(hk:rL P ty=true)(hx:aH t x=some p)(hy:aH t y=some (.raw (.pointer none)))(h:(p= .raw (.pointer none)/\q=false)\/(∃xs k,p= .bq xs k/\q=true)\/∃i k,p= .ptr i k/\q=true):bE P σ t o (.raw (.bool q)):=by
 rcases h with⟨rfl,rfl⟩|⟨xs,k,rfl,rfl⟩|⟨i,k,rfl,rfl⟩
 ·exact Mk a hk hx hy
 ·exact Mp a hk hx hy
 ·exact BC a hk hx hy
theorem EX{t x y}(hx:aH t x=some y)(hc:lD y=some [y]):ib t [(0,x)]=some [(0,[y])]:=by simp[ib,hx,hc]
def OB:PV->PV
 | .bq xs k=>.bq xs (k+5)
 | .ptr i k=>.ptr i (k+5)
 |p=>p
theorem pS.cells{rest y}{c:Int}(h:pS rest y c):lD y=some [y]:=by
 obtain⟨_,_,⟨xs,rfl,_⟩|⟨i,_,_,_,_,_,rfl,_⟩⟩:=h<;>rfl
theorem pS.one{rest y}{c:Int}(h:pS rest y c):gH y:=by
 obtain⟨_,_,⟨xs,rfl,_⟩|⟨i,_,_,_,_,_,rfl,_⟩⟩:=h<;>infer_instance
theorem JT{P σ t}{o:Oper}{rest x y}{c:Int}(h:pS rest y c)(a:o.op= .nilCheck x)(hx:aH t x=some y):bE P σ t o y:=by
 obtain⟨_,_,⟨xs,rfl,_⟩|⟨i,_,_,_,_,_,rfl,_⟩⟩:=h
 ·exact BB a hx
 ·exact jG a hx
theorem JQ{P σ t}{o:Oper}{rest}{s f:Nat}{x y}{c:Int}(h:pS rest y c)(b:o.op= .fieldAddr s x f)(a:kM P s f=some 5)(hx:aH t x=some y):bE P σ t o (OB y):=by
 obtain⟨_,_,⟨xs,rfl,_⟩|⟨i,_,_,_,_,_,rfl,_⟩⟩:=h
 ·exact vC b a hx
 ·exact vD b a hx
theorem GW{P t}{o:Oper}{T tbs p1 b}{j:Nat}{kv rest ty x y}{c:Int}(h:pS rest y c)(d:o.op= .load ty x)(hk:vL P ty=some none)(hx:aH t x=some (OB y)):bE P (P8 T tbs p1 b j kv rest) t o (num c):=by
 obtain⟨_,_,⟨xs,rfl,a⟩|⟨i,_,_,_,_,_,rfl,a⟩⟩:=h
 ·exact rY d hk hx a
 ·exact aY d hk hx (show(P8 T tbs p1 b j kv rest)[i+8]? =_ from a) I
instance (l:List bG):gH (cr l):=by unfold cr;infer_instance
instance (p:dq):dY (cY p):=by unfold cY;infer_instance
theorem OI:yJ prog 100=some (9,67):=by kernel_rfl
theorem QP:M5 prog 67=some (.pointer none):=by kernel_rfl
theorem OF:jK prog 9 sS:=NW Tryz.underlying9
theorem dT{α:Type}{l:List α}{a}{i:Nat}(h:l.length=i):(l++[a])[i]? =some a:=by subst h;simp
theorem b7{α:Type}{l:List α}{a b:α}{i:Nat}(h:l[i]? =some b):(l++[a])[i]? =some b:=by
 rw[Q9 (QT.1 h).1];exact h
theorem aT{α:Type}{l:List α}{a b}{i j:Nat}(h:l[i]? =b)(c:j≠i):(l.set j a)[i]? =b:=by
 rw[Rh,QZ c];exact h
theorem bA{α:Type}{l:List α}{a b}{i:Nat}(h:l[i]? =some b):(l.set i a)[i]? =some a:=by
 rw[Rh,QY rfl,QY (QT.1 h).1]
theorem gE.refl(j:Nat)(a:ca):gE j a a:=⟨Rc _,λ_ _ _=>rfl⟩
theorem gE.app{j:Nat}{a b}(h:gE j a b)(x:Option cX):gE j a (b++[x]):=
 ⟨by rw[Q0];have:=h.len;omega,λi h1 h2=>by rw[Q9 (RH h1 h.len)];exact h.same i h1 h2⟩
theorem gE.put{j:Nat}{a b:ca}(h:gE j a b){k:Nat}(hk:k=j\/a.length<=k)(x:Option cX):gE j a (b.set k x):=
 ⟨by rw[Ry];exact h.len,λi h1 h2=>by rw[Rh,QZ (by omega)];exact h.same i h1 h2⟩
theorem Hc{tbs p1 b}{j i:Nat}{blk}{kv kv':List (List UInt8×PV)}{rest rest':ca}(hl:rest'.length=rest.length)(h0:rest'[i]? =some none)
  (h:∀k,k≠i->(rest'[k]? =rest[k]? \/∃b b',rest[k]? =some (some b)/\rest'[k]? =some (some b')/\xR (i+8) blk b b')) (hk:kv'.map (·.1)=kv.map (·.1)) (a:mo (i+8) blk (kv.map (·.2)) (kv'.map (·.2))):
  BI (i+8) blk (P8 T tbs p1 b j kv rest) (P8 T tbs p1 b j kv' rest'):=by
 refine⟨by simp[P8,hl],h0,λm hm=>?_⟩
 match m,hm with
 |0,_=>exact .inl rfl
 |1,_=>exact .inl rfl
 |2,_=>exact .inl rfl
 |3,_=>exact .inl rfl
 |4,_=>
  refine .inr ⟨_,_,rfl,rfl,.mp ?_ ?_⟩
  ·have:∀l:List (List UInt8×PV),(gW sS l).map (·.1)=(l.map (·.1)).map sS:=λl=>by simp[gW]
   rw[this,this,hk]
  ·have:∀l:List (List UInt8×PV),(gW sS l).map (·.2)=l.map (·.2):=λl=>by simp[gW]
   rw[this,this];exact a
 |5,_=>exact .inl rfl
 |6,_=>exact .inl rfl
 |7,_=>exact .inl rfl
 |k+8,hm=>exact h k (by omega)
theorem Ph.eJ(R:vQ T tb p0 Ψ){n:Nat}{s}(h:Ψ n s)(a:(bh T tb p0 n s).aA≠[]):cu (bh T tb p0 n s).eJ (bh T tb p0 n s).eJ.stack=cu p0 (bh T tb p0 n s).eJ.stack:=by
 rcases R.step h with h|⟨_,h,_⟩
 ·exact absurd h a
 ·generalize bh T tb p0 n s=O at*;obtain⟨aA,eJ,dJ⟩:=O;simp only at h ⊢;unfold dO at h;injection h with _ h2 _;rw[h2]
  rfl
theorem GN(R:vQ T tb p0 Ψ)(hv:av T=true)(cS:T.nodes<=12){U:List (Nat×List bG)}(hU:∀ {n s},Ψ n s->(n,s)∈U)(ct:U.length<=100000000)(tbs:List cQ)(ch:∀n:Nat,(n:Int)<T.nodes->tbs[n]? =some (tb n))(p1:dq):
    ∀(u n:Nat) (p:dq),Ψ n p.stack->cu p p.stack=cu p0 p.stack->∀(op:Hb) (kv:List (List UInt8×PV)) (j:Nat) (rest:ca),U.length<=kv.length+u->rest[j]? =some (fu (kv.map (·.2)))->nj T tb p0 Ψ op kv->(∀x∈op,om T tb p0 x.2.1 x.2.2 n p.stack)->
      (∀x∈op,x.1<rest.length/\x.1≠j/\∃(a0 a1 a2 a3:PV) (c:Int),rest[x.1]? =some (some (.cells 72 [a0,a1,a2,a3,flag true,num c]))/\0<=c/\c<=1001)->
      bM prog 44 [num n,dI p,.ptr 5 0,.ptr 6 0,.ptr 3 0,.ptr 0 0,.ptr 1 0,.ptr 7 0] (P8 T tbs p1 false j kv rest) (J7 T tb p0 Ψ tbs p1 op j kv rest n p.stack):=by
  intro u;induction u using Nat.strongRecOn with
  |_ u ih=>
  intro n p J hp op kv j rest cB hj aG bz aP;have⟨L,N⟩:=QQ (kv.map (·.2));rw[N]at hj;have bP:L.length=kv.length:=by rw[<-N,RN]
  have b0:=R.node J;obtain⟨cd,bH⟩:=R.small J;have⟨pv,a6⟩:=QQ ((ei (dz n p.stack) kv).getD (.raw (.pointer none)));obtain⟨q,b8,bE,cc⟩:∃q,((pv= .raw (.pointer none)/\q=false)\/(∃xs k,pv= .bq xs k/\q=true)\/∃i k,pv= .ptr i k/\q=true)/\(q=false->ei (dz n p.stack) kv=none)/\(q=true->(dz n p.stack∈kv.map (·.1)/\∃vs c,pv= .bq (fL n (bh T tb p0 n p.stack) vs c) 0/\fU T tb p0 Ψ pv n p.stack c)\/∃i,(i,n,p.stack)∈op/\pv= .ptr (i+8) 0):=by
    cases hl:ei (dz n p.stack) kv with
    |none=>exact⟨false,.inl ⟨by rw[<-a6,hl];rfl,rfl⟩,λ_=>rfl,λh=>(by cases h)⟩
    |some v=>
      have ar:pv=v:=by rw[<-a6,hl];rfl
      have F:=kq hl;rcases aG.Ao R cS J F with⟨⟨c,hg⟩,_⟩|⟨i,hi,e⟩
      · obtain⟨vs,cs,e1,_⟩:=hg.parts;exact⟨true,.inr (.inl ⟨_,_,ar.trans e1,rfl⟩),λh=>(by cases h),λ_=>.inl ⟨RB.2 ⟨_,F,rfl⟩,vs,c,ar.trans e1,ar▸hg⟩⟩
      · exact⟨true,.inr (.inr ⟨_,_,ar.trans e,rfl⟩),λh=>(by cases h),λ_=>.inr ⟨i,hi,ar.trans e⟩⟩
  have cx:=(QT.1 hj).1;refine cF func44 I ntmps44 I<|aK<|cb (Tb (fV I I I) (p':=.ptr (rest.length+8) 0) (σ'':=P8 T tbs p1 false j kv (rest++[some (.cells 44 (cY p))])) I I) I<|au 1 I<|aE [0,2,3,4,5,6,7,9] I ?_;have⟨r1,S⟩:=QQ (rest++[some (.cells 44 (cY p))]);have l1:r1.length=rest.length+1:=by rw[<-S];simp
  have k1:gE j rest r1:=S▸(gE.refl j rest).app _;have b1:r1[rest.length]? =some (some (.cells 44 (cY p))):=S▸dT rfl;have j1:r1[j]? =some (fu L):=S▸b7 hj;rw[S];refine ab (.a 2 I<|.v (aY I (Q6 I) I b1 rfl) I<|.c rfl (IA n p.stack (by omega) cd bH) I<|.a 1 I<|.k [0,2,3,4,5,6,7,9,11] I)<|ai<|ab (.a 2 I<|.v (zr OF rfl OI QP rfl rfl rfl (rD _) a6) I<|.a 1 I<|.k [0,2,3,4,5,6,7,9,11,12] I)<|ab (.a 1 I<|.v (Pd I (bw.pk.get I) I I b8) I<|.k [0,2,3,4,5,6,7,9,11,12,26] I)<|ae I (λhc=>?_) (λhc=>?_)
  · rcases cc hc with⟨bZ,cJ,c0,e0,bT⟩|⟨i0,bn,e0⟩<;>subst e0;refine aK<|au 7 I<|bc (Tb (b9 I (Q6 I) I I I (Re rfl)) (σ'':=P8 T tbs p1 false j kv r1) I I) I I<|aE [12] I ?_;exact ab (.a 2 I<|.k [10] I)<|ao<|⟨_,RY I,.inl ⟨c0,kv,j,r1,bT,rfl,by rw[N];exact j1,k1,.inl rfl,aG,λk h=>h,bZ,Rc _⟩⟩;obtain⟨g1,g2,a0,a1,a2,a3,c0,g3,g4,g5⟩:=aP _ bn;have g6:r1[i0]? =some (some (.cells 72 [a0,a1,a2,a3,flag true,num c0])):=S▸b7 g3;refine aK<|au 5 I<|bm (aY I (Q6 I) I (show(P8 T tbs p1 false j kv r1)[i0+8]? =_ from g6) I) I<|au 1 I<|bc (Tb (b9 I (Q6 I) I I I (Re rfl)) (σ'':=P8 T tbs p1 true j kv r1) I I) I I<|aE [12] I ?_;exact ab (.a 2 I<|.k [10] I)<|ao<|⟨_,RY I,.inr ⟨c0,kv,j,r1,⟨g4,g5,.inr ⟨i0,a0,a1,a2,a3,_,rfl,g6⟩⟩,rfl,⟨_,j1⟩,k1,.inl rfl,n,p.stack,J,bz _ bn⟩⟩
  · have b6 := wQ (bE hc);have bs:=qJ (p:=PV.ptr (rest.length+1+8) 0) (bE hc);refine aj<|aK<|au 2 I<|cb (Tb (fV I I I) (p':=.ptr (rest.length+1+8) 0) (σ'':=P8 T tbs p1 false j kv (r1++[some (.cells 72 [num n,num 0,.raw (.slice none 0 0),.raw (.slice none 0 0),flag true,num 0])])) (by rw[<-l1];rfl) I) I<|au 1 I<|aE [0,2,3,4,5,6,7,9,11,13] I ?_;have⟨r2,W⟩:=QQ (r1++[some (.cells 72 [num n,num 0,.raw (.slice none 0 0),.raw (.slice none 0 0),flag true,num 0])]);have l2:r2.length=rest.length+2:=by rw[<-W];simp[l1]
    have k2:gE j rest r2:=W▸k1.app _;have b2:r2[rest.length]? =some (some (.cells 44 (cY p))):=W▸b7 b1;have x2:r2[rest.length+1]? =some (some (.cells 72 [num n,num 0,.raw (.slice none 0 0),.raw (.slice none 0 0),flag true,num 0])):=W▸dT l1;have j2:r2[j]? =some (fu L):=W▸b7 j1;rw[W];refine aK<|au 3 I<|bc (Tb (qj OF rfl OI rfl rfl rfl (rD _) I) (σ'':=P8 T tbs p1 false j (kv++[(dz n p.stack,PV.ptr (rest.length+1+8) 0)]) r2) I (by rw[<-bs];rfl)) I I<|aE [0,3,4,5,6,7,9,13] I ?_;have cl:=aG.Nt hU;have cq:=bP;refine aK<|au 3 I<|cb (Tb (σ:=P8 T tbs p1 false j (kv++[(dz n p.stack,PV.ptr (rest.length+1+8) 0)]) r2) (bF (m:=1) (n:=L.length) (xs:=L) I (Ru I) I j2 rfl rfl ⟨by unfold maxLen;omega,by omega⟩) (p':=.own (rest.length+2+8)) (σ'':=P8 T tbs p1 false j (kv++[(dz n p.stack,PV.ptr (rest.length+1+8) 0)]) (r2.set j none++[fu (L++[PV.ptr (rest.length+1+8) 0])])) (by rw[<-l2];rfl) (by unfold fu;rw[Q0];rfl)) I<|bc (Tb (b9 I (Q6 I) I I I (Re rfl)) (σ'':=P8 T tbs p1 false (rest.length+2) (kv++[(dz n p.stack,PV.ptr (rest.length+1+8) 0)]) (r2.set j none++[fu (L++[PV.ptr (rest.length+1+8) 0])])) I I) I I<|aE [0,3,5,6,7,9,13] I ?_;have⟨r3,X⟩:=QQ (r2.set j none++[fu (L++[PV.ptr (rest.length+1+8) 0])]);have l3:r3.length=rest.length+3:=by rw[<-X];simp[l2]
    have k3:gE j rest r3:=X▸(k2.put (.inl rfl) _).app _;have b3:r3[rest.length]? =some (some (.cells 44 (cY p))):=X▸b7 (aT b2 (by omega));have x3:r3[rest.length+1]? =some (some (.cells 72 [num n,num 0,.raw (.slice none 0 0),.raw (.slice none 0 0),flag true,num 0])):=X▸b7 (aT x2 (by omega));have j3:r3[rest.length+2]? =some (fu (L++[PV.ptr (rest.length+1+8) 0])):=X▸dT (by simp[l2]);rw[X];have an:=aG.push (i:=rest.length+1) J b6;have⟨d,C⟩:=QQ (kv++[(dz n p.stack,PV.ptr (rest.length+1+8) 0)]);have⟨L3,bj⟩:=QQ (L++[PV.ptr (rest.length+1+8) 0]);have aQ:d.map (·.2)=L3:=by rw[<-C,<-bj,Sm,N];rfl
    have cn:d.length=kv.length+1:=by rw[<-C,Q0];rfl
    have bo:∀k∈kv.map (·.1),k∈d.map (·.1):=λk hk=>by rw[<-C,Sm];exact SH _ hk
    have bq:dz n p.stack∈d.map (·.1):=by rw[<-C,Sm];exact Um _ (by simp)
    rw[C]at an;rw[bj]at j3;rw[C];have bS:=an.Nt hU;refine aK<|au 1 I<|bc (Tb (σ:=P8 T tbs p1 false (rest.length+2) d r3) (b9 I (Q6 I) I I b3 (Re rfl)) (σ'':=P8 T tbs p1 false (rest.length+2) d (r3.set rest.length (some (.cells 44 (cY (cu p p.stack)))))) I I) I I<|aE [0,3,5,6,7,9,13] I ?_;have⟨r4,Y⟩:=QQ (r3.set rest.length (some (.cells 44 (cY (cu p p.stack)))));have l4:r4.length=rest.length+3:=by rw[<-Y];simp[l3]
    have k4:gE j rest r4:=Y▸k3.put (.inr (Rc _)) _;have b4:r4[rest.length]? =some (some (.cells 44 (cY (cu p p.stack)))):=Y▸bA b3;have x4:r4[rest.length+1]? =some (some (.cells 72 [num n,num 0,.raw (.slice none 0 0),.raw (.slice none 0 0),flag true,num 0])):=Y▸aT x3 (by omega);have j4:r4[rest.length+2]? =some (fu L3):=Y▸aT j3 (by omega);rw[Y];refine aK<|cb (Tb (oC I (bw.zk.get I)) (p':=.ptr (rest.length+3+8) 0) (σ'':=P8 T tbs p1 false (rest.length+2) d (r4++[some (.cells 44 [num 0,num 0,num 0,num 0,.raw (.slice none 0 0),num 0])])) (by rw[<-l4];rfl) I) I<|aE [0,3,5,6,7,9,13,14] I ?_;have⟨D,M⟩:=QQ (r4++[some (.cells 44 [num 0,num 0,num 0,num 0,.raw (.slice none 0 0),num 0])]);have l5:D.length=rest.length+4:=by rw[<-M];simp[l4]
    have k5:gE j rest D:=M▸k4.app _;have b5:D[rest.length]? =some (some (.cells 44 (cY (cu p p.stack)))):=M▸b7 b4;have x5:D[rest.length+1]? =some (some (.cells 72 [num n,num 0,.raw (.slice none 0 0),.raw (.slice none 0 0),flag true,num 0])):=M▸b7 x4;have j5:D[rest.length+2]? =some (fu L3):=M▸b7 j4;have n5:D[rest.length+3]? =some (some (.cells 44 [num 0,num 0,num 0,num 0,.raw (.slice none 0 0),num 0])):=M▸dT l4;rw[M];have hO:fX T (tb n) (cu p p.stack)=bh T tb p0 n p.stack:=by rw[hp];rfl
    have aS:=R.step J;have bC:=λh=>Ph.eJ R J h;have⟨O,t⟩:=QQ (bh T tb p0 n p.stack);rw[t]at hO aS bC;have bJ:=ch n b0;have cA:=(QT.1 bJ).1;have cv:O.aA.length<=1000:=by
      rcases aS with h|⟨h,_⟩
      · rw[h];simp
      · exact h
    refine xZ 20 3 (P8 T tbs p1 false (rest.length+2) d D::P8 T tbs p1 false (rest.length+2) d (D.set (rest.length+1) (some (.cells 72 [num n,num 0,aq O.aA,.raw (.slice none 0 0),flag true,num 0])))::P8 T tbs p1 false (rest.length+2) d ((D.set (rest.length+1) (some (.cells 72 [num n,num 0,aq O.aA,.raw (.slice none 0 0),flag true,num 0]))).set (rest.length+3) (some (.cells 44 (cY O.eJ))))::P8 T tbs p1 false (rest.length+2) d (((D.set (rest.length+1) (some (.cells 72 [num n,num 0,aq O.aA,.raw (.slice none 0 0),flag true,num 0]))).set (rest.length+3) (some (.cells 44 (cY O.eJ)))).set (rest.length+1) (some (.cells 72 [num n,num O.dJ,aq O.aA,.raw (.slice none 0 0),flag true,num 0])))::[]) (⟨_,none,0,0⟩::⟨_,none,0,2⟩::⟨aL T,none,0,0⟩::⟨_,none,0,0⟩::⟨_,none,0,0⟩::⟨_,none,0,0⟩::⟨dW (tb n),none,0,0⟩::⟨dI (cu p p.stack),none,0,0⟩::⟨yV O,none,0,0⟩::⟨yV O,none,0,0⟩::⟨aq O.aA,none,0,0⟩::⟨dI O.eJ,none,0,1⟩::⟨num O.dJ,none,0,2⟩::⟨_,none,0,0⟩::⟨_,none,0,0⟩::⟨_,some 0,0,0⟩::⟨_,some 1,0,0⟩::⟨_,none,2,2⟩::⟨_,none,2,2⟩::⟨_,some 2,0,0⟩::[]) _ mixed ?grd5 rfl rfl rfl rfl (.cons (.val [13] I I (yz (cg (bb I) dF)) I I)<|.cons (.val [13] I I (yz (cg (bb I) (cg (bb I) (cg (bb I) dF)))) I I)<|.cons (.val [5] I I (yz (cg (bb I) dF)) I I)<|.cons (.val [6] I I (yz (cg (bb I) dF)) I I)<|.cons (.val [0] I I (yz (cg (bb I) dF)) I I)<|.cons (.val [50,51] I I (yz (cg (aM ((n*3)) I) dF)) I I)<|.cons (.val [52] I I (yz (cg (gj I (mh tbs n (tb n) bJ) I) dF)) I I)<|.cons (.val [9] I I (yz (cg (cC (σ:=P8 T tbs p1 false (rest.length+2) d D) (blk:=.cells 44 (cY (cu p p.stack))) I (Q6 I) I b5 rfl) dF)) I I)<|.cons (.val [49,53,54] I I (yz (cg (dX I (hO▸Jv T (tb n) (cu p p.stack) bH)) dF)) I I)<|.cons (.val [55] I I (yz (cg (bb I) dF)) I I)<|.cons (.val [46] I I (yz (cg (bb I) dF)) I I)<|.cons (.val [46] I I (yz (cg (bb I) (cg (bb I) dF))) I I)<|.cons (.val [46] I I (yz (cg (bb I) (cg (bb I) (cg (bb I) dF)))) I I)<|.cons (.val [47] I I (yz (cg (bb I) dF)) I I)<|.cons (.val [59] I I (yz (cg (bb I) dF)) I I)<|.cons (.mU [56,60] I I I I (Tb (σ:=P8 T tbs p1 false (rest.length+2) d D) (σ'':=P8 T tbs p1 false (rest.length+2) d (D.set (rest.length+1) (some (.cells 72 [num n,num 0,aq O.aA,.raw (.slice none 0 0),flag true,num 0])))) (b9 I (Q6 I) I I x5 (Re rfl)) I I) I)<|.cons (.mU [14,57] I I I I (Tb (σ:=P8 T tbs p1 false (rest.length+2) d (D.set (rest.length+1) (some (.cells 72 [num n,num 0,aq O.aA,.raw (.slice none 0 0),flag true,num 0])))) (σ'':=P8 T tbs p1 false (rest.length+2) d ((D.set (rest.length+1) (some (.cells 72 [num n,num 0,aq O.aA,.raw (.slice none 0 0),flag true,num 0]))).set (rest.length+3) (some (.cells 44 (cY O.eJ))))) (oD (ys:=cY O.eJ) I (Q6 I) I I I I (aT n5 (by omega)) (Re rfl)) I I) I)<|.cons (.val [48] I I (yz (cg (bb I) dF)) I I)<|.cons (.val [61] I I (yz (cg (bb I) dF)) I I)<|.cons (.mU [58,62] I I I I (Tb (σ:=P8 T tbs p1 false (rest.length+2) d ((D.set (rest.length+1) (some (.cells 72 [num n,num 0,aq O.aA,.raw (.slice none 0 0),flag true,num 0]))).set (rest.length+3) (some (.cells 44 (cY O.eJ))))) (σ'':=P8 T tbs p1 false (rest.length+2) d (((D.set (rest.length+1) (some (.cells 72 [num n,num 0,aq O.aA,.raw (.slice none 0 0),flag true,num 0]))).set (rest.length+3) (some (.cells 44 (cY O.eJ)))).set (rest.length+1) (some (.cells 72 [num n,num O.dJ,aq O.aA,.raw (.slice none 0 0),flag true,num 0])))) (b9 I (Q6 I) I I (aT (bA x5) (by omega)) (Re rfl)) I I) I) .nil) (aR (ks:=[3,5,7,13,14]) I) ?_
    case grd5=>kernel_rfl
    have⟨r6,Z⟩:=QQ (((D.set (rest.length+1) (some (.cells 72 [num n,num 0,aq O.aA,.raw (.slice none 0 0),flag true,num 0]))).set (rest.length+3) (some (.cells 44 (cY O.eJ)))).set (rest.length+1) (some (.cells 72 [num n,num O.dJ,aq O.aA,.raw (.slice none 0 0),flag true,num 0])));have l6:r6.length=rest.length+4:=by rw[<-Z];simp[l5]
    have k6:gE j rest r6:=Z▸((k5.put (.inr (by omega)) _).put (.inr (by omega)) _).put (.inr (by omega)) _;have x6:r6[rest.length+1]? =some (some (.cells 72 [num n,num O.dJ,aq O.aA,.raw (.slice none 0 0),flag true,num 0])):=Z▸bA (aT (bA x5) (by omega));have j6:r6[rest.length+2]? =some (fu L3):=Z▸aT (aT (aT j5 (by omega)) (by omega)) (by omega);have n6:r6[rest.length+3]? =some (some (.cells 44 (cY O.eJ))):=Z▸aT (bA (aT n5 (by omega))) (by omega);rw[Z];refine Hh ([(3,.ptr 6 0),(5,.ptr 0 0),(7,.ptr 7 0),(13,.ptr (rest.length+1+8) 0),(14,.ptr (rest.length+3+8) 0)]) (λσ=>∃E:ca,E.length=rest.length+4/\gE j rest E/\E[rest.length+1]? =some (some (.cells 72 [num n,num O.dJ,aq O.aA,.raw (.slice none 0 0),flag true,num (fD O.aA [])]))/\E[rest.length+2]? =some (fu L3)/\E[rest.length+3]? =some (some (.cells 44 (cY O.eJ)))/\σ=P8 T tbs p1 false (rest.length+2) d E) ?_ ?_
    · refine ab (.a 3 I<|.v (aY I (Q6 I) I x6 rfl) I<|.a 2 I<|.k [3,5,7,13,14,68] I)<|ae I (λhc=>?_) (λhc=>?_)
      · have aa:O.aA=[]:=Rd (by have:=tt hc;omega);refine bx<|au 3 I<|bc (Tb (σ:=P8 T tbs p1 false (rest.length+2) d r6) (b9 I (Q6 I) I I x6 (Re rfl)) (σ'':=P8 T tbs p1 false (rest.length+2) d (r6.set (rest.length+1) (some (.cells 72 [num n,num O.dJ,aq O.aA,.raw (.slice none 0 0),flag true,num 1])))) I I) I I<|aE [3,5,7,13,14] I ?_;have⟨E,H⟩:=QQ (r6.set (rest.length+1) (some (.cells 72 [num n,num O.dJ,aq O.aA,.raw (.slice none 0 0),flag true,num 1])));have x7:E[rest.length+1]? =some (some (.cells 72 [num n,num O.dJ,aq O.aA,.raw (.slice none 0 0),flag true,num (fD O.aA [])])):=by
          rw[<-H,bA x6];unfold fD;rw[QY aa]
        replace l6:E.length=rest.length+4:=by rw[<-H];simp[l6]
        replace k6:gE j rest E:=H▸k6.put (.inr (by omega)) _;replace j6:E[rest.length+2]? =some (fu L3):=H▸aT j6 (by omega);replace n6:E[rest.length+3]? =some (some (.cells 44 (cY O.eJ))):=H▸aT n6 (by omega);rw[H];exact⟨aR (ks:=[3,5,7,13,14]) I,E,l6,k6,x7,j6,n6,rfl⟩
      · have aa:O.aA≠[]:=λh=>by have:=ff hc;rw[h]at this;simp at this
        have x7:r6[rest.length+1]? =some (some (.cells 72 [num n,num O.dJ,aq O.aA,.raw (.slice none 0 0),flag true,num (fD O.aA [])])):=by rw[x6];unfold fD;rw[QZ aa];rfl
        have⟨E,H⟩:=QQ r6;rw[H]at l6 k6 x7 j6 n6 ⊢;exact aj<|⟨aR (ks:=[3,5,7,13,14]) I,E,l6,k6,x7,j6,n6,rfl⟩
    · rintro σ ⟨E, l6, k6, x7, j6, n6, rfl⟩;refine ai<|ab (.a 3 I<|.v (aY I (Q6 I) I x7 rfl) I<|.a 2 I<|.k [3,5,7,13,14,75,76,77] I)<|aw<|eF [3,5,7,13,14,75,76,77] I<|cm (rest.length+1+8) 3 67 1 x7 rfl ?_;have hz:(P8 T tbs p1 false (rest.length+2) d E).length=rest.length+4+8:=by rw[<-l6];rfl
      rw[hz];refine eO (σ':=P8 T tbs p1 false (rest.length+2) d ((E++[fu []]).set (rest.length+1) (some (.cells 72 [num n,num O.dJ,aq O.aA,.own (rest.length+4+8),flag true,num (fD O.aA [])])))) I<|bd (λr st=>∃(k:Nat) (kv':List (List UInt8×PV)) (B:Nat) (rest':ca),k<=O.aA.length/\r=O.aA.length - k/\((∃(jr:Nat) (vs:List PV) (cs:List Int),Ph T tb p0 Ψ op j kv rest n p.stack kv' B jr rest' k vs cs/\st=⟨[(3,.ptr 6 0),(5,.ptr 0 0),(7,.ptr 7 0),(13,.ptr (rest.length+1+8) 0),(14,.ptr (rest.length+3+8) 0),(75,aq O.aA),(76,num O.aA.length),(77,num k)],P8 T tbs p1 false B kv' rest'⟩)\/
        ∃v c,QD j rest n O B rest' v c/\qZ T tb p0 Ψ/\st=⟨[(3,.ptr 6 0),(5,.ptr 0 0),(7,.ptr 7 0),(13,.ptr (rest.length+1+8) 0),(14,.ptr (rest.length+3+8) 0),(75,aq O.aA),(76,num O.aA.length),(77,num k)],P8 T tbs p1 true B kv' rest'⟩)) O.aA.length ⟨0,d,rest.length+2,_,RQ _,rfl,.inl ⟨rest.length+4,[],[],⟨(k6.app _).put (.inr (by omega)) _,by simp[l6],by rw[t];exact bA (b7 x7),by rw[t];exact aT (b7 n6) (by omega),aT (dT l6) (by omega),by rw[aQ];exact aT (b7 j6) (by omega),by omega,.inl rfl,by omega,an,by omega,bo,bq,rfl,rfl,λi hi=>absurd hi (SK i),λi hi=>absurd hi (SK i)⟩,rfl⟩⟩ ?_
      rintro r st ⟨k,kv',B,rest',hk,rfl,⟨jr,vs,cs,V,rfl⟩|⟨v0,c0,V0,ad,rfl⟩⟩
      rotate_left
      · have vx:=V0.x;have bL:=V0.len;have vj:=V0.j1;have aO:∀L9,rest'[B]? =some (fu L9)->J7 T tb p0 Ψ tbs p1 op j kv rest n p.stack (.ptr (rest.length+1+8) 0) (P8 T tbs p1 true B kv' (rest'.set (rest.length+1) (some (.cells 72 [num n,num O.dJ,aq O.aA,v0,flag false,num c0])))):=λL9 h9=>
          .inr ⟨c0,kv',B,_,⟨V0.c0,V0.c1,.inr ⟨_,_,_,_,_,_,rfl,bA vx⟩⟩,rfl,⟨L9,aT h9 (by omega)⟩,V0.pw.put (.inr (by omega)) _,by omega,ad⟩
        obtain⟨L9,bk⟩:=V0.al;refine ab (.a 1 I<|.k [3,5,7,13,14,75,76,77,78] I)<|ai<|ae I (λhc=>?_) (λhc=>?_)
        · have Q:k<O.aA.length:=by have:=tt hc;omega
          refine aj<|ai<|aw<|ab (.v (aM (k) I) I<|.v (aJ I (aB _ k Q)) I<|.a 1 I<|.k [3,5,7,13,14,16,75,76,77] I)<|ai<|ab (.a 1 I<|.k [3,5,7,13,14,16,75,76,77,81] I)<|ae I (λhc=>?_) (λhc=>?_)
          · refine ba<|aK<|au 3 I<|bc (Tb (σ:=P8 T tbs p1 true B kv' rest') (b9 I (Q6 I) I I vx (Re rfl)) (σ'':=P8 T tbs p1 true B kv' (rest'.set (rest.length+1) (some (.cells 72 [num n,num O.dJ,aq O.aA,v0,flag false,num c0])))) I I) I I<|aE [13] I ?_;exact ab (.a 2 I<|.k [10] I)<|ao<|⟨_,RY I,aO _ bk⟩
          · cases hc
        · refine ba<|aK<|au 3 I<|bc (Tb (σ:=P8 T tbs p1 true B kv' rest') (b9 I (Q6 I) I I vx (Re rfl)) (σ'':=P8 T tbs p1 true B kv' (rest'.set (rest.length+1) (some (.cells 72 [num n,num O.dJ,aq O.aA,v0,flag false,num c0])))) I I) I I<|aE [13] I ?_;exact ab (.a 2 I<|.k [10] I)<|ao<|⟨_,RY I,aO _ bk⟩
      have vx:=V.x;have vn:=V.nb;have vr:=V.row;have va:=V.al;have bL:=V.len;have vj:=V.j1;have cE:=V.PM;have cH:=V.ne;have bN:=(QT.1 vr).1;rw[t]at vx vn;refine ab (.a 1 I<|.k [3,5,7,13,14,75,76,77,78] I)<|ai<|ae I (λhc=>?_) (λhc=>?_)
      · have Q:k<O.aA.length:=by have:=tt hc;omega
        have al:O.aA≠[]:=λh=>by rw[h]at Q;simp at Q
        have cf:∀a∈O.aA,∃b m:Nat,a=(b:Int)/\b<2*T.ah.length/\aN T b=(m:Int)/\Ψ m O.eJ.stack:=by
          rcases aS with h|⟨_,_,h⟩
          · exact absurd h al
          · exact h
        have F:O.aA.getD k 0∈O.aA:=bX Q;obtain⟨b,m,ay,hb,hm,bK⟩:=cf _ F;have bB:∀x∈(rest.length+1,n,p.stack)::op,om T tb p0 x.2.1 x.2.2 m O.eJ.stack:=λx hx=>by
          have ha:O.aA.getD k 0∈(bh T tb p0 n p.stack).aA:=by rw[t];exact F
          have bp:aN T (O.aA.getD k 0).toNat=(m:Int):=by rw[ay,QS];exact hm
          rw[<-t];rcases RA.1 hx with rfl|hx
          · exact .one ha bp
          · exact .more (bz x hx) ha bp
        have cz:=bO hv;have P:0<=fD O.aA cs/\fD O.aA cs<=1001:=by
          unfold fD;rw[QZ al];refine km cs 0 (by omega) (by omega) λz hz=>?_;obtain⟨i,hi⟩:=Rv hz;have aX:=(QT.1 hi).1;have:=(V.ch i (by have:=V.lc;omega)).bound.1;rwa [QU,hi]at this
        have aZ:∀x∈(rest.length+1,n,p.stack)::op,x.1<rest'.length/\x.1≠B/\∃(a0 a1 a2 a3:PV) (c:Int),rest'[x.1]? =some (some (.cells 72 [a0,a1,a2,a3,flag true,num c]))/\0<=c/\c<=1001:=λx hx=>by
          rcases RA.1 hx with rfl|hx
          · exact⟨by show rest.length+1<rest'.length;omega,by show rest.length+1≠B;omega,_,_,_,_,_,vx,P.1,P.2⟩
          · obtain⟨g1,g2,a0,a1,a2,a3,c0,g3,g4,g5⟩:=aP x hx;exact⟨by omega,by omega,a0,a1,a2,a3,c0,(V.pw.same _ g1 g2).trans g3,g4,g5⟩
        have cy:=V.kl;refine aj<|ai<|aw<|ab (.v (aM (k) I) I<|.v (aJ I ((aB _ k Q).trans (by rw[ay]))) I<|.a 1 I<|.k [3,5,7,13,14,16,75,76,77] I)<|ai<|ab (.a 1 I<|.k [3,5,7,13,14,16,75,76,77,81] I)<|ae I (λhc=>?_) (λhc=>?_)
        · cases hc
        · refine aj<|MB 5 20 [82,83,84,85,86] mixed (by kernel_rfl) (by kernel_rfl) (by kernel_rfl) I (.a 3 I<|.v [83,84] (dX I ((show Can prog 47 [aL T,num b] (· =num m) by have h:=iH T b hb (by omega);rw[hm]at h;exact h))) I I<|.v [14] (cC (σ:=P8 T tbs p1 false B kv' rest') (blk:=.cells 44 (cY O.eJ)) I (Q6 I) I vn rfl) I I<|.k [3,5,7,13,14,75,76,77,82,85,86] I) ?_;refine cD I I (RT (ih (u - 1) (by omega) m O.eJ bK (bC al) ((rest.length+1,n,p.stack)::op) kv' B rest' (by omega) va V.ok bB aZ) (λy σ' h=>?_));refine au 1 I<|aE [3,5,7,13,14,17,75,76,77] I ?_;rcases h with⟨c,o,g,l,hg,rfl,a8,k8,bW,bt,ag,br,cp⟩|⟨c,o,g,l,aH,rfl,⟨L4,a8⟩,k8,bW,ad⟩;obtain⟨A,cr,bU,_,_,_,_⟩:=hg.parts;subst bU;have l8:=k8.len;have x8:l[rest.length+1]? =some (some (.cells 72 [num n,num O.dJ,aq O.aA,.own (jr+8),flag true,num (fD O.aA cs)])):=(k8.same _ (by omega) (by omega)).trans vx;have n8:l[rest.length+3]? =some (some (.cells 44 (cY O.eJ))):=(k8.same _ (by omega) (by omega)).trans vn;have w8:l[jr]? =some (fu vs):=(k8.same _ bN (by omega)).trans vr;have a7:gE j rest l:=V.pw.trans k8 (by omega);have cw:=hg.bound;have ah:=V.lv;have aF:=V.lc;have e8:g≠jr:=by omega
          have ax:(l.set jr none++[fu (vs++[PV.bq (fL m (bh T tb p0 m O.eJ.stack) A c) 0])])[rest.length+1]? =some (some (.cells 72 [num n,num O.dJ,aq O.aA,.own (jr+8),flag true,num (fD O.aA cs)])):=b7 (aT x8 (by omega));refine aK<|au 4 I ?_;refine bm (aY I (Q6 I) I x8 rfl) I<|au 1 I ?_;refine bm (iT (xs:=[PV.bq (fL m (bh T tb p0 m O.eJ.stack) A c) 0]) I (S3 I) ⟨Re rfl,Re rfl⟩ rfl rfl) I<|cb (Tb (σ:=P8 T tbs p1 false g o l) (bF (e:=67) (s:=1) (by':=8) (i:=jr+8) (m:=1) (n:=vs.length) (xs:=vs) (ys:=[PV.bq (fL m (bh T tb p0 m O.eJ.stack) A c) 0]) I (Ru I) I w8 rfl rfl ⟨by unfold maxLen;omega,by omega⟩) (p':=.own (l.length+8)) (σ'':=P8 T tbs p1 false g o (l.set jr none++[fu (vs++[PV.bq (fL m (bh T tb p0 m O.eJ.stack) A c) 0])])) I (by unfold fu;rw[Q0];rfl)) I ?_;refine au 2 I<|bc (Tb (σ:=P8 T tbs p1 false g o (l.set jr none++[fu (vs++[PV.bq (fL m (bh T tb p0 m O.eJ.stack) A c) 0])])) (b9 I (Q6 I) I I ax (Re rfl)) (σ'':=P8 T tbs p1 false g o ((l.set jr none++[fu (vs++[PV.bq (fL m (bh T tb p0 m O.eJ.stack) A c) 0])]).set (rest.length+1) (some (.cells 72 [num n,num O.dJ,aq O.aA,.own (l.length+8),flag true,num (fD O.aA cs)])))) I I) I I ?_;refine aE [3,5,7,13,14,17,75,76,77] I ?_;have⟨K,w⟩:=QQ ((l.set jr none++[fu (vs++[PV.bq (fL m (bh T tb p0 m O.eJ.stack) A c) 0])]).set (rest.length+1) (some (.cells 72 [num n,num O.dJ,aq O.aA,.own (l.length+8),flag true,num (fD O.aA cs)])));have l9:K.length=l.length+1:=by rw[<-w];simp
          have bf:gE j rest K:=w▸((a7.put (.inr (by omega)) _).app _).put (.inr (by omega)) _;have x9:K[rest.length+1]? =some (some (.cells 72 [num n,num O.dJ,aq O.aA,.own (l.length+8),flag true,num (fD O.aA cs)])):=w▸bA ax;have n9:K[rest.length+3]? =some (some (.cells 44 (cY O.eJ))):=w▸aT (b7 (aT n8 (by omega))) (by omega);have w9:K[l.length]? =some (fu (vs++[PV.bq (fL m (bh T tb p0 m O.eJ.stack) A c) 0])):=w▸aT (dT (by simp)) (by omega);have a9:K[g]? =some (fu (o.map (·.2))):=w▸aT (b7 (aT a8 (by omega))) (by omega);rw[w];have bQ:fD O.aA (cs++[c])=min (fD O.aA cs+c) 1001:=by unfold fD;rw[QZ al,QZ al,nu]
          refine dh 13 20 mixed (.val [13] I (bb I) I I<|.val [13] I (bb I) I I<|.val [99] I (bb I) I I<|.val [100] I (bb I) I I<|.val [101] I (aY I (Q6 I) I x9 rfl) I I<|.val [17] I (bb I) I I<|.val [103] I (bb I) I I<|.val [104] I (bb I) I I<|.val [105] I (aJ I (rfl)) I I<|.val [102,106] I (aW I) I I<|.val [107] I (sL I I I (bQ.symm)) I I<|.val [98] I (bb I) I I<|.val [109] I (bb I) I I<|.nil) (by kernel_rfl) I I (aR (ks:=[3,5,7,13,14,75,76,77,108,110]) I)<|bc (Tb (σ:=P8 T tbs p1 false g o K) (b9 I (Q6 I) I I x9 (Re rfl)) (σ'':=P8 T tbs p1 false g o (K.set (rest.length+1) (some (.cells 72 [num n,num O.dJ,aq O.aA,.own (l.length+8),flag true,num (fD O.aA (cs++[c]))])))) I I) I I<|aE [3,5,7,13,14,75,76,77] I ?_;refine aC (.v (aW I) I<|.a 1 I<|.k [3,5,7,13,14,75,76,77] I)<|⟨O.aA.length - (k+1),by omega,k+1,o,g,_,by omega,rfl,.inl ⟨l.length,vs++[PV.bq (fL m (bh T tb p0 m O.eJ.stack) A c) 0],cs++[c],⟨bf.put (.inr (by omega)) _,by simp[l9];omega,by rw[t];exact bA x9,by rw[t];exact aT n9 (by omega),aT w9 (by omega),aT a9 (by omega),by omega,by omega,?_,bt,by omega,λk hk=>ag k (V.ks k hk),ag _ V.nm,by simp[ah],by simp[aF],λi hi=>?_,λi hi=>?_⟩,rfl⟩⟩
          · have:=(QT.1 a8).1;omega
          · by_cases aV:i<k
            · have h1:(vs++[PV.bq (fL m (bh T tb p0 m O.eJ.stack) A c) 0]).getD i .any=vs.getD i .any:=by rw[QU,QU,Q9 (by omega)]
              have h2:(cs++[c]).getD i 0=cs.getD i 0:=by rw[QU,QU,Q9 (by omega)]
              rw[h1,h2];exact V.ch i aV
            · obtain rfl:i=k:=by omega
              have h1:(vs++[PV.bq (fL m (bh T tb p0 m O.eJ.stack) A c) 0]).getD i .any=PV.bq (fL m (bh T tb p0 m O.eJ.stack) A c) 0:=by rw[QU,dT ah];rfl
              have h2:(cs++[c]).getD i 0=c:=by rw[QU,dT aF];rfl
              rw[h1,h2,t,ay,QS,hm,QS];exact hg
          · by_cases aV:i<k
            · exact ag _ (V.cn i aV)
            · obtain rfl:i=k:=by omega
              rw[t,ay,QS,hm,QS];exact br
          have l8:=k8.len;have x8:l[rest.length+1]? =some (some (.cells 72 [num n,num O.dJ,aq O.aA,.own (jr+8),flag true,num (fD O.aA cs)])):=(k8.same _ (by omega) (by omega)).trans vx;have n8:l[rest.length+3]? =some (some (.cells 44 (cY O.eJ))):=(k8.same _ (by omega) (by omega)).trans vn;have w8:l[jr]? =some (fu vs):=(k8.same _ bN (by omega)).trans vr;have a7:gE j rest l:=V.pw.trans k8 (by omega);have ah:=V.lv;have e8:g≠jr:=by omega
          haveI:=aH.one;have bR:=aH.cells;have bD:=aH;obtain⟨az,aA,_⟩:=aH;have ax:(l.set jr none++[fu (vs++[y])])[rest.length+1]? =some (some (.cells 72 [num n,num O.dJ,aq O.aA,.own (jr+8),flag true,num (fD O.aA cs)])):=b7 (aT x8 (by omega));refine aK<|au 4 I ?_;refine bm (aY I (Q6 I) I x8 rfl) I<|au 1 I ?_;refine bm (iT (xs:=[y]) I (S3 I) ⟨Re rfl,Re rfl⟩ (EX rfl bR) I) I<|cb (Tb (σ:=P8 T tbs p1 true g o l) (bF (e:=67) (s:=1) (by':=8) (i:=jr+8) (m:=1) (n:=vs.length) (xs:=vs) (ys:=[y]) I (Ru I) I w8 rfl rfl ⟨by unfold maxLen;omega,by omega⟩) (p':=.own (l.length+8)) (σ'':=P8 T tbs p1 true g o (l.set jr none++[fu (vs++[y])])) I (by unfold fu;rw[Q0];rfl)) I ?_;refine au 2 I<|bc (Tb (σ:=P8 T tbs p1 true g o (l.set jr none++[fu (vs++[y])])) (b9 I (Q6 I) I I ax (Re rfl)) (σ'':=P8 T tbs p1 true g o ((l.set jr none++[fu (vs++[y])]).set (rest.length+1) (some (.cells 72 [num n,num O.dJ,aq O.aA,.own (l.length+8),flag true,num (fD O.aA cs)])))) I I) I I ?_;refine aE [3,5,7,13,14,17,75,76,77] I ?_;have⟨K,w⟩:=QQ ((l.set jr none++[fu (vs++[y])]).set (rest.length+1) (some (.cells 72 [num n,num O.dJ,aq O.aA,.own (l.length+8),flag true,num (fD O.aA cs)])));have l9:K.length=l.length+1:=by rw[<-w];simp
          have bf:gE j rest K:=w▸((a7.put (.inr (by omega)) _).app _).put (.inr (by omega)) _;have x9:K[rest.length+1]? =some (some (.cells 72 [num n,num O.dJ,aq O.aA,.own (l.length+8),flag true,num (fD O.aA cs)])):=w▸bA ax;have a9:K[g]? =some (fu L4):=w▸aT (b7 (aT a8 (by omega))) (by omega);have G:∃c9,pS K y c9/\0<=c9/\c9<=1001:=by
            obtain⟨_,_,⟨xs,e,h5⟩|⟨i,a0,a1,a2,a3,f,e,h5⟩⟩:=bD
            · exact⟨c,⟨az,aA,.inl ⟨xs,e,h5⟩⟩,az,aA⟩
            · by_cases hi:i=rest.length+1
              · subst hi;exact⟨_,⟨P.1,P.2,.inr ⟨_,_,_,_,_,_,e,x9⟩⟩,P.1,P.2⟩
              · have bV:i≠jr:=λe'=>by rw[e',w8]at h5;cases h5
                exact⟨c,⟨az,aA,.inr ⟨i,a0,a1,a2,a3,f,e,w▸aT (b7 (aT h5 (Ne.symm bV))) (Ne.symm hi)⟩⟩,az,aA⟩
          obtain⟨c9,G,cj,ck⟩:=G;rw[w];refine dh 13 20 mixed (.val [13] I (bb I) I I<|.val [13] I (bb I) I I<|.val [99] I (bb I) I I<|.val [100] I (bb I) I I<|.val [101] I (aY I (Q6 I) I x9 rfl) I I<|.val [17] I (bb I) I I<|.val [103] I (JT G rfl rfl) I I<|.val [104] I (JQ G rfl (by kernel_rfl) I) I I<|.val [105] I (GW G rfl (Q6 I) I) I I<|.val [102,106] I (aW I) I I<|.val [107] I (sL I I I (rfl:min (fD O.aA cs+c9) 1001=_)) I I<|.val [98] I (bb I) I I<|.val [109] I (bb I) I I<|.nil) (by kernel_rfl) I I (aR (ks:=[3,5,7,13,14,75,76,77,108,110]) I)<|bc (Tb (σ:=P8 T tbs p1 true g o K) (b9 I (Q6 I) I I x9 (Re rfl)) (σ'':=P8 T tbs p1 true g o (K.set (rest.length+1) (some (.cells 72 [num n,num O.dJ,aq O.aA,.own (l.length+8),flag true,num (min (fD O.aA cs+c9) 1001)])))) I I) I I<|aE [3,5,7,13,14,75,76,77] I ?_;refine aC (.v (aW I) I<|.a 1 I<|.k [3,5,7,13,14,75,76,77] I)<|⟨O.aA.length - (k+1),by omega,k+1,o,g,_,by omega,rfl,.inr ⟨_,_,⟨bf.put (.inr (by omega)) _,by simp[l9];omega,bA x9,⟨_,aT a9 (by omega)⟩,by omega,by omega,by omega⟩,ad,rfl⟩⟩
      · have bY:k=O.aA.length:=by have:=ff hc;omega
        refine ba<|aK<|au 3 I<|bc (Tb (σ:=P8 T tbs p1 false B kv' rest') (b9 I (Q6 I) I I vx (Re rfl)) (σ'':=P8 T tbs p1 false B kv' (rest'.set (rest.length+1) (some (.cells 72 [num n,num O.dJ,aq O.aA,.own (jr+8),flag false,num (fD O.aA cs)])))) I I) I I<|aE [13] I ?_;subst bY;have ah:=V.lv;have aF:=V.lc;have af:fU T tb p0 Ψ (.bq (fL n O vs (fD O.aA cs)) 0) n p.stack (fD O.aA cs):=by
          have:=Good.mk (T:=T) (tb:=tb) (p0:=p0) (Φ:=λ_=>Ψ) (u:=0) (vs:=vs) (cs:=cs) J (by rw[t];exact ah) (by rw[t];exact aF) (λi hi=>by rw[t]at hi;exact V.ch i hi);rwa [t]at this
        have bl:Pw T tb p0 (kv'.map (·.1)) n p.stack:=λa ha=>by
          obtain⟨i,hi⟩:=Rv ha;have aX:=(QT.1 hi).1;have:=V.cn i (by rw[t]at aX;exact aX);rwa [QU,hi]at this
        obtain⟨bg,bu,aD,aU⟩:=nj.close (ty:=72) V.ok af bl;refine sc (jr+8) (σ':=P8 T tbs p1 false B kv' ((rest'.set jr none).set (rest.length+1) (some (.cells 72 (fL n O vs (fD O.aA cs)))))) (aT vr (by omega)) (Hc (by simp) (aT (bA vr) (by omega)) (λz hz=>?_) I (mo.refl _)) (.cons 13 I (.same _) .nil) ?_
        · by_cases h1:z=rest.length+1
          · subst h1;exact .inr ⟨_,_,bA vx,bA (aT vx (by omega)),.cells (.cons (.same _)<|.cons (.same _)<|.cons (.same _)<|.cons .own<|.cons (.same _)<|.cons (.same _) .nil)⟩
          · refine .inl ?_;rw[Rh,QZ (by omega),Rh,QZ (by omega),Rh,QZ (by omega)]
        refine sc (rest.length+1+8) (σ':=P8 T tbs p1 false B bg ((((rest'.set jr none).set (rest.length+1) (some (.cells 72 (fL n O vs (fD O.aA cs))))).set (rest.length+1) none).set B (fu (bg.map (·.2))))) (bA (aT vx (by omega))) (Hc (by simp) (aT (bA (bA (aT vx (by omega)))) (by omega)) (λz hz=>?_) aD aU) (.cons 13 I (.ptr 0) .nil) ?_
        · by_cases h1:z=B
          · subst h1;refine .inr ⟨_,_,aT (aT va (by omega)) (by omega),bA (aT (aT (aT va (by omega)) (by omega)) (by omega)),?_⟩;have:=aU.1;rw[this];exact .row aU
          · refine .inl ?_;rw[Rh,QZ (by omega),Rh,QZ (by omega)]
        refine ab (.a 2 I<|.k [10] I)<|ao<|⟨_,RY I,.inl ⟨fD O.aA cs,bg,B,_,af,rfl,?_,?_,by omega,bu,λk hk=>by rw[aD];exact V.ks k hk,by rw[aD];exact V.nm,by have:=V.kl;have h9:=Sc List.length aD;simp only[RN]at h9;omega⟩⟩
        · exact bA (aT (aT (aT va (by omega)) (by omega)) (by omega))
        · exact(((V.pw.put (.inr (by omega)) _).put (.inr (by omega)) _).put (.inr (by omega)) _).put (by omega) _
end
structure Sq where
 n:Nat
 s:List bG
 a:PV
 x:PV
 dJ:Int
 Pm:Int
 mn:Int
def mf(p0:dq)(q:Sq):List PV:=[num q.n,num p0.id,num p0.src,num p0.dst,num p0.lR,cr q.s,num 0,q.a,q.x,num q.dJ,num q.Pm,num q.mn]
def gz(p0:dq)(L:List Sq):List PV:=L.flatMap (mf p0)
def qN(n:Nat)(s:List bG):Sq:=⟨n,s,.raw (.slice none 0 0),.raw (.slice none 0 0),0,0,0⟩
abbrev fB(p0:dq)(L:List Sq):Option cX:=some (.row 85 12 L.length (gz p0 L))
theorem qO(p0:dq)(L:List Sq):(gz p0 L).length=L.length*12:=uc _ 12 (λ_=>rfl) L
theorem eD{p0 L}{i:Nat}{q}(j:Nat)(h:L[i]? =some q)(hj:j<12){v}(hv:(mf p0 q)[j]? =some v):(gz p0 L)[i*12+j]? =some v:=(flat_get (mf p0) 12 (λ_=>rfl) L i j q h hj).trans hv
theorem Bm{p0 L}{i:Nat}{q}(h:L[i]? =some q):((gz p0 L).drop (i*12)).take 12=mf p0 q:=lQ (mf p0) 12 (λ_=>rfl) L i q h
theorem Ae{α:Type}(f:α->List PV)(s:Nat)(d:∀a,(f a).length=s):∀(l:List α) (i j:Nat) (a b:α) (v:PV),l[i]? =some a->j<s->f b=(f a).set j v->(l.flatMap f).set (i*s+j) v=(l.set i b).flatMap f
 | [],i,j,a,b,v,h,_,_=>by simp at h
 |c::l,0,j,a,b,v,h,hj,hb=>by
  simp at h;subst h;rw[RL,SW,RL,Uj,Si,hb,List.set_append_left _ _ (by rw[d];exact hj)]
 |c::l,i+1,j,a,b,v,h,hj,hb=>by
  have:=Ae f s d l i j a b v (by simpa using h) hj hb;have k:(i+1)*s=i*s+s:=SB i s;have e:(i+1)*s+j - s=i*s+j:=by omega
  have g:(f c).length<=(i+1)*s+j:=by rw[d];omega
  rw[RL,Tk _ _ g,d,e,this,T5,RL]
theorem zi{p0}{L:List Sq}{i:Nat}{q b}(j:Nat)(h:L[i]? =some q)(hj:j<12){v}(hb:mf p0 b=(mf p0 q).set j v):(gz p0 L).set (i*12+j) v=gz p0 (L.set i b):=Ae (mf p0) 12 (λ_=>rfl) L i j q b v h hj hb
theorem Jt(p0:dq)(L:List Sq)(q:Sq):gz p0 L++mf p0 q=gz p0 (L++[q]):=by simp[gz]
def GP(T:ak)(tbs:List cQ)(j:Nat)(rest:ca):ca:=some (.cells 83 (bn T++[dP tbs,.own (j+1)]))::rest
def At(L:List Sq)(i:Nat)(n:Nat)(s:List bG):Prop:=∃q,L[i]? =some q/\q.n=n/\q.s=s
def Pv(T:ak)(p0:dq)(tbs:List cQ)(L:List Sq)(j:Nat)(rest:ca)(n:Nat)(s:List bG)(r:PV)(σ':ca):Prop:=
 ∃(i:Nat) (L':List Sq) (a:Nat) (rest':ca),r=num (i:Int)/\σ'=GP T tbs a rest'/\rest'[a]? =some (fB p0 L')/\gE j rest rest'/\(a=j\/rest.length<=a)/\At L' i n s/\(L'=L\/L'=L++[qN n s]/\∀k,¬At L k n s)
instance (p0:dq) (n:Nat) (s:List bG):dY (mf p0 (qN n s)):=by unfold mf qN;infer_instance
theorem AV(T:ak)(p0:dq)(tbs:List cQ)(L:List Sq)(G:L.length<=1000000000)(j:Nat)(rest:ca)(hj:rest[j]? =some (fB p0 L))(n:Nat)(p:dq)(hp:cu p p.stack=cu p0 p.stack):
  bM prog 92 [.ptr 0 0,num n,dI p] (GP T tbs j rest) (Pv T p0 tbs L j rest n p.stack):=by
 have E:=(QT.1 hj).1;refine cF func92 I ntmps92 I<|aK<|cb (Tb (fV I I I) (p':=.ptr (rest.length+1) 0) (σ'':=GP T tbs j (rest++[some (.cells 44 (cY p))])) I I) I<|au 1 I<|aE [0,1,5] I ?_;refine aK<|au 1 I<|bc (Tb (b9 (i:=rest.length+1) (off:=5) I (Q6 I) I I (show(GP T tbs j (rest++[some (.cells 44 (cY p))]))[rest.length+1]? =_ from dT rfl) (Re rfl)) (σ'':=GP T tbs j (rest++[some (.cells 44 (cY (cu p0 p.stack)))])) I (by rw[<-hp];simp[GP,cY,cu];rfl)) I I<|aE [0,1,5] I ?_;have⟨b,a⟩:=QQ (rest++[some (.cells 44 (cY (cu p0 p.stack)))]);have B:b.length=rest.length+1:=by rw[<-a];simp
 have A:gE j rest b:=a▸(gE.refl j rest).app _;have x:b[rest.length]? =some (some (.cells 44 (cY (cu p0 p.stack)))):=a▸dT rfl;have j1:b[j]? =some (fB p0 L):=a▸b7 hj;rw[a];refine ai<|ab (.a 1 I<|.k [0,1,5,7] I)<|aw<|eF [0,1,5,7] I<|bd (λr st=>∃i:Nat,i<=L.length/\r=L.length - i/\(∀k,k<i->¬At L k n p.stack)/\st=⟨[(0,.ptr 0 0),(1,num n),(5,.ptr (rest.length+1) 0),(7,num i)],GP T tbs j b⟩) L.length ⟨0,by omega,by omega,λk hk=>absurd hk (by omega),rfl⟩ ?_;rintro r st ⟨i,hi,rfl,f,rfl⟩;refine ai<|ab (.a 4 I<|.v (aY I (Q6 I) I I I) I<|.v (qW I (RP I) I j1) I<|.a 1 I<|.k [0,1,5,7,15] I)<|ae I (λhc=>?_) (λhc=>?_)
 ·have v:i<L.length:=by have:=tt hc;omega
  obtain⟨q,l⟩:∃q,L[i]? =some q:=⟨_,QX v⟩;have⟨y,c⟩:=QQ (decide ((q.n:Int)=n));have⟨D,d⟩:=QQ (decide (q.s=p.stack));refine aj<|ai<|aw<|iY mixed (by kernel_rfl) 41 (.raw (.bool (y&&D))) [0,1,5,7] I ?_ ?_
  ·refine .a 3 I<|.v [20] (aY I (Q6 I) I I I) I I<|.a 1 I<|.v [21,22] (cj I (RP I) I j1 rfl (by omega) (by omega) I) I I<|.a 1 I<|.v [24] (aY I (Q6 I) I j1 (eD 0 l (by omega) I)) I I<|.a 1 I<|.v [25,26] (bW I (c)) I I<|.a 1 I<|?_;cases y
   ·exact .a 13 I<|.k [41,0,1,5,7] I
   ·exact .a 3 I<|.v [31] (aY I (Q6 I) I I I) I I<|.a 1 I<|.v [32,33] (cj I (RP I) I j1 rfl (by omega) (by omega) I) I I<|.a 2 I<|.v [36] (aY I (Q6 I) I j1 (eD 5 l (by omega) I)) I I<|.a 1 I<|.v [38] (aY I (Q6 I) I x rfl) I I<|.v [37,39] (dX I (d▸Gk q.s p.stack)) I I<|.a 1 I<|.k [41,0,1,5,7] I
  refine ae I (λo=>?_) (λo=>?_)
  ·obtain⟨rfl,rfl⟩:=Q3.1 o;have s:At L i n p.stack:=⟨q,l,by have:=tt c;omega,tt d⟩;exact ab (.a 2 I<|.k [6] I)<|ao<|⟨_,RY I,i,L,j,b,rfl,rfl,j1,A,.inl rfl,s,.inl rfl⟩
  ·have g:∀k,k<i+1->¬At L k n p.stack:=λk hk h=>by
    by_cases u:k<i
    ·exact f k u h
    ·obtain rfl:k=i:=by omega
     obtain⟨C,g1,g2,g3⟩:=h;rw[l]at g1;cases g1;rcases SE.1 o with rfl|rfl
     ·exact ff c (by rw[g2])
     ·exact ff d g3
   refine aj<|aC (.a 1 I<|.v (aW I) I<|.a 1 I<|.k [0,1,5,7] I) ?_;exact⟨L.length - (i+1),by omega,i+1,by omega,rfl,g,rfl⟩
 ·have t:i=L.length:=by have:=ff hc;omega
  subst t;refine ba<|jt 9 20 mixed (.late [0] I (jQ rfl rfl) inferInstance rfl rfl<|.val [0] I (bb I) I I<|.val [44] I (bb I) I I<|.val [45] I (bb I) I I<|.val [46] I (aY I (Q6 I) I I I) I I<|.val [1] I (bb I) I I<|.val [5] I (cC I (Q6 I) I x rfl) I I<|.val [48,49] I (bb I) I I<|.val [50] I (bb I) I I<|.nil) (by kernel_rfl) I I (aR (ks:=[0,43,47,51]) I) ?_;refine cb (Tb (σ:=GP T tbs j b) (bF (m:=1) (n:=L.length) (xs:=gz p0 L) (ys:=mf p0 (qN n p.stack)) I (Ru I) I j1 rfl rfl ⟨by unfold maxLen;omega,by omega⟩) (p':=.own (rest.length+1+1)) (σ'':=GP T tbs j (b.set j none++[fB p0 (L++[qN n p.stack])])) (by rw[<-B];rfl) (by unfold fB;rw[Q0,<-Jt];rfl)) I<|au 2 I<|bc (Tb (b9 I (Q6 I) I I I (Re rfl)) (σ'':=GP T tbs (rest.length+1) (b.set j none++[fB p0 (L++[qN n p.stack])])) I I) I I<|aE [0] I ?_;have⟨w,e⟩:=QQ (b.set j none++[fB p0 (L++[qN n p.stack])]);have F:gE j rest w:=e▸(A.put (.inl rfl) _).app _;have z:w[rest.length+1]? =some (fB p0 (L++[qN n p.stack])):=e▸dT (by simp[B]);rw[e];exact ab (.a 3 I<|.v (aY I (Q6 I) I I I) I<|.v (qW I (RP I) I z) I<|.v (aW I (hc:=(show((L++[qN n p.stack]).length:Int) - 1=(L.length:Int) by rw[Q0];simp))) I<|.a 1 I<|.k [6] I)<|ao<|⟨_,RY I,L.length,L++[qN n p.stack],rest.length+1,w,rfl,rfl,z,F,.inr (by omega),⟨qN n p.stack,by simp,rfl,rfl⟩,.inr ⟨rfl,λk h=>by
   obtain⟨C,g1,g2⟩:=h;exact f k (QT.1 g1).1 ⟨C,g1,g2⟩⟩⟩
section
variable (T:ak) (tb:Nat->cQ) (p0:dq) (Φ:Nat->Nat->List bG->Prop)
def zx(L:List Sq)(q:Sq):Prop:=∃js:List Int,q=⟨q.n,q.s,aq (bh T tb p0 q.n q.s).aA,aq js,(bh T tb p0 q.n q.s).dJ,0,0⟩/\js.length=(bh T tb p0 q.n q.s).aA.length/\
 ∀(m:Nat) a,(bh T tb p0 q.n q.s).aA[m]? =some a->∃jm:Nat,js[m]? =some (jm:Int)/\At L jm (aN T a.toNat).toNat (bh T tb p0 q.n q.s).eJ.stack
structure pP (L:List Sq) (i i':Nat):Prop where
 st:∀(k:Nat) (q:Sq),L[k]? =some q->∃u,Φ u q.n q.s
 G2:∀(k k' n:Nat) (s:List bG),At L k n s->At L k' n s->k=k'
 dn:∀(k:Nat) (q:Sq),k<i->L[k]? =some q->zx T tb p0 L q
 nw:∀(k:Nat) (q:Sq),i'<=k->L[k]? =some q->q=qN q.n q.s
end
section
variable {T:ak} {tb:Nat->cQ} {p0:dq} {Φ:Nat->Nat->List bG->Prop}
theorem At.app{L M}{k n:Nat}{s}(h:At L k n s):At (L++M) k n s:=by
 obtain⟨q,h1,h2⟩:=h;exact⟨q,by rw[Q9 (QT.1 h1).1];exact h1,h2⟩
theorem At.put{L:List Sq}{i k n:Nat}{s}{q q':Sq}(d:L[i]? =some q)(h1:q'.n=q.n)(h2:q'.s=q.s):At (L.set i q') k n s↔At L k n s:=by
 have c:=(QT.1 d).1;unfold At;by_cases hk:k=i
 ·subst hk;rw[Rh,QY rfl,QY c,d];constructor
  ·rintro⟨x,hx,a,b⟩;cases hx;exact⟨q,rfl,by rw[<-h1];exact a,by rw[<-h2];exact b⟩
  ·rintro⟨x,hx,a,b⟩;cases hx;exact⟨q',rfl,by rw[h1];exact a,by rw[h2];exact b⟩
 ·rw[Rh,QZ (Ne.symm hk)]
theorem At.up{L:List Sq}{i k n:Nat}{s}{q q':Sq}(h:At L k n s)(a:L[i]? =some q)(h1:q'.n=q.n)(h2:q'.s=q.s):At (L.set i q') k n s:=(At.put a h1 h2).2 h
theorem zx.mono{L L' q}(hm:∀k n s,At L k n s->At L' k n s)(h:zx T tb p0 L q):zx T tb p0 L' q:=by
 obtain⟨js,h1,h2,b⟩:=h;refine⟨js,h1,h2,λm a c=>?_⟩;obtain⟨jm,g1,g2⟩:=b m a c;exact⟨jm,g1,hm _ _ _ g2⟩
theorem pP.put{L:List Sq}{i i':Nat}(h:pP T tb p0 Φ L i i')(hi:i'<=i+1){q q':Sq}(hq:L[i]? =some q)(h1:q'.n=q.n)(h2:q'.s=q.s):pP T tb p0 Φ (L.set i q') i (i+1) where
 st:=λk x hx=>by
  by_cases hk:k=i
  ·subst hk;rw[Rh,QY rfl,QY (QT.1 hq).1]at hx;cases hx;rw[h1,h2];exact h.st _ _ hq
  ·rw[Rh,QZ (Ne.symm hk)]at hx;exact h.st _ _ hx
 G2:=λk k' n s a b=>h.G2 k k' n s ((At.put hq h1 h2).1 a) ((At.put hq h1 h2).1 b)
 dn:=λk x hk hx=>by
  rw[Rh,QZ (by omega)]at hx;exact(h.dn k x hk hx).mono λk n s a=>(At.put hq h1 h2).2 a
 nw:=λk x hk hx=>by
  rw[Rh,QZ (by omega)]at hx;exact h.nw k x (by omega) hx
theorem pP.add{L L':List Sq}{i i' u n:Nat}{s}(h:pP T tb p0 Φ L i i')(hi:i<=L.length)(p:Φ u n s)(t:L'=L\/L'=L++[qN n s]/\∀k,¬At L k n s):pP T tb p0 Φ L' i i':=by
 rcases t with rfl|⟨rfl,f⟩
 ·exact h
 ·have key:∀k q,(L++[qN n s])[k]? =some q->L[k]? =some q\/(k=L.length/\q=qN n s):=λk q hk=>by
   by_cases o:k<L.length
   ·rw[Q9 o]at hk;exact .inl hk
   ·rw[RD (by omega)]at hk;have:=(QT.1 hk).1;simp only[Rk]at this;have m:k - L.length=0:=by omega
    rw[m]at hk;simp at hk;exact .inr ⟨by omega,hk.symm⟩
  have d:∀k n' s',At (L++[qN n s]) k n' s'->At L k n' s'\/(k=L.length/\n'=n/\s'=s):=λk n' s' ⟨q,h1,h2,r⟩=>by
   rcases key k q h1 with l|⟨l,rfl⟩
   ·exact .inl ⟨q,l,h2,r⟩
   ·exact .inr ⟨l,h2.symm,r.symm⟩
  refine⟨λk q c=>?_,λk k' n' s' a b=>?_,λk q hk c=>?_,λk q hk c=>?_⟩
  ·rcases key k q c with c|⟨_,rfl⟩
   ·exact h.st k q c
   ·exact⟨u,p⟩
  ·rcases d _ _ _ a with a2|⟨a2,g,j⟩
   ·rcases d _ _ _ b with e|⟨e,g,j⟩
    ·exact h.G2 _ _ _ _ a2 e
    ·rw[g,j]at a2;exact absurd a2 (f _)
   ·rcases d _ _ _ b with e|⟨e,_,_⟩
    ·rw[g,j]at e;exact absurd e (f _)
    ·omega
  ·rcases key k q c with c|⟨h1,_⟩
   ·exact(h.dn k q hk c).mono λ_ _ _ a=>a.app
   ·omega
  ·rcases key k q c with c|⟨_,rfl⟩
   ·exact h.nw k q hk c
   ·rfl
theorem pP.next{L}{i:Nat}{q}(h:pP T tb p0 Φ L i (i+1))(hq:L[i]? =some q)(hd:zx T tb p0 L q):pP T tb p0 Φ L (i+1) (i+1) where
 st:=h.st
 G2:=h.G2
 dn:=λk x hk hx=>by
  by_cases hki:k=i
  ·subst hki;rw[hq]at hx;cases hx;exact hd
  ·exact h.dn k x (by omega) hx
 nw:=h.nw
theorem pP.Nt{U:List (Nat×List bG)}(g:∀ {u n s},Φ u n s->(n,s)∈U){L:List Sq}{i i':Nat}(h:pP T tb p0 Φ L i i'):L.length<=U.length:=by
 have:=eT (L.map λq=>(q.n,q.s)) U (by
  unfold List.Nodup;rw[Ty,TV];intro a b j hb l he;have c:L[a]? =some L[a]:=QX j;have d:L[b]? =some L[b]:=QX hb;injection he with e f;have:=h.G2 a b _ _ ⟨_,c,rfl,rfl⟩ ⟨_,d,e.symm,f.symm⟩;omega) (λx hx=>by
  obtain⟨q,m,rfl⟩:=RB.1 hx;obtain⟨k,hk⟩:=Rv m;obtain⟨u,hu⟩:=h.st k q hk;exact g hu)
 rwa [RN]at this
theorem mo.put{i k:Nat}{blk}{xs:List PV}{x v}(hx:xs[k]? =some x)(h:Er i blk x v):mo i blk xs (xs.set k v):=by
 refine⟨by simp,λj a b d hb=>?_⟩;by_cases c:j=k
 ·subst c;rw[hx]at d;cases d;rw[Rh,QY rfl,QY (QT.1 hx).1]at hb;cases hb;exact h
 ·rw[Rh,QZ (Ne.symm c),d]at hb;cases hb;exact .same _
theorem J3{tbs}{j i:Nat}{blk}{rest:ca}{x}(hi:rest[i]? =some x):BI (i+1) blk (GP T tbs j rest) (GP T tbs j (rest.set i none)):=by
 refine⟨by simp[GP],bA hi,λm hm=>.inl ?_⟩
 match m,hm with
 |0,_=>rfl
 |m+1,hm=>
  show(rest.set i none)[m]? =rest[m]?;rw[Rh,QZ (by omega)]
theorem J4{tbs}{j i jr:Nat}{blk}{rest:ca}{L:List Sq}{q q':Sq}(b:j≠jr){x}(hr:rest[jr]? =some x)(hj:rest[j]? =some (fB p0 L))(d:L[i]? =some q){v}(c:mf p0 q'=(mf p0 q).set 8 v)(e:Er (jr+1) blk q.x v):
  BI (jr+1) blk (GP T tbs j rest) (GP T tbs j ((rest.set jr none).set j (fB p0 (L.set i q')))):=by
 refine⟨by simp[GP],aT (bA hr) b,λm hm=>?_⟩
 match m,hm with
 |0,_=>exact .inl rfl
 |m+1,hm=>
  by_cases a:m=j
  ·subst a;refine .inr ⟨_,_,hj,bA (aT hj (by omega)),?_⟩;rw[Ry,<-zi 8 d (by omega) c];exact .row (mo.put (eD 8 d (by omega) I) e)
  ·refine .inl ?_;show((rest.set jr none).set j _)[m]? =rest[m]?;rw[Rh,QZ (by omega),Rh,QZ (by omega)]
end
section
variable {X:Type} [DecidableEq X]
def jW(l:List X)(y:X):List X:=if y∈l then l else l++[y]
def cR(nx:X->List X)(s:X):Nat->List X
 |0=>[s]
 |i+1=>(nx ((cR nx s i).getD i s)).foldl jW (cR nx s i)
variable {nx:X->List X} {s:X}
theorem Hm(l:List X)(y:X):∃m,jW l y=l++m:=by
 unfold jW;split
 ·exact⟨[],by simp⟩
 ·exact⟨[y],rfl⟩
theorem Hl(l:List X)(y:X):y∈jW l y:=by
 unfold jW;split
 ·assumption
 ·simp
theorem BN{l:List X}{y}(h:l.Nodup):(jW l y).Nodup:=by
 unfold jW;split
 ·exact h
 ·rename_i hn;rw[UG];exact⟨h,by simp,λa c b hb e=>by rw[Rj]at hb;subst hb;exact hn (e▸c)⟩
theorem qf:∀(ys l:List X),∃m,ys.foldl jW l=l++m
 | [],l=>⟨[],by simp⟩
 |y::ys,l=>by
  obtain⟨m1,h1⟩:=Hm l y;obtain⟨m2,h2⟩:=qf ys (jW l y);exact⟨m1++m2,by rw[SA,h2,h1,RO]⟩
theorem uh:∀(ys:List X) {l:List X},l.Nodup->(ys.foldl jW l).Nodup
 | [],_,h=>h
 |y::ys,l,h=>by rw[SA];exact uh ys (BN h)
theorem ug:∀(ys:List X) {l y},y∈ys->y∈ys.foldl jW l
 |a::ys,l,y,h=>by
  rw[SA];rcases RA.1 h with rfl|h
  ·obtain⟨m,hm⟩:=qf ys (jW l y);rw[hm];exact SH _ (Hl l y)
  ·exact ug ys h
theorem rz:∀(ys:List X) {l y},y∈ys.foldl jW l->y∈l\/y∈ys
 | [],l,y,h=>.inl h
 |a::ys,l,y,h=>by
  rw[SA]at h;rcases rz ys h with h|h
  ·unfold jW at h;split at h
   ·exact .inl h
   ·rcases RR.1 h with h|h
    ·exact .inl h
    ·rw[Rj]at h;subst h;exact .inr (by simp)
  ·exact .inr (by simp[h])
theorem kj:∀i,(cR nx s i).Nodup
 |0=>by simp[cR]
 |i+1=>uh _ (kj i)
theorem s5(i:Nat):∀j,∃m,cR nx s (i+j)=cR nx s i++m
 |0=>⟨[],by simp⟩
 |j+1=>by
  obtain⟨m,h⟩:=s5 i j;obtain⟨m2,h2⟩:=qf (nx ((cR nx s (i+j)).getD (i+j) s)) (cR nx s (i+j));refine⟨m++m2,?_⟩;show(nx ((cR nx s (i+j)).getD (i+j) s)).foldl jW (cR nx s (i+j))=_;rw[h2,h,RO]
theorem oo{i j k:Nat}{x}(h:(cR nx s i)[k]? =some x)(a:i<=j):(cR nx s j)[k]? =some x:=by
 obtain⟨m,hm⟩:=s5 (nx:=nx) (s:=s) i (j - i);rw[show i+(j - i)=j by omega]at hm;rw[hm,Q9 (QT.1 h).1];exact h
theorem Hy{i k:Nat}{x y}(hk:k<i)(h:(cR nx s i)[k]? =some x)(hi:i<=(cR nx s i).length)(a:∀j,j<i->j<(cR nx s j).length)(hy:y∈nx x):y∈cR nx s i:=by
 have b:=a k hk;have h1:(cR nx s k)[k]? =some ((cR nx s k).getD k s):=by rw[QU,QX b];rfl
 have h2:=oo h1 (show k<=i by omega);rw[h]at h2;injection h2 with h2;have c:y∈cR nx s (k+1):=by
  show y∈(nx ((cR nx s k).getD k s)).foldl jW (cR nx s k);exact ug _ (by rw[<-h2];exact hy)
 obtain⟨m,hm⟩:=s5 (nx:=nx) (s:=s) (k+1) (i - (k+1));rw[show k+1+(i - (k+1))=i by omega]at hm;rw[hm];exact SH _ c
theorem yg:∀i,(∀j,j<i->j<(cR nx s j).length)->∃a:Nat->Nat,(∀k m,k<=m->m<(cR nx s i).length->a k<=a m)/\(∀(k:Nat) x,(cR nx s i)[k]? =some x->Rn nx (a k) s x)/\(∀k,k<(cR nx s i).length->i<(cR nx s i).length->a k<=a i+1)/\a 0=0/\∀(k:Nat) x,k<i->(cR nx s i)[k]? =some x->∀y∈nx x,∃m,(cR nx s i)[m]? =some y/\a m<=a k+1
 |0,_=>by
  refine⟨λ_=>0,λ_ _ _ _=>Rc _,λk x h=>?_,λ_ _ _=>RQ _,rfl,λk x hk=>absurd hk (by omega)⟩;have hk:=(QT.1 h).1;simp[cR]at hk;subst hk;simp[cR]at h;subst h;exact .nil _
 |i+1,f=>by
  obtain⟨a,h1,h2,v,h0,B⟩:=yg i λj E=>f j (by omega);have d:=f i (by omega);have⟨L,C⟩:=QQ (cR nx s i);obtain⟨m,hm⟩:=qf (nx (L.getD i s)) L;have w:cR nx s (i+1)=L++m:=by
   show(nx ((cR nx s i).getD i s)).foldl jW (cR nx s i)=_;rw[C,hm]
  rw[C]at h1 h2 v B d;have hx:L[i]? =some (L.getD i s):=by rw[QU,QX d];rfl
  have q:=kj (nx:=nx) (s:=s) (i+1);rw[w]at q ⊢;have r:∀k,L.length<=k->∀x,(L++m)[k]? =some x->x∈nx (L.getD i s):=λk hk x u=>by
   have e:x∈(nx (L.getD i s)).foldl jW L:=by rw[hm];exact Ro u
   rcases rz _ e with h|h
   ·exfalso;obtain⟨k',n⟩:=Rv h;have o:=(QT.1 n).1;have A:(L++m)[k']? =some x:=by rw[Q9 o];exact n
    have b:=(QT.1 A).1;have:=(UJ b q).1 (A.trans u.symm);omega
   ·exact h
  refine⟨λk=>if k<L.length then a k else a i+1,λk t z l=>?_,λk x hk=>?_,λk hk D=>?_,by show(if 0<L.length then a 0 else a i+1)=0;rw[QY (by omega)];exact h0,λk x hk c y hy=>?_⟩
  ·by_cases g:t<L.length
   ·show(if k<L.length then a k else a i+1)<=(if t<L.length then a t else a i+1);rw[QY (show k<L.length by omega),QY g];exact h1 k t z g
   ·show(if k<L.length then a k else a i+1)<=(if t<L.length then a t else a i+1);rw[QZ g];split
    ·rename_i hk;exact v k hk d
    ·exact Rc _
  ·show Rn nx (if k<L.length then a k else a i+1) s x;split
   ·rename_i b;rw[Q9 b]at hk;exact h2 k x hk
   ·rename_i b;exact .snoc (h2 i _ hx) (r k (by omega) x hk)
  ·show(if k<L.length then a k else a i+1)<=(if i+1<L.length then a (i+1) else a i+1)+1;have p:(if k<L.length then a k else a i+1)<=a i+1:=by
    split
    ·rename_i hk;exact v k hk d
    ·exact Rc _
   by_cases h:i+1<L.length
   ·rw[QY h];have:=h1 i (i+1) (by omega) h;omega
   ·rw[QZ h];omega
  ·have b:k<L.length:=by omega
   rw[Q9 b]at c;by_cases p:k=i
   ·subst p;rw[hx]at c;injection c with c;have e:y∈L++m:=by rw[<-hm];exact ug _ (by rw[c];exact hy)
    obtain⟨t,g⟩:=Rv e;refine⟨t,g,?_⟩;show(if t<L.length then a t else a k+1)<=(if k<L.length then a k else a k+1)+1;rw[QY b];split
    ·rename_i h;exact v t h d
    ·exact Rc _
   ·obtain⟨t,g,hle⟩:=B k x (by omega) c y hy;have l:=(QT.1 g).1;refine⟨t,by rw[Q9 l];exact g,?_⟩;show(if t<L.length then a t else a i+1)<=(if k<L.length then a k else a i+1)+1;rw[QY l,QY b];exact hle
theorem Hx{i W B:Nat}(b:∀j,j<i->j<(cR nx s j).length)(g:i<(cR nx s i).length)(p:∀l:List X,l.Nodup->(∀x∈l,∃k,k<=W/\Rn nx k s x)->l.length<=B)(hi:B<=i):∀(j:Nat) (x:X),j<=W->Rn nx j s x->∃k,k<i/\(cR nx s i)[k]? =some x:=by
 obtain⟨e,h1,h2,r,h0,o⟩:=yg i b;have c:∀k,i<=k->k<(cR nx s i).length->W<e k:=λk u hk=>by
  apply Q4;intro hle;have:=p ((cR nx s i).take (k+1)) ((kj i).sublist (List.take_sublist _ _)) λx hx=>by
   obtain⟨t,d⟩:=Rv hx;rw[RV]at d;split at d
   ·rename_i v;exact⟨e t,by have:=h1 t k (by omega) hk;omega,h2 t x d⟩
   ·cases d
  rw[Sg]at this;omega
 have key:∀(j:Nat) (x:X),Rn nx j s x->j<=W->∃k,(cR nx s i)[k]? =some x/\e k<=j:=λj x h=>by
  induction h with
  |nil s=>
   intro _;refine⟨0,?_,by omega⟩;have:(cR nx s 0)[0]? =some s:=by simp[cR]
   exact oo this (RQ _)
  | @snoc j s y z _ w A=>
   intro q;obtain⟨k,a,m⟩:=A b g p h1 h2 r o c (by omega);have n:k<i:=by
    apply Q4;intro f;have:=c k (by omega) (QT.1 a).1;omega
   obtain⟨t,d,hle⟩:=o k y n a z w;exact⟨t,d,by omega⟩
 intro j x q hr;obtain⟨k,a,m⟩:=key j x hr q;refine⟨k,?_,a⟩;apply Q4;intro f;have:=c k (by omega) (QT.1 a).1;omega
end
section
variable {T:ak} {tb:Nat->cQ} {p0:dq} {Ψ:Nat->List bG->Prop}
instance:DecidableEq Xs:=inferInstance
def G1(q:Sq):Xs:=(q.n,q.s)
abbrev vM(T:ak)(tb:Nat->cQ)(p0:dq)(Ψ:Nat->List bG->Prop):=pP T tb p0 λ_=>Ψ
def Px(T:ak)(tb:Nat->cQ)(p0:dq)(Ψ:Nat->List bG->Prop)(tbs:List cQ)(n:Nat)(s:List bG)(r:PV)(σ':ca):Prop:=
 ∃(b:Bool) (i:Nat) (L:List Sq) (j:Nat) (rest:ca),r= .tuple [.ptr 0 0,flag b]/\σ'=GP T tbs j rest/\rest[j]? =some (fB p0 L)/\vM T tb p0 Ψ L i i/\At L 0 n s/\L.map G1=cR (dw T tb p0) (n,s) i/\(∀j,j<i->j<(cR (dw T tb p0) (n,s) j).length)/\((i=L.length/\i<=20001)\/(i=20001/\i<L.length))
theorem Kb{L L':List Sq}{i n:Nat}{s}(a:At L' i n s)(h:L'=L\/L'=L++[qN n s]/\∀k,¬At L k n s):L'.map G1=jW (L.map G1) (n,s):=by
 unfold jW;rcases h with rfl|⟨rfl,b⟩
 ·obtain⟨q,h1,h2,f⟩:=a;rw[QY (RB.2 ⟨q,Ro h1,by unfold G1;rw[h2,f]⟩)]
 ·rw[QZ λhm=>?_,Sm]
  ·rfl
  ·obtain⟨q,g,e⟩:=RB.1 hm;obtain⟨k,hk⟩:=Rv g;injection e with c d;exact b k ⟨q,hk,c,d⟩
theorem ts{L:List Sq}{i:Nat}{q q':Sq}(h:L[i]? =some q)(h1:q'.n=q.n)(h2:q'.s=q.s):(L.set i q').map G1=L.map G1:=by
 apply Sp;intro k;rw[RE,RE,Rh];by_cases hk:i=k
 ·subst hk;rw[QY rfl,QY (QT.1 h).1,h];show some (q'.n,q'.s)=some (q.n,q.s);rw[h1,h2]
 ·rw[QZ hk]
theorem GB{α:Type}{l:List α}{k:Nat}{a}(h:l[k]? =some a):l.take (k+1)=l.take k++[a]:=by rw[SN,h];rfl
abbrev sR(js:List Int):Option cX:=some (.row 3 1 js.length (aU js))
structure Qa (T:ak) (tb:Nat->cQ) (p0:dq) (Ψ:Nat->List bG->Prop) (L:List Sq) (j:Nat) (rest:ca) (i n:Nat) (s:List bG) (nb jr:Nat) (k:Nat) (js:List Int) (n0:Nat) (s0:List bG):Prop where
 row:rest[j]? =some (fB p0 L)
 Qe:At L 0 n0 s0
 ex:vM T tb p0 Ψ L i (i+1)
 bf:L.map G1=((dw T tb p0 (n,s)).take k).foldl jW (cR (dw T tb p0) (n0,s0) i)
 at_:L[i]? =some ⟨n,s,aq (bh T tb p0 n s).aA,.own (jr+1),(bh T tb p0 n s).dJ,0,0⟩
 PQ:rest[nb]? =some (some (cX.cells 44 (cY (bh T tb p0 n s).eJ)))
 Pq:rest[jr]? =some (sR js)
 OJ:j≠jr
 Qk:nb≠jr
 PR:nb≠j
 lj:js.length=k
 hd:∀(m:Nat) a,m<k->(bh T tb p0 n s).aA[m]? =some a->∃jm:Nat,js[m]? =some (jm:Int)/\At L jm (aN T a.toNat).toNat (bh T tb p0 n s).eJ.stack
theorem IT(xs:List PV)(k:Nat)(p:PV)(h:k<xs.length):over xs k [p]=xs.set k p:=by
 unfold over;rw[SV,QY h]
 rfl
theorem xT{tbs}{j:Nat}{rest:ca}{L:List Sq}{i:Nat}{q b}(c:Nat)(h:L[i]? =some q)(hc:c<12){v}(hb:mf p0 b=(mf p0 q).set c v):
  (GP T tbs j rest).set (j+1) (some ((cX.row 85 12 L.length (gz p0 L)).sC (over (gz p0 L) (i*12+c) [v])))=GP T tbs j (rest.set j (fB p0 (L.set i b))):=by
 have a:=(QT.1 h).1;rw[IT _ _ _ (by rw[qO];omega),zi c h hc hb];unfold GP fB;rw[Ry]
 rfl
theorem Ad(R:vQ T tb p0 Ψ)(hv:av T=true)(cS:T.nodes<=12){U:List (Nat×List bG)}(hU:∀ {n s},Ψ n s->(n,s)∈U)(bu:U.length<=100000000)(tbs:List cQ)(bj:∀n:Nat,(n:Int)<T.nodes->tbs[n]? =some (tb n))
  {n:Nat} {p:dq} (bl:Ψ n p.stack) (hp:cu p p.stack=cu p0 p.stack):
  bM prog 57 [aL T,dP tbs,dI p,num n] [] (Px T tb p0 Ψ tbs n p.stack):=by
 refine cF func57 I ntmps57 I<|ab (.a 4 I<|.k [1,3,4,6] I)<|aK<|au 3 I<|cb (fV I I I) I<|au 1 I<|aE [1,3,4,6,10] I ?_;refine cm 0 4 85 12 I I<|eO (σ':=GP T tbs 0 [fB p0 []]) I ?_;refine aK<|au 3 I<|cD I I (RT (AV T p0 tbs [] (by simp) 0 [fB p0 []] I n p hp) (λy σ' h=>?_));obtain⟨i0,L0,j0,rest0,rfl,rfl,az,_,_,l,Z⟩:=h;refine aE [1,4,10] I ?_;obtain⟨rfl,rfl⟩:L0=[qN n p.stack]/\i0=0:=by
  obtain⟨q,h1,_⟩:=l;have:=(QT.1 h1).1;rcases Z with rfl|⟨rfl,_⟩
  ·simp at this
  ·exact⟨rfl,by simp at this;exact this⟩
 have ah:vM T tb p0 Ψ [qN n p.stack] 0 0:=pP.add (L:=[]) (u:=0) ⟨λk q h=>by simp at h,λk k' n s ⟨q,h,_⟩=>by simp at h,λk q _ h=>by simp at h,λk q _ h=>by simp at h⟩ (by simp) bl Z;refine ai<|ab (.a 1 I<|.k [1,4,10,11] I)<|aw<|eF [1,4,10,11] I<|bd (λr st=>∃(i:Nat) (L:List Sq) (j:Nat) (rest:ca),i<=L.length/\r=U.length - i/\rest[j]? =some (fB p0 L)/\vM T tb p0 Ψ L i i/\At L 0 n p.stack/\L.map G1=cR (dw T tb p0) (n,p.stack) i/\(∀j,j<i->j<(cR (dw T tb p0) (n,p.stack) j).length)/\i<=20001/\st=⟨[(1,dP tbs),(4,.bq (bn T) 0),(10,.ptr 0 0),(11,num i)],GP T tbs j rest⟩) U.length ⟨0,_,j0,rest0,by simp,by omega,az,ah,l,rfl,λj E=>absurd E (SK j),by omega,rfl⟩ ?_;clear az ah l Z;rintro r st ⟨i,L,j,rest,hi,rfl,E,Y,l,D,C,ay,rfl⟩;have bp:=Y.Nt (λh=>hU h);refine ai<|ab (.a 4 I<|.v (aY I (Q6 I) I I I) I<|.v (qW I (RP I) I E) I<|.a 1 I<|.k [1,4,10,11,32] I)<|ae I (λhc=>?_) (λhc=>?_)
 ·have g:i<L.length:=by have:=tt hc;omega
  obtain⟨q,K⟩:∃q,L[i]? =some q:=⟨_,QX g⟩;have aO:=Y.nw i q (Rc _) K;obtain⟨u1,w⟩:=Y.st i q K;obtain⟨m,s,rfl⟩:∃m s,q=qN m s:=⟨_,_,aO⟩;replace w:Ψ m s:=w;have bf:=R.node w;obtain⟨bE,aQ⟩:=R.small w;have ag:=bj m bf;refine aj<|ai<|aw<|ai<|ab (.a 2 I<|.k [1,4,10,11,36] I)<|ae I (λh=>?_) (λh=>?_)
  ·have h:=tt h;exact ab (.a 3 I<|.k [8,9] I)<|ao<|⟨_,RY I,false,i,L,j,rest,rfl,rfl,E,Y,l,D,C,.inr ⟨by omega,g⟩⟩
  ·have bt:=ff h;refine aj<|aK<|au 3 I ?_;refine bm (aY I (Q6 I) I I I) I<|au 1 I ?_;refine bm (cj (i:=(i:Int)) I (RP I) I E rfl (by omega) (by omega) I) I<|bm (ee I (Q6 I) I E (Bm K) I) I ?_;refine cb (Tb (oC I (bw.zk.get I)) (p':=.ptr (rest.length+1) 0) (σ'':=GP T tbs j (rest++[some (cX.cells 85 [num 0,num 0,num 0,num 0,num 0,.raw (.slice none 0 0),num 0,.raw (.slice none 0 0),.raw (.slice none 0 0),num 0,num 0,num 0])])) I I) I<|bc (Tb (σ:=GP T tbs j (rest++[some (cX.cells 85 [num 0,num 0,num 0,num 0,num 0,.raw (.slice none 0 0),num 0,.raw (.slice none 0 0),.raw (.slice none 0 0),num 0,num 0,num 0])])) (oD (i:=rest.length+1) (off:=0) (ys:=mf p0 (qN m s)) I (Q6 I) I I I I (show(rest++[some (cX.cells 85 [num 0,num 0,num 0,num 0,num 0,.raw (.slice none 0 0),num 0,.raw (.slice none 0 0),.raw (.slice none 0 0),num 0,num 0,num 0])])[rest.length]? =_ from dT rfl) (Re rfl)) (σ'':=GP T tbs j (rest++[some (cX.cells 85 (mf p0 (qN m s)))])) I (by simp[GP];rfl)) I I ?_;refine aE [1,4,10,11,12] I ?_;have⟨r1,G⟩:=QQ (rest++[some (cX.cells 85 (mf p0 (qN m s)))]);have l1:r1.length=rest.length+1:=by rw[<-G];simp
   have b1:r1[rest.length]? =some (some (cX.cells 85 (mf p0 (qN m s)))):=G▸dT rfl;have j1:r1[j]? =some (fB p0 L):=G▸b7 E;rw[G];refine sc (rest.length+1) (show(GP T tbs j r1)[rest.length+1]? =_ from b1) (J3 b1) (.cons 1 I (.same _)<|.cons 4 I (.same _)<|.cons 10 I (.same _)<|.cons 11 I (.same _)<|.cons 12 I (.ptr 0) .nil) ?_;have bB:j<rest.length:=(QT.1 E).1;have⟨x,Q⟩:=QQ (r1.set rest.length none);have l2:x.length=rest.length+1:=by rw[<-Q];simp[l1]
   have j2:x[j]? =some (fB p0 L):=Q▸aT j1 (by omega);rw[Q];clear Q j1 b1 l1 G r1;have hO:fX T (tb m) (cu p0 s)=bh T tb p0 m s:=rfl;have ad:=R.step w;have aH:=λh=>Ph.eJ R w h;have⟨O,d⟩:=QQ (bh T tb p0 m s);rw[d]at hO ad aH;have bH:=(QT.1 ag).1;have bx:O.aA.length<=1000:=by
    rcases ad with h|⟨h,_⟩
    ·rw[h];simp
    ·exact h
   refine xZ 20 2 (GP T tbs j x::GP T tbs j (x++[some (cX.cells 44 [num 0,num 0,num 0,num 0,.raw (.slice none 0 0),num 0])])::GP T tbs j (x++[some (cX.cells 44 (cY O.eJ))])::[]) (⟨aL T,none,0,1⟩::⟨_,none,0,1⟩::⟨_,none,0,1⟩::⟨num m,none,0,1⟩::⟨_,none,0,1⟩::⟨dW (tb m),none,0,1⟩::⟨_,none,0,1⟩::⟨dI (cu p0 s),none,0,1⟩::⟨yV O,none,0,1⟩::⟨yV O,none,0,1⟩::⟨aq O.aA,none,0,1⟩::⟨dI O.eJ,none,0,1⟩::⟨num O.dJ,none,0,2⟩::⟨.ptr (rest.length+2) 0,some 0,0,0⟩::⟨_,none,1,1⟩::⟨_,some 1,0,0⟩::⟨_,none,2,2⟩::[]) _ mixed ?grd6 rfl rfl rfl rfl (.cons (.val [4] I I (yz (cg (bb I) (cg (bb I) dF))) I I)<|.cons (.val [1] I I (yz (cg (bb I) (cg (bb I) dF))) I I)<|.cons (.val [12] I I (yz (cg (bb I) (cg (bb I) dF))) I I)<|.cons (.val [48] I I (yz (cg (bb I) (cg (bb I) dF))) I I)<|.cons (.val [47,49] I I (yz (cg (aM ((m*3)) I) (cg (aM ((m*3)) I) dF))) I I)<|.cons (.val [50] I I (yz (cg (gj I (mh tbs m (tb m) ag) I) (cg (gj I (mh tbs m (tb m) ag) I) dF))) I I)<|.cons (.val [12] I I (yz (cg (bb I) (cg (bb I) dF))) I I)<|.cons (.val [52] I I (yz (cg (gj I ((rfl:((mf p0 (qN m s)).drop 1).take 6=cY (cu p0 s))) I) (cg (gj I ((rfl:((mf p0 (qN m s)).drop 1).take 6=cY (cu p0 s))) I) dF))) I I)<|.cons (.val [46,51,53] I I (yz (cg (dX I (hO▸xz T (tb m) (cu p0 s) aQ)) (cg (dX I (hO▸xz T (tb m) (cu p0 s) aQ)) dF))) I I)<|.cons (.val [54] I I (yz (cg (bb I) (cg (bb I) dF))) I I)<|.cons (.val [45] I I (yz (cg (bb I) (cg (bb I) dF))) I I)<|.cons (.val [45] I I (yz (cg (bb I) (cg (bb I) dF))) I I)<|.cons (.val [45] I I (yz (cg (bb I) (cg (bb I) (cg (bb I) dF)))) I I)<|.cons (.rF [] I I I I (Tb (σ:=GP T tbs j x) (oC I (bw.zk.get I)) (p':=.ptr (rest.length+2) 0) (σ'':=GP T tbs j (x++[some (cX.cells 44 [num 0,num 0,num 0,num 0,.raw (.slice none 0 0),num 0])])) (by simp[GP,l2]) I) I I)<|.cons (.val [55] I I (yz (cg (bb I) dF)) I I)<|.cons (.mU [14,56] I I I I (Tb (σ:=GP T tbs j (x++[some (cX.cells 44 [num 0,num 0,num 0,num 0,.raw (.slice none 0 0),num 0])])) (oD (i:=rest.length+2) (off:=0) (ys:=cY O.eJ) I (Q6 I) I I I I (show(x++[some (cX.cells 44 [num 0,num 0,num 0,num 0,.raw (.slice none 0 0),num 0])])[rest.length+1]? =_ from dT l2) (Re rfl)) (σ'':=GP T tbs j (x++[some (cX.cells 44 (cY O.eJ))])) I (by rw[show rest.length+2=x.length+1 by omega];simp[GP];rfl)) I)<|.cons (.val [57] I I (yz (cg (bb I) dF)) I I) .nil) (aR (ks:=[1,4,10,11,13,14,15]) I) ?_
   case grd6=>kernel_rfl
   have⟨A,H⟩:=QQ (x++[some (cX.cells 44 (cY O.eJ))]);have l3:A.length=rest.length+2:=by rw[<-H];simp[l2]
   have j3:A[j]? =some (fB p0 L):=H▸b7 j2;have n3:A[rest.length+1]? =some (some (cX.cells 44 (cY O.eJ))):=H▸dT l2;rw[H];clear H j2 l2 x;have aX:i*12+12<=(gz p0 L).length:=by rw[qO];omega
   have f:(L.set i ⟨m,s,aq O.aA,.raw (.slice none 0 0),0,0,0⟩)[i]? =some ⟨m,s,aq O.aA,.raw (.slice none 0 0),0,0,0⟩:=bA K;refine xZ 20 2 (GP T tbs j A::GP T tbs j (A.set j (fB p0 (L.set i ⟨m,s,aq O.aA,.raw (.slice none 0 0),0,0,0⟩)))::GP T tbs j ((A.set j (fB p0 (L.set i ⟨m,s,aq O.aA,.raw (.slice none 0 0),0,0,0⟩))).set j (fB p0 ((L.set i ⟨m,s,aq O.aA,.raw (.slice none 0 0),0,0,0⟩).set i ⟨m,s,aq O.aA,.raw (.slice none 0 0),O.dJ,0,0⟩)))::[]) (⟨_,none,0,0⟩::⟨_,none,0,0⟩::⟨_,none,0,0⟩::⟨.own (j+1),none,0,0⟩::⟨_,none,0,0⟩::⟨_,none,0,0⟩::⟨_,none,0,0⟩::⟨_,none,0,0⟩::⟨.own (j+1),none,0,0⟩::⟨_,none,0,1⟩::⟨_,none,0,0⟩::⟨_,none,0,1⟩::⟨.ptr (j+1) (i*12),none,0,0⟩::⟨_,none,0,0⟩::⟨_,some 0,0,0⟩::⟨.ptr (j+1) (i*12),none,1,1⟩::⟨_,none,1,1⟩::⟨_,some 1,0,0⟩::[]) _ mixed ?grd7 rfl rfl rfl rfl (.cons (.val [10] I I (yz (cg (bb I) dF)) I I)<|.cons (.val [58] I I (yz (cg (bb I) dF)) I I)<|.cons (.val [59] I I (yz (cg (bb I) dF)) I I)<|.cons (.val [60] I I (yz (cg (aY I (Q6 I) I I I) dF)) I I)<|.cons (.val [11] I I (yz (cg (bb I) dF)) I I)<|.cons (.val [10] I I (yz (cg (bb I) dF)) I I)<|.cons (.val [63] I I (yz (cg (bb I) dF)) I I)<|.cons (.val [64] I I (yz (cg (bb I) dF)) I I)<|.cons (.val [65] I I (yz (cg (aY I (Q6 I) I I I) dF)) I I)<|.cons (.val [11] I I (yz (cg (bb I) (cg (bb I) dF))) I I)<|.cons (.val [13] I I (yz (cg (bb I) dF)) I I)<|.cons (.val [15] I I (yz (cg (bb I) (cg (bb I) dF))) I I)<|.cons (.val [61,62] I I (yz (cg (cj I (RP I) I j3 rfl (by omega) (by omega) I) dF)) I I)<|.cons (.val [70] I I (yz (cg (bb I) dF)) I I)<|.cons (.mU [68,71] I I I I (Tb (σ:=GP T tbs j A) (b9 I (Q6 I) I I j3 (show i*12+7<(gz p0 L).length by omega)) (σ'':=GP T tbs j (A.set j (fB p0 (L.set i ⟨m,s,aq O.aA,.raw (.slice none 0 0),0,0,0⟩)))) I (xT 7 K (by omega) I)) I)<|.cons (.val [66,67] I I (yz (cg (cj I (RP I) I (bA j3) I (by omega) (by rw[Ry];omega) I) dF)) I I)<|.cons (.val [72] I I (yz (cg (bb I) dF)) I I)<|.cons (.mU [69,73] I I I I (Tb (σ:=GP T tbs j (A.set j (fB p0 (L.set i ⟨m,s,aq O.aA,.raw (.slice none 0 0),0,0,0⟩)))) (b9 I (Q6 I) I I (bA j3) (show i*12+9<(gz p0 (L.set i _)).length by rw[qO,Ry];omega)) (σ'':=GP T tbs j ((A.set j (fB p0 (L.set i ⟨m,s,aq O.aA,.raw (.slice none 0 0),0,0,0⟩))).set j (fB p0 ((L.set i ⟨m,s,aq O.aA,.raw (.slice none 0 0),0,0,0⟩).set i ⟨m,s,aq O.aA,.raw (.slice none 0 0),O.dJ,0,0⟩)))) I (xT 9 f (by omega) I)) I) .nil) (aR (ks:=[1,4,10,11,13,14]) I) ?_
   case grd7=>kernel_rfl
   rw[TK,TK];have⟨B,o⟩:=QQ (L.set i (⟨m,s,aq O.aA,.raw (.slice none 0 0),O.dJ,0,0⟩:Sq));have al:vM T tb p0 Ψ B i (i+1):=by rw[<-o];exact Y.put (by omega) K rfl rfl
   have W:At B 0 n p.stack:=by rw[<-o];exact l.up K rfl rfl
   have t:B[i]? =some ⟨m,s,aq O.aA,.raw (.slice none 0 0),O.dJ,0,0⟩:=o▸bA K;have bJ:B.length=L.length:=by rw[<-o];simp
   have ax:B.map G1=cR (dw T tb p0) (n,p.stack) i:=by rw[<-o];exact(ts K (by rfl) (by rfl)).trans D
   rw[o];have⟨S,J⟩:=QQ (A.set j (fB p0 B));have l5:S.length=rest.length+2:=by rw[<-J];simp[l3]
   have j5:S[j]? =some (fB p0 B):=J▸bA j3;have n5:S[rest.length+1]? =some (some (cX.cells 44 (cY O.eJ))):=J▸aT n3 (by omega);rw[J];clear J j3 n3 l3 A o f aX E Y l;refine tE (j+1) (i*12+8) 3 1 (show(GP T tbs j S)[j+1]? =_ from j5) (eD 8 t (by omega) I)<|eO (σ':=GP T tbs j ((S++[sR []]).set j (fB p0 (B.set i ⟨m,s,aq O.aA,.own (rest.length+2+1),O.dJ,0,0⟩)))) (by rw[show(GP T tbs j S).length=rest.length+2+1 by simp[GP,l5],zi (p0:=p0) (b:=⟨m,s,aq O.aA,.own (rest.length+2+1),O.dJ,0,0⟩) (v:=.own (rest.length+2+1)) 8 t (by omega) I];unfold GP fB;rw[Ry];rfl) ?_;have hX:Qa T tb p0 Ψ (B.set i ⟨m,s,aq O.aA,.own (rest.length+2+1),O.dJ,0,0⟩) j ((S++[sR []]).set j (fB p0 (B.set i ⟨m,s,aq O.aA,.own (rest.length+2+1),O.dJ,0,0⟩))) i m s (rest.length+1) (rest.length+2) 0 [] n p.stack:=by
    refine⟨bA (b7 j5),W.up t rfl rfl,al.put (by omega) t rfl rfl,(ts t (by rfl) (by rfl)).trans ax,by rw[d];exact bA t,by rw[d];exact aT (b7 n5) (by omega),aT (dT l5) (by omega),by omega,by omega,by omega,rfl,λz a hz=>absurd hz (by omega)⟩
   have⟨L3,an⟩:=QQ (B.set i (⟨m,s,aq O.aA,.own (rest.length+2+1),O.dJ,0,0⟩:Sq));rw[an]at hX ⊢;have⟨r6,aP⟩:=QQ ((S++[sR []]).set j (fB p0 L3));rw[aP]at hX ⊢;clear aP an t j5 n5 l5 S al W aO;refine ab (.a 1 I<|.k [1,4,10,11,13,14,16] I)<|aw<|eF [1,4,10,11,13,14,16] I<|bd (λr st=>∃(k:Nat) (L:List Sq) (j:Nat) (re:ca) (jr:Nat) (js:List Int),k<=O.aA.length/\r=O.aA.length - k/\Qa T tb p0 Ψ L j re i m s (rest.length+1) jr k js n p.stack/\st=⟨[(1,dP tbs),(4,.bq (bn T) 0),(10,.ptr 0 0),(11,num i),(13,aq O.aA),(14,.ptr (rest.length+2) 0),(16,num k)],GP T tbs j re⟩) O.aA.length ⟨0,L3,j,r6,rest.length+2,[],by omega,by omega,hX,rfl⟩ ?_;clear hX;rintro r st ⟨k,L4,j4,r4,jr,js,hk,rfl,X,rfl⟩;have aZ:=X.ex.Nt (λh=>hU h);refine ai<|ab (.a 4 I<|.k [1,4,10,11,13,14,16,77] I)<|ae I (λhc=>?_) (λhc=>?_)
   ·have g:k<O.aA.length:=by have:=tt hc;omega
    have aG:O.aA≠[]:=λh=>by rw[h]at g;simp at g
    have aD:O.aA.getD k 0∈O.aA:=by rw[QU,QX g];exact TF g
    obtain⟨b,m2,aa,hb,af,aS⟩:∃b m2:Nat,O.aA.getD k 0=(b:Int)/\b<2*T.ah.length/\aN T b=(m2:Int)/\Ψ m2 O.eJ.stack:=by
     rcases ad with h|⟨_,_,h⟩
     ·exact absurd h aG
     ·exact h _ aD
    have bD:=bO hv;refine aj<|ai<|aw<|MB 8 20 [80,81,82,83,84,85,86,87] mixed (by kernel_rfl) (by kernel_rfl) (by kernel_rfl) I (.a 4 I<|.v [82,83] (aM (k) I) I I<|.v [84] (aJ I ((aB _ k g).trans (by rw[aa]))) I I<|.v [81,85] (dX I ((show Can prog 94 [aL T,num b] (· =num m2) by have h:=gY T hv b hb;rw[af]at h;exact h))) I I<|.v [14] (cC (σ:=GP T tbs j4 r4) I (Q6 I) I (X.PQ.trans (by rw[d])) I) I I<|.k [1,4,10,11,13,14,16,80,86,87] I) ?_;refine cD I I (RT (AV T p0 tbs L4 (by omega) j4 r4 X.row m2 O.eJ (aH aG)) (λy σ' h=>?_));obtain⟨M,N,j1,c,rfl,rfl,a1,k1,bz,V,P⟩:=h;refine au 1 I<|aE [1,4,10,11,13,14,16,17] I ?_;have aV:vM T tb p0 Ψ N i (i+1):=X.ex.add (u:=0) (by have:=(QT.1 X.at_).1;omega) aS P;have ar:N.map G1=((dw T tb p0 (m,s)).take (k+1)).foldl jW (cR (dw T tb p0) (n,p.stack) i):=by
     have bg:(dw T tb p0 (m,s))[k]? =some (m2,O.eJ.stack):=by
      unfold dw DV;show((bh T tb p0 m s).aA.map _)[k]? =_;rw[d,RE,QX g];have e1:O.aA[k]=(b:Int):=by rw[<-aa,QU,QX g];rfl
      show some ((aN T (O.aA[k]).toNat).toNat,O.eJ.stack)=_;rw[e1,QS,af,QS]
     rw[Kb V P,X.bf,GB bg,TN]
     rfl
    have F:∀k n s,At L4 k n s->At N k n s:=λk n s h=>by
     rcases P with rfl|⟨rfl,_⟩
     ·exact h
     ·exact h.app
    have f:N[i]? =some ⟨m,s,aq O.aA,.own (jr+1),O.dJ,0,0⟩:=by
     have h0:=X.at_;rw[d]at h0;rcases P with rfl|⟨rfl,_⟩
     ·exact h0
     ·exact b7 h0
    have lj:=X.lj;have OJ:=X.OJ;have Qk:=X.Qk;have PR:=X.PR;have aA:=(QT.1 X.Pq).1;have aF:=(QT.1 X.PQ).1;have bC:=k1.len;have bo:c[rest.length+1]? =some (some (cX.cells 44 (cY O.eJ))):=(k1.same _ aF PR).trans (X.PQ.trans (by rw[d]));have PM:c[jr]? =some (sR js):=(k1.same _ aA (Ne.symm OJ)).trans X.Pq;have br:j1≠jr:=by omega
    have bs:rest.length+1≠j1:=by omega
    have bq:=(QT.1 f).1;have a2:(c.set jr none++[sR (js++[(M:Int)])])[j1]? =some (fB p0 N):=b7 (aT a1 (by omega));refine wg 20 2 (GP T tbs j1 c::GP T tbs j1 (c.set jr none++[sR (js++[(M:Int)])])::GP T tbs j1 ((c.set jr none++[sR (js++[(M:Int)])]).set j1 (fB p0 (N.set i ⟨m,s,aq O.aA,.own (c.length+1),O.dJ,0,0⟩)))::[]) (⟨_,none,0,1⟩::⟨_,none,0,1⟩::⟨_,none,0,1⟩::⟨.own (j1+1),none,0,1⟩::⟨_,none,0,1⟩::⟨_,none,0,0⟩::⟨_,none,0,0⟩::⟨_,none,0,0⟩::⟨.own (j1+1),none,0,0⟩::⟨_,none,0,0⟩::⟨.ptr (j1+1) (i*12),none,0,0⟩::⟨_,none,0,0⟩::⟨.own (jr+1),none,0,0⟩::⟨_,none,0,0⟩::⟨.slice 1 [num (M:Int)],none,0,0⟩::⟨.own (c.length+1),some 0,0,0⟩::⟨.ptr (j1+1) (i*12),none,1,1⟩::⟨_,none,1,1⟩::⟨_,some 1,0,0⟩::[]) _ mixed ?grd8 rfl rfl rfl rfl (.cons (.val [10] I I (yz (cg (bb I) (cg (bb I) dF))) I I)<|.cons (.val [89] I I (yz (cg (bb I) (cg (bb I) dF))) I I)<|.cons (.val [90] I I (yz (cg (bb I) (cg (bb I) dF))) I I)<|.cons (.val [91] I I (yz (cg (aY I (Q6 I) I I I) (cg (aY I (Q6 I) I I I) dF))) I I)<|.cons (.val [11] I I (yz (cg (bb I) (cg (bb I) dF))) I I)<|.cons (.val [10] I I (yz (cg (bb I) dF)) I I)<|.cons (.val [94] I I (yz (cg (bb I) dF)) I I)<|.cons (.val [95] I I (yz (cg (bb I) dF)) I I)<|.cons (.val [96] I I (yz (cg (aY I (Q6 I) I I I) dF)) I I)<|.cons (.val [11] I I (yz (cg (bb I) dF)) I I)<|.cons (.val [97,98] I I (yz (cg (cj I (RP I) I a1 rfl (by omega) (by omega) I) dF)) I I)<|.cons (.val [99] I I (yz (cg (bb I) dF)) I I)<|.cons (.val [100] I I (yz (cg (aY I (Q6 I) I a1 (eD 8 f (by omega) I)) dF)) I I)<|.cons (.val [17] I I (yz (cg (bb I) dF)) I I)<|.cons (.val [102] I I (yz (cg (bb I) dF)) I I)<|.cons (.rF [101,103] I I I I (Tb (σ:=GP T tbs j1 c) (bF (e:=3) (s:=1) (by':=8) (i:=jr+1) (m:=1) (n:=js.length) (xs:=aU js) (ys:=[num (M:Int)]) I (Ru I) I PM rfl rfl ⟨by unfold maxLen;omega,by omega⟩) (p':=.own (c.length+1)) (σ'':=GP T tbs j1 (c.set jr none++[sR (js++[(M:Int)])])) I (by unfold sR;rw[Q0];simp[aU,GP])) I I)<|.cons (.val [92,93] I I (yz (cg (cj I (RP I) I a2 rfl (by omega) (by omega) I) dF)) I I)<|.cons (.val [105] I I (yz (cg (bb I) dF)) I I)<|.cons (.mU [104,106] I I I I (Tb (σ:=GP T tbs j1 (c.set jr none++[sR (js++[(M:Int)])])) (b9 I (Q6 I) I I a2 (show i*12+8<(gz p0 N).length by rw[qO];omega)) (σ'':=GP T tbs j1 ((c.set jr none++[sR (js++[(M:Int)])]).set j1 (fB p0 (N.set i ⟨m,s,aq O.aA,.own (c.length+1),O.dJ,0,0⟩)))) I (xT 8 f (by omega) I)) I) .nil) (aR (ks:=[1,4,10,11,13,14,16]) I) ?_
    case grd8=>kernel_rfl
    refine aC (.a 1 I<|.v (aW I) I<|.a 1 I<|.k [1,4,10,11,13,14,16] I)<|⟨O.aA.length - (k+1),by omega,k+1,N.set i ⟨m,s,aq O.aA,.own (c.length+1),O.dJ,0,0⟩,j1,_,c.length,js++[(M:Int)],by omega,rfl,⟨bA a2,(F _ _ _ X.Qe).up f rfl rfl,aV.put (by omega) f rfl rfl,(ts f (by rfl) (by rfl)).trans ar,by rw[d];exact bA (a:=(⟨m,s,aq O.aA,.own (c.length+1),O.dJ,0,0⟩:Sq)) f,by rw[d];exact aT (b7 (aT bo (by omega))) (by omega),aT (dT (by simp)) (by have:=(QT.1 a1).1;omega),by have:=(QT.1 a1).1;omega,by omega,by omega,by simp[lj],λz a hz ha=>?_⟩,rfl⟩;by_cases bk:z<k
    ·obtain⟨jm,g1,g2⟩:=X.hd z a bk ha;exact⟨jm,b7 g1,(F _ _ _ g2).up f rfl rfl⟩
    ·obtain rfl:z=k:=by omega
     rw[d]at ha ⊢;have e1:a=(b:Int):=by rw[<-aa,QU,ha];rfl
     refine⟨M,dT lj,At.up ?_ f rfl rfl⟩;rw[e1,QS,af,QS];exact V
   ·have a8:k=O.aA.length:=by have:=ff hc;omega
    refine sc (jr+1) (show(GP T tbs j4 r4)[jr+1]? =_ from X.Pq) (J4 (q':=⟨m,s,(aq (bh T tb p0 m s).aA),aq js,(bh T tb p0 m s).dJ,0,0⟩) X.OJ X.Pq X.row X.at_ rfl .own) (.cons 1 I (.same _)<|.cons 4 I (.same _)<|.cons 10 I (.same _)<|.cons 11 I (.same _) .nil)<|ba<|aC (.a 1 I<|.v (aW I) I<|.a 1 I<|.k [1,4,10,11] I) ?_;subst a8;refine⟨U.length - (i+1),by omega,i+1,L4.set i ⟨m,s,(aq (bh T tb p0 m s).aA),aq js,(bh T tb p0 m s).dJ,0,0⟩,j4,(r4.set jr none).set j4 (fB p0 (L4.set i ⟨m,s,(aq (bh T tb p0 m s).aA),aq js,(bh T tb p0 m s).dJ,0,0⟩)),by have:=(QT.1 X.at_).1;rw[Ry];omega,rfl,bA (aT X.row (Ne.symm X.OJ)),pP.next (X.ex.put (by omega) X.at_ rfl rfl) (bA X.at_) ⟨js,rfl,by rw[X.lj,d],λz a ha=>?_⟩,X.Qe.up X.at_ rfl rfl,?_,λj E=>?_,by omega,rfl⟩
    ·have hz:z<O.aA.length:=by rw[<-d];exact(QT.1 ha).1
     obtain⟨jm,g1,g2⟩:=X.hd z a hz ha;exact⟨jm,g1,g2.up X.at_ rfl rfl⟩
    ·refine(ts X.at_ (by rfl) (by rfl)).trans ?_;rw[X.bf,SJ (by unfold dw DV;rw[RN];show(bh T tb p0 m s).aA.length<=_;rw[d];exact Rc _)];show _=(dw T tb p0 ((cR (dw T tb p0) (n,p.stack) i).getD i (n,p.stack))).foldl jW (cR (dw T tb p0) (n,p.stack) i);rw[<-D,QU,RE,K]
     rfl
    ·by_cases a7:j<i
     ·exact C j a7
     ·obtain rfl:j=i:=by omega
      rw[<-D,RN];exact g
 ·have a6:i=L.length:=by have:=ff hc;omega
  subst a6;exact ba<|ab (.a 3 I<|.k [8,9] I)<|ao<|⟨_,RY I,true,L.length,L,j,rest,rfl,rfl,E,Y,l,D,C,.inl ⟨rfl,ay⟩⟩
end
inductive wb (g:Nat->List Int):Nat->Int->Prop
 |mk {k:Nat} {cs:List Int}:cs.length=(g k).length->(∀i,i<(g k).length->wb g ((g k).getD i 0).toNat (cs.getD i 0))->wb g k (fD (g k) cs)
inductive tA (g:Nat->List Int):Nat->Nat->Prop
 |one {k:Nat} {j:Int}:j∈g k->tA g k j.toNat
 |more {k l:Nat} {j:Int}:j∈g k->tA g j.toNat l->tA g k l
structure Gg (T:ak) (tb:Nat->cQ) (p0:dq) (L:List Sq) (i:Nat) (g:Nat->List Int):Prop where
 dn:∀(k:Nat) q,k<i->L[k]? =some q->q=⟨q.n,q.s,aq (bh T tb p0 q.n q.s).aA,aq (g k),(bh T tb p0 q.n q.s).dJ,0,0⟩/\(g k).length=(bh T tb p0 q.n q.s).aA.length/\
  ∀(m:Nat) a,(bh T tb p0 q.n q.s).aA[m]? =some a->∃jm:Nat,(g k)[m]? =some (jm:Int)/\At L jm (aN T a.toNat).toNat (bh T tb p0 q.n q.s).eJ.stack
 nw:∀(k:Nat) q,i<=k->L[k]? =some q->q=qN q.n q.s
 no:∀k:Nat,i<=k->g k=[]
section
variable {T:ak} {tb:Nat->cQ} {p0:dq} {Ψ:Nat->List bG->Prop} {g:Nat->List Int}
theorem wb.bound{k:Nat}{c:Int}(h:wb g k c):0<=c/\c<=1001:=by
 induction h with
 | @mk k cs h2 _ b=>
  unfold fD;split
  ·omega
  ·refine km cs 0 (by omega) (by omega) λc hc=>?_;obtain⟨i,hi⟩:=Rv hc;have a:=(QT.1 hi).1;have:=(b i (by rw[<-h2];exact a)).1;rw[QU,hi]at this;exact this
theorem OD{L}{i:Nat}(h:vM T tb p0 Ψ L i i):∃g,Gg T tb p0 L i g:=by
 have key:∀k,∃js:List Int,(i<=k->js=[])/\∀q,k<i->L[k]? =some q->q=⟨q.n,q.s,aq (bh T tb p0 q.n q.s).aA,aq js,(bh T tb p0 q.n q.s).dJ,0,0⟩/\js.length=(bh T tb p0 q.n q.s).aA.length/\
   ∀(m:Nat) a,(bh T tb p0 q.n q.s).aA[m]? =some a->∃jm:Nat,js[m]? =some (jm:Int)/\At L jm (aN T a.toNat).toNat (bh T tb p0 q.n q.s).eJ.stack:=λk=>by
  by_cases hk:k<i
  ·cases f:L[k]? with
   |none=>exact⟨[],λ_=>rfl,λq _ h=>by cases h⟩
   |some q=>
    obtain⟨js,h1,h2,d⟩:=h.dn k q hk f;exact⟨js,λb=>absurd hk (by omega),λj _ e=>by cases e;exact⟨h1,h2,d⟩⟩
  ·exact⟨[],λ_=>rfl,λq b=>absurd b hk⟩
 obtain⟨g,c⟩:=Classical.skolem.1 key;exact⟨g,λk q h1 h2=>(c k).2 q h1 h2,h.nw,λk h=>(c k).1 h⟩
def Qc(x:PV)(js:List Int):Prop:=x=aq js\/(x= .raw (.slice none 0 0)/\js=[])
theorem Gg.x{L}{i:Nat}(h:Gg T tb p0 L i g){k:Nat}{q:Sq}(a:L[k]? =some q):Qc q.x (g k):=by
 by_cases hk:k<i
 ·exact .inl (Sc Sq.x (h.dn k q hk a).1)
 ·refine .inr ⟨?_,h.no k (by omega)⟩;have:=Sc Sq.x (h.nw k q (by omega) a);exact this
theorem qV{P:Program}{σ:ca}{t:cq}{o:Oper}{a:Operand}{ty e s:Nat}{x:PV}{js:List Int}(h:Qc x js)(b:o.op= .call {callee:=.builtin .len,args:= #[a],argTypes:= #[ty]})(he:vS P ty=some (e,s))(hx:aH t a=some x):bE P σ t o (num js.length):=by
 rcases h with rfl|⟨rfl,rfl⟩
 ·exact vF b he hx
 ·exact qU b he hx
def Sq.mark(q:Sq)(c t:Int):Sq:=⟨q.n,q.s,q.a,q.x,q.dJ,c,t⟩
def kF(g:Nat->List Int)(L M:List Sq)(op:List Nat):Prop:=
 M.length=L.length/\∀(k:Nat) q,L[k]? =some q->∃c t,M[k]? =some (q.mark c t)/\((c=0/\t=0)\/(c=1/\k∈op)\/(c=2/\wb g k t))
theorem kF.open_{L M:List Sq}{op:List Nat}(h:kF g L M op){i:Nat}{q:Sq}(a:L[i]? =some q)(t:Int):kF g L (M.set i (q.mark 1 t)) (i::op):=by
 refine⟨by rw[Ry];exact h.1,λk x hx=>?_⟩;by_cases hk:k=i
 ·subst hk;rw[a]at hx;cases hx;obtain⟨c,t',h1,_⟩:=h.2 k q a;exact⟨1,t,bA h1,.inr (.inl ⟨rfl,R1⟩)⟩
 ·obtain⟨c,t',h1,h2⟩:=h.2 k x hx;refine⟨c,t',aT h1 (Ne.symm hk),?_⟩;rcases h2 with h2|⟨h2,b⟩|h2
  ·exact .inl h2
  ·exact .inr (.inl ⟨h2,RU _ b⟩)
  ·exact .inr (.inr h2)
theorem kF.shut{L M:List Sq}{op:List Nat}{i:Nat}(h:kF g L M (i::op)){q:Sq}(b:L[i]? =some q){t:Int}(d:wb g i t):kF g L (M.set i (q.mark 2 t)) op:=by
 refine⟨by rw[Ry];exact h.1,λk x hx=>?_⟩;by_cases hk:k=i
 ·subst hk;rw[b]at hx;cases hx;obtain⟨c,t',h1,_⟩:=h.2 k q b;exact⟨2,t,bA h1,.inr (.inr ⟨rfl,d⟩)⟩
 ·obtain⟨c,t',h1,h2⟩:=h.2 k x hx;refine⟨c,t',aT h1 (Ne.symm hk),?_⟩;rcases h2 with h2|⟨h2,a⟩|h2
  ·exact .inl h2
  ·rcases RA.1 a with a|a
   ·exact absurd a hk
   ·exact .inr (.inl ⟨h2,a⟩)
  ·exact .inr (.inr h2)
def GV(T:ak)(p0:dq)(tbs:List cQ)(j:Nat)(rest:ca)(M:List Sq):ca:=GP T tbs j (rest.set j (fB p0 M))
theorem da{tbs}{j:Nat}{rest:ca}{M}(hj:j<rest.length):(GV T p0 tbs j rest M)[j+1]? =some (fB p0 M):=by
 show(rest.set j (fB p0 M))[j]? =_;rw[Rh,QY rfl,QY hj]
theorem q9{tbs}{j:Nat}{rest}{L:List Sq}{i:Nat}{q b}(c:Nat)(h:L[i]? =some q)(hc:c<12){v}(hb:mf p0 b=(mf p0 q).set c v):
  (GV T p0 tbs j rest L).set (j+1) (some ((cX.row 85 12 L.length (gz p0 L)).sC (over (gz p0 L) (i*12+c) [v])))=GV T p0 tbs j rest (L.set i b):=by
 unfold GV;rw[xT c h hc hb,TK]
theorem rS{p0 L}{i:Nat}{q}(c:Nat)(h:L[i]? =some q)(hc:c<12):i*12+c<(gz p0 L).length:=by
 have a:=(QT.1 h).1;rw[qO];omega
def Qr(T:ak)(tb:Nat->cQ)(p0:dq)(Ψ:Nat->List bG->Prop)(g:Nat->List Int)(tbs:List cQ)(L M:List Sq)(op:List Nat)(j:Nat)(rest:ca)(i:Nat)(q:Sq)(r:PV)(σ':ca):Prop:=
 ∃b a,r=flag b/\σ'=GV T p0 tbs j rest a/\(b=true->∃t,kF g L a op/\(∀k∈op,a[k]? =M[k]?)/\a[i]? =some (q.mark 2 t)/\wb g i t)/\(b=false->qZ T tb p0 Ψ)
theorem C3(R:vQ T tb p0 Ψ)(L:List Sq)(iL:Nat)(hL:vM T tb p0 Ψ L iL iL)(hG:Gg T tb p0 L iL g)(bz:L.length<=1000000000)(tbs:List cQ)(j:Nat)(rest:ca)(hj:j<rest.length):
  ∀(u i:Nat) (q:Sq),L[i]? =some q->∀(op:List Nat) (M:List Sq),L.length<=op.length+u->op.Nodup->kF g L M op->(∀k∈op,∃B,L[k]? =some B/\(∃t,M[k]? =some (B.mark 1 t))/\om T tb p0 B.n B.s q.n q.s)->
   bM prog 58 [.ptr 0 0,num i] (GV T p0 tbs j rest M) (Qr T tb p0 Ψ g tbs L M op j rest i q):=by
 intro u;induction u using Nat.strongRecOn with
 |_ u ih=>
 intro i q W op M hu aO aH al;have bg:=(QT.1 W).1;obtain⟨u1,ar⟩:=hL.st i q W;replace ar:Ψ q.n q.s:=ar;obtain⟨c,t,hM,aT⟩:=aH.2 i q W;have o:c=0->i∉op:=λhc h=>by
  obtain⟨B,h1,⟨t',h2⟩,_⟩:=al i h;rw[hM]at h2;injection h2 with h2;have:c=1:=Sc Sq.Pm h2;omega
 have C:=hG.x W;have⟨js,f⟩:=QQ (g i);have⟨xv,an⟩:=QQ (q.x);rw[f,an]at C;have bn:=aH.1;have bw:js.length<=1000:=by
  by_cases hk:i<iL
  ·have h1:=(hG.dn i q hk W).2.1;rw[f]at h1;rcases R.step ar with h|⟨h,_⟩
   ·rw[h1,h];simp
   ·omega
  ·rw[<-f,hG.no i (by omega)];simp
 refine cF func58 I ntmps58 I<|ab (.a 1 I<|.k [0,1] I)<|ai<|ab (.a 3 I<|.v (aY (i:=0) (k:=4) (p:=.own (j+1)) I (Q6 I) I I I) I<|.a 1 I<|.v (cj (i:=(i:Int)) I (RP I) I (da hj) I (by omega) (by omega) I) I<|.a 1 I<|.v (aY I (Q6 I) I (da hj) (eD (v:=num c) 10 hM (by omega) I)) I<|.a 1 I<|.k [0,1,15] I)<|ae I (λhc=>?_) (λhc=>?_)
 ·have⟨c2,az⟩:=QQ (decide (c=2));have bp:c≠0:=by have:=tt hc;omega
  have br:c2=false->qZ T tb p0 Ψ:=λh=>by
   rw[h]at az;have:=ff az;rcases aT with⟨h,_⟩|⟨_,h⟩|⟨h,_⟩
   ·exact absurd h bp
   ·obtain⟨B,h1,_,h3⟩:=al i h;rw[W]at h1;cases h1;exact⟨_,_,ar,h3⟩
   ·exact absurd h this
  have J:c2=true->c=2/\wb g i t:=λh=>by
   rw[h]at az;have:=tt az;rcases aT with⟨h,_⟩|⟨h,_⟩|h
   ·omega
   ·omega
   ·exact h
  exact ab (.a 3 I<|.v (aY (i:=0) (k:=4) (p:=.own (j+1)) I (Q6 I) I I I) I<|.a 1 I<|.v (cj (i:=(i:Int)) I (RP I) I (da hj) I (by omega) (by omega) I) I<|.a 1 I<|.v (aY I (Q6 I) I (da hj) (eD (v:=num c) 10 hM (by omega) I)) I<|.v (bW I (az)) I<|.a 1 I<|.k [4] I)<|ao<|⟨_,RY I,c2,M,rfl,rfl,λh=>by obtain⟨e,h2⟩:=J h;subst e;exact⟨t,aH,λk _=>rfl,hM,h2⟩,br⟩
 ·have bo:c=0/\t=0:=by
   have:=ff hc;rcases aT with h|⟨h,_⟩|⟨h,_⟩
   ·exact h
   ·omega
   ·omega
  obtain⟨rfl,rfl⟩:=bo;replace o:=o rfl;refine aj<|aK<|au 3 I ?_;refine bm (aY (i:=0) (k:=4) (p:=.own (j+1)) I (Q6 I) I I I) I<|au 1 I ?_;refine bm (cj (i:=(i:Int)) I (RP I) I (da hj) I (by omega) (by omega) I) I<|au 1 I ?_;refine bc (Tb (σ:=GV T p0 tbs j rest M) (b9 I (Q6 I) I I (da hj) (rS 10 hM (by omega))) (σ'':=GV T p0 tbs j rest (M.set i (q.mark 1 0))) I (q9 10 hM (by omega) I)) I I<|aE [0,1] I ?_;have⟨M1,H⟩:=QQ (M.set i (q.mark 1 0));have ag:M1[i]? =some (q.mark 1 0):=H▸bA hM;have bj:M1.length=L.length:=by rw[<-H,Ry];exact bn
  rw[H];refine ai<|ab (.a 3 I<|.v (aY (i:=0) (k:=4) (p:=.own (j+1)) I (Q6 I) I I I) I<|.a 1 I<|.v (cj (i:=(i:Int)) I (RP I) I (da hj) I (by omega) (by omega) I) I<|.a 1 I<|.v (aY I (Q6 I) I (da hj) (eD (v:=xv) 8 ag (by omega) (by rw[<-an];rfl))) I<|.v (qV C rfl (RP I) I) I<|.a 1 I<|.k [0,1,41] I)<|ae I (λhc=>?_) (λhc=>?_)
  ·have N:js=[]:=Rd (by have:=tt hc;omega);refine bx<|au 3 I ?_;refine bm (aY (i:=0) (k:=4) (p:=.own (j+1)) I (Q6 I) I I I) I<|au 1 I ?_;refine bm (cj (i:=(i:Int)) I (RP I) I (da hj) I (by omega) (by omega) I) I<|au 1 I ?_;refine bc (Tb (σ:=GV T p0 tbs j rest M1) (b9 I (Q6 I) I I (da hj) (rS 11 ag (by omega))) (σ'':=GV T p0 tbs j rest (M1.set i (q.mark 1 1))) I (q9 11 ag (by omega) I)) I I<|aE [0,1] I ?_;obtain⟨M2,Y,U,Q⟩:∃M2,M1.set i (q.mark 1 1)=M2/\kF g L M2 (i::op)/\∀k∈op,M2[k]? =M[k]? :=⟨_,rfl,by rw[<-H,TK];exact aH.open_ W 1,λk hk=>by rw[<-H,TK,Rh,QZ (λe=>o (by rw[e];exact hk))]⟩;have A:M2[i]? =some (q.mark 1 (fD js [])):=by rw[<-Y,bA ag];unfold fD;rw[QY N]
   rw[Y];clear Y ag bj H N hc;refine ai<|ab (.a 1 I<|.k [0,1,5] I)<|aw<|eF [0,1,5] I<|bd (λr st=>∃(k:Nat) (D:List Sq) (cs:List Int),k<=js.length/\r=js.length - k/\D[i]? =some (q.mark 1 (fD js cs))/\cs.length=k/\kF g L D (i::op)/\(∀k∈op,D[k]? =M[k]?)/\(∀z,z<k->wb g (js.getD z 0).toNat (cs.getD z 0))/\st=⟨[(0,.ptr 0 0),(1,num i),(5,num k)],GV T p0 tbs j rest D⟩) js.length ⟨0,M2,[],by omega,by omega,A,rfl,U,Q,λz d=>absurd d (by omega),rfl⟩ ?_;clear A U Q M2;rintro r st ⟨k,D,cs,hk,rfl,m,aG,w,aa,J,rfl⟩;have a7:=w.1;refine ai<|ab (.a 4 I<|.v (aY (i:=0) (k:=4) (p:=.own (j+1)) I (Q6 I) I I I) I<|.a 1 I<|.v (cj (i:=(i:Int)) I (RP I) I (da hj) I (by omega) (by omega) I) I<|.a 1 I<|.v (aY I (Q6 I) I (da hj) (eD (v:=xv) 8 m (by omega) (by rw[<-an];rfl))) I<|.v (qV C rfl (RP I) I) I<|.a 1 I<|.k [0,1,5,59] I)<|ae I (λhc=>?_) (λhc=>?_)
   ·have af:k<js.length:=by have:=tt hc;omega
    have s:js≠[]:=λh=>by rw[h]at af;simp at af
    have C:xv=aq js:=by
     rcases C with h|⟨_,h⟩
     ·exact h
     ·exact absurd h s
    subst C;have aU:i<iL:=by
     apply Q4;intro h;have:=hG.no i (by omega);rw[f]at this;exact s this
    obtain⟨_,aF,ad⟩:=hG.dn i q aU W;rw[f]at aF ad;have ay:=R.step ar;have⟨O,Z⟩:=QQ (bh T tb p0 q.n q.s);rw[Z]at aF ad ay;obtain⟨a,ha⟩:∃a,O.aA[k]? =some a:=⟨_,QX (by omega)⟩;obtain⟨jm,g1,q2,A,aX,a1⟩:=ad k a ha;obtain⟨b,m2,aQ,hb,aV,bl⟩:∃b m2:Nat,a=(b:Int)/\b<2*T.ah.length/\aN T b=(m2:Int)/\Ψ m2 O.eJ.stack:=by
     rcases ay with h|⟨_,_,h⟩
     ·rw[h]at ha;simp at ha
     ·exact h _ (Ro ha)
    have l:aN T a.toNat=(m2:Int):=by rw[aQ,QS];exact aV
    have aZ:q2.n=m2:=by rw[aX,l,QS]
    have aL:∀k∈i::op,∃B,L[k]? =some B/\(∃t,D[k]? =some (B.mark 1 t))/\om T tb p0 B.n B.s q2.n q2.s:=λz d=>by
     have av:a∈(bh T tb p0 q.n q.s).aA:=by rw[Z];exact Ro ha
     rw[aZ,a1,<-Z];rcases RA.1 d with rfl|d
     ·exact⟨q,W,⟨_,m⟩,.one av l⟩
     ·obtain⟨B,F,⟨t',X⟩,G⟩:=al z d;exact⟨B,F,⟨t',(aa z d).trans X⟩,.more G av l⟩
    have bs:=(QT.1 A).1;have aD:js.getD k 0=(jm:Int):=by rw[QU,g1];rfl
    have bk:op.length<L.length:=by
     have h1:=eT (i::op) (List.range L.length) (SD.2 ⟨o,aO⟩) λz d=>by
      rcases RA.1 d with rfl|d
      ·exact Ri.2 bg
      ·obtain⟨B,F,_⟩:=al z d;exact Ri.2 (QT.1 F).1
     rw[Sz,Q8]at h1;omega
    refine aj<|ai<|aw<|ab (.a 3 I<|.v (aY (i:=0) (k:=4) (p:=.own (j+1)) I (Q6 I) I I I) I<|.a 1 I<|.v (cj (i:=(i:Int)) I (RP I) I (da hj) I (by omega) (by omega) I) I<|.a 1 I<|.v (aY I (Q6 I) I (da hj) (eD (v:=aq js) 8 m (by omega) (by rw[<-an];rfl))) I<|.a 1 I<|.v (aM (k) I) I<|.v (aJ I ((aB js k af).trans (show some (num (js.getD k 0))=some (num (jm:Int)) by rw[aD]))) I<|.a 1 I<|.k [0,1,5,6] I)<|ai<|aK<|au 2 I<|cD I I (RT (ih (u - 1) (by omega) jm q2 A (i::op) D (by rw[Q8];omega) (SD.2 ⟨o,aO⟩) w aL) (λy σ' h=>?_));obtain⟨E,M3,rfl,rfl,ah,K⟩:=h;refine au 1 I<|aE [0,1,5,6,76] I ?_;refine ae I (λhc=>?_) (λhc=>?_)
    ·have hb:E=false:=by
      cases E with
      |false=>rfl
      |true=>cases hc
     exact ab (.a 1 I<|.k [4] I)<|ao<|⟨_,RY I,false,M3,rfl,rfl,λh=>(by cases h),λ_=>K hb⟩
    ·have ax:E=true:=by
      cases E with
      |true=>rfl
      |false=>cases hc
     obtain⟨t3,V,S,aP,P⟩:=ah ax;have n:M3[i]? =some (q.mark 1 (fD js cs)):=(S i R1).trans m;have a8:=V.1;have bq:0<=fD js cs/\fD js cs<=1001:=by
      unfold fD;rw[QZ s];refine km cs 0 (by omega) (by omega) λz d=>?_;obtain⟨y,hy⟩:=Rv d;have bu:=(QT.1 hy).1;have:=(J y (by omega)).bound.1;rwa [QU,hy]at this
     have aS:min 1001 (fD js cs+t3)=fD js (cs++[t3]):=by unfold fD;rw[QZ s,QZ s,nu];omega
     have bf:=P.bound;refine aj<|dh 25 20 mixed (.val [0] I (bb I) I I<|.val [77] I (bb I) I I<|.val [78] I (bb I) I I<|.val [79] I (aY (i:=0) (k:=4) (p:=.own (j+1)) I (Q6 I) I I I) I I<|.val [1] I (bb I) I I<|.val [0] I (bb I) I I<|.val [82] I (bb I) I I<|.val [83] I (bb I) I I<|.val [84] I (aY (i:=0) (k:=4) (p:=.own (j+1)) I (Q6 I) I I I) I I<|.val [1] I (bb I) I I<|.val [85,86] I (cj (i:=(i:Int)) I (RP I) I (da hj) I (by omega) (by omega) I) I I<|.val [87] I (bb I) I I<|.val [88] I (aY I (Q6 I) I (da hj) (eD (v:=num (fD js cs)) 11 n (by omega) I)) I I<|.val [0] I (bb I) I I<|.val [90] I (bb I) I I<|.val [91] I (bb I) I I<|.val [92] I (aY (i:=0) (k:=4) (p:=.own (j+1)) I (Q6 I) I I I) I I<|.val [6] I (bb I) I I<|.val [93,94] I (cj (i:=(jm:Int)) I (RP I) I (da hj) I (by omega) (by omega) I) I I<|.val [95] I (bb I) I I<|.val [96] I (aY I (Q6 I) I (da hj) (eD (v:=num t3) 11 aP (by omega) I)) I I<|.val [89,97] I (aW I) I I<|.val [98] I (sL I I I (aS)) I I<|.val [80,81] I (cj (i:=(i:Int)) I (RP I) I (da hj) I (by omega) (by omega) I) I I<|.val [100] I (bb I) I I<|.nil) (by kernel_rfl) I I (aR (ks:=[0,1,5,99,101]) I) ?_;refine bc (Tb (σ:=GV T p0 tbs j rest M3) (b9 I (Q6 I) I I (da hj) (rS 11 n (by omega))) (σ'':=GV T p0 tbs j rest (M3.set i (q.mark 1 (fD js (cs++[t3]))))) I (q9 11 n (by omega) I)) I I<|aE [0,1,5] I ?_;refine aC (.a 1 I<|.v (aW I) I<|.a 1 I<|.k [0,1,5] I)<|⟨js.length - (k+1),by omega,k+1,_,cs++[t3],by omega,rfl,bA n,by simp[aG],?_,λz d=>?_,λz d=>?_,rfl⟩
     ·have:=V.open_ W (fD js (cs++[t3]));refine⟨this.1,λz x hx=>?_⟩;obtain⟨c,t,F,G⟩:=this.2 z x hx;refine⟨c,t,F,?_⟩;rcases G with G|⟨G,X⟩|G
      ·exact .inl G
      ·refine .inr (.inl ⟨G,?_⟩);rcases RA.1 X with X|X
       ·rw[X];exact R1
       ·exact X
      ·exact .inr (.inr G)
     ·rw[Rh,QZ (λe=>o (by rw[e];exact d)),S z (RU _ d)];exact aa z d
     ·by_cases a6:z<k
      ·have F:(cs++[t3]).getD z 0=cs.getD z 0:=by rw[QU,QU,Q9 (by omega)]
       rw[F];exact J z a6
      ·obtain rfl:z=k:=by omega
       have F:(cs++[t3]).getD z 0=t3:=by rw[QU,dT aG];rfl
       rw[F,aD,QS];exact P
   ·have bt:k=js.length:=by have:=ff hc;omega
    refine ba<|aK<|au 3 I ?_;refine bm (aY (i:=0) (k:=4) (p:=.own (j+1)) I (Q6 I) I I I) I<|au 1 I ?_;refine bm (cj (i:=(i:Int)) I (RP I) I (da hj) I (by omega) (by omega) I) I<|au 1 I ?_;refine bc (Tb (σ:=GV T p0 tbs j rest D) (b9 I (Q6 I) I I (da hj) (rS 10 m (by omega))) (σ'':=GV T p0 tbs j rest (D.set i (q.mark 2 (fD js cs)))) I (q9 10 m (by omega) I)) I I<|aE [] I ?_;refine ab (.a 1 I<|.k [4] I)<|ao ?_;have aA:wb g i (fD js cs):=by
     have:=wb.mk (g:=g) (k:=i) (cs:=cs) (by rw[f];omega) (λz d=>by rw[f]at d ⊢;exact J z (by omega));rwa [f]at this
    exact⟨_,RY I,true,_,rfl,rfl,λ_=>⟨_,w.shut W aA,λz d=>by rw[Rh,QZ (λe=>o (by rw[e];exact d))];exact aa z d,bA m,aA⟩,λh=>by cases h⟩
  ·have N:js≠[]:=λh=>by have:=ff hc;rw[h]at this;simp at this
   obtain⟨M2,Y,U,Q⟩:∃M2,M1=M2/\kF g L M2 (i::op)/\∀k∈op,M2[k]? =M[k]? :=⟨_,rfl,H▸aH.open_ W 0,λk hk=>by rw[<-H,Rh,QZ (λe=>o (by rw[e];exact hk))]⟩;have A:M2[i]? =some (q.mark 1 (fD js [])):=by rw[<-Y,ag];unfold fD;rw[QZ N];rfl
   rw[Y];clear Y ag bj H N hc;refine aj<|ai<|ab (.a 1 I<|.k [0,1,5] I)<|aw<|eF [0,1,5] I<|bd (λr st=>∃(k:Nat) (D:List Sq) (cs:List Int),k<=js.length/\r=js.length - k/\D[i]? =some (q.mark 1 (fD js cs))/\cs.length=k/\kF g L D (i::op)/\(∀k∈op,D[k]? =M[k]?)/\(∀z,z<k->wb g (js.getD z 0).toNat (cs.getD z 0))/\st=⟨[(0,.ptr 0 0),(1,num i),(5,num k)],GV T p0 tbs j rest D⟩) js.length ⟨0,M2,[],by omega,by omega,A,rfl,U,Q,λz d=>absurd d (by omega),rfl⟩ ?_;clear A U Q M2;rintro r st ⟨k,D,cs,hk,rfl,m,aG,w,aa,J,rfl⟩;have a7:=w.1;refine ai<|ab (.a 4 I<|.v (aY (i:=0) (k:=4) (p:=.own (j+1)) I (Q6 I) I I I) I<|.a 1 I<|.v (cj (i:=(i:Int)) I (RP I) I (da hj) I (by omega) (by omega) I) I<|.a 1 I<|.v (aY I (Q6 I) I (da hj) (eD (v:=xv) 8 m (by omega) (by rw[<-an];rfl))) I<|.v (qV C rfl (RP I) I) I<|.a 1 I<|.k [0,1,5,59] I)<|ae I (λhc=>?_) (λhc=>?_)
   ·have af:k<js.length:=by have:=tt hc;omega
    have s:js≠[]:=λh=>by rw[h]at af;simp at af
    have C:xv=aq js:=by
     rcases C with h|⟨_,h⟩
     ·exact h
     ·exact absurd h s
    subst C;have aU:i<iL:=by
     apply Q4;intro h;have:=hG.no i (by omega);rw[f]at this;exact s this
    obtain⟨_,aF,ad⟩:=hG.dn i q aU W;rw[f]at aF ad;have ay:=R.step ar;have⟨O,Z⟩:=QQ (bh T tb p0 q.n q.s);rw[Z]at aF ad ay;obtain⟨a,ha⟩:∃a,O.aA[k]? =some a:=⟨_,QX (by omega)⟩;obtain⟨jm,g1,q2,A,aX,a1⟩:=ad k a ha;obtain⟨b,m2,aQ,hb,aV,bl⟩:∃b m2:Nat,a=(b:Int)/\b<2*T.ah.length/\aN T b=(m2:Int)/\Ψ m2 O.eJ.stack:=by
     rcases ay with h|⟨_,_,h⟩
     ·rw[h]at ha;simp at ha
     ·exact h _ (Ro ha)
    have l:aN T a.toNat=(m2:Int):=by rw[aQ,QS];exact aV
    have aZ:q2.n=m2:=by rw[aX,l,QS]
    have aL:∀k∈i::op,∃B,L[k]? =some B/\(∃t,D[k]? =some (B.mark 1 t))/\om T tb p0 B.n B.s q2.n q2.s:=λz d=>by
     have av:a∈(bh T tb p0 q.n q.s).aA:=by rw[Z];exact Ro ha
     rw[aZ,a1,<-Z];rcases RA.1 d with rfl|d
     ·exact⟨q,W,⟨_,m⟩,.one av l⟩
     ·obtain⟨B,F,⟨t',X⟩,G⟩:=al z d;exact⟨B,F,⟨t',(aa z d).trans X⟩,.more G av l⟩
    have bs:=(QT.1 A).1;have aD:js.getD k 0=(jm:Int):=by rw[QU,g1];rfl
    have bk:op.length<L.length:=by
     have h1:=eT (i::op) (List.range L.length) (SD.2 ⟨o,aO⟩) λz d=>by
      rcases RA.1 d with rfl|d
      ·exact Ri.2 bg
      ·obtain⟨B,F,_⟩:=al z d;exact Ri.2 (QT.1 F).1
     rw[Sz,Q8]at h1;omega
    refine aj<|ai<|aw<|ab (.a 3 I<|.v (aY (i:=0) (k:=4) (p:=.own (j+1)) I (Q6 I) I I I) I<|.a 1 I<|.v (cj (i:=(i:Int)) I (RP I) I (da hj) I (by omega) (by omega) I) I<|.a 1 I<|.v (aY I (Q6 I) I (da hj) (eD (v:=aq js) 8 m (by omega) (by rw[<-an];rfl))) I<|.a 1 I<|.v (aM (k) I) I<|.v (aJ I ((aB js k af).trans (show some (num (js.getD k 0))=some (num (jm:Int)) by rw[aD]))) I<|.a 1 I<|.k [0,1,5,6] I)<|ai<|aK<|au 2 I<|cD I I (RT (ih (u - 1) (by omega) jm q2 A (i::op) D (by rw[Q8];omega) (SD.2 ⟨o,aO⟩) w aL) (λy σ' h=>?_));obtain⟨E,M3,rfl,rfl,ah,K⟩:=h;refine au 1 I<|aE [0,1,5,6,76] I ?_;refine ae I (λhc=>?_) (λhc=>?_)
    ·have hb:E=false:=by
      cases E with
      |false=>rfl
      |true=>cases hc
     exact ab (.a 1 I<|.k [4] I)<|ao<|⟨_,RY I,false,M3,rfl,rfl,λh=>(by cases h),λ_=>K hb⟩
    ·have ax:E=true:=by
      cases E with
      |true=>rfl
      |false=>cases hc
     obtain⟨t3,V,S,aP,P⟩:=ah ax;have n:M3[i]? =some (q.mark 1 (fD js cs)):=(S i R1).trans m;have a8:=V.1;have bq:0<=fD js cs/\fD js cs<=1001:=by
      unfold fD;rw[QZ s];refine km cs 0 (by omega) (by omega) λz d=>?_;obtain⟨y,hy⟩:=Rv d;have bu:=(QT.1 hy).1;have:=(J y (by omega)).bound.1;rwa [QU,hy]at this
     have aS:min 1001 (fD js cs+t3)=fD js (cs++[t3]):=by unfold fD;rw[QZ s,QZ s,nu];omega
     have bf:=P.bound;refine aj<|dh 25 20 mixed (.val [0] I (bb I) I I<|.val [77] I (bb I) I I<|.val [78] I (bb I) I I<|.val [79] I (aY (i:=0) (k:=4) (p:=.own (j+1)) I (Q6 I) I I I) I I<|.val [1] I (bb I) I I<|.val [0] I (bb I) I I<|.val [82] I (bb I) I I<|.val [83] I (bb I) I I<|.val [84] I (aY (i:=0) (k:=4) (p:=.own (j+1)) I (Q6 I) I I I) I I<|.val [1] I (bb I) I I<|.val [85,86] I (cj (i:=(i:Int)) I (RP I) I (da hj) I (by omega) (by omega) I) I I<|.val [87] I (bb I) I I<|.val [88] I (aY I (Q6 I) I (da hj) (eD (v:=num (fD js cs)) 11 n (by omega) I)) I I<|.val [0] I (bb I) I I<|.val [90] I (bb I) I I<|.val [91] I (bb I) I I<|.val [92] I (aY (i:=0) (k:=4) (p:=.own (j+1)) I (Q6 I) I I I) I I<|.val [6] I (bb I) I I<|.val [93,94] I (cj (i:=(jm:Int)) I (RP I) I (da hj) I (by omega) (by omega) I) I I<|.val [95] I (bb I) I I<|.val [96] I (aY I (Q6 I) I (da hj) (eD (v:=num t3) 11 aP (by omega) I)) I I<|.val [89,97] I (aW I) I I<|.val [98] I (sL I I I (aS)) I I<|.val [80,81] I (cj (i:=(i:Int)) I (RP I) I (da hj) I (by omega) (by omega) I) I I<|.val [100] I (bb I) I I<|.nil) (by kernel_rfl) I I (aR (ks:=[0,1,5,99,101]) I) ?_;refine bc (Tb (σ:=GV T p0 tbs j rest M3) (b9 I (Q6 I) I I (da hj) (rS 11 n (by omega))) (σ'':=GV T p0 tbs j rest (M3.set i (q.mark 1 (fD js (cs++[t3]))))) I (q9 11 n (by omega) I)) I I<|aE [0,1,5] I ?_;refine aC (.a 1 I<|.v (aW I) I<|.a 1 I<|.k [0,1,5] I)<|⟨js.length - (k+1),by omega,k+1,_,cs++[t3],by omega,rfl,bA n,by simp[aG],?_,λz d=>?_,λz d=>?_,rfl⟩
     ·have:=V.open_ W (fD js (cs++[t3]));refine⟨this.1,λz x hx=>?_⟩;obtain⟨c,t,F,G⟩:=this.2 z x hx;refine⟨c,t,F,?_⟩;rcases G with G|⟨G,X⟩|G
      ·exact .inl G
      ·refine .inr (.inl ⟨G,?_⟩);rcases RA.1 X with X|X
       ·rw[X];exact R1
       ·exact X
      ·exact .inr (.inr G)
     ·rw[Rh,QZ (λe=>o (by rw[e];exact d)),S z (RU _ d)];exact aa z d
     ·by_cases a6:z<k
      ·have F:(cs++[t3]).getD z 0=cs.getD z 0:=by rw[QU,QU,Q9 (by omega)]
       rw[F];exact J z a6
      ·obtain rfl:z=k:=by omega
       have F:(cs++[t3]).getD z 0=t3:=by rw[QU,dT aG];rfl
       rw[F,aD,QS];exact P
   ·have bt:k=js.length:=by have:=ff hc;omega
    refine ba<|aK<|au 3 I ?_;refine bm (aY (i:=0) (k:=4) (p:=.own (j+1)) I (Q6 I) I I I) I<|au 1 I ?_;refine bm (cj (i:=(i:Int)) I (RP I) I (da hj) I (by omega) (by omega) I) I<|au 1 I ?_;refine bc (Tb (σ:=GV T p0 tbs j rest D) (b9 I (Q6 I) I I (da hj) (rS 10 m (by omega))) (σ'':=GV T p0 tbs j rest (D.set i (q.mark 2 (fD js cs)))) I (q9 10 m (by omega) I)) I I<|aE [] I ?_;refine ab (.a 1 I<|.k [4] I)<|ao ?_;have aA:wb g i (fD js cs):=by
     have:=wb.mk (g:=g) (k:=i) (cs:=cs) (by rw[f];omega) (λz d=>by rw[f]at d ⊢;exact J z (by omega));rwa [f]at this
    exact⟨_,RY I,true,_,rfl,rfl,λ_=>⟨_,w.shut W aA,λz d=>by rw[Rh,QZ (λe=>o (by rw[e];exact d))];exact aa z d,bA m,aA⟩,λh=>by cases h⟩
end
end
section
open Go.RowKit cG Mem
section
variable {P:Program} {N L:Nat}
theorem Hg{id:Nat}{l:List Oper}{t t' σ y}{Q:Exit->St->Prop}(k f m:Nat)(σs:List ca)(gs:List GD)(T:cq)(hm:P.follows .mixedOrders=true)(H:H8 (l.take k).toArray f m gs=true)(r:zM l.toArray f k=true)(M:o4 (l.take k) (gs.map (·.p)) t=T)(c:((l.take k).all λo=>o.dst.all λd=>(look d t).isNone)=true)(h0:σs[0]? =some σ)(h1:σs[m]? =some y)(D:Nat.ble k l.length=true)
    (K:GL P N (l.take k).toArray σs T (l.take k) gs) (x:Sub T t') (hw:WR P N L l.toArray (l.drop k) ⟨t',y⟩ (λs=>Q .normal s)):W P N L (.region id l.toArray true) ⟨t,σ⟩ Q:=λF base E₀ w₀ E a w hc hs=>by
  obtain⟨p,z⟩:=a;have O:z=[]:=hs.lE;have J:=Ak H;have n:k<=l.length:=Nat.ble_eq.mp D;have C:(l.take k).length=k:=by simp;omega
  have A:Ext w {w with drawn:=w.drawn+1}:=⟨rfl,rfl,rfl,Rc _,λ_ _=>rfl⟩;refine wp_region_any hm ?_;have u:∀i d,i<(l.take k).length->cL (l.take k).toArray i=some d->look d t=none:=λi d hi hd=>by
    have G:(l.take k)[i]? =some (l.take k)[i]:=QX hi;simp only[cL,SO,G,R5]at hd;have:=Rq.1 c _ (Ro G);rw[hd]at this;simpa using this
  have B:JX base N F (l.take k) gs σs t (Array.replicate (l.take k).length false) 0 E ⟨p,z⟩ {w with drawn:=w.drawn+1}:=by
    have b:∀i,i<(l.take k).length->(Array.replicate (l.take k).length false).getD i true=false:=λi hi=>by
      rw[Rm,Array.getElem?_replicate,QY hi];rfl
    refine⟨by simp,λi hi q=>?_,λi s hi _=>?_,⟨σ,h0,hs.sat.ext A⟩,hs.lE,hs.size,hs.tmp.goes (.ext A),λj d g R v=>?_⟩
    · rw[b i (by simpa using q)]at hi;cases hi
    · rw[b i hi];simp
    · rw[b j R]at v;cases v
  have c:=DP (Q:=tD P l.toArray (λe h w'=>mY F base N E₀ w₀ (Q e) h w') k (l.toArray.size - k)) J M u K h1 (E₀:=E₀) (w₀:=w₀) (λh w' E' U V X Y Z k6=>by
    have:=hw F base E₀ w₀ E' h w' ⟨hc.1,Z,k6⟩ ⟨U,V.sub x,X,Y⟩ (λe h w'=>mY F base N E₀ w₀ (Q e) h w') k (λh w' hp=>hp) (λj=>by simp);simpa[tD]using this) (l.take k).length _ 0 E ⟨p,z⟩ _ B (mO _ _ (Rc _)) (hc.g.trans (.ext A)) (hc.b.trans (Ti A hs.sat.bl)) (RQ _)
  have he:l.toArray.extract 0 k=(l.take k).toArray:=by simp
  have := sK (P := P) r (by simpa using n) (Q := λe h w' => mY F base N E₀ w₀ (Q e) h w') k (Array.replicate k false) (Array.replicate l.toArray.size false) ⟨p, z⟩ { w with drawn := w.drawn + 1 } (by simp) (by simp) (λi hi => by rw [eC _ _ hi, eC _ _ (by simp; omega)]) (λi _ hi => eC _ _ hi _) (λi hi q => by
      have:(Array.replicate l.toArray.size false).getD i true=false:=eC _ _ q _;rw[this]at hi;cases hi) (by
      have:∀k,k<=l.length->bS (Array.replicate l.toArray.size false) k=k:=by
        intro k;induction k with
        |zero=>intro _;rfl
        |succ k S=>
          intro hk;simp only[bS];rw[S (by omega)];have:(Array.replicate l.toArray.size false).getD k true=false:=eC _ _ (by simp;omega) _;rw[this];simp
      exact this k n) (by rw[he];rw[C]at c;exact c)
  rw[show k+(l.toArray.size - k)=l.toArray.size by simp;omega]at this;exact this
end
open Net eE
theorem cK.Po{P}{σ σ':ca}{t o}{k e s n:Nat}{xs}(h:cK P σ t o (.own k) σ')(hk:σ'[k]? =some (some (.row e s n xs))):cK P σ t o (.slice n xs) (σ'.set k none):=by
 intro F base E ρ w h1 h2 b;obtain⟨v,w',E',hr,a,a2,a3,a4⟩:=h F base E ρ w h1 h2 b;obtain⟨g1,g2⟩:=a.kill k hk;exact⟨v,w',E'.kill k,hr,g1,a2.trans g2,a3,a.seal hk a4⟩
theorem yh:∀(cs:List Int) (b:Int),b<=1001->(∀c∈cs,0<=c)->b<=cs.foldl (λa c=>min (a+c) 1001) b
 | [],b,_,_=>SI _
 |c::cs,b,h,d=>by
  have:=d c (by simp);have e:=yh cs (min (b+c) 1001) (show min (b+c) 1001<=1001 by omega) (λx hx=>d x (by simp[hx]));exact Int.le_trans (show b<=min (b+c) 1001 by omega) e
theorem BV(cs:List Int):sN cs<=1001:=by
 unfold sN
 suffices h:∀(cs:List Int) (b:Int),b<=1001->cs.foldl (λa c=>min (a+c) 1001) b<=1001 from h cs 0 (by omega)
 intro cs;induction cs with
 |nil=>intro b hb;exact hb
 |cons c cs d=>intro b _;exact d (min (b+c) 1001) (show min (b+c) 1001<=1001 by omega)
theorem Dt(cs ds:List Int)(h:∀c∈ds,0<=c):sN cs<=sN (cs++ds):=by
 have:sN (cs++ds)=ds.foldl (λa c=>min (a+c) 1001) (sN cs):=by unfold sN;rw[TN]
 rw[this];exact yh ds _ (BV cs) h
theorem Kd{α:Type}{cs:List Int}(h0:∀c∈cs,0<=c)(h:sN cs<=1000){f:Nat->List α}(d:∀k,k<cs.length->cs.getD k 0<=1000->((f k).length:Int)=cs.getD k 0):
  ∀k,k<=cs.length->(((List.range k).flatMap f).length:Int)=sN (cs.take k)/\(k<cs.length->cs.getD k 0<=1000):=by
 intro k;have key:∀k,k<cs.length->sN (cs.take (k+1))=sN (cs.take k)+cs.getD k 0/\cs.getD k 0<=1000:=λk hk=>by
  have h1:cs.take (k+1)=cs.take k++[cs.getD k 0]:=by
   rw[SN,QU,QX hk];rfl
  have h2:=nu (cs.take k) (cs.getD k 0);have b:sN (cs.take (k+1))<=sN cs:=by
   have:=Dt (cs.take (k+1)) (cs.drop (k+1)) (λc hc=>h0 c (Tp hc));rwa [SQ]at this
  have g:0<=sN (cs.take k):=by
   have:=Dt [] (cs.take k) (λc hc=>h0 c (Tq hc));simpa[sN]using this
  rw[h1,h2];rw[h1,h2]at b;constructor<;>omega
 induction k with
 |zero=>intro _;exact⟨rfl,λhk=>(key 0 hk).2⟩
 |succ k e=>
  intro hk;obtain⟨h1,h2⟩:=e (by omega);refine⟨?_,λa=>(key _ a).2⟩;rw[R2,TZ,Q0,(key k (by omega)).1,<-h1,<-d k (by omega) (h2 (by omega))];simp
theorem IX{α:Type}[Inhabited α]{P:Nat->α->Prop}{n:Nat}(h:∀k,k<n->∃a,P k a):∃f:Nat->α,∀k,k<n->P k (f k):=
 ⟨λk=>if b:k<n then Classical.choose (h k b) else default,λk hk=>by show P k (if b:k<n then Classical.choose (h k b) else default);rw[dif_pos hk];exact Classical.choose_spec (h k hk)⟩
structure Rz where
 n:Int
 dJ:Int
 path:List Int
def AZ(z:Rz):List PV:=[num z.n,num z.dJ,aq z.path]
def lZ(l:List Rz):List PV:=l.flatMap AZ
def qB(l:List Rz):PV:=.slice l.length (lZ l)
instance (z:Rz):aP (AZ z):=by unfold AZ;infer_instance
instance (z:Rz):dY (AZ z):=by unfold AZ;infer_instance
instance (l:List Rz):aP (lZ l):=UF _ _ λ_=>inferInstance
instance (l:List Rz):dY (lZ l):=dY.flatMap _ _ λ_=>inferInstance
instance (l:List Rz):IsPure (qB l):=by unfold qB;infer_instance
theorem F6(l:List Rz):(lZ l).length=l.length*3:=uc AZ 3 (λ_=>rfl) l
section
variable {g:Nat->List Int}
theorem tA.trans{k l m:Nat}(h:tA g k l)(h2:tA g l m):tA g k m:=by
 induction h with
 |one a=>exact .more a h2
 |more a _ b=>exact .more a (b h2)
theorem wb.gv{k:Nat}{c:Int}(h:wb g k c):∀l,k=l\/tA g k l->¬tA g l l:=by
 induction h with
 | @mk k cs h1 h2 f=>
  intro l a hb;have d:tA g k l:=by
   rcases a with rfl|a
   ·exact hb
   ·exact a
  have key:∀ {j:Int},j∈g k->∃i,i<(g k).length/\(g k).getD i 0=j:=λ{j} b=>by
   obtain⟨i,hi⟩:=Rv b;exact⟨i,(QT.1 hi).1,by rw[QU,hi];rfl⟩
  cases d with
  |one b=>
   obtain⟨i,hi,e⟩:=key b;exact f i hi _ (.inl (by rw[e])) hb
  |more b hr=>
   obtain⟨i,hi,e⟩:=key b;exact f i hi l (.inr (by rw[e];exact hr)) hb
noncomputable def N7(g:Nat->List Int)(N k:Nat):Nat:=by
 classical
 exact((List.range N).filter λj=>decide (tA g k j)).length
theorem NO(N k:Nat):N7 g N k<=N:=by
 unfold N7;refine Rr (RG _ _) ?_;rw[Sz];exact Rc _
theorem NP{N k:Nat}{c j:Int}(h:wb g k c)(hj:j∈g k)(hN:j.toNat<N):N7 g N j.toNat<N7 g N k:=by
 classical
 unfold N7;refine filter_lt (a:=j.toNat) (λb _ hb=>Rb (.more hj (Q5 hb))) (Ri.2 hN) (Rg (h.gv _ (.inr (.one hj)))) (Rb (.one hj))
end
section
variable {T:ak} {tb:Nat->cQ} {p0:dq} {Ψ:Nat->List bG->Prop} {g:Nat->List Int}
def H7(T:ak)(tbs:List cQ)(p0:dq)(M:List Sq):PV:=.bq (bn T++[dP tbs,.slice M.length (gz p0 M)]) 0
def Es(L M:List Sq):Prop:=M.length=L.length/\∀(k:Nat) q,L[k]? =some q->∃c t,M[k]? =some (q.mark c t)
theorem Bn:∀ {M},(∀q∈M,aP (mf p0 q))->aP (gz p0 M)
 | [],_=>by unfold gz;exact⟨λi x h=>by simp at h⟩
 |q::M,h=>by
  haveI:=h q (by simp);haveI:=Bn (M:=M) (λq a=>h q (by simp[a]));show aP (mf p0 q++gz p0 M)
  infer_instance
theorem Gg.MT{L}{iL:Nat}(h:Gg T tb p0 L iL g){M}(hM:Es L M){k:Nat}{q}(hk:M[k]? =some q):aP (mf p0 q):=by
 have a:=(QT.1 hk).1;have h1:L[k]? =some (L[k]'(by rw[<-hM.1];exact a)):=QX _;obtain⟨c,t,h2⟩:=hM.2 k _ h1;rw[hk]at h2;injection h2 with h2;rw[h2];generalize L[k]'(by rw[<-hM.1];exact a)=d at h1;by_cases b:k<iL
 ·rw[(h.dn k d b h1).1];unfold mf Sq.mark
  infer_instance
 ·rw[h.nw k d (by omega) h1];unfold mf Sq.mark qN
  infer_instance
theorem Gg.pure{L:List Sq}{iL:Nat}(h:Gg T tb p0 L iL g){tbs:List cQ}{M:List Sq}(hM:Es L M):aP (gz p0 M):=Bn λq a=>by
 obtain⟨k,hk⟩:=Rv a;exact h.MT hM hk
theorem Gg.H7{L:List Sq}{iL:Nat}(h:Gg T tb p0 L iL g){tbs:List cQ}{M:List Sq}(hM:Es L M):IsPure (H7 T tbs p0 M):=by
 haveI:=h.pure (tbs:=tbs) hM;unfold PW.H7
 infer_instance
theorem E9(R:vQ T tb p0 Ψ)(tbs:List cQ){L:List Sq}{iL:Nat}(hE:vM T tb p0 Ψ L iL iL)(S:Gg T tb p0 L iL g)(M:List Sq)(hM:Es L M)(bj:L.length<=100000000){i:Nat}{c:Int}(hc:wb g i c):
  c<=1000->∀(path:List Int) (q:Sq),L[i]? =some q->path.length+N7 g L.length i<=200000000->
   ∃rs:List Rz,Can prog 31 [H7 T tbs p0 M,num i,aq path] (· =qB rs)/\(rs.length:Int)=c/\(∀z∈rs,∃(p:List Int) (e:Nat),z.path=path++p/\z.n=e/\(iL=L.length->Br T tb p0 q.n q.s p e z.dJ))/\
    ∀(e:Nat) qe,(i=e\/tA g i e)->g e=[]->L[e]? =some qe->∃z∈rs,z.dJ=qe.dJ:=by
 have aV:=hc;induction hc with
 | @mk i cs ay ad ih=>
 intro V path q x bp;obtain⟨c,t,X⟩:=hM.2 i q x;have Y:=S.x x;have⟨js,o⟩:=QQ (g i);have⟨q',v⟩:=QQ (q.mark c t);rw[v]at X;obtain⟨u1,ar⟩:=hE.st i q x;replace ar:Ψ q.n q.s:=ar;have aa:=R.step ar;have⟨O,y⟩:=QQ (bh T tb p0 q.n q.s);have hex:js≠[]->i<iL/\q=⟨q.n,q.s,aq O.aA,aq js,O.dJ,0,0⟩/\js.length=O.aA.length/\∀(m:Nat) a,O.aA[m]? =some a->∃jm:Nat,js[m]? =some (jm:Int)/\At L jm (aN T a.toNat).toNat O.eJ.stack:=λu=>by
  have F:i<iL:=by
   apply Q4;intro h;exact u (by rw[<-o];exact S.no i (by omega))
  have:=S.dn i q F x;rw[o,y]at this;exact⟨F,this⟩
 rw[y]at aa;rw[o]at Y ay ad ih V;have bo:=(QT.1 x).1;have bf:=(QT.1 X).1;have a8:=hM.1;have bk:O.aA.length<=1000:=by
  rcases aa with h|⟨h,_⟩
  ·rw[h];simp
  ·exact h
 have bg:js.length<=1000:=by
  by_cases u:js=[]
  ·rw[u];simp
  ·have:=(hex u).2.2.1;omega
 haveI:=S.H7 (tbs:=tbs) hM;obtain⟨f,hf⟩:=IX (P:=λk l=>cs.getD k 0<=1000->Can prog 31 [H7 T tbs p0 M,num (js.getD k 0),aq (path++[O.aA.getD k 0])] (· =qB l)/\((l.length:Int)=cs.getD k 0)/\
   (∀z∈l,∃(p:List Int) (e:Nat),z.path=(path++[O.aA.getD k 0])++p/\z.n=e/\(iL=L.length->Br T tb p0 (aN T (O.aA.getD k 0).toNat).toNat O.eJ.stack p e z.dJ))/\
   ∀(e:Nat) qe,((js.getD k 0).toNat=e\/tA g (js.getD k 0).toNat e)->g e=[]->L[e]? =some qe->∃z∈l,z.dJ=qe.dJ) (n:=js.length) (λk hk=>by
  by_cases av:cs.getD k 0<=1000
  ·have u:js≠[]:=λh=>by rw[h]at hk;simp at hk
   obtain⟨_,_,aA,aD⟩:=hex u;have A:k<O.aA.length:=by omega
   obtain⟨jm,g1,q2,g2,g3,g4⟩:=aD k _ (QX A);have aS:O.aA[k]=O.aA.getD k 0:=by rw[QU,QX A];rfl
   rw[aS]at g3;have ag:js.getD k 0=(jm:Int):=by rw[QU,g1];rfl
   have W:(js.getD k 0).toNat=jm:=by rw[ag,QS]
   have C:js.getD k 0∈g i:=by rw[o,ag];exact Ro g1
   have K:=NP (N:=L.length) aV C (by rw[W];exact(QT.1 g2).1);have:=ih k hk (ad k hk) av (path++[O.aA.getD k 0]) q2 (by rw[W];exact g2) (by simp only[Q0,Rk];omega);obtain⟨rs,r1,r2,r3,r4⟩:=this;rw[W]at r1 r4;refine⟨rs,λ_=>⟨by rw[ag];exact r1,r2,λz U=>?_,by rw[W];exact r4⟩⟩;obtain⟨p,e,e1,e2,e3⟩:=r3 z U;exact⟨p,e,e1,e2,λh=>by rw[<-g3,<-g4];exact e3 h⟩
  ·exact⟨[],λh=>absurd h av⟩)
 have h0:∀c∈cs,0<=c:=λc hc=>by
  obtain⟨k,hk⟩:=Rv hc;have K:=(QT.1 hk).1;have:=(ad k (by omega)).bound.1;rwa [QU,hk]at this
 have w:js≠[]->∀k,k<=cs.length->(((List.range k).flatMap f).length:Int)=sN (cs.take k)/\(k<cs.length->cs.getD k 0<=1000):=λu=>
  Kd h0 (by unfold fD at V;rw[QZ u]at V;exact V) (λk hk h=>(hf k (by omega) h).2.1)
 obtain⟨rs,D,E⟩:∃rs:List Rz,(js=[]->rs=[⟨q.n,q.dJ,path⟩])/\(js≠[]->rs=(List.range js.length).flatMap f):=by
  by_cases d:js=[]
  ·exact⟨_,λ_=>rfl,λh=>absurd d h⟩
  ·exact⟨_,λh=>absurd h d,λ_=>rfl⟩
 refine⟨rs,?_,?_,?_,?_⟩
 ·have B:(mf p0 q')[8]? =some q.x:=by rw[<-v];rfl
  have an:(mf p0 q')[9]? =some (num q.dJ):=by rw[<-v];rfl
  have al:(mf p0 q')[0]? =some (num q.n):=by rw[<-v];rfl
  haveI:=S.MT hM X;haveI:dY (mf p0 q'):=by
   rw[<-v];by_cases aZ:i<iL
   ·rw[(S.dn i q aZ x).1];unfold mf Sq.mark;infer_instance
   ·rw[S.nw i q (by omega) x];unfold mf Sq.mark qN;infer_instance
  have⟨xv,a7⟩:=QQ (q.x);rw[a7]at B Y;refine aF func31 I ntmps31 I<|ab (.a 1 I<|.k [0,1,2] I)<|aK<|au 3 I ?_;refine bm (aJ I ((rfl:(bn T++[dP tbs,.slice M.length (gz p0 M)])[4]? =some (.slice M.length (gz p0 M))))) I<|au 1 I ?_;refine bm (aM ((i*12)) I) I<|bm (gj I (Bm X) I) I ?_;refine cb (oC I (bw.zk.get I)) I<|bc (Tb (oD (i:=0) (off:=0) (ys:=mf p0 q') I (Q6 I) I I I I I (Re rfl)) (σ'':=[some (.cells 85 (mf p0 q'))]) I I) I I ?_;refine aE [0,2,7] I<|sc 0 (σ':=[none]) I ⟨rfl,rfl,λm hm=>?_⟩ (.cons 0 I (.same _)<|.cons 2 I (.same _)<|.cons 7 I (.ptr 0) .nil) ?_
  ·match m,hm with
   |m+1,_=>exact .inl rfl
  refine ai<|ab (.a 1 I<|.v (aJ I (B)) I<|.v (qV Y rfl (RP I) I) I<|.a 1 I<|.k [0,2,7,20] I)<|ae I (λhc=>?_) (λhc=>?_)
  ·have d:js=[]:=Rd (by have:=tt hc;omega);rw[D d];refine xZ 20 3 ([none]::[none,some (.row 3 1 0 [])]::[none,none,some (.row 3 1 (0+path.length) ([]++aU path))]::[none,none,some (.row 3 1 (0+path.length) ([]++aU path)),some (.row 58 3 1 [num q.n,num q.dJ,.own 2])]::[]) (⟨_,none,0,2⟩::⟨num q.n,none,0,2⟩::⟨_,none,0,2⟩::⟨num q.dJ,none,0,2⟩::⟨.own 1,some 0,0,0⟩::⟨_,none,0,1⟩::⟨.own 2,some 1,0,0⟩::⟨.agg [num q.n,num q.dJ,.own 2],none,2,2⟩::⟨.own 3,some 2,0,0⟩::⟨_,none,3,3⟩::[]) _ mixed ?grd9 rfl rfl rfl rfl (.cons (.val [7] I I (yz (cg (bb I) (cg (bb I) (cg (bb I) dF)))) I I)<|.cons (.val [21] I I (yz (cg (aJ I (al)) (cg (aJ I (al)) (cg (aJ I (al)) dF)))) I I)<|.cons (.val [7] I I (yz (cg (bb I) (cg (bb I) (cg (bb I) dF)))) I I)<|.cons (.val [23] I I (yz (cg (aJ I (an)) (cg (aJ I (an)) (cg (aJ I (an)) dF)))) I I)<|.cons (.rF [] I I I I (dM I (S3 I)) I I)<|.cons (.val [2] I I (yz (cg (bb I) (cg (bb I) dF))) I I)<|.cons (.rF [25,26] I I I I (bF (σ:=[none,some (.row 3 1 0 [])]) (i:=1) (n:=0) (xs:=[]) (m:=path.length) (ys:=aU path) I (Ru I) I I I (show(aU path).length=path.length*1 by simp[aU]) ⟨by unfold maxLen;omega,by omega⟩) I I)<|.cons (.val [22,24,27] I I (yz (cg (bb I) dF)) I I)<|.cons (.rF [28] I I I I (jZ (σ:=[none,none,some (.row 3 1 (0+path.length) ([]++aU path))]) (ps:=[(0,[num q.n,num q.dJ,.own 2])]) (xs:=[num q.n,num q.dJ,.own 2]) I (S3 I) ⟨Re rfl,Re rfl⟩ rfl rfl) I I)<|.cons (.val [29] I I (yz (cg (bb I) dF)) I I) .nil) (aR (ks:=[6]) I) ?_
   case grd9=>kernel_rfl
   exact ao<|QR I (Tj rfl (QV ax.pure<|QV ax.pure<|QV (ax.CG (ys:=aU path) (m:=path.length) I (by simp) (by simp)) Rl)) rfl
  ·have d:js≠[]:=λh=>by have:=ff hc;rw[h]at this;simp at this
   obtain⟨F,a1,aA,aD⟩:=hex d;have ah:(mf p0 q')[7]? =some (aq O.aA):=by rw[<-v,a1];rfl
   have aQ:xv=aq js:=by
    rcases Y with h|⟨_,h⟩
    ·exact h
    ·exact absurd h d
   subst aQ;rw[E d];replace w:=w d;refine aj<|ab (.a 1 I<|.k [0,2,7,8] I)<|eU 8 58 3 I ?_;refine ai<|ab (.a 1 I<|.k [0,2,7,8,9] I)<|aw<|eF [0,2,7,8,9] I<|bd (λr st=>∃(k b:Nat) (σ:ca),k<=js.length/\r=js.length - k/\σ[b]? =some (some (.row 58 3 ((List.range k).flatMap f).length (lZ ((List.range k).flatMap f))))/\st=⟨[(0,H7 T tbs p0 M),(2,aq path),(7,.bq (mf p0 q') 0),(8,.own b),(9,num k)],σ⟩) js.length ⟨0,1,_,by omega,by omega,rfl,rfl⟩ ?_;rintro r st ⟨k,b,σ,hk,rfl,Z,rfl⟩;refine ai<|ab (.a 2 I<|.v (aJ I (B)) I<|.a 2 I<|.k [0,2,7,8,9,34] I)<|ae I (λhc=>?_) (λhc=>?_)
   ·have aG:k<js.length:=by have:=tt hc;omega
    have K:k<O.aA.length:=by omega
    obtain⟨a6,aP⟩:=w k (by omega);obtain⟨af,aX,_⟩:=hf k aG (aP (by omega));have bl:=aP (by omega);have hle:=BV (cs.take k);have⟨a,ha⟩:=QQ (O.aA.getD k 0);have⟨jv,J⟩:=QQ (js.getD k 0);rw[ha,J]at af;have⟨g,hg⟩:=QQ (f k);rw[hg]at af aX;have aO:(List.range (k+1)).flatMap f=(List.range k).flatMap f++g:=by rw[R2,TZ];simp[hg]
    have⟨G,S⟩:=QQ ((List.range k).flatMap f);rw[S]at a6 Z aO;have aT:=(QT.1 Z).1;refine aj<|ai<|aw<|Hg 19 20 4 (σ::(σ++[some (.row 3 1 0 [])])::(σ++[none,some (.row 3 1 path.length (aU path))])::(σ++[none,none,none])::((σ++[none,none,none]).set b none++[some (.row 58 3 (G++g).length (lZ (G++g)))])::[]) (⟨_,none,0,3⟩::⟨_,none,0,3⟩::⟨_,none,0,3⟩::⟨_,none,0,3⟩::⟨_,none,0,3⟩::⟨_,none,0,3⟩::⟨num jv,none,0,3⟩::⟨.own σ.length,some 0,0,0⟩::⟨_,none,0,1⟩::⟨.own (σ.length+1),some 1,0,0⟩::⟨_,none,0,2⟩::⟨_,none,0,2⟩::⟨_,none,0,2⟩::⟨_,none,0,2⟩::⟨num a,none,0,2⟩::⟨.slice 1 [num a],none,0,2⟩::⟨aq (path++[a]),some 2,0,0⟩::⟨qB g,none,3,3⟩::⟨.own (σ.length+3),some 3,0,0⟩::[]) _ mixed ?grd10 (by kernel_rfl) I I I I I (.cons (.val [8] I I (yz (cg (bb I) (cg (bb I) (cg (bb I) (cg (bb I) dF))))) I I)<|.cons (.val [0] I I (yz (cg (bb I) (cg (bb I) (cg (bb I) (cg (bb I) dF))))) I I)<|.cons (.val [7] I I (yz (cg (bb I) (cg (bb I) (cg (bb I) (cg (bb I) dF))))) I I)<|.cons (.val [39] I I (yz (cg (aJ I (B)) (cg (aJ I (B)) (cg (aJ I (B)) (cg (aJ I (B)) dF))))) I I)<|.cons (.val [9] I I (yz (cg (bb I) (cg (bb I) (cg (bb I) (cg (bb I) dF))))) I I)<|.cons (.val [40,41] I I (yz (cg (aM (k) I) (cg (aM (k) I) (cg (aM (k) I) (cg (aM (k) I) dF))))) I I)<|.cons (.val [42] I I (yz (cg (aJ I ((aB js k (by omega)).trans (by rw[J]))) (cg (aJ I ((aB js k (by omega)).trans (by rw[J]))) (cg (aJ I ((aB js k (by omega)).trans (by rw[J]))) (cg (aJ I ((aB js k (by omega)).trans (by rw[J]))) dF))))) I I)<|.cons (.rF [] I I I I (Tb (dM (σ:=σ) I (S3 I)) I I) I I)<|.cons (.val [2] I I (yz (cg (bb I) (cg (bb I) dF))) I I)<|.cons (.rF [44,45] I I I I (Tb (bF (σ:=σ++[some (.row 3 1 0 [])]) (i:=σ.length) (n:=0) (xs:=[]) (m:=path.length) (ys:=aU path) I (Ru I) I (dT rfl) I (show(aU path).length=path.length*1 by simp[aU]) ⟨by unfold maxLen;omega,by omega⟩) (p':=.own (σ.length+1)) (σ'':=σ++[none,some (.row 3 1 path.length (aU path))]) (by simp) (by simp)) I I)<|.cons (.val [7] I I (yz (cg (bb I) (cg (bb I) (cg (bb I) dF)))) I I)<|.cons (.val [47] I I (yz (cg (aJ I (ah)) (cg (aJ I (ah)) (cg (aJ I (ah)) dF)))) I I)<|.cons (.val [9] I I (yz (cg (bb I) (cg (bb I) (cg (bb I) dF)))) I I)<|.cons (.val [48,49] I I (yz (cg (aM (k) I) (cg (aM (k) I) (cg (aM (k) I) dF)))) I I)<|.cons (.val [50] I I (yz (cg (aJ I ((aB O.aA k K).trans (by rw[ha]))) (cg (aJ I ((aB O.aA k K).trans (by rw[ha]))) (cg (aJ I ((aB O.aA k K).trans (by rw[ha]))) dF)))) I I)<|.cons (.val [51] I I (yz (cg (bb I) (cg (bb I) (cg (bb I) dF)))) I I)<|.cons (.rF [46,52] I I I I (Tb (cK.Po (Tb (bF (σ:=σ++[none,some (.row 3 1 path.length (aU path))]) (i:=σ.length+1) (n:=path.length) (xs:=aU path) (m:=1) (ys:=[num a]) I (Ru I) I (by simp) I I ⟨by unfold maxLen;omega,by omega⟩) (p':=.own (σ.length+2)) (σ'':=σ++[none,none,some (.row 3 1 (path++[a]).length (aU (path++[a])))]) (by simp) (by simp[aU])) (show(σ++[none,none,some (cX.row 3 1 (path++[a]).length (aU (path++[a])))])[σ.length+2]? =some (some (cX.row 3 1 (path++[a]).length (aU (path++[a])))) by simp)) (p':=aq (path++[a])) (σ'':=σ++[none,none,none]) I (by simp)) I I)<|.cons (.val [38,43,53] I I (yz (cg (dX I (af)) dF)) I I)<|.cons (.rF [37,54] I I I I (Tb (bF (σ:=σ++[none,none,none]) (i:=b) (n:=G.length) (xs:=lZ G) (m:=g.length) (ys:=lZ g) I (Ru I) I ((Q9 aT).trans Z) I (F6 g) ⟨by unfold maxLen;omega,by omega⟩) (p':=.own (σ.length+3)) (σ'':=(σ++[none,none,none]).set b none++[some (.row 58 3 (G++g).length (lZ (G++g)))]) (by simp) (by simp[lZ])) I I) .nil) (aR (ks:=[0,2,7,9,55]) I) ?_
    case grd10=>kernel_rfl
    refine au 1 I<|aE [0,2,7,8,9] I ?_;refine aC (.a 1 I<|.v (aW I) I<|.a 1 I<|.k [0,2,7,8,9] I)<|⟨js.length - (k+1),by omega,k+1,σ.length+3,_,by omega,rfl,by rw[aO];exact dT (by simp),rfl⟩
   ·have aY:k=js.length:=by have:=ff hc;omega
    subst aY;exact ba<|ab (.a 2 I<|.k [6] I)<|ao<|QR I (ax.CG Z rfl rfl) rfl
 ·by_cases d:js=[]
  ·rw[D d,o];unfold fD;rw[QY d];rfl
  ·rw[E d,o,<-ay,(w d cs.length (Rc _)).1,RC];unfold fD;rw[QZ d]
 ·intro z U;by_cases d:js=[]
  ·rw[D d,Rj]at U;subst U;refine⟨[],q.n,by simp,rfl,λF=>?_⟩;have hd:=S.dn i q (by omega) x;rw[o,y]at hd;have ha:O.aA=[]:=Rd (by rw[<-hd.2.1,d];rfl);have:=Br.stop (T:=T) (tb:=tb) (p0:=p0) (n:=q.n) (s:=q.s) (by show(bh T tb p0 q.n q.s).aA=[];rw[y];exact ha);rw[show(fX T (tb q.n) (cu p0 q.s))=O from y]at this;rw[show q.dJ=O.dJ from Sc Sq.dJ hd.1];exact this
  ·rw[E d,S9]at U;obtain⟨k,hk,U⟩:=U;have hk:=Ri.1 hk;obtain⟨_,_,aA,_⟩:=hex d;obtain⟨p,e,e1,e2,e3⟩:=(hf k hk ((w d k (by omega)).2 (by omega))).2.2.1 z U;have A:k<O.aA.length:=by omega
   have C:O.aA.getD k 0∈O.aA:=by rw[QU,QX A];exact TF A
   have hh:aN T (O.aA.getD k 0).toNat=((aN T (O.aA.getD k 0).toNat).toNat:Int):=by
    rcases aa with h|⟨_,_,h⟩
    ·rw[h]at A;simp at A
    ·obtain⟨b,m,h1,_,h2,_⟩:=h _ C;rw[h1,QS,h2,QS]
   refine⟨O.aA.getD k 0::p,e,by rw[e1];simp,e2,λF=>?_⟩;exact .go (T:=T) (tb:=tb) (p0:=p0) (by rw[show(fX T (tb q.n) (cu p0 q.s))=O from y];exact C) hh (by rw[show(fX T (tb q.n) (cu p0 q.s))=O from y];exact e3 F)
 ·intro e qe aH az Q;by_cases d:js=[]
  ·have he:i=e:=by
    rcases aH with h|h
    ·exact h
    ·exfalso;cases h with
     |one H=>rw[o,d]at H;cases H
     |more H _=>rw[o,d]at H;cases H
   subst he;rw[x]at Q;cases Q;exact⟨_,by rw[D d];exact Rj.2 rfl,rfl⟩
  ·have u:i≠e:=λh=>d (by rw[<-o,h];exact az);have hk:∃k,k<js.length/\((js.getD k 0).toNat=e\/tA g (js.getD k 0).toNat e):=by
    have key:∀ {j:Int},j∈g i->∃k,k<js.length/\js.getD k 0=j:=λ{j} H=>by
     rw[o]at H;obtain⟨k,hk⟩:=Rv H;exact⟨k,(QT.1 hk).1,by rw[QU,hk];rfl⟩
    rcases aH with h|h
    ·exact absurd h u
    ·cases h with
     |one H=>
      obtain⟨k,h1,h2⟩:=key H;exact⟨k,h1,.inl (by rw[h2])⟩
     |more H hr=>
      obtain⟨k,h1,h2⟩:=key H;exact⟨k,h1,.inr (by rw[h2];exact hr)⟩
   obtain⟨k,hk,aL⟩:=hk;obtain⟨z,U,hw⟩:=(hf k hk ((w d k (by omega)).2 (by omega))).2.2.2 e qe aL az Q;exact⟨z,by rw[E d];exact S9.2 ⟨k,Ri.2 hk,U⟩,hw⟩
end
theorem vU(T:ak)(L:List cQ)(hv:av T=true)(j:(L.length:Int)=T.nodes)(f:∀(i:Nat) x,L[i]? =some x->x.node=(i:Int)/\df T x=true):Can prog 56 [aL T,dP L] (· =flag true):=by
 have hN:=gQ hv;have⟨g,a⟩:=QQ (av T);have⟨l,b⟩:=QQ (decide ((L.length:Int)≠T.nodes));refine aF func56 I ntmps56 I<|ab (.a 2 I<|.k [1,2] I)<|ai<|bz 15 (.raw (.bool (!g ||l))) [1,2] I ?_ ?_
 ·refine .a 1 I<|.c rfl (a▸fh T) I<|.a 2 I<|?_;cases g
  ·exact .a 6 I<|.k [15,1,2] I
  ·exact .a 3 I<|.v (aJ I (rfl)) I<|.v (bW I (b)) I<|.a 1 I<|.k [15,1,2] I
 refine ae I (λhc=>?_) (λhc=>?_)
 ·rw[<-a,hv,<-b,Rg (by rw[j];simp)]at hc;cases hc
 ·refine aj<|ai<|ab (.a 1 I<|.k [1,2,5] I)<|aw<|eF [1,2,5] I<|bd (λr st=>∃i:Nat,i<=L.length/\r=L.length - i/\st=⟨[(1,dP L),(2,.bq (bn T) 0),(5,num i)],[]⟩) L.length ⟨0,by omega,by omega,rfl⟩ ?_;rintro r st ⟨i,hi,rfl,rfl⟩;refine ai<|ab (.a 4 I<|.k [1,2,5,19] I)<|ae I (λhc=>?_) (λhc=>?_)
  ·have e:i<L.length:=by have:=tt hc;omega
   obtain⟨x,hx⟩:∃x,L[i]? =some x:=⟨_,QX e⟩;obtain⟨h1,h2⟩:=f i x hx;have⟨h,c⟩:=QQ (decide (x.node≠(i:Int)));have⟨m,d⟩:=QQ (df T x);refine aj<|ai<|aw<|iY mixed (by kernel_rfl) 37 (.raw (.bool (h|| !m))) [1,2,5] I ?_ ?_
   ·refine .a 2 I<|.v [22,23] (aM ((i*3)) I) I I<|.a 1 I<|.v [25] (aJ I ((flat_get fi 3 (λ_=>rfl) L i 0 x hx (by omega)).trans (rfl:(fi x)[0]? =some (num x.node)))) I I<|.a 1 I<|.v [26,27] (bW I (c)) I I<|.a 1 I<|?_;cases h
    ·exact .a 3 I<|.v [31,32] (aM ((i*3)) I) I I<|.v [33] (gj I (mh L i x hx) I) I I<|.v [30,34] (dX I (d▸sw T x)) I I<|.a 2 I<|.k [37,1,2,5] I
    ·exact .a 8 I<|.k [37,1,2,5] I
   refine ae I (λhc=>?_) (λhc=>?_)
   ·rw[<-c,<-d,h2,Rg (by rw[h1];simp)]at hc;cases hc
   ·refine aj<|aC (.a 1 I<|.v (aW I) I<|.a 1 I<|.k [1,2,5] I) ?_;exact⟨L.length - (i+1),by omega,i+1,by omega,rfl,rfl⟩
  ·have k:i=L.length:=by have:=ff hc;omega
   exact ba<|ab (.a 1 I<|.k [4] I)<|ao<|QR I ax.pure rfl
section
variable {T:ak} {tb:Nat->cQ} {p0:dq} {Ψ:Nat->List bG->Prop}
theorem Jp{α:Type}{l:List α}{i:Nat}{a}(h:l[i]? =some a):l.set i a=l:=by
 apply Sp;intro k;rw[Rh];split
 ·rename_i e;subst e;rw[QY (QT.1 h).1,h]
 ·rfl
theorem kF.mk{g:Nat->List Int}{L M}{op:List Nat}(h:kF g L M op):Es L M:=⟨h.1,λk q a=>by
 obtain⟨c,t,h1,_⟩:=h.2 k q a;exact⟨c,t,h1⟩⟩
structure xS (T:ak) (tb:Nat->cQ) (p0:dq) (Ψ:Nat->List bG->Prop) (n:Nat) (s:List bG) (L:List Sq) (iL:Nat) (g:Nat->List Int) (c:Int):Prop where
 ex:vM T tb p0 Ψ L iL iL
 gg:Gg T tb p0 L iL g
 len:L.length<=100000000
 bf:L.map G1=cR (dw T tb p0) (n,s) iL
 all:∀j,j<iL->j<(cR (dw T tb p0) (n,s) j).length
 fin:(iL=L.length/\iL<=20001)\/(iL=20001/\iL<L.length)
 first:∃q,L[0]? =some q/\q.n=n/\q.s=s
 cn:wb g 0 c
theorem uo(R:vQ T tb p0 Ψ)(hv:av T=true)(cS:T.nodes<=12){U:List (Nat×List bG)}(Q:∀ {n s},Ψ n s->(n,s)∈U)(E:U.length<=100000000)(tbs:List cQ)(P:(tbs.length:Int)=T.nodes)(A:∀n:Nat,(n:Int)<T.nodes->tbs[n]? =some (tb n))
  (K:∀n:Nat,(n:Int)<T.nodes->(tb n).node=(n:Int)/\df T (tb n)=true) {n:Nat} {p:dq} (B:Ψ n p.stack) (hp:cu p p.stack=cu p0 p.stack):
  Can prog 28 [aL T,dP tbs,dI p,num n] (λr=>∃v e,r= .tuple [v,num e]/\IsPure v/\(e≠0->e=16/\qZ T tb p0 Ψ)/\(e=0->∃L iL g c M,v=H7 T tbs p0 M/\xS T tb p0 Ψ n p.stack L iL g c/\Es L M/\∃q,M[0]? =some q/\q.mn=c)):=by
 have hn:=R.node B;have H:=vU T tbs hv P (λi x hx=>by
  have Z:=(QT.1 hx).1;have:=A i (by omega);rw[this]at hx;cases hx;exact K i (by omega))
 refine aF func28 I ntmps28 I<|ab (.a 4 I<|.k [1,3,4,6] I)<|ai<|ab (.a 2 I<|.c rfl (H) I<|.a 1 I<|.k [1,3,4,6,15] I)<|ae I (λhc=>?_) (λhc=>?_)
 ·cases hc
 ·refine aj<|ai<|ab (.a 1 I<|.v (bW I ((Rg (by omega)))) I<|.a 4 I<|.v (bW I ((Rg (by omega)))) I<|.a 1 I<|.k [1,3,4,6,23] I)<|ae I (λhc=>?_) (λhc=>?_)
  ·cases hc
  ·refine aj<|aK<|au 4 I<|cD I I (RT (Ad R hv cS Q E tbs A B hp) (λy σ' h=>?_));obtain⟨b0,iL,L,j,rest,rfl,rfl,V,C,F,G,m,o⟩:=h;refine au 5 I<|aE [10] I ?_;obtain⟨q,W,N,O⟩:=F;have S:=C.Nt (λh=>Q h);have u:=(QT.1 V).1;obtain⟨g,l⟩:=OD C;have w:kF g L L []:=⟨rfl,λk x hx=>by
    refine⟨0,0,?_,.inl ⟨rfl,rfl⟩⟩;rw[hx];by_cases hk:k<iL
    ·have:=(l.dn k x hk hx).1;have X:x.Pm=0:=Sc Sq.Pm this;have Y:x.mn=0:=Sc Sq.mn this;cases x;cases X;cases Y
     rfl
    ·rw[l.nw k x (by omega) hx]
     rfl⟩
   refine eO (σ':=GV T p0 tbs j rest L) (by unfold GV;rw[Jp V])<|ai<|aK<|au 1 I<|cD I I (RT (C3 R L iL C l (by omega) tbs j rest u L.length 0 q W [] L (by simp) UE w (λk hk=>by cases hk)) (λy σ' h=>?_));obtain⟨a,M,rfl,rfl,f,b⟩:=h;refine au 1 I<|aE [10,34] I ?_;refine ae I (λhc=>?_) (λhc=>?_)
   ·have hb:a=false:=by
     cases a with
     |false=>rfl
     |true=>cases hc
    exact ab (.a 2 I<|.k [8,9] I)<|ao<|⟨_,_,RY I,RW (QV ax.pure<|QV ax.pure Rl),_,16,rfl,inferInstance,λ_=>⟨rfl,b hb⟩,λh=>by cases h⟩
   ·have hb:a=true:=by
     cases a with
     |true=>rfl
     |false=>cases hc
    obtain⟨t,z,_,D,J⟩:=f hb;refine aj<|ab (.a 3 I<|.k [8,9] I)<|ao ?_;have d:=z.mk;haveI:=l.pure (tbs:=tbs) d;exact⟨_,_,RY I,RW (QV (U4 (rfl:(GV T p0 tbs j rest M)[0]? =some (some (.cells 83 (bn T++[dP tbs,.own (j+1)])))) (af.append Sj (QV ax.pure (QV (Tj (da u) Sj) Rl))))<|QV ax.pure Rl),H7 T tbs p0 M,0,rfl,l.H7 d,λh=>absurd rfl h,λ_=>⟨L,iL,g,t,M,rfl,⟨C,l,by omega,G,m,o,⟨q,W,N,O⟩,J⟩,d,_,D,rfl⟩⟩
theorem H5(R:vQ T tb p0 Ψ)(hv:av T=true)(cS:T.nodes<=12){U:List (Nat×List bG)}(J:∀ {n s},Ψ n s->(n,s)∈U)(b:U.length<=100000000)(tbs:List cQ)(o:(tbs.length:Int)=T.nodes)(m:∀n:Nat,(n:Int)<T.nodes->tbs[n]? =some (tb n))
  (i:∀n:Nat,(n:Int)<T.nodes->(tb n).node=(n:Int)/\df T (tb n)=true) {n:Nat} {p:dq} (w:Ψ n p.stack) (hp:cu p p.stack=cu p0 p.stack):
  Can prog 18 [aL T,dP tbs,dI p,num n] (λr=>∃(rs:List Rz) (e:Int),r= .tuple [qB rs,num e]/\rs.length<=1000/\((rs=[]/\e=16/\qZ T tb p0 Ψ)\/∃L iL g c,xS T tb p0 Ψ n p.stack L iL g c/\((rs=[]/\e=6/\1000<c)\/(e=0/\(rs.length:Int)=c/\
   (∀z∈rs,∃(q:List Int) (e:Nat),z.path=q/\(iL=L.length->Br T tb p0 n p.stack q e z.dJ))/\∀(e:Nat) A,(0=e\/tA g 0 e)->g e=[]->L[e]? =some A->∃z∈rs,z.dJ=A.dJ)))):=by
 refine aF func18 I ntmps18 I<|ab (.a 4 I<|.k [1,3,4,6] I)<|aK<|au 4 I<|cD I I (RT (U3 (uo R hv cS J b tbs o m i w hp)) (λy σ' h=>?_));obtain⟨⟨v,e,rfl,t,f,u⟩,rfl⟩:=h;refine au 5 I<|aE [10,11] I ?_;haveI:=t;refine ai<|ab (.a 2 I<|.k [10,11,21] I)<|ae I (λhc=>?_) (λhc=>?_)
 ·obtain⟨rfl,d⟩:=f (tt hc);exact ab (.a 3 I<|.k [8,9] I)<|ao<|⟨_,_,RY I,RW (QV ax.bH<|QV ax.pure Rl),[],16,rfl,by simp,.inl ⟨rfl,rfl,d⟩⟩
 ·have he:e=0:=by have:=ff hc;simpa using this
  obtain⟨L,iL,g,c,M,rfl,C,hM,q,x,rfl⟩:=u he;subst he;have G:=(QT.1 x).1;have H:=hM.1;have a:=C.len;refine aj<|ai<|ab (.a 3 I<|.v (aJ I ((rfl:(bn T++[dP tbs,.slice M.length (gz p0 M)])[4]? =some (.slice M.length (gz p0 M))))) I<|.v (aM (0) I (by omega) (by omega)) I<|.a 1 I<|.v (aJ I ((eD (v:=num q.mn) 11 x (by omega) I))) I<|.a 1 I<|.k [10,30] I)<|ae I (λhc=>?_) (λhc=>?_)
  ·have hc:=tt hc;exact ab (.a 2 I<|.k [8,9] I)<|ao<|⟨_,_,RY I,RW (QV ax.bH<|QV ax.pure Rl),[],6,rfl,by simp,.inr ⟨L,iL,g,_,C,.inl ⟨rfl,rfl,by omega⟩⟩⟩
  ·have hc:=ff hc;obtain⟨K,j,k,l⟩:=C.first;obtain⟨rs,h1,h2,E,F⟩:=E9 R tbs C.ex C.gg M hM a C.cn (by omega) [] K j (by have:=NO (g:=g) L.length 0;simp;omega);exact aj<|ab (.a 1 I<|.v (sT I (QV ax.pure<|QV ax.pure<|QV ax.bH Rl) (h1)) I<|.a 2 I<|.k [8,9] I)<|ao<|⟨_,_,RY I,RW (QV (ax.pure (p:=qB rs))<|QV ax.pure Rl),rs,0,rfl,by omega,.inr ⟨L,iL,g,_,C,.inr ⟨rfl,h2,λz u=>by
    obtain⟨q,e,B,N,D⟩:=E z u;exact⟨q,e,by rw[B];rfl,λh=>by rw[<-k,<-l];exact D h⟩,F⟩⟩⟩
theorem yB(R:vQ T tb p0 Ψ)(hv:av T=true)(cS:T.nodes<=12){U:List (Nat×List bG)}(V:∀ {n s},Ψ n s->(n,s)∈U)(A:U.length<=100000000)(tbs:List cQ)(K:(tbs.length:Int)=T.nodes)(J:∀n:Nat,(n:Int)<T.nodes->tbs[n]? =some (tb n))
  (F:∀n:Nat,(n:Int)<T.nodes->(tb n).node=(n:Int)/\df T (tb n)=true) {n:Nat} {p:dq} (O:Ψ n p.stack) (hp:cu p p.stack=cu p0 p.stack):
  Can prog 16 [aL T,dP tbs,dI p,num n] (λr=>∃(b:Bool) (e:Int),r= .tuple [flag b,num e]/\((b=false/\e=16/\qZ T tb p0 Ψ)\/(e=0/\∃L iL g c,xS T tb p0 Ψ n p.stack L iL g c/\
   ((b=false/\∃(k:Nat) (q:Sq),L[k]? =some q/\g k=[]/\q.dJ≠ -1)\/(b=true/\∀(k:Nat) (q:Sq),L[k]? =some q->g k=[]->q.dJ= -1))))):=by
 refine aF func16 I ntmps16 I<|ab (.a 4 I<|.k [1,3,4,6] I)<|aK<|au 4 I<|cD I I (RT (U3 (uo R hv cS V A tbs K J F O hp)) (λy σ' h=>?_));obtain⟨⟨v,e,rfl,N,E,Z⟩,rfl⟩:=h;refine au 5 I<|aE [10,11] I ?_;haveI:=N;refine ai<|ab (.a 2 I<|.k [10,11,22] I)<|ae I (λhc=>?_) (λhc=>?_)
 ·obtain⟨rfl,B⟩:=E (tt hc);exact ab (.a 3 I<|.k [8,9] I)<|ao<|⟨_,_,RY I,ax.pure (p:=.tuple [flag false,num 16]),false,16,rfl,.inl ⟨rfl,rfl,B⟩⟩
 ·have he:e=0:=by have:=ff hc;simpa using this
  obtain⟨L,iL,g,c,M,rfl,C,hM,q0,Y,_⟩:=Z he;subst he;have S:=hM.1;have Q:=C.len;refine aj<|ai<|ab (.a 1 I<|.k [10,12] I)<|aw<|eF [10,12] I<|bd (λr st=>∃i:Nat,i<=M.length/\r=M.length - i/\(∀(k:Nat) (q:Sq),k<i->L[k]? =some q->g k=[]->q.dJ= -1)/\st=⟨[(10,H7 T tbs p0 M),(12,num i)],[]⟩) M.length ⟨0,by omega,by omega,λk q hk=>absurd hk (SK k),rfl⟩ ?_;rintro r st ⟨i,hi,rfl,o,rfl⟩;refine ai<|ab (.a 4 I<|.v (aJ I ((rfl:(bn T++[dP tbs,.slice M.length (gz p0 M)])[4]? =some (.slice M.length (gz p0 M))))) I<|.a 2 I<|.k [10,12,30] I)<|ae I (λhc=>?_) (λhc=>?_)
  ·have X:i<M.length:=by have:=tt hc;omega
   obtain⟨q,d⟩:∃q,L[i]? =some q:=⟨_,QX (by omega)⟩;obtain⟨c1,t1,t⟩:=hM.2 i q d;have x:=C.gg.x d;have⟨js,f⟩:=QQ (g i);rw[f]at x;have H:(mf p0 (q.mark c1 t1))[8]? =some q.x:=rfl;have G:(mf p0 (q.mark c1 t1))[9]? =some (num q.dJ):=rfl;have⟨z,l⟩:=QQ (decide ((js.length:Int)=0));have⟨P,m⟩:=QQ (decide (q.dJ≠ -1));refine aj<|ai<|aw<|bz 53 (.raw (.bool (z&&P))) [10,12] I ?_ ?_
   ·refine .a 3 I<|.v (aJ I ((rfl:(bn T++[dP tbs,.slice M.length (gz p0 M)])[4]? =some (.slice M.length (gz p0 M))))) I<|.a 1 I<|.v (aM ((i*12)) I) I<|.a 1 I<|.v (aJ I ((eD 8 t (by omega) H))) I<|.v (qV x rfl (RP I) I) I<|.v (bW I (l)) I<|.a 1 I<|?_;cases z
    ·exact .a 10 I<|.k [53,10,12] I
    ·exact .a 3 I<|.v (aJ I ((rfl:(bn T++[dP tbs,.slice M.length (gz p0 M)])[4]? =some (.slice M.length (gz p0 M))))) I<|.a 1 I<|.v (aM ((i*12)) I) I<|.a 1 I<|.v (aJ I ((eD 9 t (by omega) G))) I<|.v (bW I (m)) I<|.a 1 I<|.k [53,10,12] I
   refine ae I (λhc=>?_) (λhc=>?_)
   ·have w:z=true/\P=true:=Q3.1 hc;exact ab (.a 2 I<|.k [8,9] I)<|ao<|⟨_,_,RY I,ax.pure (p:=.tuple [flag false,num 0]),false,0,rfl,.inr ⟨rfl,L,iL,g,c,C,.inl ⟨rfl,i,q,d,by rw[f];exact Rd (by have:=tt (l.trans w.1);omega),tt (m.trans w.2)⟩⟩⟩
   ·have u:(z&&P)=false:=hc;refine aj<|aC (.a 1 I<|.v (aW I) I<|.a 1 I<|.k [10,12] I) ?_;refine⟨M.length - (i+1),by omega,i+1,by omega,rfl,λk q' hk j a=>?_,rfl⟩;by_cases D:k<i
    ·exact o k q' D j a
    ·obtain rfl:k=i:=by omega
     rw[d]at j;cases j;rw[f]at a;apply Q4;intro hw;rw[<-l,<-m,a,Rb (by simp),Rb hw]at u;cases u
  ·have W:i=M.length:=by have:=ff hc;omega
   exact ba<|ab (.a 2 I<|.k [8,9] I)<|ao<|⟨_,_,RY I,ax.pure (p:=.tuple [flag true,num 0]),true,0,rfl,.inr ⟨rfl,L,iL,g,c,C,.inr ⟨rfl,λk q t a=>o k q (by have:=(QT.1 t).1;omega) t a⟩⟩⟩
end
section
variable {T:ak} {tb:Nat->cQ} {p0:dq} {Ψ:Nat->List bG->Prop}
def Hf(T:ak)(tb:Nat->cQ)(p0:dq)(Ψ:Nat->List bG->Prop)(n:Nat)(s:List bG)(r:PV):Prop:=
 (∃v c L,r= .tuple [v,.slice L.length L,num 0]/\fU T tb p0 Ψ v n s c/\L.length<=100000000/\(∀x∈L,∃n s c,fU T tb p0 Ψ x n s c)/\∀m s',(n,s)=(m,s')\/om T tb p0 n s m s'->∃x∈L,∃c,fU T tb p0 Ψ x m s' c)\/
  (r= .tuple [.raw (.pointer none),.slice 0 [],num 16]/\qZ T tb p0 Ψ)
theorem J7.G2{tbs p1 op}{j:Nat}{kv rest}{n:Nat}{s r σ'}(h:J7 T tb p0 Ψ tbs p1 op j kv rest n s r σ'):∃b kv' j' rest' L',σ'=P8 T tbs p1 b j' kv' rest'/\rest'[j']? =some (fu L')/\(b=false->(∃c,fU T tb p0 Ψ r n s c)/\nj T tb p0 Ψ op kv'/\L'=kv'.map (·.2)/\dz n s∈kv'.map (·.1))/\(b=true->qZ T tb p0 Ψ):=by
 rcases h with⟨c,kv',j',rest',h1,h2,a,_,_,d,_,e,_⟩|⟨c,kv',j',rest',_,h2,⟨L',a⟩,_,_,d⟩
 ·exact⟨false,kv',j',rest',_,h2,a,λ_=>⟨⟨c,h1⟩,d,rfl,e⟩,λh=>by cases h⟩
 ·exact⟨true,kv',j',rest',L',h2,a,λh=>(by cases h),λ_=>d⟩
instance:gH Md:=by unfold Md;infer_instance
theorem Pf:BF prog 101=some [.nilFunc]:=by kernel_rfl
theorem sB(R:vQ T tb p0 Ψ)(hv:av T=true)(cS:T.nodes<=12){U:List (Nat×List bG)}(C:∀ {n s},Ψ n s->(n,s)∈U)(q:U.length<=100000000)(tbs:List cQ)(B:(tbs.length:Int)=T.nodes)(l:∀n:Nat,(n:Int)<T.nodes->tbs[n]? =some (tb n))
  (A:∀n:Nat,(n:Int)<T.nodes->(tb n).node=(n:Int)/\df T (tb n)=true) {n:Nat} {p:dq} (f:Ψ n p.stack) (hp:cu p p.stack=cu p0 p.stack):
  Can prog 24 [aL T,dP tbs,dI p,num n] (Hf T tb p0 Ψ n p.stack):=by
 have hn:=R.node f;have u:=Dc T tbs n hv B (λi x hx=>by
  have H:=(QT.1 hx).1;have:=l i (by omega);rw[this]at hx;cases hx;exact A i (by omega)) (aQ.2 ⟨by omega,hn⟩)
 refine aF func24 I ntmps24 I<|aK<|cb (fV I I I) I<|cb (fV (xs:=[_]) I I I) I<|cb (fV I I I) I<|au 3 I<|aE [3,4,5,6,9] I ?_;refine ai<|ab (.a 3 I<|.c rfl (u) I<|.a 1 I<|.k [3,4,5,6,9,11] I)<|ab (.a 2 I<|.k [3,4,5,6,9,11,20] I)<|ae I (λhc=>?_) (λhc=>?_)
 ·cases hc
 ·refine aj<|aK<|cb (rE sS rfl) I<|au 2 I<|aE [3,4,5,6,9,12] I ?_;refine aK<|au 2 I<|aE [3,4,5,6,9,12,13] I ?_;refine aK<|cb (oC (z:=[.nilFunc]) I Pf) I<|aE [3,4,5,6,9,12,13,14] I ?_;refine aK<|au 1 I ?_;refine bc (b9 (p:=Md) I (Q6 I) I I I (Re rfl)) I I<|aE [3,6,9,13,14] I ?_;refine cm 3 0 67 1 I I<|eO (σ':=P8 T tbs p false 0 [] [fu []]) I ?_;refine aK<|au 3 I<|cD I I (RT (GN R hv cS C q tbs l p U.length n p f hp [] [] 0 [fu []] (by simp) I ⟨λe he=>(by cases he),UE⟩ (λx hx=>(by cases hx)) (λx hx=>(by cases hx))) (λy σ' h=>?_));obtain⟨b,kv,j,rest,L,rfl,J,r,t⟩:=h.G2;refine au 1 I<|aE [8,9,13] I ?_;refine ai<|ab (.a 1 I<|.k [8,9,28] I)<|ae I (λhc=>?_) (λhc=>?_)
  ·have hc:b=true:=hc;subst hc;refine aK<|au 1 I<|bc (Tb (σ:=P8 T tbs p true j kv rest) (b9 (p:=.raw (.slice none 0 0)) I (Q6 I) I I I (Re rfl)) (σ'':=(P8 T tbs p true j kv rest).set 3 (some (.cells 68 [.raw (.slice none 0 0)]))) I I) I I<|au 1 I<|aE [8,9,10] I ?_;exact ao<|QR I (RW (QV ax.pure<|QV ax.bH<|QV ax.pure Rl)) (.inr ⟨rfl,t rfl⟩)
  ·have hc:b=false:=hc;subst hc;obtain⟨⟨c,E⟩,d,rfl,k⟩:=r rfl;haveI:=E.pure;refine aj<|tG ([(8,y),(9,.ptr 3 0),(10,num 0)]) (P8 T tbs p false j kv rest) mixed ?_ ?_
   ·refine bT 0 [1] (by kernel_rfl)<|bC I I (bm (bb I) I (bg ?_)) ?_
    ·refine bT 1 [2] (by kernel_rfl)<|bC I I (bm (bb I) I (bg ?_)) ?_
     ·refine bT 2 [] (by kernel_rfl)<|bC I I (bm (bb I) I (bg ?_)) bU;refine bT 3 [] (by kernel_rfl)<|bC I I (bc (Tb (σ:=P8 T tbs p false j kv rest) (b9 I (Q6 I) I I I (Re rfl)) (σ'':=P8 T tbs p false j kv rest) I I) I I (bg ?_)) bU;refine bT 4 [] (by kernel_rfl)<|bC I I (bm (bb I) I (bg ?_)) bU;exact lB (by kernel_rfl) ⟨rfl,aR (ks:=[8,9,10]) I⟩
     refine bC I I (bm (bb I) I (bg ?_)) bU;refine bT 1 [] (by kernel_rfl)<|bC I I (bm (bb I) I (bg ?_)) bU;refine bT 3 [] (by kernel_rfl)<|bC I I (bc (Tb (σ:=P8 T tbs p false j kv rest) (b9 I (Q6 I) I I I (Re rfl)) (σ'':=P8 T tbs p false j kv rest) I I) I I (bg ?_)) bU;refine bT 4 [] (by kernel_rfl)<|bC I I (bm (bb I) I (bg ?_)) bU;exact lB (by kernel_rfl) ⟨rfl,aR (ks:=[8,9,10]) I⟩
    refine bC I I (bm (bb I) I (bg ?_)) bU;refine bT 0 [] (by kernel_rfl)<|bC I I (bm (bb I) I (bg ?_)) bU;refine bT 2 [] (by kernel_rfl)<|bC I I (bm (bb I) I (bg ?_)) bU;refine bT 3 [] (by kernel_rfl)<|bC I I (bc (Tb (σ:=P8 T tbs p false j kv rest) (b9 I (Q6 I) I I I (Re rfl)) (σ'':=P8 T tbs p false j kv rest) I I) I I (bg ?_)) bU;refine bT 4 [] (by kernel_rfl)<|bC I I (bm (bb I) I (bg ?_)) bU;exact lB (by kernel_rfl) ⟨rfl,aR (ks:=[8,9,10]) I⟩
   refine ao ?_;have g:∀x∈kv.map (·.2),∃n s c,fU T tb p0 Ψ x n s c:=λx hx=>by
    obtain⟨e,he,rfl⟩:=RB.1 hx;obtain⟨n1,s1,_,_,h1⟩:=d.zu e he;rcases h1 with⟨⟨c1,h1⟩,_⟩|⟨_,h1,_⟩
    ·exact⟨n1,s1,c1,h1⟩
    ·cases h1
   haveI:aP (kv.map (·.2)):=⟨λi x hx=>by
    obtain⟨_,_,_,h⟩:=g x (Ro hx);exact h.pure⟩
   have D:=d.Nt C;exact⟨_,_,RY I,RW (QV ax.pure<|QV (Tj (i:=j+8) (show(P8 T tbs p false j kv rest)[j+8]? =_ from J) Sj)<|QV ax.pure Rl),.inl ⟨y,c,kv.map (·.2),rfl,E,by rw[RN];omega,g,λm s' a=>by
    obtain⟨o,hk⟩:Ψ m s'/\dz m s'∈kv.map (·.1):=by
     rcases a with a|a
     ·injection a with F G;subst F;subst G;exact⟨f,k⟩
     ·exact d.all R cS a f k
    obtain⟨e,he,w⟩:=RB.1 hk;rcases d.Ao R cS o (v:=e.2) (by rw[<-w];exact he)with⟨⟨c1,h1⟩,_⟩|⟨_,h1,_⟩
    ·exact⟨e.2,RB.2 ⟨e,he,rfl⟩,c1,h1⟩
    ·cases h1⟩⟩
theorem Hf.G2{n:Nat}{s r}(h:Hf T tb p0 Ψ n s r):∃v L e,r= .tuple [v,.slice (List.length L) L,num e]/\IsPure v/\aP L/\(e≠0->e=16/\qZ T tb p0 Ψ)/\
  (e=0->∃c,fU T tb p0 Ψ v n s c/\L.length<=100000000/\(∀x∈L,∃n s c,fU T tb p0 Ψ x n s c)/\∀m s',(n,s)=(m,s')\/om T tb p0 n s m s'->∃x∈L,∃c,fU T tb p0 Ψ x m s' c):=by
 rcases h with⟨v,c,L,e,b,hl,a,d⟩|⟨e,hc⟩
 ·exact⟨v,L,0,e,b.pure,⟨λi x hx=>by
   obtain⟨_,_,_,h⟩:=a x (Ro hx);exact h.pure⟩,λh=>absurd rfl h,λ_=>⟨c,b,hl,a,d⟩⟩
 ·exact⟨_,[],16,e,inferInstance,⟨λi x hx=>by simp at hx⟩,λ_=>⟨rfl,hc⟩,λh=>by cases h⟩
theorem DU{a b:Int}(h:(num a:PV)=num b):a=b:=by
 injection h with h;injection h
theorem Ij{a b:List Int}(h:aq a=aq b):a=b:=by
 unfold aq at h;injection h with _ h;unfold aU at h;exact List.map_inj_right (λx y e=>DU e) |>.1 h
def nk(T:ak)(tb:Nat->cQ)(p0:dq)(n:Nat)(s:List bG):Prop:=∃m s',((n,s)=(m,s')\/om T tb p0 n s m s')/\(bh T tb p0 m s').aA=[]/\(bh T tb p0 m s').dJ≠ -1
theorem pd(R:vQ T tb p0 Ψ)(hv:av T=true)(cS:T.nodes<=12){U:List (Nat×List bG)}(hU:∀ {n s},Ψ n s->(n,s)∈U)(G:U.length<=100000000)(tbs:List cQ)(S:(tbs.length:Int)=T.nodes)(Q:∀n:Nat,(n:Int)<T.nodes->tbs[n]? =some (tb n))
  (N:∀n:Nat,(n:Int)<T.nodes->(tb n).node=(n:Int)/\df T (tb n)=true) {n:Nat} {p:dq} (W:Ψ n p.stack) (hp:cu p p.stack=cu p0 p.stack) (b:∀m s',Ψ m s'->(n,p.stack)=(m,s')\/om T tb p0 n p.stack m s'):
  Can prog 14 [aL T,dP tbs,dI p,num n] (λr=>(r= .tuple [flag false,num 16]/\qZ T tb p0 Ψ)\/((∃v c,fU T tb p0 Ψ v n p.stack c)/\((r= .tuple [flag false,num 0]/\nk T tb p0 n p.stack)\/(r= .tuple [flag true,num 0]/\¬nk T tb p0 n p.stack)))):=by
 refine aF func14 I ntmps14 I<|ab (.a 4 I<|.k [1,3,4,6] I)<|aK<|au 4 I<|cD I I (RT (U3 (sB R hv cS hU G tbs S Q N W hp)) (λy σ' h=>?_));obtain⟨h,rfl⟩:=h;obtain⟨v,L,e,rfl,V,E,M,hz⟩:=Hf.G2 h;refine au 7 I<|aE [11,12] I ?_;haveI:=V;haveI:=E;refine ai<|ab (.a 2 I<|.k [11,12,25] I)<|ae I (λhc=>?_) (λhc=>?_)
 ·have he:e=16/\qZ T tb p0 Ψ:=M (tt hc);obtain⟨rfl,H⟩:=he;exact ab (.a 3 I<|.k [8,9] I)<|ao<|QR I (ax.pure (p:=.tuple [flag false,num 16])) (.inl ⟨rfl,H⟩)
 ·have he:e=0:=by have:=ff hc;simpa using this
  subst he;obtain⟨c,Y,aa,q,d⟩:=hz rfl;refine aj<|ai<|ab (.a 3 I<|.k [27,28,29] I)<|aw<|eF [27,28,29] I<|bd (λr st=>∃k,k<=L.length/\r=L.length - k/\(∀i x n s c,i<k->L[i]? =some x->fU T tb p0 Ψ x n s c->¬((bh T tb p0 n s).aA=[]/\(bh T tb p0 n s).dJ≠ -1))/\st=⟨[(27,.slice L.length L),(28,num L.length),(29,num k)],[]⟩) L.length ⟨0,by omega,by omega,λi x n s c hi=>absurd hi (SK i),rfl⟩ ?_;rintro r st ⟨k,hk,rfl,z,rfl⟩;refine ab (.a 1 I<|.k [27,28,29,30] I)<|ai<|ae I (λhc=>?_) (λhc=>?_)
  ·have K:k<L.length:=by have:=tt hc;omega
   obtain⟨x,hx⟩:∃x,L[k]? =some x:=⟨_,QX K⟩;obtain⟨n1,s1,c1,f⟩:=q x (Ro hx);have u:=f;obtain⟨vs,cs,rfl,_⟩:=f.parts;obtain⟨u1,h1⟩:=f.state;have⟨O,F⟩:=QQ (bh T tb p0 n1 s1);rw[F]at hx u;have⟨B,g⟩:=QQ (decide ((O.aA.length:Int)=0));have⟨X,j⟩:=QQ (decide (O.dJ≠ -1));refine aj<|ai<|aw<|ab (.v (aM (k) I) I<|.v (aJ I (hx)) I<|.a 1 I<|.k [14,27,28,29] I)<|bz 45 (.raw (.bool (B&&X))) [27,28,29] I ?_ ?_
   ·refine .a 5 I<|.v (bW I (g)) I<|.a 1 I<|?_;cases B
    ·exact .a 6 I<|.k [45,27,28,29] I
    ·exact .a 3 I<|.v (aJ I (rfl)) I<|.v (bW I (j)) I<|.a 1 I<|.k [45,27,28,29] I
   refine ae I (λhc=>?_) (λhc=>?_)
   ·have A:B=true/\X=true:=Q3.1 hc;exact ab (.a 2 I<|.k [8,9] I)<|ao<|QR I (ax.pure (p:=.tuple [flag false,num 0])) (.inr ⟨⟨_,_,Y⟩,.inl ⟨rfl,n1,s1,b n1 s1 h1,by rw[F];exact Rd (by have:=tt (g.trans A.1);omega),by rw[F];exact tt (j.trans A.2)⟩⟩)
   ·have P:(B&&X)=false:=hc;refine aj<|aC (.v (aW I) I<|.a 1 I<|.k [27,28,29] I) ?_;refine⟨L.length - (k+1),by omega,k+1,by omega,rfl,λi x n s c hi l w a=>?_,rfl⟩;by_cases J:i<k
    ·exact z i x n s c J l w a
    ·obtain rfl:i=k:=by omega
     rw[hx]at l;cases l;obtain⟨af,Z,e2,_⟩:=w.parts;injection e2 with o _;unfold fL at o;injection o with _ o;injection o with C o;injection o with D _;have C:O.dJ=(bh T tb p0 n s).dJ:=DU C;have D:O.aA=(bh T tb p0 n s).aA:=Ij D;have t:=P;rw[<-g,<-j,C,D,a.1,Rb (by simp),Rb a.2]at t;cases t
  ·have ad:k=L.length:=by have:=ff hc;omega
   refine ba<|ab (.a 2 I<|.k [8,9] I)<|ao<|⟨_,_,RY I,ax.pure (p:=.tuple [flag true,num 0]),.inr ⟨⟨_,_,Y⟩,.inr ⟨rfl,λ⟨m,s',h1,h2⟩=>?_⟩⟩⟩;obtain⟨x,hx,c1,h3⟩:=d m s' h1;obtain⟨i,hi⟩:=Rv hx;exact z i x m s' c1 (by have:=(QT.1 hi).1;omega) hi h3 h2
end
end
end PW
end Go.Proofs.YtoopjinigmhpcaaGreatDoor
