/- WholeIncremental returns true for every input: after any changes the incremental trees of all destinations are the tables of the topology as it is then, and every packet arrives over every branch at the least cost. Package-level tables start as the program's text lays them. -/
import Derived.Test.YteikppbedmmdnaaGreatDoorCardWIB15
set_option linter.unusedVariables false
set_option linter.unusedSimpArgs false
set_option maxRecDepth 10000
set_option maxHeartbeats 1000000
namespace Go.Proofs.YteikppbedmmdnaaGreatDoor
namespace PW
section
open Go.RowKit cj Mem Net Heap eX
theorem B9{A N:Nat}{s:ah×List Bool}{c:su}(h:c.k % 3=0∧0<A):mR A N s c=(iA s.1 ((c.w % A:Nat):Int) ((1+c.n % 6:Nat):Int),s.2):=by unfold mR;rw[if_pos h]
theorem Ca{A N:Nat}{s:ah×List Bool}{c:su}(h:c.k % 3=1∧0<A):mR A N s c=(s.1,kb s.1 s.2 ((c.w % A:Nat):Int) (decide (c.n % 2=1))):=by unfold mR;rw[if_neg (by omega),if_pos h]
theorem Be{A N:Nat}{s:ah×List Bool}{c:su}(h:c.k % 3=2):mR A N s c=(jm s.1 ((c.w % N:Nat):Int) (decide (c.n % 2=1)),s.2):=by unfold mR;rw[if_neg (by omega),if_neg (by omega),if_pos h]
theorem BK{A N:Nat}{s:ah×List Bool}{c:su}(h1:¬(c.k % 3=0∧0<A))(h2:¬(c.k % 3=1∧0<A))(h3:c.k % 3≠2):mR A N s c=s:=by unfold mR;rw[if_neg h1,if_neg h2,if_neg h3]
noncomputable abbrev sH(TF:ah)(DF:List Bool)(N c:Nat)(tcs:Nat→Int)(j:Nat)(T:ah)(D:List Bool)(tc:Int)(k:Nat):bN:=
 (pF N c (j+1)::jx TF DF N c tcs j)++(jU (1+j*(5+c)) T D j N (aO T D j false) (num tc)++List.replicate k none)
theorem tv(x:Option cK)(TF:ah)(DF:List Bool)(N c:Nat)(tcs:Nat→Int)(j:Nat):(x::jx TF DF N c tcs j).length=1+j*(5+c):=by rw[List.length_cons,sh];omega
theorem CW(TF:ah)(DF:List Bool)(N c:Nat)(tcs:Nat→Int)(j:Nat)(T:ah)(D:List Bool)(tc:Int)(k:Nat):sH TF DF N c tcs j T D tc k++[none]=sH TF DF N c tcs j T D tc (k+1):=by
 simp[sH,List.replicate_succ']
theorem Gm{A N d:Nat}{s:ah×List Bool}(h:iF s.1 s.2 N d)(c:su):iF (mR A N s c).1 (mR A N s c).2 N d:=by
 unfold mR
 split
 ·exact h.iA _ _
 ·split
  ·exact h.kb _ _
  ·split
   ·exact h.jm _ _
   ·exact h
theorem wk{A N d:Nat}:∀(l:List su) {s:ah×List Bool},iF s.1 s.2 N d→iF (pR A N s l).1 (pR A N s l).2 N d
 | [],_,h=>h
 |c::l,s,h=>wk l (s:=mR A N s c) (Gm h c)
theorem sg{A N:Nat}:∀(l:List su) (s:ah×List Bool),(pR A N s l).1.ae.length=s.1.ae.length
 | [],_=>rfl
 |c::l,s=>(sg l (mR A N s c)).trans (by
  unfold mR
  split
  ·exact pZ _ _ _
  ·split
   ·rfl
   ·split
    ·exact pI _ _ _
    ·rfl)
theorem aW.le{P:Program}{f:FuncId}{ps qs:List PV}{σ:bN}{R:PV→bN→Prop}(h:aW P f ps σ R)(hl:zJ qs ps):aW P f qs σ R:=fun F base E w vs hS hR=>h F base E w vs hS ⟨hR.1.trans hl.1,fun i x u h1 h2=>by
 have hi:i<qs.length:=by rw[hl.1];exact(List.getElem?_eq_some_iff.1 h2).1
 exact hl.2 i qs[i] u (List.getElem?_eq_getElem hi) h2 E w x (hR.2 i x qs[i] h1 (List.getElem?_eq_getElem hi))⟩
theorem EK{T:ah}{A w n:Nat}(h:2*T.ae.length=A)(hA:0<A):ly T ((w % A:Nat):Int) ((1+n % 6:Nat):Int)=0:=by
 have:=Nat.mod_lt w hA
 unfold ly
 rw[if_pos (lC.2 ⟨by omega,by omega⟩),if_neg (by omega)]
theorem DC{T:ah}{A w:Nat}(h:2*T.ae.length=A)(hA:0<A):rG T ((w % A:Nat):Int)=0:=by
 have:=Nat.mod_lt w hA
 unfold rG
 rw[if_pos (lC.2 ⟨by omega,by omega⟩)]
theorem Ga{T:ah}{N w:Nat}(h:T.nodes=(N:Int))(hN:0<N):rX T ((w % N:Nat):Int)=0:=by
 have:=Nat.mod_lt w hN
 unfold rX
 rw[if_pos (bu.2 ⟨by omega,by omega⟩)]
theorem sf(w A:Nat):(w:Int).tmod (A:Int)=((w % A:Nat):Int):=by rw[Int.tmod_eq_emod_of_nonneg (by omega)];rfl
set_option maxHeartbeats 8000000 in
theorem xT(T:ah)(l:List su)(hl:∀c∈l,c.k<256∧c.w<256∧c.n<256):Can Tryz.prog 3 [aZ T,rK l] (· =flag true):=by
  obtain⟨w1,hw1⟩:∃q,vi T=q:=⟨_,rfl⟩
  obtain⟨w2,hw2⟩:∃q,decide ((12:Int)<l.length)=q:=⟨_,rfl⟩
  have hsm:=yx T
  rw[hw1]at hsm
  refine aT Tryz.func3 I Tryz.ntmps3 I<|af (.a 2 I<|.k [1,2] I)<|an<|af (.c rfl (uH) I<|.a 1 I<|.k [1,2,27] I)<|aj I (fun hc=>?_) (fun hc=>?_)
  · cases hc
  · clear hc
    refine ak<|an<|bP 35 (.raw (.bool ((!w1)||w2))) [1,2] I ?_ ?_
    · refine .v (ju I (rfl) I) I<|.c rfl (hsm) I<|.a 2 I<|?_
      cases w1
      · exact .a 4 I<|.k [35,1,2] I
      · exact .a 2 I<|.v (cD I (hw2)) I<|.a 1 I<|.k [35,1,2] I
    refine aj I (fun hc=>?_) (fun hc=>?_)
    · skip
      exact af (.a 1 I<|.k [4] I)<|az<|⟨_,_,aE.of I,aD.pure,rfl⟩
    · have hall:w1=true∧w2=false:=by cases w1<;>cases w2<;>simp at hc ⊢
      obtain⟨rfl,rfl⟩:=hall
      have hsv:au T=true∧T.nodes≤7∧T.ae.length≤10:=by
        unfold vi at hw1
        simp only[Bool.and_eq_true,decide_eq_true_eq]at hw1
        exact⟨hw1.1.1,hw1.1.2,by omega⟩
      obtain⟨hv,h7,h10⟩:=hsv
      have hl12:l.length≤12:=by have:=ff hw2;omega
      have hNl:=(aM hv).nodes
      obtain⟨N,hNN⟩:∃N:Nat,T.nodes=(N:Int):=⟨T.nodes.toNat,by omega⟩
      have hN1:0<N:=by omega
      have hN7:N≤7:=by omega
      obtain⟨A,hA⟩:∃A,2*T.ae.length=A:=⟨_,rfl⟩
      obtain⟨⟨TF,DF⟩,hFF⟩:∃s,pR A N (cS T,ef T []) l=s:=⟨_,rfl⟩
      have hec:∀j:Nat,j<N→cX T [] [(j:Int)]=0:=fun j hj=>Au (by rw[hv];rfl) (bu.2 ⟨by omega,by omega⟩)
      have hT0:∀j,j<N→iF (cS T) (ef T []) N j:=fun j hj=>xZ hv rfl hNN hj
      have hTF:∀j,j<N→iF TF DF N j:=fun j hj=>by
        have:=wk (A:=A) l (s:=(cS T,ef T [])) (hT0 j hj)
        rwa [hFF]at this
      clear hc
      refine ak<|af (.a 3 I<|.v (aU I (hc:=(show(2:Int)*(T.ae.length:Int)=(A:Int) by omega))) I<|.a 1 I<|.k [1,2,5] I)<|aR<|ax 1 I<|bw (aK I ((show some (num T.nodes)=some (num (N:Int)) by rw[hNN]))) I<|cg (da I (bG.rk.get I) I I I I ⟨by unfold maxLen;omega,by omega⟩) I<|ax 1 I<|aH [1,2,5,6] I ?_
      refine dF (σ':=pF N l.length 0::jx TF DF N l.length (fun _=>0) 0) (by show [some (cK.row _ 1 N (dB [.raw (.pointer none)] N))]=[some (cK.row _ 1 N (fS N l.length 0))];rw[xP N l.length]) ?_
      refine an<|af (.a 3 I<|.k [1,2,5,6,44,45] I)<|ay<|eY [1,2,5,6,44,45] I<|br (fun r st=>∃(j:Nat) (tcs:Nat→Int),j≤N∧r=N - j∧st=⟨[(1,rK l),(2,.bg (bI T) 0),(5,num A),(6,.own 0),(44,num N),(45,num j)],pF N l.length j::jx TF DF N l.length tcs j⟩) N ⟨0,fun _=>0,by omega,by omega,rfl⟩ ?_
      rintro r st ⟨j,tcs,hj,rfl,rfl⟩
      refine af (.a 1 I<|.k [1,2,5,6,44,45,46] I)<|an<|aj I (fun hy=>?_) (fun hy=>?_)
      · have hlt:j<N:=by have:=tt hy;omega
        have hnew:=(Es T [] j N (hec j hlt) hNN (pF N l.length j::jx TF DF N l.length tcs j)).le (qs:=[aZ T,.raw (.slice none 0 0),num j]) (.cons (lr.refl _)<|.cons lr.cc<|.cons (lr.refl _) .nil)
        refine ak<|an<|ay<|af (.a 2 I<|.k [1,2,5,6,7,44,45] I)<|af (.a 1 I<|.k [1,2,5,6,7,44,45] I)<|an<|aR<|ax 2 I<|bw (ju I (rfl) I) I<|ax 1 I<|b7 I I (aW.mono hnew (fun _ σ' h=>?_))
        obtain⟨rfl,rfl⟩:=h
        refine ax 3 I<|bw (aJ (j) I) I<|ba (cm I (bG.tk.get I) I I I (by show j<(fS N l.length j).length;rw[kW];exact hlt)) I I<|ax 1 I<|aH [1,2,5,6,7,8,44,45] I ?_
        refine dF (σ':=sH TF DF N l.length tcs j (cS T) (ef T []) 0 0) (by
          have e1:=tv (pF N l.length j) TF DF N l.length tcs j
          rw[e1]
          show some (cK.row _ 1 N (over (fS N l.length j) j [.ptr (1+j*(5+l.length)) 0]))::(jx TF DF N l.length tcs j++jU (1+j*(5+l.length)) _ _ j N _ _)=_
          rw[xh _ _ _ (by rw[kW];exact hlt),yL _ _ _ hlt]
          simp[sH]) ?_
        obtain⟨p3,hp3⟩:∃q,decide ((0:Int)≠0)=q:=⟨_,rfl⟩
        have h3:p3=false:=by rw[←hp3];rfl
        refine af (.a 1 I<|.v (cD I (hp3)) I<|.k [1,2,5,6,7,44,45,58] I)<|aj I (fun hc=>?_) (fun hc=>?_)
        · rw[h3]at hc
          cases hc
        · refine ak<|af (.a 3 I<|.k [1,2,5,6,7,44,45,59,60,61] I)<|ay<|eY [1,2,5,6,7,44,45,59,60,61] I<|br (fun r st=>∃(k:Nat) (T1:ah) (D1:List Bool) (tc:Int),k≤l.length∧iF T1 D1 N j∧T1.ae.length=T.ae.length∧pR A N (cS T,ef T []) (l.take k)=(T1,D1)∧r=l.length - k∧st=⟨[(1,rK l),(2,.bg (bI T) 0),(5,num A),(6,.own 0),(7,num j),(44,num N),(45,num j),(59,rK l),(60,num l.length),(61,num k)],sH TF DF N l.length tcs j T1 D1 tc k⟩) l.length ⟨0,cS T,ef T [],0,by omega,hT0 j hlt,rfl,rfl,by omega,rfl⟩ ?_
          rintro r st ⟨k,T1,D1,tc,hk,hT,hlk,hfold,rfl,rfl⟩
          refine af (.a 1 I<|.k [1,2,5,6,7,44,45,59,60,61,62] I)<|an<|aj I (fun hy2=>?_) (fun hy2=>?_)
          · have hlt2:k<l.length:=by have:=tt hy2;omega
            obtain⟨e,he⟩:∃e,l[k]? =some e:=⟨_,List.getElem?_eq_getElem hlt2⟩
            obtain⟨e1,e2,e3⟩:=hl e (List.mem_of_getElem? he)
            have hstep:=zA A N (cS T,ef T []) l k e he
            rw[hfold]at hstep
            have hA1:2*T1.ae.length=A:=by omega
            have hbase:=tv (pF N l.length (j+1)) TF DF N l.length tcs j
            have hsc:=o4 (A:=(pF N l.length (j+1)::jx TF DF N l.length tcs j)) (C:=List.replicate (k+1) none) (b:=1+j*(5+l.length)) hbase (vW hT tc ((e.w % A:Nat):Int) ((1+e.n % 6:Nat):Int))
            obtain⟨v5,hv5⟩:∃q,decide (((e.n % 2:Nat):Int)=1)=q:=⟨_,rfl⟩
            have hv5':decide (e.n % 2=1)=v5:=by rw[←hv5];exact decide_eq_decide.2 (by omega)
            have hsd:=o4 (A:=(pF N l.length (j+1)::jx TF DF N l.length tcs j)) (C:=List.replicate (k+1) none) (b:=1+j*(5+l.length)) hbase (xB hT tc ((e.w % A:Nat):Int) v5)
            have hso:=o4 (A:=(pF N l.length (j+1)::jx TF DF N l.length tcs j)) (C:=List.replicate (k+1) none) (b:=1+j*(5+l.length)) hbase (xE hT tc ((e.w % N:Nat):Int) v5)
            obtain⟨b1,hb1⟩:∃q,decide (((e.k % 3:Nat):Int)=0)=q:=⟨_,rfl⟩
            obtain⟨b2,hb2⟩:∃q,decide ((0:Int)<A)=q:=⟨_,rfl⟩
            obtain⟨b3,hb3⟩:∃q,decide (((e.k % 3:Nat):Int)=1)=q:=⟨_,rfl⟩
            obtain⟨b4,hb4⟩:∃q,decide (((e.k % 3:Nat):Int)=2)=q:=⟨_,rfl⟩
            obtain⟨p4,hp4⟩:∃q,decide ((0:Int)≠0)=q:=⟨_,rfl⟩
            have h4:p4=false:=by rw[←hp4];rfl
            have hcell:=rq N l.length (j+1) j (Nat.lt_succ_self j) hlt
            obtain⟨S0,hS0⟩:∃S0,S0=sH TF DF N l.length tcs j T1 D1 tc k:=⟨_,rfl⟩
            refine ak<|an<|ay<|aR<|bw (aJ (k*3) I) I<|bw (ju I (Ej l k e he) I) I<|cg (qx I (bG.zk.get I)) I<|ba (uF (i:=(sH TF DF N l.length tcs j T1 D1 tc k).length) I (bG.tk.get I) I I I I (wx _ _) (Nat.le_of_ble_eq_true rfl)) I I<|aH [1,2,5,6,7,10,44,45,59,60,61] I ?_
            refine dF (σ':=sH TF DF N l.length tcs j T1 D1 tc k++[some (.cells 35 (vd e))]) (by rw[Eb];rfl) ?_
            refine xD (sH TF DF N l.length tcs j T1 D1 tc k).length (wx _ _) (EG _ _) (.cons 1 I (.same _)<|.cons 2 I (.same _)<|.cons 5 I (.same _)<|.cons 6 I (.same _)<|.cons 7 I (.same _)<|.cons 10 I (.ptr 0)<|.cons 44 I (.same _)<|.cons 45 I (.same _)<|.cons 59 I (.same _)<|.cons 60 I (.same _)<|.cons 61 I (.same _) .nil) ?_
            refine dF (CW TF DF N l.length tcs j T1 D1 tc k) ?_
            refine af (.a 1 I<|.k [1,2,5,6,7,10,11,44,45,59,60,61] I)<|an<|ay<|bP 65 (.raw (.bool (b1&&b2))) [1,2,5,6,7,10,11,44,45,59,60,61] I ?_ ?_
            · refine .a 1 I<|.v (aK I (rfl)) I<|.v (gP I I I (fun w=>vI e.k w)) I<|.v (pX I I I hb1) I<|.a 1 I<|?_
              cases b1
              · exact .a 4 I<|.k [65,1,2,5,6,7,10,11,44,45,59,60,61] I
              · exact .a 1 I<|.v (cD I (hb2)) I<|.a 2 I<|.k [65,1,2,5,6,7,10,11,44,45,59,60,61] I
            refine aj I (fun hc1=>?_) (fun hc1=>?_)
            · have hkk:e.k % 3=0∧0<A:=by
                obtain⟨c1,c2⟩:=(Bool.and_eq_true _ _).mp hc1
                rw[c1]at hb1
                rw[c2]at hb2
                exact⟨by have:=tt hb1;omega,by have:=tt hb2;omega⟩
              rw[B9 hkk]at hstep
              rw[EK hA1 hkk.2]at hsc
              refine mD 14 20 [74,75,76,77,78,79,80,81,82,83,84,85,86,87] mixed (by kernel_rfl) (by kernel_rfl) (by kernel_rfl) I (.a 2 I<|.v [74,75] (aJ (j) I) I I<|.v [76] (aK I (hcell)) I I<|.a 1 I<|.v [78] (aK I (rfl)) I I<|.v [79] (nu I (show Tryz.prog.underlying 5=some (.int .u8) by kernel_rfl) (show Tryz.prog.underlying 3=some (.int .i64) by kernel_rfl) I (wrap_small e2)) I I<|.a 1 I<|.v [80,81] (ni I I I (by omega) (sf e.w A)) I I<|.a 1 I<|.v [83] (aK I (rfl)) I I<|.v [84] (gP I I I (fun w=>HU e.n w)) I I<|.v [85] (nu I (show Tryz.prog.underlying 5=some (.int .u8) by kernel_rfl) (show Tryz.prog.underlying 3=some (.int .i64) by kernel_rfl) I (wrap_small (show e.n % 6<256 by omega))) I I<|.v [86] (aU I (hc:=(show(1:Int)+((e.n % 6:Nat):Int)=((1+e.n % 6:Nat):Int) by omega))) I I<|.k [1,2,5,6,7,44,45,59,60,61,77,82,87] I) ?_
              refine b7 I I (aW.mono hsc (fun _ σ' h=>?_))
              obtain⟨tc',rfl,rfl⟩:=h
              refine ax 1 I<|aH [1,2,5,6,7,11,44,45,59,60,61] I ?_
              have hT2:=hT.iA ((e.w % A:Nat):Int) ((1+e.n % 6:Nat):Int)
              have hl2:=(pZ T1 ((e.w % A:Nat):Int) ((1+e.n % 6:Nat):Int)).trans hlk
              refine af (.a 1 I<|.v (cD I (hp4)) I<|.k [1,2,5,6,7,44,45,59,60,61,133] I)<|aj I (fun hc=>?_) (fun hc=>?_)
              · rw[h4]at hc
                cases hc
              · refine ak<|aF (.v (aU I) I<|.a 1 I<|.k [1,2,5,6,7,44,45,59,60,61] I) ?_
                exact⟨l.length - (k+1),by omega,k+1,_,_,tc',by omega,hT2,hl2,hstep,rfl,rfl⟩
            · have hk1:¬(e.k % 3=0∧0<A):=by
                rintro⟨c1,c2⟩
                rw[decide_eq_true (show((e.k % 3:Nat):Int)=0 by omega)]at hb1
                rw[decide_eq_true (show(0:Int)<A by omega)]at hb2
                subst hb1 hb2
                cases hc1
              refine bP 89 (.raw (.bool (b3&&b2))) [1,2,5,6,7,10,11,44,45,59,60,61] I ?_ ?_
              · refine .a 1 I<|.v (aK I (rfl)) I<|.v (gP I I I (fun w=>vI e.k w)) I<|.v (pX I I I hb3) I<|.a 1 I<|?_
                cases b3
                · exact .a 4 I<|.k [89,1,2,5,6,7,10,11,44,45,59,60,61] I
                · exact .a 1 I<|.v (cD I (hb2)) I<|.a 2 I<|.k [89,1,2,5,6,7,10,11,44,45,59,60,61] I
              refine aj I (fun hc2=>?_) (fun hc2=>?_)
              · have hkk:e.k % 3=1∧0<A:=by
                  obtain⟨c1,c2⟩:=(Bool.and_eq_true _ _).mp hc2
                  rw[c1]at hb3
                  rw[c2]at hb2
                  exact⟨by have:=tt hb3;omega,by have:=tt hb2;omega⟩
                rw[Ca hkk,hv5']at hstep
                rw[DC hA1 hkk.2]at hsd
                refine mD 13 20 [98,99,100,101,102,103,104,105,106,107,108,109,110] mixed (by kernel_rfl) (by kernel_rfl) (by kernel_rfl) I (.a 2 I<|.v [98,99] (aJ (j) I) I I<|.v [100] (aK I (hcell)) I I<|.a 1 I<|.v [102] (aK I (rfl)) I I<|.v [103] (nu I (show Tryz.prog.underlying 5=some (.int .u8) by kernel_rfl) (show Tryz.prog.underlying 3=some (.int .i64) by kernel_rfl) I (wrap_small e2)) I I<|.a 1 I<|.v [104,105] (ni I I I (by omega) (sf e.w A)) I I<|.a 1 I<|.v [107] (aK I (rfl)) I I<|.v [108] (gP I I I (fun w=>Ar e.n w)) I I<|.v [109] (pX I I I hv5) I I<|.k [1,2,5,6,7,44,45,59,60,61,101,106,110] I) ?_
                refine b7 I I (aW.mono hsd (fun _ σ' h=>?_))
                obtain⟨tc',rfl,rfl⟩:=h
                refine ax 1 I<|aH [1,2,5,6,7,11,44,45,59,60,61] I ?_
                have hT2:=hT.kb ((e.w % A:Nat):Int) v5
                have hl2:=hlk
                refine af (.a 1 I<|.v (cD I (hp4)) I<|.k [1,2,5,6,7,44,45,59,60,61,133] I)<|aj I (fun hc=>?_) (fun hc=>?_)
                · rw[h4]at hc
                  cases hc
                · refine ak<|aF (.v (aU I) I<|.a 1 I<|.k [1,2,5,6,7,44,45,59,60,61] I) ?_
                  exact⟨l.length - (k+1),by omega,k+1,_,_,tc',by omega,hT2,hl2,hstep,rfl,rfl⟩
              · have hk2:¬(e.k % 3=1∧0<A):=by
                  rintro⟨c1,c2⟩
                  rw[decide_eq_true (show((e.k % 3:Nat):Int)=1 by omega)]at hb3
                  rw[decide_eq_true (show(0:Int)<A by omega)]at hb2
                  subst hb3 hb2
                  cases hc2
                refine af (.a 1 I<|.v (aK I (rfl)) I<|.v (gP I I I (fun w=>vI e.k w)) I<|.v (pX I I I hb4) I<|.a 1 I<|.k [1,2,5,6,7,10,11,44,45,59,60,61,112] I)<|aj I (fun hc3=>?_) (fun hc3=>?_)
                · have hkk:e.k % 3=2:=by
                    have:=tt (hb4.trans hc3)
                    omega
                  rw[Be hkk,hv5']at hstep
                  rw[Ga hT.nodes hN1]at hso
                  refine mD 14 20 [117,118,119,120,121,122,123,124,125,126,127,128,129,130] mixed (by kernel_rfl) (by kernel_rfl) (by kernel_rfl) I (.a 2 I<|.v [117,118] (aJ (j) I) I I<|.v [119] (aK I (hcell)) I I<|.a 1 I<|.v [121] (aK I (rfl)) I I<|.v [122] (nu I (show Tryz.prog.underlying 5=some (.int .u8) by kernel_rfl) (show Tryz.prog.underlying 3=some (.int .i64) by kernel_rfl) I (wrap_small e2)) I I<|.a 1 I<|.v [124] (aK I ((show some (num T.nodes)=some (num (N:Int)) by rw[hNN]))) I I<|.v [123,125] (ni I I I (by omega) (sf e.w N)) I I<|.a 1 I<|.v [127] (aK I (rfl)) I I<|.v [128] (gP I I I (fun w=>Ar e.n w)) I I<|.v [129] (pX I I I hv5) I I<|.k [1,2,5,6,7,44,45,59,60,61,120,126,130] I) ?_
                  refine b7 I I (aW.mono hso (fun _ σ' h=>?_))
                  obtain⟨tc',rfl,rfl⟩:=h
                  refine ax 1 I<|aH [1,2,5,6,7,11,44,45,59,60,61] I ?_
                  have hT2:=hT.jm ((e.w % N:Nat):Int) v5
                  have hl2:=(pI T1 ((e.w % N:Nat):Int) v5).trans hlk
                  refine af (.a 1 I<|.v (cD I (hp4)) I<|.k [1,2,5,6,7,44,45,59,60,61,133] I)<|aj I (fun hc=>?_) (fun hc=>?_)
                  · rw[h4]at hc
                    cases hc
                  · refine ak<|aF (.v (aU I) I<|.a 1 I<|.k [1,2,5,6,7,44,45,59,60,61] I) ?_
                    exact⟨l.length - (k+1),by omega,k+1,_,_,tc',by omega,hT2,hl2,hstep,rfl,rfl⟩
                · have hk3:e.k % 3≠2:=by
                    have:=ff (hb4.trans hc3)
                    omega
                  rw[BK hk1 hk2 hk3]at hstep
                  obtain⟨tc',htc⟩:∃x,x=tc:=⟨_,rfl⟩
                  subst htc
                  have hT2:=hT
                  have hl2:=hlk
                  refine ak<|af (.a 1 I<|.v (cD I (hp4)) I<|.k [1,2,5,6,7,44,45,59,60,61,133] I)<|aj I (fun hc=>?_) (fun hc=>?_)
                  · rw[h4]at hc
                    cases hc
                  · refine ak<|aF (.v (aU I) I<|.a 1 I<|.k [1,2,5,6,7,44,45,59,60,61] I) ?_
                    exact⟨l.length - (k+1),by omega,k+1,_,_,tc',by omega,hT2,hl2,hstep,rfl,rfl⟩
          · have hke:k=l.length:=by have:=ff hy2;omega
            have hTD:(T1,D1)=(TF,DF):=by rw[←hfold,hke,List.take_length,hFF]
            obtain⟨rfl,rfl⟩:=Prod.mk.inj hTD
            refine bp<|aF (.v (aU I) I<|.a 1 I<|.k [1,2,5,6,44,45] I) ?_
            refine⟨N - (j+1),by omega,j+1,fun i=>if i=j then tc else tcs i,by omega,rfl,?_⟩
            rw[jx,tC (tcs:=fun i=>if i=j then tc else tcs i) (tcs':=tcs) (fun i hi=>if_neg (by omega)),if_pos rfl,hke]
            rfl
      · have hje : j = N := by have := ff hy; omega
        rw[hje]
        refine km (t':=[(2,.bg (bI T) 0),(6,.slice N (gQ TF DF tcs N))]) (.cons 2 I aD.pure<|.cons 6 I (Fc hTF) .nil) ?_
        refine bp ?_
        have hok:(au TF&&bR TF DF)=true:=by
          rw[(hTF 0 hN1).valid,Bool.true_and]
          exact decide_eq_true (.inr (hTF 0 hN1).mask)
        have hTFN:=(hTF 0 hN1).nodes
        have hta:=Dl TF DF
        unfold G4 at hta
        rw[An hok,if_pos rfl,show TF.nodes.toNat=N by omega]at hta
        have hpin0:=pd (TF:=TF) (DF:=DF) (tcs:=tcs) hN1
        refine iJ (bm (ks:=[2,6]) I) ?_
        refine kV ([(2,.bg (bI T) 0),(6,.slice N (gQ TF DF tcs N)),(12,.ptr 0 0),(13,bq DF)]) ([some (.cells 25 (bI TF))]) mixed ?_ ?_
        · refine o8 [[(2,.bg (bI T) 0),(6,.slice N (gQ TF DF tcs N)),(12,.ptr 0 0),(13,bq DF),(136,.slice N (gQ TF DF tcs N)),(137,.bg (gQ TF DF tcs N) 0),(138,.bg (fi TF DF 0 (aw (aO TF DF 0 false)) (num (tcs 0))) 0),(139,aZ TF),(140,.slice N (gQ TF DF tcs N)),(141,.bg (gQ TF DF tcs N) 0),(142,.bg (fi TF DF 0 (aw (aO TF DF 0 false)) (num (tcs 0))) 0),(143,bq DF)]] [[],[some (.cells 25 [num 0,.raw (.slice none 0 0),.raw (.slice none 0 0)])],[some (.cells 25 (bI TF))]] [2,6] I (by kernel_rfl) (fun M hi ho=>?_)
          have μ0:M 0 2047 0 [2,6,12,13] 2:=hi<|nk I (by kernel_rfl) (⟨rfl,bm (ks:=[2,6,12,13]) I⟩)
          have μ1:M 1 1023 0 [2,6,12,143] 2:=hi<|aa [(10,2047)] I<|ag (ho μ0) I I ab
          have μ2:M 2 511 0 [2,6,12,139,143] 1:=hi<|aa [(9,1023)] I<|nM I I (cW I) I I (ho μ1) I I ab
          have μ3:M 3 255 0 [2,6,139,143] 0:=hi<|aa [(8,511)] I<|bL I I (cW I) I (ho μ2) I I ab
          have μ4:M 3 383 0 [2,6,12,139,142] 1:=hi<|aa [(7,511)] I<|aQ I I (iG I (ai.cons aD.pure ai.nil) (tr (hTF 0 hN1) _ _)) I (ho μ2) I I ab
          have μ5:M 4 127 0 [2,6,139,142] 0:=hi<|aa [(7,255),(8,383)] I<|aQ I I (iG I (ai.cons aD.pure ai.nil) (tr (hTF 0 hN1) _ _)) I (ho μ3) I I<|bL I I (cW I) I (ho μ4) I I ab
          have μ6:M 4 319 0 [2,6,12,139,141] 1:=hi<|aa [(6,383)] I<|aQ I I (aK I (hpin0)) I (ho μ4) I I ab
          have μ7:M 5 63 0 [2,6,139,141] 0:=hi<|aa [(6,127),(8,319)] I<|aQ I I (aK I (hpin0)) I (ho μ5) I I<|bL I I (cW I) I (ho μ6) I I ab
          have μ8:M 5 287 0 [2,6,12,139,140] 1:=hi<|aa [(5,319)] I<|aQ I I (aJ (0) I) I (ho μ6) I I ab
          have μ9:M 6 31 0 [2,6,139,140] 0:=hi<|aa [(5,63),(8,287)] I<|aQ I I (aJ (0) I) I (ho μ7) I I<|bL I I (cW I) I (ho μ8) I I ab
          have μ10:M 6 271 0 [2,6,12,139] 1:=hi<|aa [(4,287)] I<|ag (ho μ8) I I ab
          have μ11:M 7 15 0 [2,6,139] 0:=hi<|aa [(4,31),(8,271)] I<|ag (ho μ9) I I<|bL I I (cW I) I (ho μ10) I I ab
          have μ12:M 4 375 0 [2,6,12,138,142] 1:=hi<|aa [(3,383)] I<|aQ I I (iG I (ai.cons aD.pure ai.nil) (iw (hTF 0 hN1) _ _)) I (ho μ4) I I ab
          have μ13:M 5 119 0 [2,6,138,142] 0:=hi<|aa [(3,127),(8,375)] I<|aQ I I (iG I (ai.cons aD.pure ai.nil) (iw (hTF 0 hN1) _ _)) I (ho μ5) I I<|bL I I (cW I) I (ho μ12) I I ab
          have μ14:M 5 311 0 [2,6,12,138,141] 1:=hi<|aa [(3,319),(6,375)] I<|aQ I I (iG I (ai.cons aD.pure ai.nil) (iw (hTF 0 hN1) _ _)) I (ho μ6) I I<|aQ I I (aK I (hpin0)) I (ho μ12) I I ab
          have μ15:M 6 55 0 [2,6,138,141] 0:=hi<|aa [(3,63),(6,119),(8,311)] I<|aQ I I (iG I (ai.cons aD.pure ai.nil) (iw (hTF 0 hN1) _ _)) I (ho μ7) I I<|aQ I I (aK I (hpin0)) I (ho μ13) I I<|bL I I (cW I) I (ho μ14) I I ab
          have μ16:M 6 279 0 [2,6,12,138,140] 1:=hi<|aa [(3,287),(5,311)] I<|aQ I I (iG I (ai.cons aD.pure ai.nil) (iw (hTF 0 hN1) _ _)) I (ho μ8) I I<|aQ I I (aJ (0) I) I (ho μ14) I I ab
          have μ17:M 7 23 0 [2,6,138,140] 0:=hi<|aa [(3,31),(5,55),(8,279)] I<|aQ I I (iG I (ai.cons aD.pure ai.nil) (iw (hTF 0 hN1) _ _)) I (ho μ9) I I<|aQ I I (aJ (0) I) I (ho μ15) I I<|bL I I (cW I) I (ho μ16) I I ab
          have μ18:M 7 263 0 [2,6,12,138] 1:=hi<|aa [(3,271),(4,279)] I<|aQ I I (iG I (ai.cons aD.pure ai.nil) (iw (hTF 0 hN1) _ _)) I (ho μ10) I I<|ag (ho μ16) I I ab
          have μ19:M 8 7 0 [2,6,138] 0:=hi<|aa [(3,15),(4,23),(8,263)] I<|aQ I I (iG I (ai.cons aD.pure ai.nil) (iw (hTF 0 hN1) _ _)) I (ho μ11) I I<|ag (ho μ17) I I<|bL I I (cW I) I (ho μ18) I I ab
          have μ20:M 5 371 0 [2,6,12,137,142] 1:=hi<|aa [(2,375)] I<|aQ I I (aK I (hpin0)) I (ho μ12) I I ab
          have μ21:M 6 115 0 [2,6,137,142] 0:=hi<|aa [(2,119),(8,371)] I<|aQ I I (aK I (hpin0)) I (ho μ13) I I<|bL I I (cW I) I (ho μ20) I I ab
          have μ22:M 6 307 0 [2,6,12,137,141] 1:=hi<|aa [(2,311),(6,371)] I<|aQ I I (aK I (hpin0)) I (ho μ14) I I<|aQ I I (aK I (hpin0)) I (ho μ20) I I ab
          have μ23:M 7 51 0 [2,6,137,141] 0:=hi<|aa [(2,55),(6,115),(8,307)] I<|aQ I I (aK I (hpin0)) I (ho μ15) I I<|aQ I I (aK I (hpin0)) I (ho μ21) I I<|bL I I (cW I) I (ho μ22) I I ab
          have μ24:M 7 275 0 [2,6,12,137,140] 1:=hi<|aa [(2,279),(5,307)] I<|aQ I I (aK I (hpin0)) I (ho μ16) I I<|aQ I I (aJ (0) I) I (ho μ22) I I ab
          have μ25:M 8 19 0 [2,6,137,140] 0:=hi<|aa [(2,23),(5,51),(8,275)] I<|aQ I I (aK I (hpin0)) I (ho μ17) I I<|aQ I I (aJ (0) I) I (ho μ23) I I<|bL I I (cW I) I (ho μ24) I I ab
          have μ26:M 8 259 0 [2,6,12,137] 1:=hi<|aa [(2,263),(4,275)] I<|aQ I I (aK I (hpin0)) I (ho μ18) I I<|ag (ho μ24) I I ab
          have μ27:M 9 3 0 [2,6,137] 0:=hi<|aa [(2,7),(4,19),(8,259)] I<|aQ I I (aK I (hpin0)) I (ho μ19) I I<|ag (ho μ25) I I<|bL I I (cW I) I (ho μ26) I I ab
          have μ28:M 6 369 0 [2,6,12,136,142] 1:=hi<|aa [(1,371)] I<|aQ I I (aJ (0) I) I (ho μ20) I I ab
          have μ29:M 7 113 0 [2,6,136,142] 0:=hi<|aa [(1,115),(8,369)] I<|aQ I I (aJ (0) I) I (ho μ21) I I<|bL I I (cW I) I (ho μ28) I I ab
          have μ30:M 7 305 0 [2,6,12,136,141] 1:=hi<|aa [(1,307),(6,369)] I<|aQ I I (aJ (0) I) I (ho μ22) I I<|aQ I I (aK I (hpin0)) I (ho μ28) I I ab
          have μ31:M 8 49 0 [2,6,136,141] 0:=hi<|aa [(1,51),(6,113),(8,305)] I<|aQ I I (aJ (0) I) I (ho μ23) I I<|aQ I I (aK I (hpin0)) I (ho μ29) I I<|bL I I (cW I) I (ho μ30) I I ab
          have μ32:M 8 273 0 [2,6,12,136,140] 1:=hi<|aa [(1,275),(5,305)] I<|aQ I I (aJ (0) I) I (ho μ24) I I<|aQ I I (aJ (0) I) I (ho μ30) I I ab
          have μ33:M 9 17 0 [2,6,136,140] 0:=hi<|aa [(1,19),(5,49),(8,273)] I<|aQ I I (aJ (0) I) I (ho μ25) I I<|aQ I I (aJ (0) I) I (ho μ31) I I<|bL I I (cW I) I (ho μ32) I I ab
          have μ34:M 9 257 0 [2,6,12,136] 1:=hi<|aa [(1,259),(4,273)] I<|aQ I I (aJ (0) I) I (ho μ26) I I<|ag (ho μ32) I I ab
          have μ35:M 10 1 0 [2,6,136] 0:=hi<|aa [(1,3),(4,17),(8,257)] I<|aQ I I (aJ (0) I) I (ho μ27) I I<|ag (ho μ33) I I<|bL I I (cW I) I (ho μ34) I I ab
          have μ36:M 7 368 0 [2,6,12,142] 1:=hi<|aa [(0,369)] I<|ag (ho μ28) I I ab
          have μ37:M 8 112 0 [2,6,142] 0:=hi<|aa [(0,113),(8,368)] I<|ag (ho μ29) I I<|bL I I (cW I) I (ho μ36) I I ab
          have μ38:M 8 304 0 [2,6,12,141] 1:=hi<|aa [(0,305),(6,368)] I<|ag (ho μ30) I I<|aQ I I (aK I (hpin0)) I (ho μ36) I I ab
          have μ39:M 9 48 0 [2,6,141] 0:=hi<|aa [(0,49),(6,112),(8,304)] I<|ag (ho μ31) I I<|aQ I I (aK I (hpin0)) I (ho μ37) I I<|bL I I (cW I) I (ho μ38) I I ab
          have μ40:M 9 272 0 [2,6,12,140] 1:=hi<|aa [(0,273),(5,304)] I<|ag (ho μ32) I I<|aQ I I (aJ (0) I) I (ho μ38) I I ab
          have μ41:M 10 16 0 [2,6,140] 0:=hi<|aa [(0,17),(5,48),(8,272)] I<|ag (ho μ33) I I<|aQ I I (aJ (0) I) I (ho μ39) I I<|bL I I (cW I) I (ho μ40) I I ab
          have μ42:M 10 256 0 [2,6,12] 1:=hi<|aa [(0,257),(4,272)] I<|ag (ho μ34) I I<|ag (ho μ40) I I ab
          have μ43:M 11 0 0 [2,6] 0:=hi<|aa [(0,1),(4,16),(8,256)] I<|ag (ho μ35) I I<|ag (ho μ41) I I<|bL I I (cW I) I (ho μ42) I I ab
          exact μ43
        refine km (t':=[(2,.bg (bI T) 0),(6,.slice N (gQ TF DF tcs N)),(12,.bg (bI TF) 0),(13,bq DF)]) (.cons 2 I aD.pure<|.cons 6 I aD.pure<|.cons 12 I (aD.gC (i:=0) (blk:=.cells 25 (bI TF)) I (show ai _ (bI TF) (bI TF) from ai.pure))<|.cons 13 I aD.pure .nil) ?_
        refine af (.v (ju I (rfl) I) I<|.a 1 I<|.c rfl (hta) I<|.a 5 I<|.k [2,6,12,14,15] I)<|an ?_
        obtain⟨p5,hp5⟩:∃q,decide ((0:Int)≠0)=q:=⟨_,rfl⟩
        obtain⟨p6,hp6⟩:∃q,decide (((kI TF DF N).length:Int)≠(N:Int))=q:=⟨_,rfl⟩
        have h5:p5=false:=by rw[←hp5];rfl
        have h6:p6=false:=by rw[←hp6,nL];exact decide_eq_false (by omega)
        refine bP 158 (.raw (.bool (p5||p6))) [2,6,12,14] I ?_ ?_
        · refine .a 1 I<|.v (cD I (hp5)) I<|.a 1 I<|?_
          cases p5
          · exact .a 3 I<|.v (aK I ((show some (num T.nodes)=some (num (N:Int)) by rw[hNN]))) I<|.v (cD I (hp6)) I<|.a 1 I<|.k [158,2,6,12,14] I
          · exact .a 6 I<|.k [158,2,6,12,14] I
        refine aj I (fun hc=>?_) (fun hc=>?_)
        · rw[h5,h6]at hc
          cases hc
        · refine ak<|an<|af (.a 3 I<|.k [2,6,12,14,160,161] I)<|ay<|eY [2,6,12,14,160,161] I<|br (fun r st=>∃d,d≤N∧r=N - d∧st=⟨[(2,.bg (bI T) 0),(6,.slice N (gQ TF DF tcs N)),(12,.bg (bI TF) 0),(14,gN (kI TF DF N)),(160,num N),(161,num d)],[]⟩) N ⟨0,by omega,by omega,rfl⟩ ?_
          rintro r st ⟨d,hd,rfl,rfl⟩
          refine af (.a 1 I<|.k [2,6,12,14,160,161,162] I)<|an<|aj I (fun hy=>?_) (fun hy=>?_)
          · have hdl:d<N:=by have:=tt hy;omega
            have hTd:=hTF d hdl
            have oP:=pd (TF:=TF) (DF:=DF) (tcs:=tcs) hdl
            have hnx0:=fun n hn=>Bl hTd (num (tcs d)) n hn
            obtain⟨DL,hDL⟩:∃L,aO TF DF d false=L:=⟨_,rfl⟩
            have hDl:DL.length=N:=by rw[←hDL];exact hTd.len
            rw[hDL]at oP
            simp only[hDL]at hnx0
            have htd:=Bd TF DF d DL (tcs d) (by omega)
            obtain⟨p7,hp7⟩:∃q,decide ((DL.length:Int)≠(N:Int))=q:=⟨_,rfl⟩
            have h7f:p7=false:=by rw[←hp7];exact decide_eq_false (by omega)
            refine ak<|an<|ay<|af (.a 2 I<|.k [2,6,12,14,16,160,161] I)<|af (.a 2 I<|.v (aJ (d) I) I<|.v (aK I (oP)) I<|.c rfl (htd) I<|.a 1 I<|.k [2,6,12,14,16,17,160,161] I)<|an<|af (.a 3 I<|.v (aK I ((show some (num T.nodes)=some (num (N:Int)) by rw[hNN]))) I<|.v (cD I (hp7)) I<|.k [2,6,12,14,16,17,160,161,173] I)<|aj I (fun hc=>?_) (fun hc=>?_)
            · rw[h7f]at hc
              cases hc
            · refine ak<|af (.a 3 I<|.k [2,6,12,14,16,17,160,161,175,176] I)<|ay<|eY [2,6,12,14,16,17,160,161,175,176] I<|br (fun r st=>∃n,n≤N∧r=N - n∧st=⟨[(2,.bg (bI T) 0),(6,.slice N (gQ TF DF tcs N)),(12,.bg (bI TF) 0),(14,gN (kI TF DF N)),(16,num d),(17,aw DL),(160,num N),(161,num d),(175,num DL.length),(176,num n)],[]⟩) N ⟨0,by omega,by omega,rfl⟩ ?_
              rintro r st ⟨n,hn,rfl,rfl⟩
              refine af (.a 1 I<|.k [2,6,12,14,16,17,160,161,175,176,177] I)<|an<|aj I (fun hz=>?_) (fun hz=>?_)
              · have hnl:n<N:=by have:=tt hz;omega
                have hx:(kI TF DF N)[n]? =some (dW TF DF n):=by simp[kI,hnl]
                have hent:(dW TF DF n).eO[d]? =some ⟨bz TF DF n d,false,[]⟩:=by show(vR TF DF n TF.nodes.toNat)[d]? =_;simp[vR,show d<TF.nodes.toNat by omega]
                have hel:(dW TF DF n).eO.length=N:=by show(vR TF DF n TF.nodes.toNat).length=N;rw[vt];omega
                have hall2:n<(kI TF DF N).length:=by rw[nL];exact hnl
                have hsm2:=By (bz TF DF n d) (bz TF DF n d)
                rw[B6]at hsm2
                have hnx:=hnx0 n hnl
                obtain⟨x,hxd⟩:∃x,DL.getD n 0=x:=⟨_,rfl⟩
                have hxg:(aL DL)[n]? =some (num x):=by rw[←hxd];exact aC DL n (by omega)
                obtain⟨p8,hp8⟩:∃q,decide (x<0)=q:=⟨_,rfl⟩
                refine ak<|an<|ay<|af (.a 2 I<|.k [2,6,12,14,16,17,18,160,161,175,176] I)<|an<|fZ mixed (by kernel_rfl) (.a 2 I<|.v [179,180] (aJ (d) I) I I<|.v [181] (aK I (oP)) I I<|.a 1 I<|.v [182,183] (iG I (ai.cons aD.pure (ai.cons aD.pure ai.nil)) hnx) I I<|.a 2 I<|.v [185,186] (aJ (n*3) I) I I<|.a 1 I<|.v [188] (aK I (En _ n 1 _ hx (by omega))) I I<|.a 1 I<|.v [189,190] (aJ (d*3) I) I I<|.a 1 I<|.v [192] (aK I (qQ _ d 0 _ hent (by omega))) I I<|.v [184,193] (eW I (hsm2)) I I<|.a 1 I<|.k [2,6,12,14,16,17,18,160,161,175,176,195] I) ?_
                refine aj I (fun hc=>?_) (fun hc=>?_)
                · cases hc
                · refine ak<|an<|af (.a 2 I<|.v (aJ (n) I) I<|.v (aK I (hxg)) I<|.v (cD I (hp8)) I<|.k [2,6,12,14,16,17,18,160,161,175,176,200] I)<|aj I (fun hq=>?_) (fun hq=>?_)
                  · skip
                    refine bp<|aF (.v (aU I) I<|.a 1 I<|.k [2,6,12,14,16,17,160,161,175,176] I) ?_
                    exact⟨N - (n+1),by omega,n+1,by omega,rfl,rfl⟩
                  · have hx0:0≤dN TF DF d n:=by
                      have:=ff (hp8.trans hq)
                      show 0≤(aO TF DF d false).getD n 0
                      rw[hDL,hxd]
                      omega
                    have hlkF:TF.ae.length≤10:=by
                      have:=sg (A:=A) (N:=N) l (cS T,ef T [])
                      rw[hFF]at this
                      exact Nat.le_trans (Nat.le_of_eq this) h10
                    have hwa:=CG (hTF 0 hN1).valid (Bool.and_eq_true_iff.1 hok).2 (by omega) hlkF hTFN hdl hnl hx0
                    refine ak<|aR<|bw (ju I (rfl) I) I<|ax 3 I<|bw (Kk (iR (xs:=[_,_,_,_,_,_]) I (bG.st.get I) I I) (lr.gM (.cons (lr.refl _)<|.cons (lr.refl _)<|.cons (lr.refl _)<|.cons (lr.refl _)<|.cons lr.cc<|.cons (lr.refl _) .nil))) I<|ax 1 I<|b7 I I (aW.mono (aW.It hwa) (fun y σ' h=>?_))
                    obtain⟨⟨L,hL0,hL1,hLb,rfl⟩,rfl⟩:=h
                    refine ax 5 I<|aH [2,6,12,14,16,17,18,19,20,160,161,175,176] I ?_
                    refine an ?_
                    obtain⟨a1,ha1⟩:∃q,decide ((0:Int)≠0)=q:=⟨_,rfl⟩
                    obtain⟨a2,ha2⟩:∃q,decide ((L.length:Int)=0)=q:=⟨_,rfl⟩
                    have g1:a1=false:=by rw[←ha1];rfl
                    have g2:a2=false:=by rw[←ha2];exact decide_eq_false (fun e=>hL0 (List.eq_nil_of_length_eq_zero (by omega)))
                    refine bP 217 (.raw (.bool (a1||a2))) [2,6,12,14,16,17,18,19,160,161,175,176] I ?_ ?_
                    · refine .a 1 I<|.v (cD I (ha1)) I<|.a 1 I<|?_
                      cases a1
                      · exact .a 2 I<|.v (cD I (ha2)) I<|.a 1 I<|.k [217,2,6,12,14,16,17,18,19,160,161,175,176] I
                      · exact .a 4 I<|.k [217,2,6,12,14,16,17,18,19,160,161,175,176] I
                    refine aj I (fun hc=>?_) (fun hc=>?_)
                    · rw[g1,g2]at hc
                      cases hc
                    · refine ak<|af (.a 3 I<|.k [2,6,12,14,16,17,18,160,161,175,176,218,219,220] I)<|ay<|eY [2,6,12,14,16,17,18,160,161,175,176,218,219,220] I<|br (fun r st=>∃i,i≤L.length∧r=L.length - i∧st=⟨[(2,.bg (bI T) 0),(6,.slice N (gQ TF DF tcs N)),(12,.bg (bI TF) 0),(14,gN (kI TF DF N)),(16,num d),(17,aw DL),(18,num n),(160,num N),(161,num d),(175,num DL.length),(176,num n),(218,.slice L.length (p9 L)),(219,num L.length),(220,num i)],[]⟩) L.length ⟨0,by omega,by omega,rfl⟩ ?_
                      rintro r st ⟨i,hi,rfl,rfl⟩
                      refine af (.a 1 I<|.k [2,6,12,14,16,17,18,160,161,175,176,218,219,220,221] I)<|an<|aj I (fun hw=>?_) (fun hw=>?_)
                      · have hil:i<L.length:=by have:=tt hw;omega
                        obtain⟨⟨re,ry,rp⟩,hr⟩:∃r,L[i]? =some r:=⟨_,List.getElem?_eq_getElem hil⟩
                        obtain⟨hsp,hry,hrl⟩:=hLb _ (List.mem_of_getElem? hr)
                        dsimp only at hsp hry hrl
                        subst hry
                        have hpc:=CI TF (n:Int) rp (by omega)
                        unfold kd at hpc
                        have hvF:=(hTF 0 hN1).valid
                        rw[LL hvF (by omega) hsp,if_pos rfl,if_pos rfl,I3 hsp,←(hsp.cost hvF (by omega)).1,show dN TF DF d n=x by show(aO TF DF d false).getD n 0=x;rw[hDL,hxd]]at hpc
                        obtain⟨a3,ha3⟩:∃q,decide ((0:Int)≠0)=q:=⟨_,rfl⟩
                        obtain⟨a4,ha4⟩:∃q,decide ((d:Int)≠(d:Int))=q:=⟨_,rfl⟩
                        obtain⟨a5,ha5⟩:∃q,decide (x≠x)=q:=⟨_,rfl⟩
                        obtain⟨a6,ha6⟩:∃q,decide ((-1:Int)≠ -1)=q:=⟨_,rfl⟩
                        have g3:a3=false:=by rw[←ha3];rfl
                        have g4:a4=false:=by rw[←ha4];exact decide_eq_false (fun h=>h rfl)
                        have g5:a5=false:=by rw[←ha5];exact decide_eq_false (fun h=>h rfl)
                        have g6:a6=false:=by rw[←ha6];rfl
                        refine ak<|an<|ay<|aR<|bw (aJ (i*3) I) I<|bw (ju I (HN L i _ hr) I) I<|ax 2 I<|aH [2,6,12,14,16,17,18,22,160,161,175,176,218,219,220] I ?_
                        refine km (t':=[(2,.bg (bI T) 0),(6,.slice N (gQ TF DF tcs N)),(12,.bg (bI TF) 0),(14,gN (kI TF DF N)),(16,num d),(17,aw DL),(18,num n),(22,.bg (ey re (-1) rp) 0),(160,num N),(161,num d),(175,num DL.length),(176,num n),(218,.slice L.length (p9 L)),(219,num L.length),(220,num i)]) (.cons 2 I aD.pure<|.cons 6 I aD.pure<|.cons 12 I aD.pure<|.cons 14 I aD.pure<|.cons 16 I aD.pure<|.cons 17 I aD.pure<|.cons 18 I aD.pure<|.cons 22 I (aD.gC (i:=0) (blk:=.cells 59 (ey re (-1) rp)) I (show ai _ (ey re (-1) rp) (ey re (-1) rp) from by unfold ey;exact ai.pure))<|.cons 160 I aD.pure<|.cons 161 I aD.pure<|.cons 175 I aD.pure<|.cons 176 I aD.pure<|.cons 218 I aD.pure<|.cons 219 I aD.pure<|.cons 220 I aD.pure .nil) ?_
                        refine af (.v (ju I (rfl) I) I<|.a 2 I<|.v (aK I (rfl)) I<|.c rfl (hpc) I<|.a 7 I<|.k [2,6,12,14,16,17,18,22,23,24,25,160,161,175,176,218,219,220] I)<|bP 252 (.raw (.bool (((a3||a4)||a5)||a6))) [2,6,12,14,16,17,18,160,161,175,176,218,219,220] I ?_ ?_
                        · refine .a 1 I<|.v (cD I (ha3)) I<|.a 1 I<|?_
                          cases a3
                          · refine .a 2 I<|.v (cD I (ha4)) I<|.a 2 I<|?_
                            cases a4
                            · refine .a 3 I<|.v (aJ (n) I) I<|.v (aK I (hxg)) I<|.v (cD I (ha5)) I<|.a 2 I<|?_
                              cases a5
                              · exact .a 1 I<|.v (aK I (rfl)) I<|.v (cD I (ha6)) I<|.a 1 I<|.k [252,2,6,12,14,16,17,18,160,161,175,176,218,219,220] I
                              · exact .a 4 I<|.k [252,2,6,12,14,16,17,18,160,161,175,176,218,219,220] I
                            · exact .a 12 I<|.k [252,2,6,12,14,16,17,18,160,161,175,176,218,219,220] I
                          · exact .a 17 I<|.k [252,2,6,12,14,16,17,18,160,161,175,176,218,219,220] I
                        refine aj I (fun hc=>?_) (fun hc=>?_)
                        · rw[g3,g4,g5,g6]at hc
                          cases hc
                        · refine ak<|aF (.v (aU I) I<|.a 1 I<|.k [2,6,12,14,16,17,18,160,161,175,176,218,219,220] I) ?_
                          exact⟨L.length - (i+1),by omega,i+1,by omega,rfl,rfl⟩
                      · skip
                        refine bp<|aF (.v (aU I) I<|.a 1 I<|.k [2,6,12,14,16,17,160,161,175,176] I) ?_
                        exact⟨N - (n+1),by omega,n+1,by omega,rfl,rfl⟩
              · skip
                refine bp<|aF (.v (aU I) I<|.a 1 I<|.k [2,6,12,14,160,161] I) ?_
                exact⟨N - (d+1),by omega,d+1,by omega,rfl,rfl⟩
          · skip
            exact bp<|af (.a 1 I<|.k [4] I)<|az<|⟨_,_,aE.of I,aD.pure,rfl⟩
end
section
open Go.RowKit Go.ChangeShapes Go.WideShapes Go.ChangeAt cj Mem Net
structure LQ where
 l:List su
 h:∀c∈l,c.k<256∧c.w<256∧c.n<256
section
variable {H:Type} {enc:TypeId×Value→H} {W:World}
theorem qK{n:Nat}{cs:List Value}{y:DataW H×List MemPlace}(h:DataW.trod enc Tryz.prog W 0 (fun _=>true) true n 5 cs=some y):∃b:Nat,b<256∧cs=[.int .u8 (b:Int)]:=by
 obtain⟨a,rfl,_,hwf⟩:=DataW.trod_int Tryz.underlying5 h
 have hb:0≤a∧a<256:=by
  simp[Lit.wf,IntKind.min,IntKind.max,IntKind.signed,IntKind.bits]at hwf
  omega
 obtain⟨b,rfl⟩:=Int.eq_ofNat_of_zero_le hb.1
 exact⟨b,by omega,rfl⟩
theorem I5{n:Nat}{cs:List Value}{y:DataW H×List MemPlace}(h:DataW.trod enc Tryz.prog W 0 (fun _=>true) true n 35 cs=some y)(hl:cs.length=3):∃a: {c:su // c.k<256∧c.w<256∧c.n<256},aV EN W cs (vd a.1):=by
 have c3:Tryz.prog.cellsOf 5=1:=by kernel_rfl
 obtain⟨xs,m,_,_,_,hlen,hf⟩:=DataW.trod_struct Tryz.underlying35 h
 match cs,hl with
 | [c0,c1,c2],_=>
  match xs,hlen with
  | [y0,y1,y2],_=>
   have f0:DataW.trod enc Tryz.prog W 0 (fun _=>true) true m 5 (([c0,c1,c2].drop 0).take (Tryz.prog.cellsOf 5))=some y0:=hf 0 _ rfl
   rw[c3]at f0
   have f1:DataW.trod enc Tryz.prog W 0 (fun _=>true) true m 5 (([c0,c1,c2].drop 1).take (Tryz.prog.cellsOf 5))=some y1:=hf 1 _ rfl
   rw[c3]at f1
   have f2:DataW.trod enc Tryz.prog W 0 (fun _=>true) true m 5 (([c0,c1,c2].drop 2).take (Tryz.prog.cellsOf 5))=some y2:=hf 2 _ rfl
   rw[c3]at f2
   obtain⟨a0,b0,h0⟩:=qK f0
   obtain⟨a1,b1,h1⟩:=qK f1
   obtain⟨a2,b2,h2⟩:=qK f2
   simp at h0 h1 h2
   subst h0 h1 h2
   exact⟨⟨⟨a0,a1,a2⟩,b0,b1,b2⟩,aV.cons (.raw _)<|aV.cons (.raw _)<|aV.cons (.raw _) (aV.nil _ _)⟩
set_option maxRecDepth 100000 in
theorem I4{base:Nat}{v:Value}{d:DataW H}{p:List MemPlace}(hv:Value.okWide Tryz.prog W .any base 26 v)(h:DataW.Trod enc Tryz.prog W 0 (fun _=>true) true 26 v d p):∃c:LQ,cu EN W v (rK c.l):=by
 obtain⟨a,len,cap,rfl⟩:=okWide_slice Tryz.underlying26 hv
 obtain⟨fuel,hf⟩:=h
 obtain⟨L,hL⟩:=oA (f:=fun a: {c:su // c.k<256∧c.w<256∧c.n<256}=>vd a.1) (s:=3) Tryz.underlying26 (by kernel_rfl) (by omega) (fun n cs y hy hl=>I5 hy hl) hf
 refine⟨⟨L.map Subtype.val,fun c hc=>?_⟩,?_⟩
 ·obtain⟨a,_,rfl⟩:=List.mem_map.1 hc
  exact a.2
 ·have e:rK (L.map Subtype.val)= .slice L.length (L.flatMap fun a=>vd a.1):=by
   unfold rK DG
   rw[List.length_map,List.flatMap_map]
  rw[e]
  exact hL
end
end
end PW
end Go.Proofs.YteikppbedmmdnaaGreatDoor
namespace Go.Proofs.YteikppbedmmdnaaGreatDoor.wholeIncremental
open Go.ChangeShapes Go.WideShapes Go.ChangeAt Go.RowKit
open cj Mem PW
set_option maxRecDepth 100000 in
theorem lifted(os:Os)(started:os.Started)(H:Type)(enc:TypeId×Value→H):
  ReturnsInHanded {} Tryz.checked os 3 .any (fun w args=>(Rows.wholeIncrementalSpec.pre enc Tryz.prog Tryz.f3 [] false w args∧laidMetH Tryz.prog Rows.wholeIncrementalRow.laid w)∧sizedMet enc Tryz.prog Tryz.f3 (OpenSpec.ofChange Rows.wholeIncrementalSpec) false w args)
   (Rows.wholeIncrementalSpec.post enc Tryz.prog Tryz.f3 false true false false):=by
 refine returnsInHanded_of_change_and (C:=Tryz.checked) (X:=fun w _=>laidMetH Tryz.prog Rows.wholeIncrementalRow.laid w) (fun _ _ _ hh h=>h.of_heap hh) own started (by kernel_rfl) Tryz.func3
  (ChangeSpec.witness_shaped (enc:=enc) (C:=Tryz.checked) (os:=os) (X:=fun w _=>laidMetH Tryz.prog Rows.wholeIncrementalRow.laid w) false (World.doorLaid Tryz.prog 400 os) #[.agg #[.int .i64 0,.slice none 0 0,.slice none 0 0],.slice none 0 0] 8 rfl (World.shaped_of_RefB (by kernel_rfl) (by kernel_rfl)) (by kernel_rfl) (by kernel_rfl) (by kernel_rfl) (laidMetH_of_parts3 (fuel:=8) (laidMet_of_run' 8 (by kernel_rfl) (by kernel_rfl)) (by kernel_rfl) (by kernel_rfl))) ?_
 intro W base args ds gs before hval0 hW _ _ hL _
 have hval:∀(j:Nat) t v,Tryz.f3.params[j]? =some t→args[j]? =some v→Value.okWide Tryz.prog W .any base t v:=hval0
 have hW':=hW
 obtain⟨p,q,hA0,hV,rfl,hfz,hnd⟩:=hW
 have hA:DataW.TrodAll enc Tryz.prog W 0 (fun _=>true) true Tryz.f3.params.toList args.toList ds p:=hA0
 rw[Tryz.params3]at hA hval
 obtain⟨v0,vs0,d0,ds0,p0,q0,hargs,rfl,rfl,h0,r0⟩:=trodAll_cons hA
 obtain⟨v1,vs1,d1,ds1,p1,q1,rfl,rfl,rfl,h1,r1⟩:=trodAll_cons r0
 obtain⟨rfl,rfl,rfl⟩:=trodAll_nil r1
 obtain rfl:args= #[v0,v1]:=by cases args;simp_all
 obtain⟨rfl,rfl⟩:=trodVars_none hV
 have lt0:=IA h0
 obtain⟨T,R0⟩:=Gg (hval 0 25 v0 rfl rfl) h0
 have lt1:=IA h1
 obtain⟨c,R1⟩:=I4 (hval 1 26 v1 rfl rfl) h1
 clear hA0 hval0
 refine((xT T c.l c.h) (fun _=>False) W #[v0,v1] (fun _ h=>h.elim) (Bv hL) (aV.cons R0 (aV.cons R1 (aV.nil _ _)))).mono fun e W' ⟨x,he,bel,r,hr,hx⟩=>?_
 subst hr
 cases hx
 subst he
 exact⟨_,rfl,_,_,_,[],_,[],hW',trodAll_mk1 (shut_bool Tryz.underlying4 _),(trodAll_cons_mk (Below.trod laidOut (by kernel_rfl) (of_decide_eq_true (by kernel_rfl)) h0 bel lt0) (trodAll_cons_mk (Below.trod laidOut (by kernel_rfl) (of_decide_eq_true (by kernel_rfl)) h1 bel lt1) trodAll_mk0)),rfl,bel.frame _,fun h=>by cases h⟩
set_option maxRecDepth 100000 in
theorem LJ:(Rows.wholeIncrementalRow.inPlace==Tryz.prog.inPlace 3)=true:=by kernel_rfl
set_option maxRecDepth 100000 in
theorem LX:(Rows.wholeIncrementalRow.unfollowed==Tryz.prog.unfollowed 3)=true:=by kernel_rfl
set_option maxRecDepth 100000 in
theorem LC:(Rows.wholeIncrementalRow.recurses==Tryz.prog.recurses 3)=true:=by kernel_rfl
set_option maxRecDepth 100000 in
theorem LK:(Rows.wholeIncrementalRow.named==Tryz.prog.varsNamed 3)=true:=by kernel_rfl
set_option maxRecDepth 100000 in
theorem closed:joinedFacts Tryz.prog 3 Tryz.f3 Rows.wholeIncrementalSpec Rows.wholeIncrementalRow=true:=by
 unfold joinedFacts
 rw[LJ,LX,LC,LK]
 kernel_rfl
theorem over:Rows.wholeIncrementalRow.holds Tryz.pinned (OpenSpec.ofChange Rows.wholeIncrementalSpec):=
 OpenClaim.holds_of_wide 3 Tryz.f3 rfl rfl rfl rfl rfl rfl rfl ⟨rfl,rfl,rfl,rfl,rfl⟩ rfl rfl rfl rfl rfl (by kernel_rfl) Tryz.func3 closed
  (of_decide_eq_true (by kernel_rfl)) (by unfold Func.isWrapper;first|(rw[if_pos (by decide+kernel)];kernel_rfl)|(rw[if_neg (by decide+kernel)];exact⟨rfl,rfl⟩))
  (fun os started H enc _=>lifted os started H enc)
theorem proved:Rows.WholeIncrementalCardSaid:=
 Claim7.holds_tied_plain_at .later [] [.data,.data,.data] true (true,"d9937bfa3d30c37712cf571181d114f748dc834ac9ab3a72ba0f037ebcb0970c") false
  over (fun _ h=>by cases h) (by kernel_rfl) (fun _ h=>by cases h) wholeIncremental_row_tie rfl ⟨rfl,rfl⟩ (by kernel_rfl) rfl
  (fun f fn hf hfn=>by
   obtain rfl:f=3:=Option.some.inj ((show Tryz.prog.funcNamed "waypoint/waypointtop.WholeIncremental" =some 3 by kernel_rfl).symm.trans hf) |>.symm
   obtain rfl:fn=Tryz.f3:=(Option.some.inj (Tryz.func3.symm.trans hfn)).symm
   exact⟨by kernel_rfl,fun j t ht=>by
    rw[Tryz.params3]at ht
    have hm:t∈[25,26]:=by simpa using Array.mem_of_getElem? ht
    have hall:([25,26].all fun u=> !Tryz.prog.wantsStandIn u)=true:=by kernel_rfl
    exact(show Tryz.prog.wantsStandIn t=false by simpa using List.all_eq_true.1 hall t hm)⟩)
  (by kernel_rfl)
end Go.Proofs.YteikppbedmmdnaaGreatDoor.wholeIncremental
