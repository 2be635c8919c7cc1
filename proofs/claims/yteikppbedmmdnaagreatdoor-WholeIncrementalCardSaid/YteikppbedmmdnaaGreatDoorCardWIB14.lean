/- Texts of the proof, part 14. -/
import Derived.Test.YteikppbedmmdnaaGreatDoorCardWIB13
set_option linter.unusedVariables false
set_option linter.unusedSimpArgs false
set_option maxRecDepth 10000
set_option maxHeartbeats 1000000
namespace Go.Proofs.YteikppbedmmdnaaGreatDoor
namespace PW
section
open Go.RowKit cj Mem Net Heap
def sv(T:ah)(D:List Bool)(d N:Nat)(out:List Int)(tch:PV)(L:List Int):bN:=[some (.cells 78 [num T.nodes,.own 1,.own 2,.own 3,num d,.own 4,tch]),some (.row 4 1 T.over.length (bb T.over)),some (.row 82 7 T.ae.length (ct T.ae)),some (.row 4 1 D.length (bb D)),some (.row 3 1 N (aL out)),some (oW L)]
def mY(T:ah)(N:Nat)(av:List Int)(lv:PV):List PV:=[.ptr 0 0,aw av,ew (ca (aN T) N (2*T.ae.length)),ew (ca (aB T) N (2*T.ae.length)),lv]
def oY(T:ah)(D:List Bool)(d N:Nat)(out:List Int)(tch:PV)(av L:List Int):bN:=[some (.cells 78 [num T.nodes,.own 1,.own 2,.own 3,num d,.own 4,tch]),some (.row 4 1 T.over.length (bb T.over)),some (.row 82 7 T.ae.length (ct T.ae)),some (.row 4 1 D.length (bb D)),some (.row 3 1 N (aL out)),some (oW L),some (.cells 124 (mY T N av (.own 5)))]
section
variable {σ:bN} {T:ah} {D:List Bool} {d N:Nat} {out:List Int} {tch:PV}
structure kc (σ:bN) (T:ah) (D:List Bool) (d N:Nat) (out:List Int) (tch:PV):Prop where
 h0:σ[0]? =some (some (.cells 78 [num T.nodes,.own 1,.own 2,.own 3,num d,.own 4,tch]))
 h1:σ[1]? =some (some (.row 4 1 T.over.length (bb T.over)))
 h2:σ[2]? =some (some (.row 82 7 T.ae.length (ct T.ae)))
 h3:σ[3]? =some (some (.row 4 1 D.length (bb D)))
 h4:σ[4]? =some (some (.row 3 1 N (aL out)))
theorem kc.jY(h:kc σ T D d N out tch):aD σ (.agg [num T.nodes,.own 1,.own 2]) (aZ T):=aD.gM (ai.cons aD.pure<|ai.cons (aD.dA h.h1 ai.pure)<|ai.cons (aD.dA h.h2 ai.pure) ai.nil)
theorem kc.bg(h:kc σ T D d N out tch)(hout:out.length=N)[IsPure tch]:aD σ (.ptr 0 0) (.bg (fi T D d (aw out) tch) 0):=by
 subst hout
 exact aD.gC h.h0 (ai.cons aD.pure<|ai.cons (aD.dA h.h1 ai.pure)<|ai.cons (aD.dA h.h2 ai.pure)<|ai.cons (aD.dA h.h3 ai.pure)<|ai.cons aD.pure<|ai.cons (aD.dA h.h4 ai.pure)<|ai.cons aD.pure ai.nil)
theorem kc.vw(h:kc σ T D d N out tch)(hout:out.length=N)[IsPure tch]{fs:List Nat}{u:Nat→Bool}(hu:∀i,i<5→u i=true):Vw σ fs u (.ptr 0 0) (.bg (fi T D d (aw out) tch) 0):=by
 subst hout
 exact Vw.Ki h.h0 (hu 0 (by omega)) (fm.cons .pure<|fm.cons (Vw.Aa h.h1 (hu 1 (by omega)) fm.pure)<|fm.cons (Vw.Aa h.h2 (hu 2 (by omega)) fm.pure)<|fm.cons (Vw.Aa h.h3 (hu 3 (by omega)) fm.pure)<|fm.cons .pure<|fm.cons (Vw.Aa h.h4 (hu 4 (by omega)) fm.pure)<|fm.cons .pure fm.nil)
theorem zI(h:kc σ T D d N out tch)(hT:iF T D N d)(hout:out.length=N)(hub:∀x:Nat,(x:Int)<T.nodes→at' out (x:Int)≤100000000)[IsPure tch]{L:List Int}(h5:σ[5]? =some (some (oW L)))(av:List Int)(n:Nat)(hn:n<N):
  aW Tryz.prog 86 [.agg (mY T N av (.own 5)),num n] σ (fun r σ'=>∃v,r=num v∧wS T D d out (fun y=>(y:Int)∈L) (fun a=>a<2*T.ae.length∧aN T a=(n:Int)) v∧σ'=σ):=by
 have hl:5<σ.length:=(List.getElem?_eq_some_iff.1 h5).1
 have hne:∀i,i<5→un [5] [sF true L] i=true:=fun i hi=>by
  have:Nat.beq 5 i=false:=by rw[Bool.eq_false_iff];intro h;have:=Nat.eq_of_beq_eq_true h;omega
  simp[un,sF,this]
 refine aW.view (σ0:=[sF true L]) [5] I (fm.cons (Vw.gM (fm.cons (h.vw hout hne)<|fm.cons .pure<|fm.cons .pure<|fm.cons .pure<|fm.cons (Vw.own rfl) fm.nil))<|fm.cons .pure fm.nil) (.kept h5 .mp .nil) (by simp;omega) (aW.mono (wu hT out hout hub true L tch (aw av) n hn) ?_)
 rintro r σ1 ⟨v,rfl,hb,rfl⟩
 refine⟨num v,σ,.flat,⟨by simp,fun i b2 hb2=>?_⟩,v,rfl,?_,rfl⟩
 ·by_cases hi:i=5
  ·subst hi
   rw[h5]at hb2
   cases hb2
   exact .inr ⟨0,_,rfl,.mp,.inl ⟨by simp,hl,rfl⟩⟩
  ·left
   refine⟨(List.getElem?_eq_some_iff.1 hb2).1,?_,hb2⟩
   have:Nat.beq 5 i=false:=by rw[Bool.eq_false_iff];intro h;exact hi (Nat.eq_of_beq_eq_true h).symm
   simp[un,sF,this]
 ·simpa using hb
theorem vN(A:bN)(av L:List Int):kc (oY T D d N out tch av L++A) T D d N out tch:=⟨rfl,rfl,rfl,rfl,rfl⟩
theorem qW{P:Program}{M:Nat}{c:Code}{t t':b9}{Q:Exit→St→Prop}{b:Bool}{n:Nat}{K Pl O av L:List Int}[IsPure tch](hT:lZ [0,1,2,3,4,5,6,7,8,9,11] t t')(h:W P M 6 c ⟨t',oY T D d N out tch av L++dZ 7 false N n K Pl O⟩ Q)(hT0:b=false→t=t'):W P M 6 c ⟨t,oY T D d N out tch av L++dZ 7 b N n K Pl O⟩ Q:=by
 cases b
 ·rw[hT0 rfl];exact h
 ·refine cJ [0,1,2,3,4,5,6,7,8,9,11] hT (.kept rfl (.cells (ao.c<|ao.c<|ao.c<|ao.c<|ao.c<|ao.c<|ao.c ao.nil))<|.kept rfl (.row ao.pure)<|.kept rfl (.row ao.pure)<|.kept rfl (.row ao.pure)<|.kept rfl (.row ao.pure)<|.kept rfl .mp<|.kept rfl (.cells (ao.c<|ao.c<|ao.c<|ao.c<|ao.c ao.nil))<|.kept rfl (.cells (ao.c<|ao.c<|ao.c ao.nil))<|.kept rfl (.row ao.pure)<|.kept rfl (.row ao.pure)<|.kept rfl (.row ao.pure) .nil) I I h
end
theorem Iw{i:Nat}{L:List Int}{σ:bN}{t:b9}{o:Oper}{x ix:Operand}{k:Int}{r:Bool}(ho:o.op= .lookup 122 x ix false)(hx:aA t x=some (.own i))(hi:σ[i]? =some (some (oW L)))(hp:aA t ix=some (num k))(hr:decide (k∈L)=r):bh Tryz.prog σ t o (flag r):=by
 refine o3 Hk (k:=k) ho HM KN hx hi hp (jS _) ?_
 rw[pw,hr]
def qR(k:Int)(L:List Int):List Int:=if k∈L then L else L++[k]
theorem FI(k:Int)(L:List Int)(x:Int):x∈qR k L↔x∈L∨x=k:=by
 unfold qR
 split
 ·rename_i h
  constructor
  ·exact .inl
  ·rintro(h'|rfl)
   ·exact h'
   ·exact h
 ·simp
theorem Dj(k:Int)(L:List Int):cK.mp (eA sA (gJ k (flag true) (mS L)))=oW (qR k L):=by unfold oW qR;rw[wG]
def nc(L out:List Int)(k:Nat):List Int:=(List.range out.length).map fun x=>if x<k∧(x:Int)∈L then -1 else out.getD x (-1)
theorem oH(L out:List Int)(k:Nat):(nc L out k).length=out.length:=by simp[nc]
theorem wD(L out:List Int)(k x:Nat)(hx:x<out.length):at' (nc L out k) (x:Int)=if x<k∧(x:Int)∈L then -1 else at' out (x:Int):=by
 simp[at',nc,List.getD_eq_getElem?_getD,hx]
theorem BW(L out:List Int):nc L out 0=out:=by
 refine List.ext_getElem (oH _ _ _) fun x h1 h2=>?_
 simp[nc,List.getD_eq_getElem?_getD,h2]
theorem Dp{L out:List Int}{k:Nat}(h:(k:Int)∈L)(hk:k<out.length):(nc L out k).set k (-1)=nc L out (k+1):=by
 refine List.ext_getElem (by simp[nc]) fun x h1 h2=>?_
 rw[List.getElem_set]
 simp only[nc,List.getElem_map,List.getElem_range]
 by_cases e:k=x
 ·subst e;rw[if_pos rfl,if_pos ⟨by omega,h⟩]
 ·rw[if_neg e]
  by_cases e2:x<k
  ·simp[e2,show x<k+1 by omega]
  ·simp[e2,show ¬x<k+1 by omega]
theorem GZ{L out:List Int}{k:Nat}(h:¬(k:Int)∈L):nc L out k=nc L out (k+1):=by
 refine List.ext_getElem (by simp[nc]) fun x h1 h2=>?_
 simp only[nc,List.getElem_map,List.getElem_range]
 by_cases e:x=k
 ·subst e;simp[h]
 ·by_cases e2:x<k
  ·simp[e2,show x<k+1 by omega]
  ·simp[e2,show ¬x<k+1 by omega]
theorem Fq(L out:List Int):Cut (fun y=>(y:Int)∈L) out (nc L out out.length):=⟨oH _ _ _,fun x hx=>⟨fun h=>by rw[wD _ _ _ _ hx,if_pos ⟨hx,h⟩],fun h=>by rw[wD _ _ _ _ hx,if_neg (fun e=>h e.2)]⟩⟩
theorem De{T₀ T:ah}{D₀ D:List Bool}{N d:Nat}{S:Nat→Prop}(hT:iF T D N d)(h2:Ia T₀ D₀ T D d S)(out:List Int)(hd:eJ T₀ D₀ d false out)(hout:out.length=N)(hub:∀x:Nat,(x:Int)<T.nodes→at' out (x:Int)≤4194240)(tch:PV)[IsPure tch]
    (av:List Int) (hal:av.length≤1000) (harc:∀a∈av,0≤a∧a<2*(T.ae.length:Int)) (hS:∀a,S a→a<2*T.ae.length→∃c:Nat,(c:Int)∈av∧aN T c=aN T a):
    aW Tryz.prog 62 [.agg (mY T N av (.own 5))] (sv T D d N out tch []) (fun _ σ'=>∃L out1 done b,vP T D d out (fun y=>(y:Int)∈L) (fun _=>False) done b (fun _=>False)∧Cut (fun y=>(y:Int)∈L) out out1∧σ'=sv T D d N out1 tch L):=by
  have hll:=bX hT.valid
  have hSd:=aM hT.valid
  have hnn:=hT.nodes
  have hN64:N≤64:=by have:=hSd.nodes;omega
  have hrl:=cQ (aB T) N (2*T.ae.length)
  have hub8:∀x:Nat,(x:Int)<T.nodes→at' out (x:Int)≤100000000:=fun x hx=>by have:=hub x hx;omega
  refine bO Tryz.func62 I Tryz.ntmps62 I<|aR<|cg (eV I I I) I<|aH [1] I ?_
  refine aR<|ax 5 I<|bw (aK I ((show some (num T.nodes)=some (num (N:Int)) by rw[hnn]))) I<|b7 I I (aW.mono (tW (m:=7) (oY T D d N out tch av []) I (by omega) (by omega)) (fun _ σ' h=>?_))
  obtain⟨rfl,rfl⟩:=h
  refine ax 5 I<|aH [1,2] I ?_
  refine an<|af (.a 4 I<|.k [1,2,26,27,28] I)<|ay<|eY [1,2,26,27,28] I<|br (fun r s=>∃k q K P O,k≤av.length∧oS N q K P O∧(∀y:Nat,cd O (y:Int)↔∃c:Nat,(c:Int)∈av.take k∧aN T c=(y:Int)∧y≠d∧0≤at' out (y:Int))∧(∀y:Nat,cd O (y:Int)→K.getD y 0=at' out (y:Int))∧r=av.length - k∧s=⟨[(1,.ptr 6 0),(2,.ptr 7 0),(26,aw av),(27,num av.length),(28,num k)],oY T D d N out tch av []++dZ 7 false N q K P O⟩) av.length ⟨0,0,_,_,_,by omega,qm N,fun y=>⟨fun⟨p,hp,_⟩=>by simp at hp,fun⟨c,hc,_⟩=>by simp at hc⟩,fun y ⟨p,hp,_⟩=>by simp at hp,by omega,rfl⟩ ?_
  rintro r s ⟨k,q,K,P,O,hk,hok,hheld,hkey,rfl,rfl⟩
  refine af (.a 1 I<|.k [1,2,26,27,28,29] I)<|an<|aj I (fun hc=>?_) (fun hc=>?_)
  · have hlt:k<av.length:=by have:=of_decide_eq_true hc;omega
    obtain⟨ha0,ha1⟩:=harc _ (cf (d:=0) hlt)
    obtain⟨a,ha⟩:=Int.eq_ofNat_of_zero_le ha0
    have ham:a<2*T.ae.length:=by omega
    obtain⟨m,hm⟩:=Int.eq_ofNat_of_zero_le (hSd.tail a ham).1
    have hmN:m<N:=by have:=(hSd.tail a ham).2;omega
    have hA:=ie hlt ha
    have hstep:∀y:Nat,(∃c:Nat,(c:Int)∈av.take (k+1)∧aN T c=(y:Int)∧y≠d∧0≤at' out (y:Int))↔cd O (y:Int)∨(y=m∧m≠d∧0≤at' out (m:Int)):=fun y=>by
      rw[hheld y]
      constructor
      · rintro⟨c,h1,h2,h3,h4⟩
        rcases(hA c).1 h1 with h1|rfl
        · exact .inl ⟨c,h1,h2,h3,h4⟩
        · have:y=m:=by rw[hm]at h2;omega
          subst this
          exact .inr ⟨rfl,h3,h4⟩
      · rintro(⟨c,h1,h2,h3,h4⟩|⟨rfl,h3,h4⟩)
        · exact⟨c,(hA c).2 (.inl h1),h2,h3,h4⟩
        · exact⟨a,(hA a).2 (.inr rfl),hm,h3,h4⟩
    refine ak<|an<|ay<|af (.v (aJ (k) I) I<|.v (aK I ((aC av k hlt).trans (by rw[ha]))) I<|.a 1 I<|.k [1,2,5,26,27,28] I)<|af (.a 6 I<|.v (oM I (ai.cons (vN _ _ _).jY (ai.cons aD.pure ai.nil)) (hm▸fp T a ham)) I<|.a 1 I<|.k [1,2,6,26,27,28] I) ?_
    obtain⟨p1,hp1⟩:∃q,decide ((m:Int)≠(d:Int))=q:=⟨_,rfl⟩
    obtain⟨p2,hp2⟩:∃q,decide (0≤at' out (m:Int))=q:=⟨_,rfl⟩
    refine bP 56 (.raw (.bool (p1&&p2))) [1,2,6,26,27,28] I ?_ ?_
    · refine .a 6 I<|.v (cD I (hp1)) I<|.a 1 I<|?_
      cases p1
      · exact .a 10 I<|.k [56,1,2,6,26,27,28] I
      · exact .a 6 I<|.v (aJ (m) I) I<|.v (aK I (gH out m (by omega))) I<|.v (cD I (hp2)) I<|.a 1 I<|.k [56,1,2,6,26,27,28] I
    refine aj I (fun hc=>?_) (fun hc=>?_)
    · obtain⟨c1,c2⟩:=Bool.and_eq_true_iff.1 hc
      rw[c1]at hp1
      rw[c2]at hp2
      have hmd:m≠d:=by have:=of_decide_eq_true hp1;omega
      have hm0:=of_decide_eq_true hp2
      refine bx<|ax 8 I<|bw (aJ (m) I) I<|bw (aK I (gH out m (by omega))) I<|b7 I I (aW.mono (pg (m:=7) (oY T D d N out tch av []) I (by omega) hok (by omega) m hmN _) (fun _ σ' h=>?_))
      obtain⟨b3,n3,P3,O3,rfl,hok3,hH3⟩:=h
      refine aH [1,2,26,27,28] I ?_
      refine qW (.c 1<|.c 2<|.c 26<|.c 27<|.c 28 .nil) ?_ (fun _=>rfl)
      have hhn:∀y:Nat,cd O3 (y:Int)↔∃c:Nat,(c:Int)∈av.take (k+1)∧aN T c=(y:Int)∧y≠d∧0≤at' out (y:Int):=fun y=>by
        rw[hstep y,hH3 y]
        constructor
        · rintro(h|h)
          · exact .inl h
          · exact .inr ⟨by omega,hmd,hm0⟩
        · rintro(h|⟨rfl,_⟩)
          · exact .inl h
          · exact .inr rfl
      have hkey3:∀y:Nat,cd O3 (y:Int)→(K.set m (at' out (m:Int))).getD y 0=at' out (y:Int):=fun y hy=>by
        rw[vz _ _ _ _ (by rw[hok.2.2.1];exact hmN)]
        split
        · rename_i e;rw[e]
        · rename_i e
          exact hkey y (((hH3 y).1 hy).resolve_right (by omega))
      refine aF (.v (aU I) I<|.a 1 I<|.k [1,2,26,27,28] I) ?_
      first
        |exact⟨av.length - (k+1),by omega,k+1,n3,_,P3,O3,by omega,hok3,hhn,hkey3,rfl,rfl⟩
        |exact⟨av.length - (k+1),by omega,k+1,q,K,P,O,by omega,hok,hhn,hkey,rfl,rfl⟩
    · have hno:¬(m≠d∧0≤at' out (m:Int)):=fun⟨e1,e2⟩=>by
        rw[decide_eq_true (by omega)]at hp1
        rw[decide_eq_true e2]at hp2
        rw[←hp1,←hp2]at hc
        cases hc
      have hhn:∀y:Nat,cd O (y:Int)↔∃c:Nat,(c:Int)∈av.take (k+1)∧aN T c=(y:Int)∧y≠d∧0≤at' out (y:Int):=fun y=>by
        rw[hstep y]
        exact⟨.inl,fun h=>h.elim id fun h=>absurd h.2 hno⟩
      refine ak<|aF (.v (aU I) I<|.a 1 I<|.k [1,2,26,27,28] I) ?_
      first
        |exact⟨av.length - (k+1),by omega,k+1,n3,_,P3,O3,by omega,hok3,hhn,hkey3,rfl,rfl⟩
        |exact⟨av.length - (k+1),by omega,k+1,q,K,P,O,by omega,hok,hhn,hkey,rfl,rfl⟩
  · have hke:k=av.length:=by have:=of_decide_eq_false hc;omega
    rw[hke,List.take_length]at hheld
    have hL0:vP T D d out (fun y=>(y:Int)∈([]:List Int)) (fun y=>cd O (y:Int)) (List.replicate N (-1)) 0 (fun _=>False):=by
      have:=CB (H:=fun y=>cd O (y:Int)) h2 hSd hnn.symm hd (fun y hy=>by
        obtain⟨c,hc1,hc2,hc3,hc4⟩:=(hheld y).1 hy
        have:=harc _ hc1
        have:=hSd.tail c (by omega)
        exact⟨by omega,hc3,hc4⟩) (fun a x hs ha hx hxd hx0=>by
        obtain⟨c,hc1,hc2⟩:=hS a hs ha
        exact(hheld x).2 ⟨c,hc1,by rw[hc2,hx],hxd,hx0⟩)
      simpa using this
    clear hheld
    refine bp<|an<|ay<|eY [1,2] I<|br (fun r s=>∃L done b q K P O,vP T D d out (fun y=>(y:Int)∈L) (fun y=>cd O (y:Int)) done b (fun _=>False)∧oS N q K P O∧(∀y:Nat,cd O (y:Int)→K.getD y 0=at' out (y:Int))∧r=N - fL done∧s=⟨[(1,.ptr 6 0),(2,.ptr 7 0)],oY T D d N out tch av L++dZ 7 false N q K P O⟩) (N - fL (List.replicate N (-1))) ⟨[],_,_,q,K,P,O,hL0,hok,hkey,rfl,rfl⟩ ?_
    clear hL0 hok hkey
    rintro r s ⟨L,done,b,q,K,P,O,hL,hok,hkey,rfl,rfl⟩
    refine ay<|aR<|ax 1 I<|b7 I I (aW.mono (tL (m:=7) (oY T D d N out tch av L) I (by omega) hok (by omega)) (fun _ σ' h=>?_))
    obtain⟨b3,ok,i,n1,key,K1,P1,O1,rfl,rfl,hpop⟩:=h
    refine ax 7 I<|aH [1,2,7,8,9] I ?_
    refine qW (.c 1<|.c 2<|.c 7<|.c 8<|.c 9 .nil) ?_ (fun _=>rfl)
    refine an<|af (.a 2 I<|.k [1,2,7,8,76] I)<|aj I (fun hc=>?_) (fun hc=>?_)
    · have hok0:ok=false:=by cases ok;rfl;cases hc
      have hq0:q=0:=by
        rcases hpop with⟨_,h⟩|⟨h,_⟩
        · exact h
        · rw[hok0]at h;cases h
      have hLE:vP T D d out (fun y=>(y:Int)∈L) (fun _=>False) done b (fun _=>False):=by
        have hno:∀y:Nat,¬cd O (y:Int):=fun y ⟨p,hp,_⟩=>by have:=hok.2.1;omega
        exact⟨hL.np,fun y hy=>hy.elim,hL.gone,hL.rh,fun x h1 h2 h3 h4=>.inr ((hL.sup x h1 h2 h3 h4).resolve_left (hno x))⟩
      refine cJ [0,1,2,3,4,5,6] (.c 1 .nil) (.kept rfl (.cells (ao.c<|ao.c<|ao.c<|ao.c<|ao.c<|ao.c<|ao.c ao.nil))<|.kept rfl (.row ao.pure)<|.kept rfl (.row ao.pure)<|.kept rfl (.row ao.pure)<|.kept rfl (.row ao.pure)<|.kept rfl .mp<|.kept rfl (.cells (ao.c<|ao.c<|ao.c<|ao.c<|ao.c ao.nil)) .nil) I I ?_
      refine bp<|af (.a 7 I<|.k [1,143,144] I)<|ay<|eY [1,143,144] I<|br (fun r s=>∃k,k≤N∧r=N - k∧s=⟨[(1,.ptr 6 0),(143,num N),(144,num k)],oY T D d N (nc L out k) tch av L⟩) N ⟨0,by omega,by omega,by rw[BW];rfl⟩ ?_
      rintro r s ⟨k,hk,rfl,rfl⟩
      refine af (.a 1 I<|.k [1,143,144,145] I)<|an<|aj I (fun hc=>?_) (fun hc=>?_)
      · have hlt:k<N:=by have:=of_decide_eq_true hc;omega
        refine ak<|an<|ay<|af (.a 2 I<|.k [1,14,143,144] I) ?_
        obtain⟨p1,hp1⟩:∃q,decide ((k:Int)∈L)=q:=⟨_,rfl⟩
        refine af (.a 3 I<|.v (Iw I I I I hp1) I<|.k [1,14,143,144,150] I)<|aj I (fun hc=>?_) (fun hc=>?_)
        · have hst:=Dp (out:=out) (of_decide_eq_true (hp1.trans hc)) (by omega)
          refine bx<|ax 6 I<|bw (aJ (k) I) I<|ba ((by first|exact bM I (bG.tk.get I) I I I (by rw[oH];omega)|exact aX I (bG.tk.get I) I I I (by rw[oH];omega))) I I<|aH [1,143,144] I ?_
          refine aF (.v (aU I) I<|.a 1 I<|.k [1,143,144] I) ?_
          refine⟨N - (k+1),by omega,k+1,by omega,rfl,?_⟩
          rw[←hst]
          rfl
        · have hst:=GZ (out:=out) (of_decide_eq_false (hp1.trans hc))
          refine ak<|aF (.v (aU I) I<|.a 1 I<|.k [1,143,144] I) ?_
          refine⟨N - (k+1),by omega,k+1,by omega,rfl,?_⟩
          rw[←hst]
          rfl
      · have hke:k=N:=by have:=of_decide_eq_false hc;omega
        subst hke
        refine cJ [0,1,2,3,4,5] .nil (.kept rfl (.cells (ao.c<|ao.c<|ao.c<|ao.c<|ao.c<|ao.c<|ao.c ao.nil))<|.kept rfl (.row ao.pure)<|.kept rfl (.row ao.pure)<|.kept rfl (.row ao.pure)<|.kept rfl (.row ao.pure)<|.kept rfl .mp .nil) I I ?_
        exact bp<|⟨_,aE.of I,L,_,done,b,hLE,Fq L out,by rw[hout];rfl⟩
    · have hok1:ok=true:=by cases ok;cases hc;rfl
      rcases hpop with⟨h,_⟩|⟨_,hiN,hHi,hmin,rfl,rfl,hok',hH'⟩
      · rw[hok1]at h;cases h
      have hki:=hkey i hHi
      rw[hki]
      have hmin':∀j:Nat,cd O (j:Int)→at' out (i:Int)≤at' out (j:Int):=fun j hj=>by rw[←hki,←hkey j hj];exact hmin j hj
      have hi0:=(hL.held i hHi).2.2.1
      have hkey1:∀y:Nat,cd O1 (y:Int)→(K.set i 0).getD y 0=at' out (y:Int):=fun y hy=>by
        obtain⟨e1,e2⟩:=(hH' y).1 hy
        rw[vz _ _ _ _ (by rw[hok.2.2.1];exact hiN),if_neg e2]
        exact hkey y e1
      generalize K.set i 0=K1 at hok' hkey1
      have hdl:done.length=N:=by have:=hL.np;omega
      have hmeas:fL (done.set i 0)=fL done+1→N - fL (done.set i 0)<N - fL done:=fun h=>by have:=gZ (done.set i 0);rw[List.length_set]at this;omega
      refine ak<|an<|aR<|ax 2 I<|b7 I I (aW.mono (zI (vN _ _ _) hT hout hub8 (L:=L) I av i hiN) (fun _ σ' h=>?_))
      obtain⟨v,rfl,hb,rfl⟩:=h
      refine ax 1 I<|aH [1,2,7,8,10] I ?_
      obtain⟨p1,hp1⟩:∃q,decide (0≤v)=q:=⟨_,rfl⟩
      obtain⟨p2,hp2⟩:∃q,decide (v≤at' out (i:Int))=q:=⟨_,rfl⟩
      refine bP 86 (.raw (.bool (p1&&p2))) [1,2,7,8] I ?_ ?_
      · refine .a 1 I<|.v (cD I (hp1)) I<|.a 1 I<|?_
        cases p1
        · exact .a 4 I<|.k [86,1,2,7,8] I
        · exact .a 2 I<|.v (cD I (hp2)) I<|.a 1 I<|.k [86,1,2,7,8] I
      refine aj I (fun hc=>?_) (fun hc=>?_)
      · obtain⟨c1,c2⟩:=Bool.and_eq_true_iff.1 hc
        rw[c1]at hp1
        rw[c2]at hp2
        have hv0:=of_decide_eq_true hp1
        have hvi:=of_decide_eq_true hp2
        obtain⟨hL1,hcnt⟩:vP T D d out (fun y=>(y:Int)∈L) (fun y=>cd O1 (y:Int)) (done.set i 0) (at' out (i:Int)) (fun _=>False)∧fL (done.set i 0)=fL done+1:=by
          rcases hb with⟨h1,_⟩|⟨_,⟨a,⟨k1,k2⟩,k3,k4,k5,k6⟩,_⟩
          · omega
          · exact Ey hL hHi hmin' hH' k1 k2 ⟨k3,k4,by omega⟩ k5
        refine iJ (.cons (k:=1) I<|.cons (k:=2) I<|Sub.nil _) ?_
        refine bp ?_
        first
          |exact⟨_,hmeas hcnt,_,_,_,_,_,_,_,hLe,hok2,hkey2,rfl,rfl⟩
          |exact⟨_,hmeas hcnt,_,_,_,_,_,_,_,hL1,hok',hkey1,rfl,rfl⟩
      · obtain ⟨hL1, hcnt⟩ := DZ (lost' := fun y => (y : Int) ∈ qR (i : Int) L) hSd hL hHi hmin' hH' (fun j => by rw [FI]; constructor <;> (rintro (h | h); exact .inl h; exact .inr (by omega)))
        refine ak<|aR<|ax 3 I<|ba (lF Hk (k:=(i:Int)) I HM rfl rfl rfl (jS _) I) I I<|aH [1,2,7,8] I ?_
        refine dF (σ':=oY T D d N out tch av (qR (i:Int) L)++dZ 7 false N n1 K1 P1 O1) (by unfold oY;rw[←Dj];rfl) ?_
        have hll:=gT T false i
        have hL2:vP T D d out (fun y=>(y:Int)∈qR (i:Int) L) (fun y=>cd O1 (y:Int)) (done.set i 0) (at' out (i:Int)) (fun a=>aB T a=(i:Int)∧(a:Int)∉(aP T false i).take 0):=Av hL1 (fun a _ h=>⟨h,by simp⟩)
        have hrow:(ca (aB T) N (2*T.ae.length)).getD i []=aP T false i:=dH _ _ _ _ hiN
        refine af (.a 3 I<|.v (aJ (i) I) I<|.v (aK I ((show((ca (aB T) N (2*T.ae.length)).map aw)[i]? =some (aw (aP T false i)) by rw[←hrow];simp[hrl,hiN]))) I<|.a 2 I<|.k [1,2,8,94,95,96] I)<|ay<|eY [1,2,8,94,95,96] I<|br (fun r s=>∃j q K P O,j≤(aP T false i).length∧vP T D d out (fun y=>(y:Int)∈qR (i:Int) L) (fun y=>cd O (y:Int)) (done.set i 0) (at' out (i:Int)) (fun a=>aB T a=(i:Int)∧(a:Int)∉(aP T false i).take j)∧oS N q K P O∧(∀y:Nat,cd O (y:Int)→K.getD y 0=at' out (y:Int))∧r=(aP T false i).length - j∧s=⟨[(1,.ptr 6 0),(2,.ptr 7 0),(8,num (at' out (i:Int))),(94,aw (aP T false i)),(95,num (aP T false i).length),(96,num j)],oY T D d N out tch av (qR (i:Int) L)++dZ 7 false N q K P O⟩) (aP T false i).length ⟨0,n1,K1,P1,O1,by omega,hL2,hok',hkey1,by omega,rfl⟩ ?_
        clear hL2 hok' hkey1 hL1 hmin' hmin hHi hH' hkey hok
        rintro r s ⟨j,q2,K2,P2,O2,hj,hL2,hok2,hkey2,rfl,rfl⟩
        refine af (.a 1 I<|.k [1,2,8,94,95,96,97] I)<|an<|aj I (fun hc=>?_) (fun hc=>?_)
        · have hlt:j<(aP T false i).length:=by have:=of_decide_eq_true hc;omega
          obtain⟨a,ha,ham,hay⟩:=jj T false i j hlt
          have hah:aB T a=(i:Int):=hay
          obtain⟨m,hm⟩:=Int.eq_ofNat_of_zero_le (hSd.tail a ham).1
          have hmN:m<N:=by have:=(hSd.tail a ham).2;omega
          have hA:=ie hlt ha
          have hSS:∀c,c<2*T.ae.length→(aB T c=(i:Int)∧(c:Int)∉(aP T false i).take j)→(aB T c=(i:Int)∧(c:Int)∉(aP T false i).take (j+1))∨c=a:=fun c _ ⟨e1,e2⟩=>by
            by_cases e:c=a
            · exact .inr e
            · exact .inl ⟨e1,fun h=>((hA c).1 h).elim e2 e⟩
          refine ak<|an<|ay<|af (.v (aJ (j) I) I<|.v (aK I ((aC _ j hlt).trans (by rw[ha]))) I<|.a 1 I<|.k [1,2,8,12,94,95,96] I)<|af (.a 6 I<|.v (oM I (ai.cons (vN _ _ _).jY (ai.cons aD.pure ai.nil)) (hm▸fp T a ham)) I<|.a 1 I<|.k [1,2,8,13,94,95,96] I) ?_
          obtain⟨p1,hp1⟩:∃q,decide ((m:Int)≠(d:Int))=q:=⟨_,rfl⟩
          obtain⟨p2,hp2⟩:∃q,decide (at' out (i:Int)<at' out (m:Int))=q:=⟨_,rfl⟩
          refine bP 125 (.raw (.bool (p1&&p2))) [1,2,8,13,94,95,96] I ?_ ?_
          · refine .a 6 I<|.v (cD I (hp1)) I<|.a 1 I<|?_
            cases p1
            · exact .a 11 I<|.k [125,1,2,8,13,94,95,96] I
            · exact .a 6 I<|.v (aJ (m) I) I<|.v (aK I (gH out m (by omega))) I<|.a 1 I<|.v (cD I (hp2)) I<|.a 1 I<|.k [125,1,2,8,13,94,95,96] I
          refine aj I (fun hc=>?_) (fun hc=>?_)
          · obtain⟨c1,c2⟩:=Bool.and_eq_true_iff.1 hc
            rw[c1]at hp1
            rw[c2]at hp2
            have hmd:m≠d:=by have:=of_decide_eq_true hp1;omega
            have hmi:=of_decide_eq_true hp2
            refine bx<|ax 8 I<|bw (aJ (m) I) I<|bw (aK I (gH out m (by omega))) I<|b7 I I (aW.mono (pg (m:=7) (oY T D d N out tch av (qR (i:Int) L)) I (by omega) hok2 (by omega) m hmN _) (fun _ σ' h=>?_))
            obtain⟨b3,n3,P3,O3,rfl,hok3,hH3⟩:=h
            refine aH [1,2,8,94,95,96] I ?_
            refine qW (.c 1<|.c 2<|.c 8<|.c 94<|.c 95<|.c 96 .nil) ?_ (fun _=>rfl)
            have hL3:=Az (H':=fun y=>cd O3 (y:Int)) hSd hL2 ham hah hm hSS (fun y=>(hH3 y).trans ⟨fun h=>h.imp id (fun e=>⟨by omega,hmd,hmi⟩),fun h=>h.imp id (fun e=>by have:=e.1;omega)⟩) hi0
            have hkey3:∀y:Nat,cd O3 (y:Int)→(K2.set m (at' out (m:Int))).getD y 0=at' out (y:Int):=fun y hy=>by
              rw[vz _ _ _ _ (by rw[hok2.2.2.1];exact hmN)]
              split
              · rename_i e;rw[e]
              · rename_i e
                exact hkey2 y (((hH3 y).1 hy).resolve_right (by omega))
            refine aF (.v (aU I) I<|.a 1 I<|.k [1,2,8,94,95,96] I) ?_
            first
              |exact⟨(aP T false i).length - (j+1),by omega,j+1,n3,_,P3,O3,by omega,hL3,hok3,hkey3,rfl,rfl⟩
              |exact⟨(aP T false i).length - (j+1),by omega,j+1,q2,K2,P2,O2,by omega,hL3,hok2,hkey2,rfl,rfl⟩
          · have hno:¬(m≠d∧at' out (i:Int)<at' out (m:Int)):=fun⟨e1,e2⟩=>by
              rw[decide_eq_true (by omega)]at hp1
              rw[decide_eq_true e2]at hp2
              rw[←hp1,←hp2]at hc
              cases hc
            have hL3:=Az (H':=fun y=>cd O2 (y:Int)) hSd hL2 ham hah hm hSS (fun y=>⟨.inl,fun h=>h.elim id fun h=>absurd h.2 hno⟩) hi0
            refine ak<|aF (.v (aU I) I<|.a 1 I<|.k [1,2,8,94,95,96] I) ?_
            first
              |exact⟨(aP T false i).length - (j+1),by omega,j+1,n3,_,P3,O3,by omega,hL3,hok3,hkey3,rfl,rfl⟩
              |exact⟨(aP T false i).length - (j+1),by omega,j+1,q2,K2,P2,O2,by omega,hL3,hok2,hkey2,rfl,rfl⟩
        · have hje:j=(aP T false i).length:=by have:=of_decide_eq_false hc;omega
          have hLe:vP T D d out (fun y=>(y:Int)∈qR (i:Int) L) (fun y=>cd O2 (y:Int)) (done.set i 0) (at' out (i:Int)) (fun _=>False):=Av hL2 (fun a ha ⟨e1,e2⟩=>e2 (by rw[hje,List.take_length];exact(fP T false i a).2 ⟨ha,e1⟩))
          refine iJ (.cons (k:=1) I<|.cons (k:=2) I<|Sub.nil _) ?_
          refine bp ?_
          first
            |exact⟨_,hmeas hcnt,_,_,_,_,_,_,_,hLe,hok2,hkey2,rfl,rfl⟩
            |exact⟨_,hmeas hcnt,_,_,_,_,_,_,_,hL1,hok',hkey1,rfl,rfl⟩
end
end PW
end Go.Proofs.YteikppbedmmdnaaGreatDoor
namespace Go.Proofs.YteikppbedmmdnaaGreatDoor
namespace Net
theorem zh{T:ah}{D:List Bool}{n:Nat}{out K:List Int}{H:Nat→Prop}{done:List Int}{b:Int}{S S':Nat→Prop}(h:ud T D n out K H done b S)(hS:∀c,c<2*T.ae.length→S c→S' c∨¬wi T D n c):ud T D n out K H done b S':=
 {h with yr:=fun a ha hs hu=>h.yr a ha (fun e=>(hS a ha e).elim hs (fun f=>f hu)) hu}
end Net
namespace PW
open Go.RowKit cj Mem Net Heap
theorem w7{T:ah}{D:List Bool}{n:Nat}{out K K':List Int}{H H':Nat→Prop}{done:List Int}{S S':Nat→Prop}(hT:Sound T)(h:ud T D n out K H done 0 S){m:Nat}{v:Int}(hmN:(m:Int)<T.nodes)(hb:wS T D n out (fun _=>False) (fun a=>a<2*T.ae.length∧aN T a=(m:Int)) v)(ho:sQ n out K H m v K' H')
  (hS:∀c,c<2*T.ae.length→S c→S' c∨aN T c=(m:Int)):ud T D n out K' H' done 0 S':=by
 refine sL hT h hmN ho (fun c hc hs=>?_) (fun hv=>?_)
 ·rcases hS c hc hs with h1|h1
  ·exact .inl h1
  ·refine .inr ⟨h1,fun k1 k2=>?_⟩
   rcases hb with⟨_,h2⟩|⟨h2,_,h3⟩
   ·exact(h2 c ⟨hc,h1⟩ k1 k2).elim
   ·exact⟨h2,h3 c ⟨hc,h1⟩ k1 k2 (fun f=>f)⟩
 ·rcases hb with⟨h2,_⟩|⟨_,⟨a,⟨h3,h4⟩,h5,h6,_,h7⟩,_⟩
  ·omega
  ·obtain⟨y,hy⟩:=Int.eq_ofNat_of_zero_le (hT.head a h3).1
   have:=h.ub y (by have:=(hT.head a h3).2;omega)
   have:=hT.cost a h3
   rw[←hy]at*
   exact⟨hv,by omega,a,h3,h4,h5,h6,by omega⟩
def mT(T:ah)(D:List Bool)(d N:Nat)(out:List Int)(tch:PV)(av L:List Int):bN:=[some (.cells 78 [num T.nodes,.own 1,.own 2,.own 3,num d,.own 4,tch]),some (.row 4 1 T.over.length (bb T.over)),some (.row 82 7 T.ae.length (ct T.ae)),some (.row 4 1 D.length (bb D)),some (.row 3 1 N (aL out)),some (oW L),some (.cells 124 (mY T N av (.raw (.map none)))),some (.cells 145 [.ptr 8 0])]
section
variable {σ:bN} {T:ah} {D:List Bool} {d N:Nat} {out:List Int} {tch:PV}
theorem mr(A:bN)(av L:List Int):kc (mT T D d N out tch av L++A) T D d N out tch:=⟨rfl,rfl,rfl,rfl,rfl⟩
theorem ov{P:Program}{M:Nat}{c:Code}{t t':b9}{Q:Exit→St→Prop}{b:Bool}{n:Nat}{K Pl O av L:List Int}[IsPure tch](hT:lZ [0,1,2,3,4,5,6,7,8,9,10,12] t t')(h:W P M 6 c ⟨t',mT T D d N out tch av L++dZ 8 false N n K Pl O⟩ Q)(hT0:b=false→t=t'):W P M 6 c ⟨t,mT T D d N out tch av L++dZ 8 b N n K Pl O⟩ Q:=by
 cases b
 ·rw[hT0 rfl];exact h
 ·refine cJ [0,1,2,3,4,5,6,7,8,9,10,12] hT (.kept rfl (.cells (ao.c<|ao.c<|ao.c<|ao.c<|ao.c<|ao.c<|ao.c ao.nil))<|.kept rfl (.row ao.pure)<|.kept rfl (.row ao.pure)<|.kept rfl (.row ao.pure)<|.kept rfl (.row ao.pure)<|.kept rfl .mp<|.kept rfl (.cells (ao.c<|ao.c<|ao.c<|ao.c<|ao.c ao.nil))<|.kept rfl (.cells (ao.c ao.nil))<|.kept rfl (.cells (ao.c<|ao.c<|ao.c ao.nil))<|.kept rfl (.row ao.pure)<|.kept rfl (.row ao.pure)<|.kept rfl (.row ao.pure) .nil) I I h
theorem tn(h:kc σ T D d N out tch)(hT:iF T D N d)(hout:out.length=N)(hub:∀x:Nat,(x:Int)<T.nodes→at' out (x:Int)≤100000000)[IsPure tch](h5:5<σ.length)(av:List Int)(n:Nat)(hn:n<N):
  aW Tryz.prog 86 [.agg (mY T N av (.raw (.map none))),num n] σ (fun r σ'=>∃v,r=num v∧wS T D d out (fun _=>False) (fun a=>a<2*T.ae.length∧aN T a=(n:Int)) v∧σ'=σ):=by
 refine aW.view (σ0:=[sF false []]) [5] I (fm.cons (Vw.gM (fm.cons (h.vw hout (fun _ _=>rfl))<|fm.cons .pure<|fm.cons .pure<|fm.cons .pure<|fm.cons .pure fm.nil))<|fm.cons .pure fm.nil) (.gone .nil) (by simp;omega) (aW.mono (wu hT out hout hub false [] tch (aw av) n hn) ?_)
 rintro r σ1 ⟨v,rfl,hb,rfl⟩
 refine⟨num v,σ,.flat,⟨by simp,fun i b2 hb2=>.inl ⟨(List.getElem?_eq_some_iff.1 hb2).1,rfl,hb2⟩⟩,v,rfl,?_,rfl⟩
 simpa using hb
end
theorem py{T:ah}{D:List Bool}{N d:Nat}(hT:iF T D N d)(out:List Int)(hout:out.length=N)(tch:PV)[IsPure tch](av L:List Int){q:Nat}{K P O:List Int}(hok:oS N q K P O)(n:Nat)(hn:n<N)(v:Int):
  aW Tryz.prog 87 [num n,num v,.ptr 6 0,.ptr 7 0] (mT T D d N out tch av L++dZ 8 false N q K P O) (fun _ σ'=>∃(b:Bool) (q':Nat) (K' P' O':List Int),σ'=mT T D d N out tch av L++dZ 8 b N q' K' P' O'∧oS N q' K' P' O'∧sQ d out K (fun y=>cd O (y:Int)) n v K' (fun y=>cd O' (y:Int))):=by
 have hN64:N≤64:=by have:=(aM hT.valid).nodes;have:=hT.nodes;omega
 obtain⟨p1,hp1⟩:∃q,decide ((n:Int)=(d:Int))=q:=⟨_,rfl⟩
 obtain⟨p2,hp2⟩:∃q,decide (v<0)=q:=⟨_,rfl⟩
 obtain⟨p3,hp3⟩:∃q,decide (0≤at' out (n:Int))=q:=⟨_,rfl⟩
 obtain⟨p4,hp4⟩:∃q,decide (at' out (n:Int)≤v)=q:=⟨_,rfl⟩
 refine bO Tryz.func87 I Tryz.ntmps87 I<|an<|bP 41 (.raw (.bool ((p1||p2)||(p3&&p4)))) [0,1,3] I ?_ ?_
 ·refine .a 6 I<|.v (cD I (hp1)) I<|.a 1 I<|?_
  cases p1
  ·refine .a 1 I<|.v (cD I (hp2)) I<|.a 2 I<|?_
   cases p2
   ·refine .a 6 I<|.v (aJ (n) I) I<|.v (aK I (gH out n (by omega))) I<|.v (cD I (hp3)) I<|.a 1 I<|?_
    cases p3
    ·exact .a 12 I<|.k [41,0,1,3] I
    ·exact .a 6 I<|.v (aJ (n) I) I<|.v (aK I (gH out n (by omega))) I<|.a 1 I<|.v (cD I (hp4)) I<|.a 2 I<|.k [41,0,1,3] I
   ·exact .a 22 I<|.k [41,0,1,3] I
  ·exact .a 26 I<|.k [41,0,1,3] I
 refine aj I (fun hc=>?_) (fun hc=>?_)
 ·have hno:n=d∨v<0∨(0≤at' out (n:Int)∧at' out (n:Int)≤v):=by
   rcases Bool.or_eq_true_iff.1 hc with h|h
   ·rcases Bool.or_eq_true_iff.1 h with h|h
    ·rw[h]at hp1;exact .inl (by have:=of_decide_eq_true hp1;omega)
    ·rw[h]at hp2;exact .inr (.inl (of_decide_eq_true hp2))
   ·obtain⟨h1,h2⟩:=Bool.and_eq_true_iff.1 h
    rw[h1]at hp3
    rw[h2]at hp4
    exact .inr (.inr ⟨of_decide_eq_true hp3,of_decide_eq_true hp4⟩)
  exact az<|⟨_,aE.of I,false,q,K,P,O,rfl,hok,.none hno⟩
 ·have hyes:n≠d∧0≤v∧(at' out (n:Int)<0∨v<at' out (n:Int)):=by
   obtain⟨h,h3⟩:=Bool.or_eq_false_iff.1 hc
   obtain⟨h1,h2⟩:=Bool.or_eq_false_iff.1 h
   rw[h1]at hp1
   rw[h2]at hp2
   have e1:=of_decide_eq_false hp1
   have e2:=of_decide_eq_false hp2
   refine⟨by omega,by omega,?_⟩
   rcases Bool.and_eq_false_iff.1 h3 with h|h
   ·rw[h]at hp3;have:=of_decide_eq_false hp3;omega
   ·rw[h]at hp4;have:=of_decide_eq_false hp4;omega
  clear hp1 hp2 hp3 hp4 hc
  refine ak ?_
  obtain⟨p5,hp5⟩:∃q,(!decide (P.getD n 0=0))=q:=⟨_,rfl⟩
  obtain⟨kv,hkv⟩:∃z,(if P.getD n 0=0 then 0 else K.getD n 0)=z:=⟨_,rfl⟩
  have hkc:=vM K P O hok.1.len hok.2.2.1 (by omega) n hn
  rw[hp5,hkv]at hkc
  refine af (.a 2 I<|.v (oM I (ai.cons (GB (m:=8) (mT T D d N out tch av L) I hok) (ai.cons aD.pure ai.nil)) (hkc)) I<|.a 5 I<|.k [0,1,3,6,7] I) ?_
  obtain⟨p6,hp6⟩:∃q,decide (v<kv)=q:=⟨_,rfl⟩
  refine bP 54 (.raw (.bool ((!p5)||p6))) [0,1,3] I ?_ ?_
  ·refine .a 3 I<|?_
   cases p5
   ·exact .a 4 I<|.k [54,0,1,3] I
   ·exact .a 2 I<|.v (cD I (hp6)) I<|.a 1 I<|.k [54,0,1,3] I
  refine aj I (fun hc=>?_) (fun hc=>?_)
  ·have hnew:cd O (n:Int)→v<K.getD n 0:=fun hh=>by
    have e:P.getD n 0≠0:=fun e=>(hok.1.zero hn).1 e hh
    rw[if_neg e]at hkv
    have h3:p5=true:=by rw[←hp5];simp only[e,decide_false,Bool.not_false]
    rw[h3]at hc
    have h4:p6=true:=by simpa using hc
    rw[h4]at hp6
    have:=of_decide_eq_true hp6
    omega
   refine bx<|ax 3 I<|b7 I I (aW.mono (pg (m:=8) (mT T D d N out tch av L) I (by omega) hok (by omega) n hn _) (fun _ σ' h=>?_))
   obtain⟨b3,n3,P3,O3,rfl,hok3,hH3⟩:=h
   refine aH [] I ?_
   first
    |exact⟨_,aE.of rfl,b3,n3,_,P3,O3,rfl,hok3,.new hyes.1 hyes.2.1 hyes.2.2 hnew (by rw[hok.2.2.1];exact hn) (fun y=>(hH3 y).trans ⟨fun h=>h.imp id (fun e=>by omega),fun h=>h.imp id (fun e=>by omega)⟩)⟩
    |exact⟨_,aE.of rfl,false,q,K,P,O,rfl,hok,.D9 hold hle⟩
  ·obtain⟨c3,c4⟩:=Bool.or_eq_false_iff.1 hc
   have h3:p5=true:=by cases p5;cases c3;rfl
   rw[h3]at hp5
   rw[c4]at hp6
   have e:P.getD n 0≠0:=fun e=>by rw[e]at hp5;cases hp5
   have hold:cd O (n:Int):=Classical.byContradiction fun hh=>e ((hok.1.zero hn).2 hh)
   have hle:K.getD n 0≤v:=by rw[if_neg e]at hkv;have:=of_decide_eq_false hp6;omega
   refine ak ?_
   first
    |exact⟨_,aE.of rfl,b3,n3,_,P3,O3,rfl,hok3,.new hyes.1 hyes.2.1 hyes.2.2 hnew (by rw[hok.2.2.1];exact hn) (fun y=>(hH3 y).trans ⟨fun h=>h.imp id (fun e=>by omega),fun h=>h.imp id (fun e=>by omega)⟩)⟩
    |exact⟨_,aE.of rfl,false,q,K,P,O,rfl,hok,.D9 hold hle⟩
end PW
end Go.Proofs.YteikppbedmmdnaaGreatDoor
namespace Go.Proofs.YteikppbedmmdnaaGreatDoor
namespace PW
section
open Go.RowKit cj Mem Net Heap
instance (a:Option Nat):fJ (.raw (.map a)):=⟨fun _ _ _ h=>by cases h;rfl⟩
theorem so{l:List Int}{j a:Nat}(h:j<l.length)(ha:l.getD j 0=(a:Int))(b:Nat)(hb:(b:Int)∈l.drop j):(b:Int)∈l.drop (j+1)∨b=a:=by
 rw[List.drop_eq_getElem_cons h]at hb
 rcases List.mem_cons.1 hb with h1|h1
 ·right
  have:l.getD j 0=l[j]:=by simp[List.getD_eq_getElem?_getD,h]
  rw[this]at ha
  omega
 ·exact .inl h1
set_option maxHeartbeats 2000000 in
theorem Dv{T:ah}{D:List Bool}{N d:Nat}(hT:iF T D N d)(out0:List Int)(tch:PV)[IsPure tch]
  (av:List Int) (hal:av.length≤1000) (harc:∀a∈av,0≤a∧a<2*(T.ae.length:Int)) (L:List Int)
  (hG0:ud T D d out0 (List.replicate N 0) (fun y=>cd [] (y:Int)) (List.replicate N (-1)) 0 (fun a=>(((aN T a).toNat:Nat):Int)∈L∨∃c:Nat,(c:Int)∈av∧aN T c=aN T a)):
  aW Tryz.prog 63 [.agg (mY T N av (.own 5))] (sv T D d N out0 tch L) (fun _ σ'=>σ'=sv T D d N (aO T D d false) tch L):=by
 have hll:=bX hT.valid
 have hSd:=aM hT.valid
 have hnn:=hT.nodes
 have hN64:N≤64:=by have:=hSd.nodes;omega
 have hrl:=cQ (aB T) N (2*T.ae.length)
 have hout0:out0.length=N:=by have:=hG0.len;omega
 have hub:∀ {out K:List Int} {H:Nat→Prop} {dn:List Int} {b:Int} {S:Nat→Prop},ud T D d out K H dn b S→∀x:Nat,(x:Int)<T.nodes→at' out (x:Int)≤100000000:=fun h x hx=>by
  have h1:=h.ub x hx
  have h2:=h.np
  have h3:=gZ ‹List Int›
  rename_i out K H dn b S
  have h3:=gZ dn
  omega
 refine bO Tryz.func63 I Tryz.ntmps63 I<|aR<|cg (eV I I I) I<|aH [1] I ?_
 refine aR<|ax 5 I<|bw (aK I ((show some (num T.nodes)=some (num (N:Int)) by rw[hnn]))) I<|b7 I I (aW.mono (tW (m:=7) (sv T D d N out0 tch L++[some (.cells 124 (mY T N av (.own 5)))]) I (by omega) (by omega)) (fun _ σ' h=>?_))
 obtain⟨rfl,rfl⟩:=h
 refine ax 6 I<|aH [1,2] I ?_
 refine cJ [0,1,2,3,4,5,6,11,7,8,9,10] (σ':=sv T D d N out0 tch L++[some (.cells 124 (mY T N av (.own 5))),some (.cells 145 [.ptr 8 0])]++dZ 8 false N 0 (List.replicate N 0) (List.replicate N 0) []) (.c 1<|.c 2 .nil) (.kept rfl (.cells (ao.c<|ao.c<|ao.c<|ao.c<|ao.c<|ao.c<|ao.c ao.nil))<|.kept rfl (.row ao.pure)<|.kept rfl (.row ao.pure)<|.kept rfl (.row ao.pure)<|.kept rfl (.row ao.pure)<|.kept rfl .mp<|.kept rfl (.cells (ao.c<|ao.c<|ao.c<|ao.c<|ao.c ao.nil))<|.kept rfl (.cells (ao.c ao.nil))<|.kept rfl (.cells (ao.c<|ao.c<|ao.c ao.nil))<|.kept rfl (.row ao.pure)<|.kept rfl (.row ao.pure)<|.kept rfl (.row ao.pure) .nil) I I ?_
 refine af (.a 2 I<|.k [1,2,4] I)<|af (.a 3 I<|.k [1,2,4,5] I)<|aR<|ax 1 I<|ba (cm I (bG.tk.get I) I I I (by show 4<5;omega)) I I<|aH [1,2,4,5] I ?_
 refine dF (σ':=mT T D d N out0 tch av L++dZ 8 false N 0 (List.replicate N 0) (List.replicate N 0) []) I ?_
 refine an<|af (.a 7 I<|.k [1,2,4,5,34,35] I)<|ay<|eY [1,2,4,5,34,35] I<|br (fun r s=>∃k q K P O,k≤N∧ud T D d out0 K (fun y=>cd O (y:Int)) (List.replicate N (-1)) 0 (fun a=>(k≤(aN T a).toNat∧(((aN T a).toNat:Nat):Int)∈L)∨∃c:Nat,(c:Int)∈av∧aN T c=aN T a)∧oS N q K P O∧r=N - k∧s=⟨[(1,.ptr 6 0),(2,.ptr 7 0),(4,.func 87 [.ptr 6 0,.ptr 7 0]),(5,.own 5),(34,num N),(35,num k)],mT T D d N out0 tch av L++dZ 8 false N q K P O⟩) N ⟨0,0,_,_,_,by omega,kA hG0 (fun a _ h=>h.imp (fun h=>⟨by omega,h⟩) id),qm N,by omega,rfl⟩ ?_
 rintro r s ⟨k,q,K,P,O,hk,hG,hok,rfl,rfl⟩
 refine af (.a 1 I<|.k [1,2,4,5,34,35,36] I)<|an<|aj I (fun hc=>?_) (fun hc=>?_)
 ·have hlt:k<N:=by have:=of_decide_eq_true hc;omega
  refine ak<|an<|ay<|af (.a 2 I<|.k [1,2,4,5,6,34,35] I) ?_
  obtain⟨p1,hp1⟩:∃q,decide ((k:Int)∈L)=q:=⟨_,rfl⟩
  refine af (.a 2 I<|.v (Iw I I I I hp1) I<|.k [1,2,4,5,6,34,35,40] I)<|aj I (fun hc=>?_) (fun hc=>?_)
  ·refine bx<|ax 4 I<|b7 I I (aW.mono (tn (mr _ _ _) hT hout0 (hub hG) (by simp[mT,dZ]) av k hlt) (fun _ σ' h=>?_))
   obtain⟨v,rfl,hb,rfl⟩:=h
   refine b7 I I (aW.mono (py hT out0 hout0 tch av L hok k hlt v) (fun _ σ' h=>?_))
   obtain⟨b3,n3,K3,P3,O3,rfl,hok3,hof⟩:=h
   refine aH [1,2,4,5,34,35] I ?_
   refine ov (.c 1<|.c 2<|.cons 4 I (Ren.fy (ao.c<|ao.c ao.nil))<|.c 5<|.c 34<|.c 35 .nil) ?_ (fun _=>rfl)
   have hG2:=w7 (S':=fun a=>(k+1≤(aN T a).toNat∧(((aN T a).toNat:Nat):Int)∈L)∨∃c:Nat,(c:Int)∈av∧aN T c=aN T a) hSd hG (by omega) hb hof (fun a ha h=>by
    rcases h with⟨h1,h2⟩|h
    ·rcases Nat.lt_or_ge k (aN T a).toNat with h3|h3
     ·exact .inl (.inl ⟨by omega,h2⟩)
     ·right
      have:=hSd.tail a ha
      omega
    ·exact .inl (.inr h))
   refine aF (.v (aU I) I<|.a 1 I<|.k [1,2,4,5,34,35] I) ?_
   first
    |exact⟨N - (k+1),by omega,k+1,n3,K3,P3,O3,by omega,hG2,hok3,rfl,rfl⟩
    |exact⟨N - (k+1),by omega,k+1,q,K,P,O,by omega,hG2,hok,rfl,rfl⟩
  ·have hkL:=of_decide_eq_false (hp1.trans hc)
   have hG2:=kA (S':=fun a=>(k+1≤(aN T a).toNat∧(((aN T a).toNat:Nat):Int)∈L)∨∃c:Nat,(c:Int)∈av∧aN T c=aN T a) hG (fun a ha h=>h.imp (fun⟨h1,h2⟩=>⟨by
    rcases Nat.lt_or_ge k (aN T a).toNat with h3|h3
    ·omega
    ·have:(aN T a).toNat=k:=by omega
     rw[this]at h2
     exact absurd h2 hkL,h2⟩) id)
   refine ak<|aF (.v (aU I) I<|.a 1 I<|.k [1,2,4,5,34,35] I) ?_
   first
    |exact⟨N - (k+1),by omega,k+1,n3,K3,P3,O3,by omega,hG2,hok3,rfl,rfl⟩
    |exact⟨N - (k+1),by omega,k+1,q,K,P,O,by omega,hG2,hok,rfl,rfl⟩
 ·have hke:k=N:=by have:=of_decide_eq_false hc;omega
  have hG1:=kA (S':=fun a=>∃c:Nat,(c:Int)∈av.drop 0∧aN T c=aN T a) hG (fun a ha h=>h.elim (fun h=>by have:=hSd.tail a ha;omega) id)
  refine bp<|an<|af (.a 4 I<|.k [1,2,4,49,50,51] I)<|ay<|eY [1,2,4,49,50,51] I<|br (fun r s=>∃k q K P O,k≤av.length∧ud T D d out0 K (fun y=>cd O (y:Int)) (List.replicate N (-1)) 0 (fun a=>∃c:Nat,(c:Int)∈av.drop k∧aN T c=aN T a)∧oS N q K P O∧r=av.length - k∧s=⟨[(1,.ptr 6 0),(2,.ptr 7 0),(4,.func 87 [.ptr 6 0,.ptr 7 0]),(49,aw av),(50,num av.length),(51,num k)],mT T D d N out0 tch av L++dZ 8 false N q K P O⟩) av.length ⟨0,q,K,P,O,by omega,hG1,hok,by omega,rfl⟩ ?_
  clear hG1 hG hok hG0
  rintro r s ⟨k,q,K,P,O,hk,hG,hok,rfl,rfl⟩
  refine af (.a 1 I<|.k [1,2,4,49,50,51,52] I)<|an<|aj I (fun hc=>?_) (fun hc=>?_)
  ·have hlt:k<av.length:=by have:=of_decide_eq_true hc;omega
   obtain⟨ha0,ha1⟩:=harc _ (cf (d:=0) hlt)
   obtain⟨a,ha⟩:=Int.eq_ofNat_of_zero_le ha0
   have ham:a<2*T.ae.length:=by omega
   obtain⟨m,hm⟩:=Int.eq_ofNat_of_zero_le (hSd.tail a ham).1
   have hmN:m<N:=by have:=(hSd.tail a ham).2;omega
   refine ak<|an<|ay<|af (.v (aJ (k) I) I<|.v (aK I ((aC av k hlt).trans (by rw[ha]))) I<|.a 1 I<|.k [1,2,4,8,49,50,51] I)<|af (.a 6 I<|.v (oM I (ai.cons (mr _ _ _).jY (ai.cons aD.pure ai.nil)) (hm▸fp T a ham)) I<|.a 1 I<|.k [1,2,4,9,49,50,51] I)<|bx<|ax 4 I<|b7 I I (aW.mono (tn (mr _ _ _) hT hout0 (hub hG) (by simp[mT,dZ]) av m hmN) (fun _ σ' h=>?_))
   obtain⟨v,rfl,hb,rfl⟩:=h
   refine b7 I I (aW.mono (py hT out0 hout0 tch av L hok m hmN v) (fun _ σ' h=>?_))
   obtain⟨b3,n3,K3,P3,O3,rfl,hok3,hof⟩:=h
   refine aH [1,2,4,49,50,51] I ?_
   refine ov (.c 1<|.c 2<|.cons 4 I (Ren.fy (ao.c<|ao.c ao.nil))<|.c 49<|.c 50<|.c 51 .nil) ?_ (fun _=>rfl)
   have hG2:=w7 (S':=fun a=>∃c:Nat,(c:Int)∈av.drop (k+1)∧aN T c=aN T a) hSd hG (by omega) hb hof (fun e he ⟨c,h1,h2⟩=>by
    rcases so hlt ha c h1 with h3|rfl
    ·exact .inl ⟨c,h3,h2⟩
    ·exact .inr (by rw[←h2,hm]))
   refine aF (.v (aU I) I<|.a 1 I<|.k [1,2,4,49,50,51] I) ?_
   exact⟨av.length - (k+1),by omega,k+1,n3,K3,P3,O3,by omega,hG2,hok3,rfl,rfl⟩
  ·have hke:k=av.length:=by have:=of_decide_eq_false hc;omega
   have hG1:=kA (S':=fun _=>False) hG (fun a ha ⟨c,h1,_⟩=>by rw[hke,List.drop_length]at h1;simp at h1)
   refine bp<|ay<|eY [1,2,4] I<|br (fun r s=>∃out dn b q K P O,ud T D d out K (fun y=>cd O (y:Int)) dn b (fun _=>False)∧oS N q K P O∧r=N - fL dn∧s=⟨[(1,.ptr 6 0),(2,.ptr 7 0),(4,.func 87 [.ptr 6 0,.ptr 7 0])],mT T D d N out tch av L++dZ 8 false N q K P O⟩) (N - fL (List.replicate N (-1))) ⟨out0,_,_,q,K,P,O,hG1,hok,rfl,rfl⟩ ?_
   clear hG1 hG hok
   rintro r s ⟨out,dn,b,q,K,P,O,hG,hok,rfl,rfl⟩
   have hol:out.length=N:=by have:=hG.len;omega
   have hdl:dn.length=N:=by have:=hG.np;omega
   refine ay<|aR<|ax 1 I<|b7 I I (aW.mono (tL (m:=8) (mT T D d N out tch av L) I (by omega) hok (by omega)) (fun _ σ' h=>?_))
   obtain⟨b3,ok,i,n1,key,K1,P1,O1,rfl,rfl,hpop⟩:=h
   refine ax 7 I<|aH [1,2,4,10,11,12] I ?_
   refine ov (.c 1<|.c 2<|.cons 4 I (Ren.fy (ao.c<|ao.c ao.nil))<|.c 10<|.c 11<|.c 12 .nil) ?_ (fun _=>rfl)
   refine an<|af (.a 2 I<|.k [1,2,4,10,11,76] I)<|aj I (fun hc=>?_) (fun hc=>?_)
   ·have hok0:ok=false:=by cases ok;rfl;cases hc
    have hq0:q=0:=by
     rcases hpop with⟨_,h⟩|⟨h,_⟩
     ·exact h
     ·rw[hok0]at h;cases h
    have hdist:aO T D d false=out:=jn hSd (Hp hSd hG (fun y ⟨p,hp,_⟩=>by have:=hok.2.1;omega))
    refine cJ [0,1,2,3,4,5] .nil (.kept rfl (.cells (ao.c<|ao.c<|ao.c<|ao.c<|ao.c<|ao.c<|ao.c ao.nil))<|.kept rfl (.row ao.pure)<|.kept rfl (.row ao.pure)<|.kept rfl (.row ao.pure)<|.kept rfl (.row ao.pure)<|.kept rfl .mp .nil) I I ?_
    exact az<|⟨_,aE.of I,by rw[hdist];rfl⟩
   ·have hok1:ok=true:=by cases ok;cases hc;rfl
    rcases hpop with⟨h,_⟩|⟨_,hiN,hHi,hmin,rfl,rfl,hok',hH'⟩
    ·rw[hok1]at h;cases h
    obtain⟨hG1,hcnt,hati,hk0,hku,hcl⟩:=G7 hSd hG hHi hmin (by rw[hok.2.2.1];exact hiN) hH'
    have hrow:(ca (aB T) N (2*T.ae.length)).getD i []=aP T false i:=dH _ _ _ _ hiN
    refine ak<|aR<|ax 7 I<|bw (aJ (i) I) I<|ba ((by first|exact bM I (bG.tk.get I) I I I (by first|omega|(simp;omega))|exact aX I (bG.tk.get I) I I I (by first|omega|(simp;omega)))) I I<|aH [1,2,4,10,11] I ?_
    refine dF (σ':=mT T D d N (out.set i (K.getD i 0)) tch av L++dZ 8 false N n1 (K.set i 0) P1 O1) I ?_
    have hol1:(out.set i (K.getD i 0)).length=N:=by simpa using hol
    generalize K.getD i 0=key at hG1 hati hk0 hku hol1
    generalize out.set i key=out1 at hG1 hati hol1
    generalize K.set i 0=K1 at hG1 hok'
    have hmeas:N - fL (dn.set i 0)<N - fL dn:=by omega
    have hku':key≤4194240+65535*(fL (dn.set i 0):Int):=by omega
    have hdl1:(dn.set i 0).length=N:=by simpa using hdl
    have hcn:=gZ (dn.set i 0)
    generalize dn.set i 0=dn1 at hG1 hmeas hku' hdl1 hcn
    clear hG hok hHi hmin hH' hcnt hcl hku
    refine af (.a 3 I<|.v (aJ (i) I) I<|.v (aK I ((show((ca (aB T) N (2*T.ae.length)).map aw)[i]? =some (aw (aP T false i)) by rw[←hrow];simp[hrl,hiN]))) I<|.a 2 I<|.k [1,2,4,11,89,90,91] I) ?_
    have hll2:=gT T false i
    have hG2:ud T D d out1 K1 (fun y=>cd O1 (y:Int)) dn1 key (fun a=>aB T a=(i:Int)∧(a:Int)∉(aP T false i).take 0):=kA hG1 (fun a _ h=>⟨h,by simp⟩)
    refine ay<|eY [1,2,4,11,89,90,91] I<|br (fun r s=>∃j q K P O,j≤(aP T false i).length∧ud T D d out1 K (fun y=>cd O (y:Int)) dn1 key (fun a=>aB T a=(i:Int)∧(a:Int)∉(aP T false i).take j)∧oS N q K P O∧r=(aP T false i).length - j∧s=⟨[(1,.ptr 6 0),(2,.ptr 7 0),(4,.func 87 [.ptr 6 0,.ptr 7 0]),(11,num key),(89,aw (aP T false i)),(90,num (aP T false i).length),(91,num j)],mT T D d N out1 tch av L++dZ 8 false N q K P O⟩) (aP T false i).length ⟨0,n1,K1,P1,O1,by omega,hG2,hok',by omega,rfl⟩ ?_
    clear hG2 hG1 hok'
    rintro r s ⟨j,q2,K2,P2,O2,hj,hG2,hok2,rfl,rfl⟩
    refine af (.a 1 I<|.k [1,2,4,11,89,90,91,92] I)<|an<|aj I (fun hc=>?_) (fun hc=>?_)
    ·have hlt:j<(aP T false i).length:=by have:=of_decide_eq_true hc;omega
     obtain⟨a,ha,ham,hay⟩:=jj T false i j hlt
     have hah:aB T a=(i:Int):=hay
     obtain⟨m,hm⟩:=Int.eq_ofNat_of_zero_le (hSd.tail a ham).1
     have hmN:m<N:=by have:=(hSd.tail a ham).2;omega
     have hcb:=hSd.cost a ham
     have hA:=ie hlt ha
     have hSS:∀c,c<2*T.ae.length→(aB T c=(i:Int)∧(c:Int)∉(aP T false i).take j)→(aB T c=(i:Int)∧(c:Int)∉(aP T false i).take (j+1))∨c=a:=fun c _ ⟨e1,e2⟩=>by
      by_cases e:c=a
      ·exact .inr e
      ·exact .inl ⟨e1,fun h=>((hA c).1 h).elim e2 e⟩
     refine ak<|an<|ay<|af (.v (aJ (j) I) I<|.v (aK I ((aC _ j hlt).trans (by rw[ha]))) I<|.a 1 I<|.k [1,2,4,11,14,89,90,91] I) ?_
     obtain⟨p1,hp1⟩:∃q,qL T D d a=q:=⟨_,rfl⟩
     have huc:=nD hT (aw out1) tch a ham
     rw[hp1]at huc
     refine af (.a 3 I<|.v (oM I (ai.cons ((mr _ _ _).bg hol1) (ai.cons aD.pure ai.nil)) (huc)) I<|.k [1,2,4,11,14,89,90,91,98] I)<|aj I (fun hc=>?_) (fun hc=>?_)
     ·have hu:=nN.1 (hp1.trans hc)
      refine dR 17 20 mixed (
       .val [4] I (bn I) I I<|
       .val [1] I (bn I) I I<|
       .val [100] I (bn I) I I<|
       .val [101] I (bn I) I I<|
       .val [102] I (bn I) I I<|
       .val [103] I (bn I) I I<|
       .val [14] I (bn I) I I<|
       .val [104,105] I (oM I (ai.cons (mr _ _ _).jY (ai.cons aD.pure ai.nil)) (hm▸fp T a ham)) I I<|
       .val [11] I (bn I) I I<|
       .val [1] I (bn I) I I<|
       .val [108] I (bn I) I I<|
       .val [109] I (bn I) I I<|
       .val [110] I (bn I) I I<|
       .val [111] I (bn I) I I<|
       .val [14] I (bn I) I I<|
       .val [112,113] I (oM I (ai.cons (mr _ _ _).jY (ai.cons aD.pure ai.nil)) (gi T a ham)) I I<|
       .val [107,114] I (aU I (hn:=by unfold In64;omega)) I I<|
       .nil) (by kernel_rfl) I I (bm (ks:=[1,2,4,11,89,90,91,99,106,115]) I) ?_
      refine b7 I I (aW.mono (py hT out1 hol1 tch av L hok2 m hmN (key+bS T a)) (fun _ σ' h=>?_))
      obtain⟨b3,n3,K3,P3,O3,rfl,hok3,hof⟩:=h
      refine aH [1,2,4,11,89,90,91] I ?_
      refine ov (.c 1<|.c 2<|.cons 4 I (Ren.fy (ao.c<|ao.c ao.nil))<|.c 11<|.c 89<|.c 90<|.c 91 .nil) ?_ (fun _=>rfl)
      have hG3:=sL (S':=fun c=>aB T c=(i:Int)∧(c:Int)∉(aP T false i).take (j+1)) hSd hG2 (by omega) hof (fun c hc h=>(hSS c hc h).imp id (fun e=>by
       subst e
       refine⟨hm,fun _ _=>?_⟩
       rw[hah,hati]
       omega)) (fun _=>⟨by omega,by omega,a,ham,hm,hu,by rw[hah,hati];exact hk0,by rw[hah,hati];omega⟩)
      refine aF (.v (aU I) I<|.a 1 I<|.k [1,2,4,11,89,90,91] I) ?_
      first
       |exact⟨(aP T false i).length - (j+1),by omega,j+1,n3,K3,P3,O3,by omega,hG3,hok3,rfl,rfl⟩
       |exact⟨(aP T false i).length - (j+1),by omega,j+1,q2,K2,P2,O2,by omega,hG3,hok2,rfl,rfl⟩
     ·have hnu:=GO (hp1.trans hc)
      have hG3:=zh (S':=fun c=>aB T c=(i:Int)∧(c:Int)∉(aP T false i).take (j+1)) hG2 (fun c hc h=>(hSS c hc h).imp id (fun e=>by rw[e];exact hnu))
      refine ak<|aF (.v (aU I) I<|.a 1 I<|.k [1,2,4,11,89,90,91] I) ?_
      first
       |exact⟨(aP T false i).length - (j+1),by omega,j+1,n3,K3,P3,O3,by omega,hG3,hok3,rfl,rfl⟩
       |exact⟨(aP T false i).length - (j+1),by omega,j+1,q2,K2,P2,O2,by omega,hG3,hok2,rfl,rfl⟩
    ·have hje:j=(aP T false i).length:=by have:=of_decide_eq_false hc;omega
     have hGe:=kA (S':=fun _=>False) hG2 (fun a ha ⟨e1,e2⟩=>e2 (by rw[hje,List.take_length];exact(fP T false i a).2 ⟨ha,e1⟩))
     refine iJ (.cons (k:=1) I<|.cons (k:=2) I<|.cons (k:=4) I<|Sub.nil _) ?_
     exact bp<|⟨_,hmeas,out1,dn1,key,_,_,_,_,hGe,hok2,rfl,rfl⟩
end
section
open Go.RowKit cj Mem
section
variable {P:Program} {N L:Nat}
def AQ(ops:Array Oper)(f m q:Nat)(gs:List GD):Bool:=
  Nat.beq gs.length ops.size&&
  ((List.range ops.size).all fun i=>(jD ops i).all fun k=>decide (k<i))&&
  ((List.range ops.size).all fun i=>(List.range i).all fun j=>(bV ops i).isNone||bV ops i !=bV ops j)&&
  ((List.range ops.size).all fun j=>(cR ops j).all fun k=>(List.range ops.size).all fun i=>bV ops i !=some k||de ops f j i)&&
  ((List.range ops.size).all fun i => match gs[i]? with
    |some ⟨_,some r,_,_⟩=>decide (r<m)&&(Nat.ble r q||(List.range ops.size).any fun j=>dE gs j==some (r - 1)&&de ops f i j)
    |some ⟨_,none,lo,hi⟩=>(Nat.beq lo 0||(List.range ops.size).any fun j=>dE gs j==some (lo - 1)&&de ops f i j)&&(Nat.ble m hi||(List.range ops.size).any fun j=>dE gs j==some hi&&de ops f j i)
    |none=>false)&&
  ((List.range ops.size).all fun i=>(List.range i).all fun j=>(dE gs i).isNone||dE gs i !=dE gs j)&&
  ((List.range m).all fun r=>(List.range ops.size).any fun j=>dE gs j==some r)
structure zu (ops:Array Oper) (f m q:Nat) (gs:List GD):Prop where
 len:gs.length=ops.size
 jD:∀i,i<ops.size→∀k∈jD ops i,k<i
 ss:∀i j d,i<ops.size→j<ops.size→bV ops i=some d→bV ops j=some d→i=j
 rd:∀j,j<ops.size→∀k∈cR ops j,∀i,i<ops.size→bV ops i=some k→de ops f j i=true
 mW:∀(i:Nat) g r,gs[i]? =some g→g.r=some r→r<m∧(r≤q∨∃j,j<ops.size∧dE gs j=some (r - 1)∧de ops f i j=true)
 quiet:∀(i:Nat) g,gs[i]? =some g→g.r=none→(g.lo=0∨∃j,j<ops.size∧dE gs j=some (g.lo - 1)∧de ops f i j=true)∧(m≤g.hi∨∃j,j<ops.size∧dE gs j=some g.hi∧de ops f j i=true)
 one:∀i j r,i<ops.size→j<ops.size→dE gs i=some r→dE gs j=some r→i=j
 has:∀r,r<m→∃j,j<ops.size∧dE gs j=some r
theorem sR{ops:Array Oper}{f m q:Nat}{gs:List GD}(h:AQ ops f m q gs=true):zu ops f m q gs:=by
 unfold AQ at h
 simp only[Bool.and_eq_true]at h
 obtain⟨⟨⟨⟨⟨⟨h1,h2⟩,h3⟩,h4⟩,h5⟩,h6⟩,h7⟩:=h
 have hl:gs.length=ops.size:=Nat.eq_of_beq_eq_true h1
 have all:∀ {n:Nat} {p:Nat→Bool},(List.range n).all p=true→∀i,i<n→p i=true:=fun h i hi=>List.all_eq_true.1 h i (List.mem_range.2 hi)
 have any:∀ {n:Nat} {p:Nat→Bool},(List.range n).any p=true→∃i,i<n∧p i=true:=fun h=>by
  obtain⟨i,hi,hp⟩:=List.any_eq_true.1 h
  exact⟨i,List.mem_range.1 hi,hp⟩
 have s3:∀i j d,i<ops.size→j<i→bV ops i=some d→bV ops j=some d→False:=fun i j d hi hj e1 e2=>by
  have:=all (all h3 i hi) j hj
  rw[e1,e2]at this
  simp at this
 have s6:∀i j r,i<ops.size→j<i→dE gs i=some r→dE gs j=some r→False:=fun i j r hi hj e1 e2=>by
  have:=all (all h6 i hi) j hj
  rw[e1,e2]at this
  simp at this
 refine⟨hl,fun i hi k hk=>?_,fun i j d hi hj e1 e2=>?_,fun j hj k hk i hi hd=>?_,fun i g r hg hr=>?_,fun i g hg hr=>?_,fun i j r hi hj e1 e2=>?_,fun r hr=>?_⟩
 ·have:=List.all_eq_true.1 (all h2 i hi) k hk;simpa using this
 ·rcases Nat.lt_trichotomy i j with h|h|h
  ·exact(s3 j i d hj h e2 e1).elim
  ·exact h
  ·exact(s3 i j d hi h e1 e2).elim
 ·have:=all (List.all_eq_true.1 (all h4 j hj) k hk) i hi
  rw[hd]at this
  simpa using this
 ·have hi:i<ops.size:=by rw[←hl];exact(List.getElem?_eq_some_iff.1 hg).1
  have:=all h5 i hi
  obtain⟨p,r',lo,hi'⟩:=g
  simp only at hr
  subst hr
  rw[hg]at this
  simp only[Bool.and_eq_true,decide_eq_true_eq,Bool.or_eq_true]at this
  refine⟨this.1,?_⟩
  rcases this.2 with h|h
  ·exact .inl (Nat.ble_eq.mp h)
  ·obtain⟨j,hj,h'⟩:=any h
   simp only[Bool.and_eq_true,beq_iff_eq]at h'
   exact .inr ⟨j,hj,h'.1,h'.2⟩
 ·have hi:i<ops.size:=by rw[←hl];exact(List.getElem?_eq_some_iff.1 hg).1
  have:=all h5 i hi
  obtain⟨p,r',lo,hi'⟩:=g
  simp only at hr
  subst hr
  rw[hg]at this
  simp only[Bool.and_eq_true,Bool.or_eq_true]at this
  refine⟨?_,?_⟩
  ·rcases this.1 with h|h
   ·exact .inl (Nat.eq_of_beq_eq_true h)
   ·obtain⟨j,hj,h'⟩:=any h
    simp only[Bool.and_eq_true,beq_iff_eq]at h'
    exact .inr ⟨j,hj,h'.1,h'.2⟩
  ·rcases this.2 with h|h
   ·exact .inl (Nat.ble_eq.mp h)
   ·obtain⟨j,hj,h'⟩:=any h
    simp only[Bool.and_eq_true,beq_iff_eq]at h'
    exact .inr ⟨j,hj,h'.1,h'.2⟩
 ·rcases Nat.lt_trichotomy i j with h|h|h
  ·exact(s6 j i r hj h e2 e1).elim
  ·exact h
  ·exact(s6 i j r hi h e1 e2).elim
 ·obtain⟨j,hj,h⟩:=any (all h7 r hr)
  exact⟨j,hj,by simpa using h⟩
section
variable {l:List Oper} {gs:List GD} {σs:List bN} {t T:b9} {f m q base:Nat} {F:Nat→Prop}
theorem uv.nn(hG:zu l.toArray f m q gs){ls:Array Bool}{r:Nat}{E:Env}{a:Act}{w:World}(h:uv base N F l gs σs t ls r E a w){i j:Nat}(hi:i<l.length)(hr:de l.toArray f i j=true)(hk:∀k∈jD l.toArray i,ls.getD k false=true):ls.getD j true=true:=by
 have:=dD (by rw[h.size];simp) h.down (fun i hi=>hG.jD i hi) f i j (by simpa using hi) hr hk
 by_cases hj:j<ls.size
 ·rw[rV hj true false];exact this
 ·simp[hj]
theorem uv.yR(hG:zu l.toArray f m q gs)(hT:jW l (gs.map (·.p)) t=T){ls:Array Bool}{r:Nat}{E:Env}{a:Act}{w:World}(h:uv base N F l gs σs t ls r E a w){i:Nat}(hi:i<l.length)(hk:∀k∈jD l.toArray i,ls.getD k false=true):
  ∀k∈cR l.toArray i,∀p,look k T=some p→cu E w (a.eval (.tmp k)) p:=fun k hks p hp=>by
 rw[←hT]at hp
 rcases i6 _ _ _ k p hp with⟨j,o,h1,h2,h3⟩|h'
 ·rw[List.getElem?_map,Option.map_eq_some_iff]at h3
  obtain⟨g,hg,rfl⟩:=h3
  have hj:j<l.length:=(List.getElem?_eq_some_iff.1 h1).1
  have hd:bV l.toArray j=some k:=by simp only[bV,List.getElem?_toArray,h1,Option.bind_some,h2]
  have hr:=hG.rd i (by simpa using hi) k hks j (by simpa using hj) hd
  exact h.kG j k g hj (h.nn hG hi hr hk) hd hg
 ·exact h.t0 k p h'
theorem uv.qj(hG:zu l.toArray f m q gs)(hfr:∀i d,i<l.length→bV l.toArray i=some d→look d t=none){ls:Array Bool}{r r':Nat}{E E':Env}{a:Act}{w w':World}(h:uv base N F l gs σs t ls r E a w){i:Nat}{g:GD}{v:Value}(hi:i<l.length)(hu:ls.getD i true=false)(hk:∀k∈jD l.toArray i,ls.getD k false=true)(hg:gs[i]? =some g)(hgo:cp E w E' w')
  (hs:∃σ,σs[r']? =some σ∧Sat F base σ E' w') (hr:(g.r=none∧r'=r)∨(g.r=some r∧r'=r+1)) {o:Oper} (ho:l[i]? =some o) (hdN:∀d,o.dst=some d→d<N) (hv:∀d,o.dst=some d→cu E' w' v g.p):
  uv base N F l gs σs t (ls.setIfInBounds i true) r' E' (a.put o.dst v) w':=by
 have hil:i<ls.size:=by rw[h.size];exact hi
 have hrk:dE gs i=g.r:=by simp only[dE,hg,Option.bind_some]
 have hdi:bV l.toArray i=o.dst:=by simp only[bV,List.getElem?_toArray,ho,Option.bind_some]
 refine⟨by simpa using h.size,fun j hj hjs k hkj=>?_,fun j s hj hs'=>?_,hs,by cases o.dst<;>simpa[Act.put]using h.jL,by cases o.dst<;>simpa[Act.put]using h.tmps,fun k p hkp=>?_,fun j d g' hj hjl hd hg'=>?_⟩
 ·rw[pD _ _ _ _ hil]at hj ⊢
  split
  ·rfl
  ·by_cases e:j=i
   ·subst e;exact hk k hkj
   ·rw[if_neg e]at hj
    exact h.down j hj hjs k hkj
 ·rw[pD _ _ _ _ hil]
  by_cases e:j=i
  ·subst e
   rw[if_pos rfl]
   rw[hrk]at hs'
   rcases hr with⟨h1,_⟩|⟨h1,h2⟩
   ·rw[h1]at hs';cases hs'
   ·rw[h1]at hs';cases hs';exact⟨fun _=>by omega,fun _=>rfl⟩
  ·rw[if_neg e,h.rk j s hj hs']
   rcases hr with⟨_,h2⟩|⟨h1,h2⟩
   ·rw[h2]
   ·have:s≠r:=fun e'=>e (hG.one j i r (by simpa using hj) (by simpa using hi) (by rw[hs',e']) (by rw[hrk,h1]))
    omega
 ·have hne:∀d,o.dst=some d→k≠d:=fun d hd e=>by
   subst e
   rw[hfr i k hi (by rw[hdi,hd])]at hkp;cases hkp
  have:(a.put o.dst v).eval (.tmp k)=a.eval (.tmp k):=Act.eval_put fun d hd heq=>by cases heq;exact hne _ hd rfl
  rw[this]
  exact(h.t0 k p hkp).goes hgo
 ·rw[pD _ _ _ _ hil]at hjl
  by_cases e:j=i
  ·subst e
   rw[hdi]at hd
   rw[hg]at hg';cases hg'
   rw[hd,iB a (by rw[h.tmps];exact hdN d hd),if_pos rfl]
   exact hv d hd
  ·rw[if_neg e]at hjl
   have hne:∀d',o.dst=some d'→d≠d':=fun d' hd' e'=>by
    subst e'
    exact e (hG.ss j i d (by simpa using hj) (by simpa using hi) hd (by rw[hdi,hd']))
   have:(a.put o.dst v).eval (.tmp d)=a.eval (.tmp d):=Act.eval_put fun d' hd' heq=>by cases heq;exact hne _ hd' rfl
   rw[this]
   exact(h.kG j d g' hj hjl hd hg').goes hgo
theorem oI(hG:zu l.toArray f m q gs)(hT:jW l (gs.map (·.p)) t=T)(hfr:∀i d,i<l.length→bV l.toArray i=some d→look d t=none)(hL:GL P N l.toArray σs T l gs){σm:bN}(hm:σs[m]? =some σm){Q:Exit→Act→World→Prop}{E₀:Env}{w₀:World}(hq:∀a' w' E',Sat F base σm E' w'→cG E' w' a'.eval T→a'.defers=[]→a'.tmps.size=N→cp E₀ w₀ E' w'→Below base w₀ w'→Q .normal a' w'):
  ∀(fuel:Nat) (ls:Array Bool) (r:Nat) (E:Env) (a:Act) (w:World),uv base N F l gs σs t ls r E a w→bE ls l.length=fuel→cp E₀ w₀ E w→Below base w₀ w→r≤m→q≤r→wpAny P .any l.toArray Q fuel ls a w:=by
 obtain⟨hgl,hget⟩:=hL.get
 intro fuel
 induction fuel with
 |zero=>
  intro ls r E a w h hu hgo hb hrm hqr
  have hall:=cI hu
  have hrm':r=m:=by
   rcases Nat.lt_or_ge r m with h'|h'
   ·obtain⟨j,hj,hjr⟩:=hG.has r h'
    have hj:j<l.length:=by simpa using hj
    have:=(h.rk j r hj hjr).1 (hall j hj)
    omega
   ·omega
  subst hrm'
  refine⟨List.eq_nil_iff_forall_not_mem.2 fun i hi=>?_,?_⟩
  ·obtain⟨h1,h2,_⟩:=cb.1 hi
   rw[hall i (by simpa using h1)]at h2;cases h2
  ·obtain⟨σ,hσ,hs⟩:=h.sat
   rw[hm]at hσ;cases hσ
   refine hq a w E hs (fun k p hkp=>?_) h.jL h.tmps hgo hb
   rw[←hT]at hkp
   rcases i6 _ _ _ k p hkp with⟨j,o,h1,h2,h3⟩|h'
   ·rw[List.getElem?_map,Option.map_eq_some_iff]at h3
    obtain⟨g,hg,rfl⟩:=h3
    have hj:j<l.length:=(List.getElem?_eq_some_iff.1 h1).1
    exact h.kG j k g hj (hall j hj) (by simp only[bV,List.getElem?_toArray,h1,Option.bind_some,h2]) hg
   ·exact h.t0 k p h'
 |succ fuel ih=>
  intro ls r E a w h hu hgo hb hrm hqr
  obtain⟨i0,hi0,hi1,hi2⟩:=ec (ls:=ls) (m:=l.length) (by omega)
  have hi0r:i0∈Region.ready .any l.toArray ls:=cb.2 ⟨by simpa using hi0,hi1,fun k hk=>by
   have:=hG.jD i0 (by simpa using hi0) k hk
   rw[rV (by rw[h.size];omega) false true];exact hi2 k this⟩
  refine⟨fun h0=>absurd hi0r (by rw[h0];simp),fun i hi=>?_⟩
  obtain⟨h1,h2,h3⟩:=cb.1 hi
  have hil:i<l.length:=by simpa using h1
  have ho:l[i]? =some l[i]:=by simp[hil]
  have hgi:gs[i]? =some (gs[i]'(by omega)):=by simp
  have hK:=hget i _ _ ho hgi
  generalize hgg:gs[i]'(by omega)=g at hgi hK
  generalize hoo:l[i]=o at ho hK
  have hlk:=h.yR hG hT hil h3
  have hlo:cR l.toArray i=o.looksAt l.toArray:=by simp only[cR,List.getElem?_toArray,ho]
  rw[hlo]at hlk
  have hpk:∀ks:List Nat,(ks.all fun k=>(o.looksAt l.toArray).contains k)=true→cG E w a.eval (fx T ks):=fun ks hks k p hkp=>by
   obtain⟨e1,e2⟩:=fq ks k p hkp
   exact hlk k (by have:=List.all_eq_true.1 hks k e1;simpa using this) p e2
  have hwant:∀b,dP l.toArray T o=some b→Region.wanted o (yielded l.toArray a.tmps)=b:=fun b hb=>by
   rw[eI];exact gb (fun k hk p hp=>hlk k hk p hp) hb
  have hun:bE (ls.setIfInBounds i true) l.length=fuel:=by have:=dV h2 hil (by rw[h.size];omega);omega
  unfold wpOp
  have ho':l.toArray[i]? =some o:=by simpa using ho
  simp only[ho']
  have hrk:dE gs i=g.r:=by simp only[dE,hgi,Option.bind_some]
  cases hK with
  | @val p d lo hi ks hks hw hy hd hN=>
   rw[hwant true hw,if_pos rfl]
   left
   obtain⟨σ,hσ,hs⟩:=h.sat
   obtain⟨q1,q2⟩:=hG.quiet i _ hgi rfl
   have hlo':lo≤r:=by
    rcases q1 with e|⟨j,hj,hj1,hj2⟩
    ·simp only at e;omega
    ·have:=(h.rk j _ (by simpa using hj) hj1).1 (h.nn hG hil hj2 h3)
     simp only at this;omega
   have hhi':r≤hi:=by
    rcases q2 with e|⟨j,hj,hj1,hj2⟩
    ·simp only at e;omega
    ·rcases Nat.lt_or_ge hi r with h'|h'
     ·have hjl:j<l.length:=by simpa using hj
      have e1:=(h.rk j _ hjl hj1).2 h'
      have e2:=h.nn hG hjl hj2 (h.down j e1 hj)
      rw[h2]at e2;cases e2
     ·exact h'
   refine kY (hy r σ hlo' hhi' hσ F base E a.eval w (dx a) hs (hpk ks hks)) fun v w' hE hv=>?_
   exact ih _ r E _ w' (h.qj hG hfr hil h2 h3 hgi (.ext hE) ⟨σ,hσ,hs.ext hE⟩ (.inl ⟨rfl,rfl⟩) ho (fun d' hd'=>by rw[hd]at hd';cases hd';exact Nat.blt_eq.mp hN) (fun _ _=>hv)) hun (hgo.trans (.ext hE)) (hb.trans (Below.fB hE hs.bl)) hrm hqr
  | @skip d lo hi hw hd hN=>
   rw[hwant false hw,if_neg (by simp)]
   exact ih _ r E _ w (h.qj hG hfr hil h2 h3 hgi (cp.refl _ _) h.sat (.inl ⟨rfl,rfl⟩) ho (fun d' hd'=>by rw[hd]at hd';cases hd';exact Nat.blt_eq.mp hN) (fun _ _=>.raw _)) hun hgo hb hrm hqr
  | @mW p d r0 lo hi σ σ' ks hks hw e1 e2 hy hd hN=>
   rw[hwant true hw,if_pos rfl]
   left
   obtain⟨q1,q2⟩:=hG.mW i _ r0 hgi rfl
   have hr0:r0=r:=by
    have n1:¬r0<r:=fun h'=>by
     have:=(h.rk i r0 hil hrk).2 h'
     rw[h2]at this;cases this
    rcases q2 with e|⟨j,hj,hj1,hj2⟩
    ·omega
    ·have:=(h.rk j _ (by simpa using hj) hj1).1 (h.nn hG hil hj2 h3)
     omega
   subst hr0
   obtain⟨σ0,hσ,hs⟩:=h.sat
   rw[e1]at hσ;cases hσ
   obtain⟨v,w',E',hr,k1,k2,k3,k4⟩:=hy F base E a.eval w (dx a) hs (hpk ks hks)
   have hn':=ih _ (r0+1) E' (a.put o.dst v) w' (h.qj hG hfr hil h2 h3 hgi k2 ⟨σ',e2,k1⟩ (.inr ⟨rfl,rfl⟩) ho (fun d' hd'=>by rw[hd]at hd';cases hd';exact Nat.blt_eq.mp hN) (fun _ _=>k4)) hun (hgo.trans k2) (hb.trans k3) (by omega) (by omega)
   unfold Oper.wp
   rcases hr with hr|⟨rfl,hr⟩
   ·rw[hr];exact hn'
   ·rw[hr];exact hn'
  | @jM p r0 lo hi σ σ' ks hks hw e1 e2 hy hd=>
   rw[hwant true hw,if_pos rfl]
   left
   obtain⟨q1,q2⟩:=hG.mW i _ r0 hgi rfl
   have hr0:r0=r:=by
    have n1:¬r0<r:=fun h'=>by
     have:=(h.rk i r0 hil hrk).2 h'
     rw[h2]at this;cases this
    rcases q2 with e|⟨j,hj,hj1,hj2⟩
    ·omega
    ·have:=(h.rk j _ (by simpa using hj) hj1).1 (h.nn hG hil hj2 h3)
     omega
   subst hr0
   obtain⟨σ0,hσ,hs⟩:=h.sat
   rw[e1]at hσ;cases hσ
   obtain⟨v,w',E',hr,k1,k2,k3,k4⟩:=hy F base E a.eval w (dx a) hs (hpk ks hks)
   have hn':=ih _ (r0+1) E' (a.put o.dst v) w' (h.qj hG hfr hil h2 h3 hgi k2 ⟨σ',e2,k1⟩ (.inr ⟨rfl,rfl⟩) ho (fun d' hd'=>by rw[hd]at hd';cases hd') (fun d' hd'=>by rw[hd]at hd';cases hd')) hun (hgo.trans k2) (hb.trans k3) (by omega) (by omega)
   unfold Oper.wp
   rcases hr with hr|⟨rfl,hr⟩
   ·rw[hr];exact hn'
   ·rw[hr];exact hn'
theorem Fg{gs':List GD}{σs':List bN}{T':b9}{ia ib:Nat}(hG:zu l.toArray f m 1 gs)(hG':zu l.toArray f m 1 gs')(hT:jW l (gs.map (·.p)) t=T)(hT':jW l (gs'.map (·.p)) t=T')(hfr:∀i d,i<l.length→bV l.toArray i=some d→look d t=none)
  (hL:GL P N l.toArray σs T l gs) (hL':GL P N l.toArray σs' T' l gs') (hm0:1<m) (ha:dE gs ia=some 0) (hb0:dE gs ib=some 1) (ha':dE gs' ib=some 0) (hia:ia<l.length) (hib:ib<l.length)
  (hsame:∀(i:Nat) g g',gs[i]? =some g→gs'[i]? =some g'→g.r=none→g.lo=0→g'=g)
  (hs0:σs[0]? =σs'[0]?)
  {σm σm':bN} (hm:σs[m]? =some σm) (hm':σs'[m]? =some σm') {Q:Exit→Act→World→Prop} {E₀:Env} {w₀:World} (hq:∀a' w' E',Sat F base σm E' w'→cG E' w' a'.eval T→a'.defers=[]→a'.tmps.size=N→cp E₀ w₀ E' w'→Below base w₀ w'→Q .normal a' w')
  (hq':∀a' w' E',Sat F base σm' E' w'→cG E' w' a'.eval T'→a'.defers=[]→a'.tmps.size=N→cp E₀ w₀ E' w'→Below base w₀ w'→Q .normal a' w'):
  ∀(fuel:Nat) (ls:Array Bool) (E:Env) (a:Act) (w:World),uv base N F l gs σs t ls 0 E a w→uv base N F l gs' σs' t ls 0 E a w→bE ls l.length=fuel→cp E₀ w₀ E w→Below base w₀ w→wpAny P .any l.toArray Q fuel ls a w:=by
 obtain⟨hgl,hget⟩:=hL.get
 obtain⟨hgl',hget'⟩:=hL'.get
 intro fuel
 induction fuel with
 |zero=>
  intro ls E a w h h' hu hgo hb
  have hall:=cI hu
  have:=(h.rk ia 0 hia ha).1 (hall ia hia)
  omega
 |succ fuel ih=>
  intro ls E a w h h' hu hgo hb
  obtain⟨i0,hi0,hi1,hi2⟩:=ec (ls:=ls) (m:=l.length) (by omega)
  have hi0r:i0∈Region.ready .any l.toArray ls:=cb.2 ⟨by simpa using hi0,hi1,fun k hk=>by
   have:=hG.jD i0 (by simpa using hi0) k hk
   rw[rV (by rw[h.size];omega) false true];exact hi2 k this⟩
  refine⟨fun h0=>absurd hi0r (by rw[h0];simp),fun i hi=>?_⟩
  obtain⟨h1,h2,h3⟩:=cb.1 hi
  have hil:i<l.length:=by simpa using h1
  have ho:l[i]? =some l[i]:=by simp[hil]
  have hgi:gs[i]? =some (gs[i]'(by omega)):=by simp
  have hgi':gs'[i]? =some (gs'[i]'(by omega)):=by simp
  have hK:=hget i _ _ ho hgi
  have hK':=hget' i _ _ ho hgi'
  have hsm:=hsame i _ _ hgi hgi'
  generalize hgg:gs[i]'(by omega)=g at hgi hK hsm
  generalize hgg':gs'[i]'(by omega)=g' at hgi' hK' hsm
  generalize hoo:l[i]=o at ho hK hK'
  have hlo:cR l.toArray i=o.looksAt l.toArray:=by simp only[cR,List.getElem?_toArray,ho]
  have hlk:=h.yR hG hT hil h3
  rw[hlo]at hlk
  have hlk':=h'.yR hG' hT' hil h3
  rw[hlo]at hlk'
  have hpk:∀ks:List Nat,(ks.all fun k=>(o.looksAt l.toArray).contains k)=true→cG E w a.eval (fx T ks):=fun ks hks k p hkp=>by
   obtain⟨e1,e2⟩:=fq ks k p hkp
   exact hlk k (by have:=List.all_eq_true.1 hks k e1;simpa using this) p e2
  have hpk':∀ks:List Nat,(ks.all fun k=>(o.looksAt l.toArray).contains k)=true→cG E w a.eval (fx T' ks):=fun ks hks k p hkp=>by
   obtain⟨e1,e2⟩:=fq ks k p hkp
   exact hlk' k (by have:=List.all_eq_true.1 hks k e1;simpa using this) p e2
  have hwant:∀b,dP l.toArray T o=some b→Region.wanted o (yielded l.toArray a.tmps)=b:=fun b hb=>by
   rw[eI];exact gb (fun k hk p hp=>hlk k hk p hp) hb
  have hwant':∀b,dP l.toArray T' o=some b→Region.wanted o (yielded l.toArray a.tmps)=b:=fun b hb=>by
   rw[eI];exact gb (fun k hk p hp=>hlk' k hk p hp) hb
  have hun:bE (ls.setIfInBounds i true) l.length=fuel:=by have:=dV h2 hil (by rw[h.size];omega);omega
  unfold wpOp
  have ho':l.toArray[i]? =some o:=by simpa using ho
  simp only[ho']
  have hrk:dE gs i=g.r:=by simp only[dE,hgi,Option.bind_some]
  have hrk':dE gs' i=g'.r:=by simp only[dE,hgi',Option.bind_some]
  have lo0:∀ {g:GD},gs[i]? =some g→g.r=none→g.lo=0:=fun {g} e1 e2=>by
   obtain⟨q1,_⟩:=hG.quiet i _ e1 e2
   rcases q1 with e|⟨j,hj,hj1,hj2⟩
   ·exact e
   ·have:=(h.rk j _ (by simpa using hj) hj1).1 (h.nn hG hil hj2 h3);omega
  have second:∀r0,g.r=some r0→r0≠0→g'.r=some 0:=fun r0 e1 e2=>by
   obtain⟨q1,q2⟩:=hG.mW i _ r0 hgi e1
   have:r0=1:=by
    rcases q2 with e|⟨j,hj,hj1,hj2⟩
    ·omega
    ·have:=(h.rk j _ (by simpa using hj) hj1).1 (h.nn hG hil hj2 h3)
     omega
   subst this
   have hbi:=hG.one i ib 1 (by simpa using hil) (by simpa using hib) (by rw[hrk,e1]) hb0
   subst hbi
   rw[←hrk',ha']
  have goA:∀ {ps:PV} {d0 lo hi:Nat},True:=fun {_ _ _ _}=>trivial
  cases hK with
  | @val p d lo hi ks hks hw hy hd hN=>
   have hlo0:=lo0 hgi rfl
   simp only at hlo0
   have hgs:=hsm rfl hlo0
   rw[hwant true hw,if_pos rfl]
   left
   obtain⟨σ,hσ,hs⟩:=h.sat
   refine kY (hy 0 σ (by omega) (Nat.zero_le _) hσ F base E a.eval w (dx a) hs (hpk ks hks)) fun v w' hE hv=>?_
   refine ih _ E _ w' (h.qj hG hfr hil h2 h3 hgi (.ext hE) ⟨σ,hσ,hs.ext hE⟩ (.inl ⟨rfl,rfl⟩) ho (fun d' hd'=>by rw[hd]at hd';cases hd';exact Nat.blt_eq.mp hN) (fun _ _=>hv))
    (h'.qj hG' hfr hil h2 h3 hgi' (.ext hE) ⟨σ,by rw[←hs0];exact hσ,hs.ext hE⟩ (.inl ⟨by rw[hgs],rfl⟩) ho (fun d' hd'=>by rw[hd]at hd';cases hd';exact Nat.blt_eq.mp hN) (fun _ _=>by rw[hgs];exact hv)) hun (hgo.trans (.ext hE)) (hb.trans (Below.fB hE hs.bl))
  | @skip d lo hi hw hd hN=>
   have hlo0:=lo0 hgi rfl
   simp only at hlo0
   have hgs:=hsm rfl hlo0
   rw[hwant false hw,if_neg (by simp)]
   exact ih _ E _ w (h.qj hG hfr hil h2 h3 hgi (cp.refl _ _) h.sat (.inl ⟨rfl,rfl⟩) ho (fun d' hd'=>by rw[hd]at hd';cases hd';exact Nat.blt_eq.mp hN) (fun _ _=>.raw _))
    (h'.qj hG' hfr hil h2 h3 hgi' (cp.refl _ _) h'.sat (.inl ⟨by rw[hgs],rfl⟩) ho (fun d' hd'=>by rw[hd]at hd';cases hd';exact Nat.blt_eq.mp hN) (fun _ _=>by rw[hgs];exact .raw _)) hun hgo hb
  | @mW p d r0 lo hi σ σ' ks hks hw e1 e2 hy hd hN=>
   by_cases hr00:r0=0
   ·subst hr00
    rw[hwant true hw,if_pos rfl]
    left
    obtain⟨σ0,hσ,hs⟩:=h.sat
    rw[e1]at hσ;cases hσ
    obtain⟨v,w',E',hr,k1,k2,k3,k4⟩:=hy F base E a.eval w (dx a) hs (hpk ks hks)
    have hn':=oI hG hT hfr hL hm hq fuel _ 1 E' (a.put o.dst v) w' (h.qj hG hfr hil h2 h3 hgi k2 ⟨σ',e2,k1⟩ (.inr ⟨rfl,rfl⟩) ho (fun d' hd'=>by rw[hd]at hd';cases hd';exact Nat.blt_eq.mp hN) (fun _ _=>k4)) hun (hgo.trans k2) (hb.trans k3) (by omega) (Nat.le_refl _)
    unfold Oper.wp
    rcases hr with hr|⟨rfl,hr⟩
    ·rw[hr];exact hn'
    ·rw[hr];exact hn'
   ·have hs2:=second r0 rfl hr00
    cases hK' with
    | @mW p2 d2 r2 lo2 hi2 σ2 σ2' ks2 hks2 hw2 f1 f2 hy2 hd2 hN2=>
     simp only[Option.some.injEq]at hs2
     subst hs2
     rw[hwant' true hw2,if_pos rfl]
     left
     obtain⟨σ0,hσ,hs⟩:=h'.sat
     rw[f1]at hσ;cases hσ
     obtain⟨v,w',E',hr,k1,k2,k3,k4⟩:=hy2 F base E a.eval w (dx a) hs (hpk' ks2 hks2)
     have hn':=oI hG' hT' hfr hL' hm' hq' fuel _ 1 E' (a.put o.dst v) w' (h'.qj hG' hfr hil h2 h3 hgi' k2 ⟨σ2',f2,k1⟩ (.inr ⟨rfl,rfl⟩) ho (fun d' hd'=>by rw[hd2]at hd';cases hd';exact Nat.blt_eq.mp hN2) (fun _ _=>k4)) hun (hgo.trans k2) (hb.trans k3) (by omega) (Nat.le_refl _)
     unfold Oper.wp
     rcases hr with hr|⟨rfl,hr⟩
     ·rw[hr];exact hn'
     ·rw[hr];exact hn'
    | @jM p2 r2 lo2 hi2 σ2 σ2' ks2 hks2 hw2 f1 f2 hy2 hd2=>rw[hd2]at hd;cases hd
    |val=>cases hs2
    |skip=>cases hs2
  | @jM p r0 lo hi σ σ' ks hks hw e1 e2 hy hd=>
   by_cases hr00:r0=0
   ·subst hr00
    rw[hwant true hw,if_pos rfl]
    left
    obtain⟨σ0,hσ,hs⟩:=h.sat
    rw[e1]at hσ;cases hσ
    obtain⟨v,w',E',hr,k1,k2,k3,k4⟩:=hy F base E a.eval w (dx a) hs (hpk ks hks)
    have hn':=oI hG hT hfr hL hm hq fuel _ 1 E' (a.put o.dst v) w' (h.qj hG hfr hil h2 h3 hgi k2 ⟨σ',e2,k1⟩ (.inr ⟨rfl,rfl⟩) ho (fun d' hd'=>by rw[hd]at hd';cases hd') (fun d' hd'=>by rw[hd]at hd';cases hd')) hun (hgo.trans k2) (hb.trans k3) (by omega) (Nat.le_refl _)
    unfold Oper.wp
    rcases hr with hr|⟨rfl,hr⟩
    ·rw[hr];exact hn'
    ·rw[hr];exact hn'
   ·have hs2:=second r0 rfl hr00
    cases hK' with
    | @mW p2 d2 r2 lo2 hi2 σ2 σ2' ks2 hks2 hw2 f1 f2 hy2 hd2 hN2=>rw[hd2]at hd;cases hd
    | @jM p2 r2 lo2 hi2 σ2 σ2' ks2 hks2 hw2 f1 f2 hy2 hd2=>
     simp only[Option.some.injEq]at hs2
     subst hs2
     rw[hwant' true hw2,if_pos rfl]
     left
     obtain⟨σ0,hσ,hs⟩:=h'.sat
     rw[f1]at hσ;cases hσ
     obtain⟨v,w',E',hr,k1,k2,k3,k4⟩:=hy2 F base E a.eval w (dx a) hs (hpk' ks2 hks2)
     have hn':=oI hG' hT' hfr hL' hm' hq' fuel _ 1 E' (a.put o.dst v) w' (h'.qj hG' hfr hil h2 h3 hgi' k2 ⟨σ2',f2,k1⟩ (.inr ⟨rfl,rfl⟩) ho (fun d' hd'=>by rw[hd2]at hd';cases hd') (fun d' hd'=>by rw[hd2]at hd';cases hd')) hun (hgo.trans k2) (hb.trans k3) (by omega) (Nat.le_refl _)
     unfold Oper.wp
     rcases hr with hr|⟨rfl,hr⟩
     ·rw[hr];exact hn'
     ·rw[hr];exact hn'
    |val=>cases hs2
    |skip=>cases hs2
end
def ER:List GD→List GD→Prop
 |g::gs,g'::gs'=>(g.r=none→g.lo=0→g'=g)∧ER gs gs'
 |_,_=>True
theorem s8:∀ {gs gs':List GD},ER gs gs'→∀(i:Nat) g g',gs[i]? =some g→gs'[i]? =some g'→g.r=none→g.lo=0→g'=g
 | [],_,_,i,g,g',h,_=>by simp at h
 |_::_,[],_,i,g,g',_,h=>by simp at h
 |x::gs,y::gs',h,0,g,g',h1,h2=>by simp at h1 h2;subst h1;subst h2;exact h.1
 |x::gs,y::gs',h,i+1,g,g',h1,h2=>s8 h.2 i g g' (by simpa using h1) (by simpa using h2)
theorem Jp{id:Nat}{l:List Oper}{t t1 t2:b9}{σ σm σm':bN}{Q:Exit→St→Prop}{y:Code}(f m:Nat)(σs σs':List bN)(gs gs':List GD)(T T':b9)(ia ib:Nat)(hm:P.follows .mixedOrders=true)(hB:AQ l.toArray f m 1 gs=true)(hB':AQ l.toArray f m 1 gs'=true)(hT:jW l (gs.map (·.p)) t=T)(hT':jW l (gs'.map (·.p)) t=T')(hfr:(l.all fun o=>o.dst.all fun d=>(look d t).isNone)=true)
  (h0:σs[0]? =some σ) (h0':σs'[0]? =some σ) (h1:σs[m]? =some σm) (h1':σs'[m]? =some σm') (hm0:1<m) (ha:dE gs ia=some 0) (hb0:dE gs ib=some 1) (ha':dE gs' ib=some 0) (hia:ia<l.length) (hib:ib<l.length) (hsame:ER gs gs')
  (hL:GL P N l.toArray σs T l gs) (hL':GL P N l.toArray σs' T' l gs') (hsub:Sub T t1) (hsub':Sub T' t2) (hr:W P N L y ⟨t1,σm⟩ Q→W P N L y ⟨t2,σm'⟩ Q) (hq:W P N L y ⟨t1,σm⟩ Q):W P N L (.seq (.region id l.toArray true) y) ⟨t,σ⟩ Q:=by
 have hq2:=hr hq
 refine an (Q:=Q) (fun F base E₀ w₀ E a w hc hs=>?_)
 have hG:=sR hB
 have hG':=sR hB'
 have hE:Ext w {w with drawn:=w.drawn+1}:=⟨rfl,rfl,rfl,Nat.le_refl _,fun _ _=>rfl⟩
 refine wp_region_any hm ?_
 have hfr':∀i d,i<l.length→bV l.toArray i=some d→look d t=none:=fun i d hi hd=>by
  have ho:l[i]? =some l[i]:=by simp[hi]
  simp only[bV,List.getElem?_toArray,ho,Option.bind_some]at hd
  have:=List.all_eq_true.1 hfr _ (List.mem_of_getElem? ho)
  rw[hd]at this
  simpa using this
 have hg0:∀(gs:List GD) (σs:List bN),σs[0]? =some σ→uv base N F l gs σs t (Array.replicate l.length false) 0 E a {w with drawn:=w.drawn+1}:=fun gs σs h0=>by
  have hrep:∀i,i<l.length→(Array.replicate l.length false).getD i true=false:=fun i hi=>by simp[hi]
  refine⟨by simp,fun i hi hi'=>?_,fun i s hi _=>?_,⟨σ,h0,hs.sat.ext hE⟩,hs.jL,hs.size,hs.tmp.goes (.ext hE),fun j d g hj hjl=>?_⟩
  ·rw[hrep i (by simpa using hi')]at hi;cases hi
  ·rw[hrep i hi];simp
  ·rw[hrep j hj]at hjl;cases hjl
 have:=Fg (Q:=fun e a' w'=>mQ F base N E₀ w₀ (DP (fun s=>W P N L y s Q) Q e) a' w') hG hG' hT hT' hfr' hL hL' hm0 ha hb0 ha' hia hib (s8 hsame) (h0.trans h0'.symm) h1 h1' (E₀:=E₀) (w₀:=w₀)
  (fun a' w' E' k1 k2 k3 k4 k5 k6=>⟨⟨t1,σm⟩,E',hq,⟨k1,k2.sub hsub,k3,k4⟩,k5,k6⟩) (fun a' w' E' k1 k2 k3 k4 k5 k6=>⟨⟨t2,σm'⟩,E',hq2,⟨k1,k2.sub hsub',k3,k4⟩,k5,k6⟩) l.length _ E a _ (hg0 gs σs h0) (hg0 gs' σs' h0') (kB _ _ (Nat.le_refl _)) (hc.g.trans (.ext hE)) (hc.b.trans (Below.fB hE hs.sat.bl))
 simpa using this
end
open Net Heap
section
variable {P:Program} {σ:bN} {t:b9} {o:Oper}
theorem KM{ty e n i:Nat}{x ix:Operand}{xs:List PV}{p:PV}(ho:o.op= .index ty x ix)(hu:P.underlying ty=some (.array n e))(hk:sa P e=some none)(hx:aA t x=some (.agg xs))(hi:aA t ix=some (num i))(hn:i<n)(hp:xs[i]? =some p):bh P σ t o p:=by
 intro F base E ρ w hρ _ hT
 have h1:=aq hρ hT hx
 have h2:ρ ix= .int .i64 i:=eF (aq hρ hT hi)
 generalize hz:ρ x=z at h1
 cases h1 with
 |agg cs _ hl hr=>
  obtain⟨c,hcc,hcr⟩:=aV.get (E:=E) (w:=w) (cs:=cs.toList) ⟨by simpa using hl,fun i x u h1 h2=>hr i x u (by simpa using h1) h2⟩ hp
  have hag:∀w,(isAgg e).run P w= .ok false w:=by
   intro w
   have hk':=hk
   unfold sa at hk'
   split at hk'
   ·rename_i d i hu' hi'
    split at hk'
    ·cases hk'
    ·cases hk'
    ·rename_i h1 h2
     unfold isAgg
     simp only[Sem.run_bind,run_underlying hu',Result.andThen_ok]
     rfl
   ·cases hk'
  have hcc':cs[i]? =some c:=by simpa using hcc
  have hsz:=xc hk w
  have hin:(0:Int)≤(i:Int)∧(i:Int)<(n:Int):=by omega
  have has:(asIntOf (.int .i64 (i:Int))).run P w= .ok (.i64,(i:Int)) w:=rfl
  simp only[execOp,ho,hz,h2,Instr.index,Sem.run_bind,has,run_underlying hu,Result.andThen_ok,if_pos hin,hsz,Option.getD_none,Nat.mul_one,Int.toNat_natCast,Go.part,hag,hcc',Bool.false_eq_true,if_false,Sem.run_pure]
  exact bd hcr
theorem pQ{f:FuncId}{cs:Array Operand}{xs:List PV}(ho:o.op= .makeFunc (.func f) cs #[])(hx:gO t cs.toList=some xs):bh P σ t o (.bound f xs):=by
 intro F base E ρ w hρ _ hT
 simp only[execOp,ho,Instr.makeFunc,Sem.run_bind,Sem.run_pure,Result.andThen_ok]
 refine bd ?_
 have:(Array.map ρ #[]:Array Value)= #[]:=by simp
 rw[this]
 have h:=ga hρ hT hx
 exact .bound f _ xs (by simpa using h.1) (fun i x u h1 h2=>h.2 i x u (by simpa using h1) h2)
theorem sB{f:FuncId}{x:Operand}{ats:Array TypeId}{ρ:Operand→Value}{cap:Array Value}(h:enters P f=true)(ho:o.op= .call {callee:=.value x,args:= #[],argTypes:=ats})(hx:ρ x= .func (.func f) cap #[])(w:World):
  (execOp ρ o).run P w= .ok (.enter f cap) w:=by
 have:=n0 h cap w
 simp[execOp,ho,resolve,hx,Deferred.ofValue,invoke,this]
theorem Fb{N L:Nat}{ops:Array Oper}{rest:List Oper}{K:St→Prop}{d:Nat}{f:FuncId}{x:Operand}{ats:Array TypeId}{cap:List PV}(ho:o.op= .call {callee:=.value x,args:= #[],argTypes:=ats})(hf:enters P f=true)(hx:aA t x=some (.bound f cap))
  (hd:o.dst=some d) (hw:dP ops t o=some true) (hN:Nat.blt d N=true) (hc:aW P f cap σ (fun r σ'=>WR P N L ops rest ⟨(d,r)::t,σ'⟩ K)):WR P N L ops (o::rest) ⟨t,σ⟩ K:=by
 refine kE hw fun F base E a w hs next Q hn=>?_
 have h1:=aq (dx a) hs.tmp hx
 generalize hz:a.eval x=z at h1
 cases h1 with
 |bound _ cs _ hl hr=>
  unfold Oper.wp
  rw[sB hf ho hz w]
  simp only[Oper.upon]
  refine(hc F base E w cs hs.sat ⟨by simpa using hl,fun i x u k1 k2=>hr i x u (by simpa using k1) k2⟩).mono ?_
  rintro e w' ⟨v,r,σ',E',rfl,h4,h5,h6,h7,h8⟩
  rw[hd]
  exact hn _ w' _ E' h4 (hs.put h5 h6 hN h8) h6 h7
theorem Hf{ty:TypeId}{x y:Operand}{f g:FuncId}{cap cap':List PV}(ho:o.op= .build ty #[(0,x),(1,y)])(hx:aA t x=some (.bound f cap))(hy:aA t y=some (.bound g cap'))(hb:∀cs cs',P.built ty [(0,.func (.func f) cs #[]),(1,.func (.func g) cs' #[])]=some #[.func (.func f) cs #[],.func (.func g) cs' #[]]):bh P σ t o (.agg [.bound f cap,.bound g cap']):=by
 intro F base E ρ w hρ hS hT
 have h1:=aq hρ hT hx
 have h2:=aq hρ hT hy
 generalize hz:ρ x=z at h1
 generalize hz2:ρ y=z2 at h2
 have h1':=h1
 have h2':=h2
 cases h1 with
 |bound _ cs _ hl hr=>
  cases h2 with
  |bound _ cs' _ hl' hr'=>
   have hrun:=run_build (P:=P) w ty #[(0,.func (.func f) cs #[]),(1,.func (.func g) cs' #[])] #[.func (.func f) cs #[],.func (.func g) cs' #[]] (hb cs cs')
   have hr:(execOp ρ o).run P w= .ok (.value (.agg #[.func (.func f) cs #[],.func (.func g) cs' #[]])) w:=by
    simp only[execOp,ho,Sem.run_bind,List.map_toArray,List.map_cons,List.map_nil,hz,hz2,hrun,Result.andThen_ok,Sem.run_pure]
   rw[hr]
   refine bd (.agg _ _ rfl (fun i x u k1 k2=>?_))
   match i,k1,k2 with
   |0,k1,k2=>simp at k1 k2;subst k1;subst k2;exact h1'
   |1,k1,k2=>simp at k1 k2;subst k1;subst k2;exact h2'
   |_+2,k1,k2=>simp at k2
end
def ev(T:ah)(D:List Bool)(d N:Nat)(out:List Int)(tch:PV):bN:=[some (.cells 78 [num T.nodes,.own 1,.own 2,.own 3,num d,.own 4,tch]),some (.row 4 1 T.over.length (bb T.over)),some (.row 82 7 T.ae.length (ct T.ae)),some (.row 4 1 D.length (bb D)),some (.row 3 1 N (aL out))]
theorem eb{T:ah}{D:List Bool}{d N:Nat}{out:List Int}{tch:PV}(A:bN):kc (ev T D d N out tch++A) T D d N out tch:=⟨rfl,rfl,rfl,rfl,rfl⟩
theorem kc.qf{σ:bN}{T:ah}{D:List Bool}{d N:Nat}{out:List Int}{tch:PV}(h:kc σ T D d N out tch)(hout:out.length=N):aD σ (.own 4) (aw out):=by
 subst hout
 exact aD.dA h.h4 ai.pure
theorem IF(cs cs':Array Value):Tryz.prog.built 125 [(0,.func (.func 62) cs #[]),(1,.func (.func 63) cs' #[])]=some #[.func (.func 62) cs #[],.func (.func 63) cs' #[]]:=by kernel_rfl
def KI(T:ah)(D:List Bool)(d N:Nat)(out:List Int)(av:List Int)(k:Nat)(out1 L:List Int):Prop:=
 (k=0∧out1=out∧L=[])∨
 (k=1∧ud T D d out1 (List.replicate N 0) (fun y=>cd [] (y:Int)) (List.replicate N (-1)) 0 (fun a=>(((aN T a).toNat:Nat):Int)∈L∨∃c:Nat,(c:Int)∈av∧aN T c=aN T a))∨
 (k=2∧out1=aO T D d false)
def Je(T:ah)(N:Nat)(av:List Int):List PV:=[.bound 62 [.agg (mY T N av (.own 5))],.bound 63 [.agg (mY T N av (.own 5))]]
theorem BM{T₀ T:ah}{D₀ D:List Bool}{N d:Nat}{S:Nat→Prop}(hT:iF T D N d)(h2:Ia T₀ D₀ T D d S)(out:List Int)(hd:eJ T₀ D₀ d false out)(hout:out.length=N)(hub:∀x:Nat,(x:Int)<T.nodes→at' out (x:Int)≤4194240)(tch:PV)[IsPure tch]
  (av:List Int) (hal:av.length≤1000) (harc:∀a∈av,0≤a∧a<2*(T.ae.length:Int)) (hS:∀a,S a→a<2*T.ae.length→∃c:Nat,(c:Int)∈av∧aN T c=aN T a) {k:Nat} (hk:k<2) {out1 L:List Int} (h:KI T D d N out av k out1 L):
  ∃f,(Je T N av)[k]? =some (.bound f [.agg (mY T N av (.own 5))])∧enters Tryz.prog f=true∧aW Tryz.prog f [.agg (mY T N av (.own 5))] (sv T D d N out1 tch L) (fun _ σ'=>∃out2 L2,KI T D d N out av (k+1) out2 L2∧σ'=sv T D d N out2 tch L2):=by
 have hSd:=aM hT.valid
 rcases h with⟨rfl,rfl,rfl⟩|⟨rfl,hG⟩|⟨rfl,_⟩
 ·refine⟨_,rfl,by kernel_rfl,aW.mono (De hT h2 out1 hd hout hub tch av hal harc hS) ?_⟩
  rintro r σ' ⟨L,out2,dn,b,h3,h4,rfl⟩
  have h5:=B5 (K:=List.replicate N 0) (H:=fun y=>cd [] (y:Int)) h2 hSd hT.nodes.symm hT.dest hd hub h3 h4 (fun y ⟨p,hp,_⟩=>by simp at hp)
  refine⟨out2,L,.inr (.inl ⟨rfl,kA h5 (fun a ha h=>h.imp id (fun⟨c,e1,e2,e3⟩=>?_))⟩),rfl⟩
  obtain⟨c',e4,e5⟩:=hS c e1 e2
  exact⟨c',e4,e5.trans e3⟩
 ·refine⟨_,rfl,by kernel_rfl,aW.mono (Dv hT out1 tch av hal harc L hG) ?_⟩
  rintro r σ' rfl
  exact⟨_,L,.inr (.inr ⟨rfl,rfl⟩),rfl⟩
 ·omega
set_option maxHeartbeats 2000000 in
theorem nq{T₀ T:ah}{D₀ D:List Bool}{N d:Nat}{S:Nat→Prop}(hT:iF T D N d)(h2:Ia T₀ D₀ T D d S)(out:List Int)(hd:eJ T₀ D₀ d false out)(hout:out.length=N)(hub:∀x:Nat,(x:Int)<T.nodes→at' out (x:Int)≤4194240)(tc:Int)
  (av:List Int) (hal:av.length≤1000) (harc:∀a∈av,0≤a∧a<2*(T.ae.length:Int)) (hS:∀a,S a→a<2*T.ae.length→∃c:Nat,(c:Int)∈av∧aN T c=aN T a):
  aW Tryz.prog 29 [.ptr 0 0,aw av] (ev T D d N out (num tc)) (fun _ σ'=>∃tc',σ'=ev T D d N (aO T D d false) (num tc')):=by
 have hSd:=aM hT.valid
 have hnn:=hT.nodes
 have hN64:N≤64:=by have:=hSd.nodes;omega
 have hlv:=vv T hT.valid
 have hev:=nh T hT.valid
 rw[show T.nodes.toNat=N by omega]at hlv hev
 have hdl:(aO T D d false).length=N:=by have:=(fI hSd D false (by have:=hT.dest;omega:(d:Int)<T.nodes)).len;omega
 have hph:=fun(tch:PV) [IsPure tch] {k:Nat} (hk:k<2) {out1 L:List Int} (h:KI T D d N out av k out1 L)=>BM hT h2 out hd hout hub tch av hal harc hS hk h
 refine bO Tryz.func29 I Tryz.ntmps29 I<|af (.a 4 I<|.v (iG I (ai.cons ((eb []).qf hout) ai.nil) (yk out (by omega))) I<|.a 1 I<|.k [0,1,4] I)<|Jp 20 3 (ev T D d N out (num tc)::(ev T D d N out (num tc)++[some (oW [])])::(ev T D d N out (num tc)++[some (oW []),some (.cells 124 [.raw (.pointer none),.raw (.slice none 0 0),.raw (.slice none 0 0),.raw (.slice none 0 0),.raw (.map none)])])::(ev T D d N out (num tc)++[some (oW []),some (.cells 124 (mY T N av (.own 5)))])::[]) (ev T D d N out (num tc)::(ev T D d N out (num tc)++[some (.cells 124 [.raw (.pointer none),.raw (.slice none 0 0),.raw (.slice none 0 0),.raw (.slice none 0 0),.raw (.map none)])])::(ev T D d N out (num tc)++[some (.cells 124 [.raw (.pointer none),.raw (.slice none 0 0),.raw (.slice none 0 0),.raw (.slice none 0 0),.raw (.map none)]),some (oW [])])::(ev T D d N out (num tc)++[some (.cells 124 (mY T N av (.own 6))),some (oW [])])::[]) (⟨.ptr 0 0,none,0,2⟩::⟨aw av,none,0,2⟩::⟨.ptr 0 0,none,0,2⟩::⟨.ptr 0 0,none,0,2⟩::⟨.ptr 0 0,none,0,2⟩::⟨.agg [num T.nodes,.own 1,.own 2],none,0,2⟩::⟨ew (ca (aN T) N (2*T.ae.length)),none,0,2⟩::⟨.ptr 0 0,none,0,2⟩::⟨.ptr 0 0,none,0,2⟩::⟨.ptr 0 0,none,0,2⟩::⟨.agg [num T.nodes,.own 1,.own 2],none,0,2⟩::⟨ew (ca (aB T) N (2*T.ae.length)),none,0,2⟩::⟨.own 5,some 0,0,0⟩::⟨.agg (mY T N av (.own 5)),none,1,2⟩::⟨.ptr 6 0,some 1,0,0⟩::⟨_,some 2,0,0⟩::[]) (⟨.ptr 0 0,none,0,2⟩::⟨aw av,none,0,2⟩::⟨.ptr 0 0,none,0,2⟩::⟨.ptr 0 0,none,0,2⟩::⟨.ptr 0 0,none,0,2⟩::⟨.agg [num T.nodes,.own 1,.own 2],none,0,2⟩::⟨ew (ca (aN T) N (2*T.ae.length)),none,0,2⟩::⟨.ptr 0 0,none,0,2⟩::⟨.ptr 0 0,none,0,2⟩::⟨.ptr 0 0,none,0,2⟩::⟨.agg [num T.nodes,.own 1,.own 2],none,0,2⟩::⟨ew (ca (aB T) N (2*T.ae.length)),none,0,2⟩::⟨.own 6,some 1,0,0⟩::⟨.agg (mY T N av (.own 6)),none,2,2⟩::⟨.ptr 5 0,some 0,0,0⟩::⟨_,some 2,0,0⟩::[]) _ _ 12 14 mixed ?grd6 ?grd7 rfl rfl rfl rfl rfl rfl rfl (by decide) I I I (by decide) (by decide) ⟨(fun _ _=>rfl),(fun _ _=>rfl),(fun _ _=>rfl),(fun _ _=>rfl),(fun _ _=>rfl),(fun _ _=>rfl),(fun _ _=>rfl),(fun _ _=>rfl),(fun _ _=>rfl),(fun _ _=>rfl),(fun _ _=>rfl),(fun _ _=>rfl),(fun h=>by cases h),(fun _ h=>by cases h),(fun h=>by cases h),(fun h=>by cases h),trivial⟩ (.cons (.val [0] I I (yz (cC (bn I) (cC (bn I) (cC (bn I) ez)))) I I)<|.cons (.val [1] I I (yz (cC (bn I) (cC (bn I) (cC (bn I) ez)))) I I)<|.cons (.val [0] I I (yz (cC (bn I) (cC (bn I) (cC (bn I) ez)))) I I)<|.cons (.val [17] I I (yz (cC (bn I) (cC (bn I) (cC (bn I) ez)))) I I)<|.cons (.val [18] I I (yz (cC (bn I) (cC (bn I) (cC (bn I) ez)))) I I)<|.cons (.val [19] I I (yz (cC (bn I) (cC (bn I) (cC (bn I) ez)))) I I)<|.cons (.val [20] I I (yz (cC (iG I (ai.cons (eb _).jY ai.nil) hlv) (cC (iG I (ai.cons (eb _).jY ai.nil) hlv) (cC (iG I (ai.cons (eb _).jY ai.nil) hlv) ez)))) I I)<|.cons (.val [0] I I (yz (cC (bn I) (cC (bn I) (cC (bn I) ez)))) I I)<|.cons (.val [22] I I (yz (cC (bn I) (cC (bn I) (cC (bn I) ez)))) I I)<|.cons (.val [23] I I (yz (cC (bn I) (cC (bn I) (cC (bn I) ez)))) I I)<|.cons (.val [24] I I (yz (cC (bn I) (cC (bn I) (cC (bn I) ez)))) I I)<|.cons (.val [25] I I (yz (cC (iG I (ai.cons (eb _).jY ai.nil) hev) (cC (iG I (ai.cons (eb _).jY ai.nil) hev) (cC (iG I (ai.cons (eb _).jY ai.nil) hev) ez)))) I I)<|.cons (.mW [] I I I I (kl sA rfl) I I)<|.cons (.val [15,16,21,26,27] I I (yz (cC (bn I) (cC (bn I) ez))) I I)<|.cons (.mW [] I I I I (cW I) I I)<|.cons (.jM [5,28] I I I I (cW I) I) .nil) (.cons (.val [0] I I (yz (cC (bn I) (cC (bn I) (cC (bn I) ez)))) I I)<|.cons (.val [1] I I (yz (cC (bn I) (cC (bn I) (cC (bn I) ez)))) I I)<|.cons (.val [0] I I (yz (cC (bn I) (cC (bn I) (cC (bn I) ez)))) I I)<|.cons (.val [17] I I (yz (cC (bn I) (cC (bn I) (cC (bn I) ez)))) I I)<|.cons (.val [18] I I (yz (cC (bn I) (cC (bn I) (cC (bn I) ez)))) I I)<|.cons (.val [19] I I (yz (cC (bn I) (cC (bn I) (cC (bn I) ez)))) I I)<|.cons (.val [20] I I (yz (cC (iG I (ai.cons (eb _).jY ai.nil) hlv) (cC (iG I (ai.cons (eb _).jY ai.nil) hlv) (cC (iG I (ai.cons (eb _).jY ai.nil) hlv) ez)))) I I)<|.cons (.val [0] I I (yz (cC (bn I) (cC (bn I) (cC (bn I) ez)))) I I)<|.cons (.val [22] I I (yz (cC (bn I) (cC (bn I) (cC (bn I) ez)))) I I)<|.cons (.val [23] I I (yz (cC (bn I) (cC (bn I) (cC (bn I) ez)))) I I)<|.cons (.val [24] I I (yz (cC (bn I) (cC (bn I) (cC (bn I) ez)))) I I)<|.cons (.val [25] I I (yz (cC (iG I (ai.cons (eb _).jY ai.nil) hev) (cC (iG I (ai.cons (eb _).jY ai.nil) hev) (cC (iG I (ai.cons (eb _).jY ai.nil) hev) ez)))) I I)<|.cons (.mW [] I I I I (kl sA rfl) I I)<|.cons (.val [15,16,21,26,27] I I (yz (cC (bn I) ez)) I I)<|.cons (.mW [] I I I I (cW I) I I)<|.cons (.jM [5,28] I I I I (cW I) I) .nil) (bm (ks:=[0,4,5]) I) (bm (ks:=[0,4,5]) I) (fun h=>cJ [0,1,2,3,4,6,5] (.c 0<|.c 4<|.c 5 .nil) (.kept rfl (.cells (ao.c<|ao.c<|ao.c<|ao.c<|ao.c<|ao.c<|ao.c ao.nil))<|.kept rfl (.row ao.pure)<|.kept rfl (.row ao.pure)<|.kept rfl (.row ao.pure)<|.kept rfl (.row ao.pure)<|.kept rfl .mp<|.kept rfl (.cells (ao.c<|ao.c<|ao.c<|ao.c<|ao.c ao.nil)) .nil) I I h) ?_
 case grd6=>kernel_rfl
 case grd7=>kernel_rfl
 refine an<|af (.a 1 I<|.v (pQ I I) I<|.a 1 I<|.v (pQ I I) I<|.v (Hf I I I IF) I<|.a 1 I<|.k [0,4,33,34] I)<|cJ [0,1,2,3,4,5] (σ':=sv T D d N out (num tc) []) (.c 0<|.c 4<|.cons (p':=.agg (Je T N av)) 33 I (Ren.gM (ao.cons (Ren.FL (ao.cons (Ren.gM (ao.c<|ao.c<|ao.c<|ao.c<|ao.c ao.nil)) ao.nil))<|ao.cons (Ren.FL (ao.cons (Ren.gM (ao.c<|ao.c<|ao.c<|ao.c<|ao.c ao.nil)) ao.nil)) ao.nil))<|.c 34 .nil) (.kept rfl (.cells (ao.c<|ao.c<|ao.c<|ao.c<|ao.c<|ao.c<|ao.c ao.nil))<|.kept rfl (.row ao.pure)<|.kept rfl (.row ao.pure)<|.kept rfl (.row ao.pure)<|.kept rfl (.row ao.pure)<|.kept rfl .mp .nil) I I ?_
 refine ay<|eY [0,4,33,34] I<|br (fun r s=>∃(k:Nat) (out1 L:List Int),k≤2∧KI T D d N out av k out1 L∧r=2 - k∧s=⟨[(0,.ptr 0 0),(4,aw out),(33,.agg (Je T N av)),(34,num k)],sv T D d N out1 (num tc) L⟩) 2 ⟨0,out,[],by omega,.inl ⟨rfl,rfl,rfl⟩,by omega,rfl⟩ ?_
 rintro r s ⟨k,out1,L,hk,hP,rfl,rfl⟩
 refine af (.a 1 I<|.k [0,4,33,34,35] I)<|an<|aj I (fun hc=>?_) (fun hc=>?_)
 ·have hlt:k<2:=by have:=of_decide_eq_true hc;omega
  obtain⟨f,hf1,hf2,hf3⟩:=hph (num tc) hlt hP
  refine ak<|an<|ay<|af (.v (KM (i:=k) I Tryz.underlying125 (bG.tk.get I) I I hlt hf1) I<|.a 1 I<|.k [0,4,7,33,34] I)<|bx<|ax 1 I<|Fb I hf2 rfl rfl rfl rfl (aW.mono hf3 (fun _ σ' h=>?_))
  obtain⟨out2,L2,hP2,rfl⟩:=h
  refine aH [0,4,33,34] I ?_
  refine aF (.v (aU I) I<|.a 1 I<|.k [0,4,33,34] I) ?_
  exact⟨2 - (k+1),by omega,k+1,out2,L2,by omega,hP2,rfl,rfl⟩
 ·have hke:k=2:=by have:=of_decide_eq_false hc;omega
  have ho1:out1=aO T D d false:=by
   rcases hP with⟨h,_⟩|⟨h,_⟩|⟨_,h⟩
   ·omega
   ·omega
   ·exact h
  subst ho1
  refine cJ [0,1,2,3,4] (σ':=ev T D d N (aO T D d false) (num tc)) (.c 0<|.c 4 .nil) (.kept rfl (.cells (ao.c<|ao.c<|ao.c<|ao.c<|ao.c<|ao.c<|ao.c ao.nil))<|.kept rfl (.row ao.pure)<|.kept rfl (.row ao.pure)<|.kept rfl (.row ao.pure)<|.kept rfl (.row ao.pure) .nil) I I ?_
  refine bp<|aR<|ax 4 I<|aH [0,4] I ?_
  refine dF (σ':=ev T D d N (aO T D d false) (num 0)) I ?_
  refine af (.a 6 I<|.k [0,4,46,47,48] I)<|ay<|eY [0,4,46,47,48] I<|br (fun r s=>∃(k:Nat) (c:Int),k≤N∧0≤c∧c≤k∧r=N - k∧s=⟨[(0,.ptr 0 0),(4,aw out),(46,.own 4),(47,num N),(48,num k)],ev T D d N (aO T D d false) (num c)⟩) N ⟨0,0,by omega,by omega,by omega,by omega,rfl⟩ ?_
  rintro r s ⟨k,c,hk,hc0,hck,rfl,rfl⟩
  refine af (.a 1 I<|.k [0,4,46,47,48,49] I)<|an<|aj I (fun hy=>?_) (fun hy=>?_)
  ·have hlt:k<N:=by have:=of_decide_eq_true hy;omega
   refine ak<|an<|ay<|af (.a 1 I<|.v (aJ (k) I) I<|.v (aK I (gH _ k (by omega))) I<|.a 2 I<|.k [0,4,8,9,46,47,48] I) ?_
   obtain⟨p1,hp1⟩:∃q,decide (at' (aO T D d false) (k:Int)≠at' out (k:Int))=q:=⟨_,rfl⟩
   refine af (.a 3 I<|.v (aJ (k) I) I<|.v (aK I (gH _ k (by omega))) I<|.v (cD I (hp1)) I<|.k [0,4,46,47,48,58] I)<|aj I (fun hc=>?_) (fun hc=>?_)
   ·refine bx<|ax 4 I<|bw (aU I (hn:=by unfold In64;omega)) I<|ax 3 I<|aH [0,4,46,47,48] I ?_
    refine aF (.v (aU I) I<|.a 1 I<|.k [0,4,46,47,48] I) ?_
    first
     |exact⟨N - (k+1),by omega,k+1,c+1,by omega,by omega,by omega,rfl,rfl⟩
     |exact⟨N - (k+1),by omega,k+1,c,by omega,by omega,by omega,rfl,rfl⟩
   ·refine ak<|aF (.v (aU I) I<|.a 1 I<|.k [0,4,46,47,48] I) ?_
    first
     |exact⟨N - (k+1),by omega,k+1,c+1,by omega,by omega,by omega,rfl,rfl⟩
     |exact⟨N - (k+1),by omega,k+1,c,by omega,by omega,by omega,rfl,rfl⟩
  ·exact bp<|⟨_,aE.of I,c,rfl⟩
theorem sx{P:Program}{σ:bN}{t:b9}{o:Oper}{ty s n m:Nat}{x ix:Operand}{k:IntKind}{i:Int}{off j:Nat}(ho:o.op= .indexAddr ty x ix)(he:JG P ty=some (n,s))(hx:aA t x=some (.ptr m off))(hix:aA t ix=some (.raw (.int k i)))(hi:0≤i)(hn:i<n)(hj:i.toNat*s=j):bh P σ t o (.ptr m (off+j)):=by
 intro F base E ρ w hρ _ hT
 have h1:=aq hρ hT hx
 have h2:=aq hρ hT hix
 generalize hz:ρ x=z at h1
 generalize hz':ρ ix=z' at h2
 cases h2
 cases h1 with
 |ptr _ _ b hb hM=>
  simp only[execOp,ho,hz,hz',Sem.run_bind,om he hi hn,Result.andThen_ok,Sem.run_pure,hj]
  exact bd (.ptr m (off+j) b hb hM)
theorem xh(xs:List PV)(i:Nat)(v:PV)(h:i<xs.length):over xs i [v]=xs.set i v:=by
 unfold over
 rw[List.set_eq_take_append_cons_drop,if_pos h]
 simp
theorem xi:∀(L:List jt) (i j:Nat) (c:Int),i<L.length→j<2→(ct L).set (i*7+2+j) (num c)=ct (L.set i ((cw L i).cost j c))
 | [],i,j,c,h,_=>by simp at h
 |l::L,0,j,c,_,hj=>by
  simp only[ct,List.flatMap_cons,List.set_cons_zero,Nat.zero_mul,Nat.zero_add,cw,List.getD_cons_zero]
  rw[List.set_append_left _ _ (by simp[iQ];omega)]
  congr 1
  rcases(show j=0∨j=1 by omega)with rfl|rfl<;>rfl
 |l::L,i+1,j,c,h,hj=>by
  have ih:=xi L i j c (by simpa using h) hj
  simp only[ct,List.flatMap_cons,List.set_cons_succ,cw,List.getD_cons_succ]at ih ⊢
  rw[List.set_append_right _ _ (by simp[iQ];omega)]
  congr 1
  rw[show(i+1)*7+2+j - (iQ l).length=i*7+2+j by simp[iQ];omega]
  exact ih
section
variable {T:ah} {D:List Bool} {N d:Nat}
theorem iF.cost(h:iF T D N d)(a:Nat)(c:Int)(ha:a<2*T.ae.length)(hc:1≤c∧c≤65535):iF (dt T a c) D N d:=⟨sq h.valid a c ha hc,h.nodes,by rw[h.mask];simp[dt],h.over,h.dest⟩
theorem iF.down(h:iF T D N d)(a:Nat)(b:Bool):iF T (D.set a b) N d:=⟨h.valid,h.nodes,by rw[List.length_set];exact h.mask,h.over,h.dest⟩
theorem iF.cq(h:iF T D N d)(n:Nat)(b:Bool):iF (cq T n b) D N d:=⟨sw h.valid n b,h.nodes,h.mask,by rw[←h.over];simp[Net.cq],h.dest⟩
theorem iF.iA(h:iF T D N d)(a c:Int):iF (iA T a c) D N d:=by
 unfold Net.iA
 split
 ·rename_i h0
  unfold ly at h0
  split at h0
  ·rename_i h1
   obtain⟨k1,k2⟩:=lC.1 h1
   split at h0
   ·omega
   ·exact h.cost a.toNat c (by omega) (by omega)
  ·omega
 ·exact h
theorem iF.kb(h:iF T D N d)(a:Int)(b:Bool):iF T (kb T D a b) N d:=by
 unfold Net.kb
 split
 ·exact h.down _ _
 ·exact h
theorem iF.jm(h:iF T D N d)(n:Int)(b:Bool):iF (jm T n b) D N d:=by
 unfold Net.jm
 split
 ·exact h.cq _ _
 ·exact h
theorem iF.sound(h:iF T D N d):Sound T:=aM h.valid
theorem iF.qf(h:iF T D N d):eJ T D d false (aO T D d false):=fI h.sound D false (by have:=h.dest;have:=h.nodes;omega)
theorem iF.len(h:iF T D N d):(aO T D d false).length=N:=by have:=h.qf.len;have:=h.nodes;omega
theorem iF.ub(h:iF T D N d)(x:Nat)(hx:(x:Int)<T.nodes):at' (aO T D d false) (x:Int)≤4194240:=Inv.ub (ue h.sound D false (by have:=h.dest;have:=h.nodes;omega)) x hx h.sound.nodes.2
theorem vW(hT:iF T D N d)(tc a c:Int):
  aW Tryz.prog 7 [.ptr 0 0,num a,num c] (ev T D d N (aO T D d false) (num tc)) (fun r σ'=>∃tc',r=num (ly T a c)∧σ'=ev (iA T a c) D d N (aO (iA T a c) D d false) (num tc')):=by
 have hll:=bX hT.valid
 refine bO Tryz.func7 I Tryz.ntmps7 I<|af (.a 1 I<|.k [0,1,2] I)<|an<|af (.a 2 I<|.k [0,1,2,8] I)<|aj I (fun hc=>?_) (fun hc=>?_)
 ·cases hc
 ·refine ak<|an ?_
  obtain⟨p0,hp0⟩:∃q,dS T a=q:=⟨_,rfl⟩
  refine af (.a 5 I<|.v (oM I (ai.cons (eb []).jY (ai.cons aD.pure ai.nil)) (hp0▸mN T (by omega) a)) I<|.a 1 I<|.k [0,1,2,15] I)<|aj I (fun hc=>?_) (fun hc=>?_)
  ·have h0:p0=false:=by cases p0;rfl;cases hc
   have he:ly T a c=2:=by unfold ly;rw[hp0,h0];rfl
   have ht:iA T a c=T:=by unfold iA;rw[if_neg (by omega)]
   exact af (.a 1 I<|.k [6] I)<|az<|⟨_,aE.of I,tc,by rw[he];rfl,by rw[ht]⟩
  ·have h0:p0=true:=by cases p0;cases hc;rfl
   rw[h0]at hp0
   obtain⟨k1,k2⟩:=lC.1 hp0
   obtain⟨b,rfl⟩:=Int.eq_ofNat_of_zero_le k1
   have hb:b<2*T.ae.length:=by omega
   have hb2:b / 2<T.ae.length:=by omega
   obtain⟨p1,hp1⟩:∃q,decide (c<1)=q:=⟨_,rfl⟩
   obtain⟨p2,hp2⟩:∃q,decide (65535<c)=q:=⟨_,rfl⟩
   clear hc
   refine ak<|an<|bP 21 (.raw (.bool (p1||p2))) [0,1,2] I ?_ ?_
   ·refine .a 1 I<|.v (cD I (hp1)) I<|.a 1 I<|?_
    cases p1
    ·exact .a 1 I<|.v (cD I (hp2)) I<|.a 1 I<|.k [21,0,1,2] I
    ·exact .a 3 I<|.k [21,0,1,2] I
   refine aj I (fun hc=>?_) (fun hc=>?_)
   ·have he:ly T (b:Int) c=1:=by
     unfold ly
     rw[hp0,if_pos rfl,if_pos]
     rcases Bool.or_eq_true_iff.1 hc with h|h
     ·rw[h]at hp1;exact .inl (of_decide_eq_true hp1)
     ·rw[h]at hp2;exact .inr (of_decide_eq_true hp2)
    have ht:iA T (b:Int) c=T:=by unfold iA;rw[if_neg (by omega)]
    exact af (.a 1 I<|.k [6] I)<|az<|⟨_,aE.of I,tc,by rw[he];rfl,by rw[ht]⟩
   ·have hcc:1≤c∧c≤65535:=by
     obtain⟨c1,c2⟩:=Bool.or_eq_false_iff.1 hc
     rw[c1]at hp1
     rw[c2]at hp2
     have:=of_decide_eq_false hp1
     have:=of_decide_eq_false hp2
     omega
    have he:ly T (b:Int) c=0:=by unfold ly;rw[hp0,if_pos rfl,if_neg (by omega)]
    have ht:iA T (b:Int) c=dt T b c:=by unfold iA;rw[if_pos he];rfl
    refine ak<|aR<|ax 6 I<|bw (kf I I I (by decide) (ya b) (by unfold In64;omega)) I<|ax 1 I<|bw (ni I I I (by decide) (Bs b)) I<|ax 1 I<|bw (aJ (b / 2*7) I) I<|ax 1 I<|bw (sx (j:=b % 2) I (bG.ar.get I) I I (by omega) (by omega) (by omega)) I<|ba (cm I (bG.tk.get I) I I I (by show b / 2*7+2+b % 2<(ct T.ae).length;rw[pC];omega)) I I<|aH [0,1] I ?_
    refine dF (σ':=ev (dt T b c) D d N (aO T D d false) (num tc)) (by
     have e:over (ct T.ae) (b / 2*7+2+b % 2) [num c]=ct (dt T b c).ae:=by
      rw[xh _ _ _ (by rw[pC];omega)]
      exact xi T.ae (b / 2) (b % 2) c hb2 (by omega)
     have e2:(dt T b c).ae.length=T.ae.length:=by simp[dt]
     unfold ev
     rw[e2,←e]
     rfl) ?_
    refine aR<|ax 3 I<|b7 I I (aW.mono (nq (hT.cost b c hb hcc) (xM (D:=D) (d:=d) hb) (aO T D d false) hT.qf hT.len hT.ub tc [(b:Int)] (by simp) (fun x hx=>by simp at hx;subst hx;simp[dt];omega) (fun x hx _=>⟨b,by simp,by rw[hx]⟩)) (fun _ σ' h=>?_))
    obtain⟨tc',rfl⟩:=h
    refine aH [] I ?_
    exact af (.a 1 I<|.k [6] I)<|az<|⟨_,aE.of I,tc',by rw[he];rfl,by rw[ht]⟩
theorem xB(hT:iF T D N d)(tc a:Int)(v:Bool):
  aW Tryz.prog 8 [.ptr 0 0,num a,flag v] (ev T D d N (aO T D d false) (num tc)) (fun r σ'=>∃tc',r=num (rG T a)∧σ'=ev T (kb T D a v) d N (aO T (kb T D a v) d false) (num tc')):=by
 have hll:=bX hT.valid
 have hm:=hT.mask
 refine bO Tryz.func8 I Tryz.ntmps8 I<|af (.a 1 I<|.k [0,1,2] I)<|an<|af (.a 2 I<|.k [0,1,2,8] I)<|aj I (fun hc=>?_) (fun hc=>?_)
 ·cases hc
 ·refine ak<|an ?_
  obtain⟨p0,hp0⟩:∃q,dS T a=q:=⟨_,rfl⟩
  refine af (.a 5 I<|.v (oM I (ai.cons (eb []).jY (ai.cons aD.pure ai.nil)) (hp0▸mN T (by omega) a)) I<|.a 1 I<|.k [0,1,2,15] I)<|aj I (fun hc=>?_) (fun hc=>?_)
  ·have h0:p0=false:=by cases p0;rfl;cases hc
   have he:rG T a=2:=by unfold rG;rw[hp0,h0];rfl
   have ht:kb T D a v=D:=by unfold kb;rw[hp0,h0];rfl
   exact af (.a 1 I<|.k [6] I)<|az<|⟨_,aE.of I,tc,by rw[he];rfl,by rw[ht]⟩
  ·have h0:p0=true:=by cases p0;cases hc;rfl
   rw[h0]at hp0
   obtain⟨k1,k2⟩:=lC.1 hp0
   obtain⟨b,rfl⟩:=Int.eq_ofNat_of_zero_le k1
   have hb:b<2*T.ae.length:=by omega
   have he:rG T (b:Int)=0:=by unfold rG;rw[hp0];rfl
   have ht:kb T D (b:Int) v=D.set b v:=by unfold kb;rw[hp0];rfl
   refine ak<|aR<|ax 6 I<|bw (aJ (b) I) I<|ba ((by first|exact bM I (bG.tk.get I) I I I (by first|omega|(simp;omega))|exact aX I (bG.tk.get I) I I I (by first|omega|(simp;omega)))) I I<|aH [0,1] I ?_
   refine dF (σ':=ev T (D.set b v) d N (aO T D d false) (num tc)) (by unfold ev;rw[List.length_set];rfl) ?_
   refine aR<|ax 3 I<|b7 I I (aW.mono (nq (hT.down b v) (xx (D:=D) (d:=d)) (aO T D d false) hT.qf hT.len hT.ub tc [(b:Int)] (by simp) (fun x hx=>by simp at hx;subst hx;omega) (fun x hx _=>⟨b,by simp,by rw[hx]⟩)) (fun _ σ' h=>?_))
   obtain⟨tc',rfl⟩:=h
   refine aH [] I ?_
   exact af (.a 1 I<|.k [6] I)<|az<|⟨_,aE.of I,tc',by rw[he];rfl,by rw[ht]⟩
theorem xE(hT:iF T D N d)(tc n:Int)(v:Bool):
  aW Tryz.prog 9 [.ptr 0 0,num n,flag v] (ev T D d N (aO T D d false) (num tc)) (fun r σ'=>∃tc',r=num (rX T n)∧σ'=ev (jm T n v) D d N (aO (jm T n v) D d false) (num tc')):=by
 have hll:=bX hT.valid
 have hov:=hT.over
 have hnn:=hT.nodes
 refine bO Tryz.func9 I Tryz.ntmps9 I<|af (.a 1 I<|.k [0,1,2] I)<|an<|af (.a 2 I<|.k [0,1,2,8] I)<|aj I (fun hc=>?_) (fun hc=>?_)
 ·cases hc
 ·refine ak<|an ?_
  obtain⟨p0,hp0⟩:∃q,bH T n=q:=⟨_,rfl⟩
  refine af (.a 5 I<|.v (oM I (ai.cons (eb []).jY (ai.cons aD.pure ai.nil)) (hp0▸dy T n)) I<|.a 1 I<|.k [0,1,2,15] I)<|aj I (fun hc=>?_) (fun hc=>?_)
  ·have h0:p0=false:=by cases p0;rfl;cases hc
   have he:rX T n=2:=by unfold rX;rw[hp0,h0];rfl
   have ht:jm T n v=T:=by unfold jm;rw[hp0,h0];rfl
   exact af (.a 1 I<|.k [6] I)<|az<|⟨_,aE.of I,tc,by rw[he];rfl,by rw[ht]⟩
  ·have h0:p0=true:=by cases p0;cases hc;rfl
   rw[h0]at hp0
   obtain⟨k1,k2⟩:=bu.1 hp0
   obtain⟨b,rfl⟩:=Int.eq_ofNat_of_zero_le k1
   have hb:b<N:=by omega
   have he:rX T (b:Int)=0:=by unfold rX;rw[hp0];rfl
   have ht:jm T (b:Int) v=cq T b v:=by unfold jm;rw[hp0];rfl
   have hT2:=hT.cq b v
   have hev:=nh (cq T b v) hT2.valid
   rw[show(cq T b v).nodes.toNat=N by have:=hT2.nodes;omega]at hev
   have hrl:=cQ (aB (cq T b v)) N (2*(cq T b v).ae.length)
   have hrow:(ca (aB (cq T b v)) N (2*(cq T b v).ae.length)).getD b []=aP (cq T b v) false b:=dH _ _ _ _ hb
   have hal:=gT (cq T b v) false b
   have hll2:(cq T b v).ae.length=T.ae.length:=rfl
   have hbnd:∀x∈aP (cq T b v) false b,0≤x∧x<2*((cq T b v).ae.length:Int):=fun x hx=>by
    unfold aP at hx
    obtain⟨y,hy,rfl⟩:=List.mem_map.1 hx
    have:=List.mem_range.1 (List.mem_filter.1 hy).1
    simp only[Int.ofNat_eq_natCast]
    omega
   refine ak<|aR<|ax 7 I<|bw (aJ (b) I) I<|ba ((by first|exact bM I (bG.tk.get I) I I I (by first|omega|(simp;omega))|exact aX I (bG.tk.get I) I I I (by first|omega|(simp;omega)))) I I<|aH [0,1] I ?_
   refine dF (σ':=ev (cq T b v) D d N (aO T D d false) (num tc)) (by unfold ev cq;simp only[List.length_set];rfl) ?_
   refine aR<|ax 5 I<|bw (iG I (ai.cons (eb []).jY ai.nil) hev) I<|ax 1 I<|bw (aJ (b) I) I<|bw (aK I ((show((ca (aB (cq T b v)) N (2*(cq T b v).ae.length)).map aw)[b]? =some (aw (aP (cq T b v) false b)) by rw[←hrow];simp[hrl,hb]))) I<|b7 I I (aW.mono (nq hT2 (xq (D:=D) (d:=d) hT.sound) (aO T D d false) hT.qf hT.len hT.ub tc (aP (cq T b v) false b) (by omega) hbnd (fun x hx hxl=>⟨x,(fP (cq T b v) false b x).2 ⟨hxl,hx⟩,rfl⟩)) (fun _ σ' h=>?_))
   obtain⟨tc',rfl⟩:=h
   refine aH [] I ?_
   exact af (.a 1 I<|.k [6] I)<|az<|⟨_,aE.of I,tc',by rw[he];rfl,by rw[ht]⟩
end
end
end PW
end Go.Proofs.YteikppbedmmdnaaGreatDoor
