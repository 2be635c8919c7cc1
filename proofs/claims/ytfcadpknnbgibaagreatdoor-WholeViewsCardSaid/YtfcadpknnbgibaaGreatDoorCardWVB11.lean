/- WholeViews returns true for every input: after any changes every node computes the tables of the topology as it is then, for all nodes, alone from what has been advertised. Package-level tables start as the program's text lays them. -/
import Derived.Test.YtfcadpknnbgibaaGreatDoorCardWVB10
set_option maxRecDepth 100000
set_option maxHeartbeats 4000000
namespace Go.Proofs.YtfcadpknnbgibaaGreatDoor.wholeViews
open Go.Proofs.Tryz
open Go.ChangeShapes Go.WideShapes Go.ChangeAt Go.RowKit
open cm Mem PW
theorem lifted(os:Os)(started:os.Started)(H:Type)(enc:TypeId×Value->H):
  ReturnsInHanded {} Tryz.checked os 3 .any (λw args=>(Rows.wholeViewsSpec.pre enc prog Tryz.f3 [] false w args/\laidMetH prog Rows.wholeViewsRow.laid w)/\sizedMet enc prog Tryz.f3 (OpenSpec.ofChange Rows.wholeViewsSpec) false w args)
   (Rows.wholeViewsSpec.post enc prog Tryz.f3 false true false false):=by
 refine returnsInHanded_of_change_and (C:=Tryz.checked) (X:=λw _=>laidMetH prog Rows.wholeViewsRow.laid w) (λ_ _ _ E h=>h.of_heap E) own started (by kernel_rfl) func3
  (ChangeSpec.witness_shaped (enc:=enc) (C:=Tryz.checked) (os:=os) (X:=λw _=>laidMetH prog Rows.wholeViewsRow.laid w) false (World.doorLaid prog 400 os) #[.agg #[.int .i64 0,.slice none 0 0,.slice none 0 0],.slice none 0 0] 8 rfl (World.shaped_of_RefB (by kernel_rfl) (by kernel_rfl)) (by kernel_rfl) (by kernel_rfl) (by kernel_rfl) (laidMetH_of_parts3 (fuel:=8) (laidMet_of_run' 8 (by kernel_rfl) (by kernel_rfl)) (by kernel_rfl) (by kernel_rfl))) ?_
 intro W base args u gs before b n _ _ A _;have a:∀(j:Nat) t v,Tryz.f3.params[j]? =some t->args[j]? =some v->Value.okWide prog W .any base t v:=b;have g:=n;obtain⟨p,q,f,B,rfl,D,F⟩:=n;have m:DataW.TrodAll enc prog W 0 (λ_=>true) true Tryz.f3.params.toList args.toList u p:=f;rw[Tryz.params3]at m a;obtain⟨v0,K,d0,y,p0,N,i,rfl,rfl,h0,G⟩:=trodAll_cons m;obtain⟨v1,L,d1,z,M,O,rfl,rfl,rfl,h1,J⟩:=trodAll_cons G;obtain⟨rfl,rfl,rfl⟩:=trodAll_nil J;obtain rfl:args= #[v0,v1]:=by cases args;simp_all
 obtain⟨rfl,rfl⟩:=trodVars_none B;have k:=P8 h0;obtain⟨T,o⟩:=O6 (a 0 25 v0 rfl rfl) h0;have l:=P8 h1;obtain⟨c,s⟩:=Rq (a 1 26 v1 rfl rfl) h1;clear f b;refine((wD T c.l c.h) (λ_=>False) W #[v0,v1] (λ_ h=>h.elim) (Hj A) (XP o (XP s (Yn _ _)))).mono λe W' ⟨x,he,d,r,hr,hx⟩=>?_;subst hr;cases hx;subst he;exact⟨_,rfl,_,_,_,[],_,[],g,trodAll_mk1 (shut_bool Tryz.underlying4 _),(trodAll_cons_mk (Below.trod laidOut (by kernel_rfl) (Vg (by kernel_rfl)) h0 d k) (trodAll_cons_mk (Below.trod laidOut (by kernel_rfl) (Vg (by kernel_rfl)) h1 d l) trodAll_mk0)),rfl,d.frame _,λh=>by cases h⟩
theorem Ug:(Rows.wholeViewsRow.inPlace==prog.inPlace 3)=true:=by kernel_rfl
theorem Uh:(Rows.wholeViewsRow.unfollowed==prog.unfollowed 3)=true:=by kernel_rfl
theorem Ui:(Rows.wholeViewsRow.recurses==prog.recurses 3)=true:=by kernel_rfl
theorem Ti:(Rows.wholeViewsRow.named==prog.varsNamed 3)=true:=by kernel_rfl
theorem closed:joinedFacts prog 3 Tryz.f3 Rows.wholeViewsSpec Rows.wholeViewsRow=true:=by
 unfold joinedFacts;rw[Ug,Uh,Ui,Ti]
 kernel_rfl
theorem over:Rows.wholeViewsRow.holds Tryz.pinned (OpenSpec.ofChange Rows.wholeViewsSpec):=
 OpenClaim.holds_of_wide 3 Tryz.f3 rfl rfl rfl rfl rfl rfl rfl ⟨rfl,rfl,rfl,rfl,rfl⟩ rfl rfl rfl rfl rfl (by kernel_rfl) func3 closed
  (Vg (by kernel_rfl)) (by unfold Func.isWrapper;first|(rw[Vn (by decide+kernel)];kernel_rfl)|(rw[Vk (by decide+kernel)];exact⟨rfl,rfl⟩))
  (λos started H enc _=>lifted os started H enc)
theorem proved:Rows.WholeViewsCardSaid:=
 Claim7.holds_tied_plain_at .later [] [.data,.data,.data] true (true,"e22565dbf1c31a42097e06e712fdcd669265f739c4017d8fd98e8fcb8c0831a9") false
  over (λ_ h=>by cases h) (by kernel_rfl) (λ_ h=>by cases h) wholeViews_row_tie rfl ⟨rfl,rfl⟩ (by kernel_rfl) rfl
  (λf fn d b=>by
   obtain rfl:f=3:=XA ((show prog.funcNamed "waypoint/waypointtop.WholeViews" =some 3 by kernel_rfl).symm.trans d) |>.symm;obtain rfl:fn=Tryz.f3:=(XA (func3.symm.trans b)).symm;exact⟨by kernel_rfl,λj t c=>by
    rw[Tryz.params3]at c;have hm:t∈[25,26]:=by simpa using Yp c
    have a:([25,26].all λu=> !prog.wantsStandIn u)=true:=by kernel_rfl
    exact(show prog.wantsStandIn t=false by simpa using VG.1 a t hm)⟩)
  (by kernel_rfl)
end Go.Proofs.YtfcadpknnbgibaaGreatDoor.wholeViews
