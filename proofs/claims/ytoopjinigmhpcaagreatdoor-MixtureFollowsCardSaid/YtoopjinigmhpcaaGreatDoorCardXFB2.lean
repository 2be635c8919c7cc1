/- Part 2. -/
import Derived.Test.YtoopjinigmhpcaaGreatDoorProg
import Derived.Deep.Slices
import Derived.Lib.SmallJoins
import Derived.OpenShut
import Derived.Test.YtoopjinigmhpcaaGreatDoorRows
import Derived.Test.YtoopjinigmhpcaaGreatDoorCards
import Derived.Test.YtoopjinigmhpcaaGreatDoorTie
import Derived.ShutString
import Derived.ChangeOld
import Derived.LaidMore
import Derived.Stop.Joined
import Derived.SevenTiedAt
import Derived.Lib.LaidTab
import Derived.RangeFuncNested
import Derived.RangeFuncBound
import Derived.RangeFuncCalls
import Derived.RangeFuncLeaves
import Derived.Shelf.Abstract
import Derived.Shelf.RegionOpen
import Derived.OwnWalkIn
import Derived.TacticsInMore
import Derived.LoopNIn
import Derived.LoopIn
import Derived.Test.YtoopjinigmhpcaaGreatDoorCardXFB1
set_option maxRecDepth 100000
set_option maxHeartbeats 4000000
namespace Go.Proofs.YtoopjinigmhpcaaGreatDoor
open Go.Proofs.Tryz
namespace PW
section
open Go.RowKit cG Mem
section
variable {P:Program} {σ:ca} {t:cq} {o:Oper}
theorem ql{ty e s j n h i:Nat}{x d}{xs:List PV}{k}{m:Int}(K:o.op= .slice ty x none (some d) none)(he:vS P ty=some (e,s))(hx:aH t x=some (.own i))(hi:σ[i]? =some (some (.row j s n xs)))(C:aH t d=some (.raw (.int k m)))(D:m=(h:Int))(hl:h<=n):
  cK P σ t o (.own σ.length) (σ.set i none++[some (.row j s h (xs.take (h*s)))]):=by
 intro F base E ρ w q r J;have h1:=aD q J hx;have h2:=aD q J C;obtain⟨hu,inf,a,hs⟩:=gJ he;generalize M:ρ x=v at h1;generalize p:ρ d=u at h2;cases h2;subst D;cases h1 with
 |own _ Q _ l L=>
  obtain⟨cs,y,T⟩:=r.blk i _ hi;rw[l]at y;have G:bL (E.at_ i)=v.ownBlock:=by rw[l];exact ig y
  have key:∀v',(execOp ρ o).run P w= .ok (.value v') w->w.ownsRow base j s v' h (cs.take (h*s))->v'.ownBlock=v.ownBlock->v'.oneCell'=true->
    ∃v w' E',((execOp ρ o).run P w= .ok (.value v) w'\/(v=undef/\(execOp ρ o).run P w= .ok .skip w'))/\Sat F base (σ.set i none++[some (.row j s h (xs.take (h*s)))]) E' w'/\de E w E' w'/\Below base w w'/\cZ E' w' v (.own σ.length):=by
   intro v' hr c hw f;obtain⟨N,a2⟩:=r.swap (w':=w) (blk:=.row j s h (xs.take (h*s))) hi (Rc _) (λk hk S=>rfl) (v:=v') (λb hb=>by
    rw[ig c]at hb;rw[G,<-hw];exact .inl hb) (λE' g=>⟨_,c,(T.take (h*s)).goes g⟩)
   exact⟨v',w,_,.inl hr,N,a2,Below.refl _ _,.own σ.length (by simp[Env.push,Env.kill,r.len]) v' (by simp[Env.push,Env.kill,r.len]) f⟩
  have z:=y.1;rcases y.2 with⟨rfl,h0⟩|⟨g,cap,cur,rfl,hb,O,R,A,B,H⟩
  ·subst h0;obtain rfl:h=0:=by omega
   have hr:(execOp ρ o).run P w= .ok (.value (.slice none 0 0)) w:=by
    simp[execOp,K,M,p,Instr.sliceAt,run_underlying hu,Instr.slice,Instr.sliceBounds,Instr.sliceBound,asIntOf,sizeOf,typeInfo,a]
   exact key _ hr (by simpa using World.ownsRow_nil w base j s) I I
  ·have hr:(execOp ρ o).run P w= .ok (.value (.slice (some ⟨g,0,none⟩) h cap)) w:=by
    have:h<=cap:=by omega
    simp[execOp,K,M,p,Instr.sliceAt,run_underlying hu,Instr.slice,Instr.sliceBounds,Instr.sliceBound,asIntOf,this,sizeOf,typeInfo,a,Addr.add]
   refine key _ hr ⟨?_,.inr ⟨g,cap,cur,rfl,hb,O,by omega,A,B,?_⟩⟩ rfl rfl
   ·rw[Sg,z];exact Tt (Sk _ hl)
   ·rw[<-H,TH,Tt (Sk _ hl)]
theorem dM{ty e s:Nat}{z}(g:o.op= .buildSlice ty 0 #[])(hk:MW P ty=some (e,s,z)):cK P σ t o (.own σ.length) (σ++[some (.row e s 0 [])]):=by
 intro F base E ρ w l c m;obtain⟨hu,i,p,hi,hs,n,k,j,d⟩:=qM hk;have a:(Instr.buildSlice ty 0 #[]).run P w= .ok (.slice (some ⟨w.heap.size,0,none⟩) 0 0) (w.alloc (.cells #[] e)):=by
  have:Array.map (λ_:Nat=>(default:Value)) (Array.range 0)= #[]:=by simp[Array.range]
  simp[Instr.buildSlice,run_underlying hu,sizeOf,typeInfo,hi,Instr.fill,newRow,this]
 have hr:(execOp ρ o).run P w= .ok (.value (.slice (some ⟨w.heap.size,0,none⟩) 0 0)) (w.alloc (.cells #[] e)):=by
  simp only[execOp,g,Sem.run_bind,SZ,So,a,Result.andThen_ok,Sem.run_pure]
 obtain⟨f,a2,a3,a4⟩:=qm c ((Tc w).alloc (.cells #[] e)) (λb h=>by simp[bL]at h;omega) (World.ownsRow_lit (base:=base) (e:=e) (size:=s) w #[] 0 c.bl (RQ _) (by simp)) (TQ E w);exact⟨_,_,_,.inl hr,f,a2,a3,a4⟩
end
section
variable {P:Program} {σ:ca} {t:cq} {o:Oper}
def rL(P:Program)(ty:TypeId):Bool:=match P.underlying ty with|some (.pointer _)=>true|_=>false
theorem oT{ty}(h:rL P ty=true)(a:Addr)(w:World):(Op.equal ty (.pointer (some a)) (.pointer none)).run P w= .ok false w:=by
 unfold rL at h;split at h
 ·rename_i e hu;have key:∀d,(Op.equalIn (d+1) ty (.pointer (some a)) (.pointer none)).run P w= .ok false w:=λd=>by
   simp only[Op.equalIn,Sem.run_bind,run_underlying hu,Result.andThen_ok,Sem.run_pure]
  exact key 9999
 ·cases h
theorem vG{x y ty g}{i k:Nat}(e:o.op= .binOp .eql ty x y g)(hk:rL P ty=true)(hx:aH t x=some (.ptr i k))(hy:aH t y=some (.raw (.pointer none))):bE P σ t o (.raw (.bool false)):=by
 intro F base E ρ w a _ d;have h1:=aD a d hx;have h2:=aD a d hy;generalize f:ρ x=z at h1;generalize c:ρ y=j at h2;cases h2;cases h1 with
 |ptr _ _ b hi h=>
  simp only[execOp,e,f,c,Sem.run_bind,eqGuard,binOp,oT hk,Result.andThen_ok,Sem.run_pure];exact bI (.raw _)
theorem JV{x y ty g xs}{k:Nat}(e:o.op= .binOp .eql ty x y g)(hk:rL P ty=true)(hx:aH t x=some (.bq xs k))(hy:aH t y=some (.raw (.pointer none))):bE P σ t o (.raw (.bool false)):=by
 intro F base E ρ w a _ d;have h1:=aD a d hx;have h2:=aD a d hy;generalize f:ρ x=z at h1;generalize c:ρ y=h at h2;cases h2;cases h1 with
 |bq b o' _ cs _ hb hM hc hl hr=>
  simp only[execOp,e,f,c,Sem.run_bind,eqGuard,binOp,oT hk,Result.andThen_ok,Sem.run_pure];exact bI (.raw _)
theorem BC{x y ty g}{i k:Nat}(e:o.op= .binOp .neq ty x y g)(hk:rL P ty=true)(hx:aH t x=some (.ptr i k))(hy:aH t y=some (.raw (.pointer none))):bE P σ t o (.raw (.bool true)):=by
 intro F base E ρ w a _ d;have h1:=aD a d hx;have h2:=aD a d hy;generalize f:ρ x=z at h1;generalize c:ρ y=j at h2;cases h2;cases h1 with
 |ptr _ _ b hi h=>
  simp only[execOp,e,f,c,Sem.run_bind,eqGuard,binOp,oT hk,Result.andThen_ok,Sem.run_pure];exact bI (.raw _)
def wo(P:Program)(ty:TypeId):Bool:=match P.underlying ty with|some .bool=>true|_=>false
theorem vb{ty}(h:wo P ty=true)(a b:Bool)(w:World):(Op.equal ty (.bool a) (.bool b)).run P w= .ok (a==b) w:=by
 unfold wo at h;split at h
 ·rename_i hu;have key:∀d,(Op.equalIn (d+1) ty (.bool a) (.bool b)).run P w= .ok (a==b) w:=λd=>by
   simp only[Op.equalIn,Sem.run_bind,run_underlying hu,Result.andThen_ok,Sem.run_pure]
  exact key 9999
 ·cases h
theorem GR{x y ty e a b q}(c:o.op= .binOp .eql ty x y e)(hk:wo P ty=true)(hx:aH t x=some (.raw (.bool a)))(hy:aH t y=some (.raw (.bool b)))(d:(a==b)=q):bE P σ t o (.raw (.bool q)):=by
 refine By c hx hy λw=>?_;simp[eqGuard,binOp,vb hk,d]
theorem GS{x y ty e a b q}(c:o.op= .binOp .neq ty x y e)(hk:wo P ty=true)(hx:aH t x=some (.raw (.bool a)))(hy:aH t y=some (.raw (.bool b)))(d:(!(a==b))=q):bE P σ t o (.raw (.bool q)):=by
 refine By c hx hy λw=>?_;simp[eqGuard,binOp,vb hk,d]
end
def Env.fj(E:Env)(vs:List Value):Env:=⟨E.L+vs.length,λi=>if i<E.L then E.at_ i else vs.getD (i - E.L) undef,λb=>E.M b\/∃v∈vs,bL v=some b⟩
theorem Sat.fj{F:Nat->Prop}{base:Nat}{σ}{E:Env}{w w':World}(f:Sat F base σ E w)(r:Ext w w')(vs:List Value)(n:List cX)(hl:vs.length=n.length)(hv:∀v∈vs,∀b,bL v=some b->w.heap.size<=b)
  (hd:∀(i j:Nat) u v b,vs[i]? =some u->vs[j]? =some v->bL u=some b->bL v=some b->i=j) (hb:∀(i:Nat) v blk,vs[i]? =some v->n[i]? =some blk->iz base (E.fj vs) w' v blk):
  Sat F base (σ++n.map some) (E.fj vs) w'/\de E w (E.fj vs) w':=by
 have g:de E w (E.fj vs) w':=⟨Nat.le_add_right _ _,λi hi=>by simp[Env.fj,hi],λb hb hM h=>by
  rcases h with h|⟨v,h1,h2⟩
  ·exact hM h
  ·have:=hv v h1 b h2;omega,r.size,λb h _=>r.block b h⟩
 have c:∀i,i<σ.length->(E.fj vs).at_ i=E.at_ i:=λi hi=>g.at_ i (by rw[f.len];exact hi);have a:∀(j:Nat) v,vs[j]? =some v->(E.fj vs).at_ (σ.length+j)=v:=λj v m=>by
  simp only[Env.fj,f.len];rw[QZ (by omega),Nat.add_sub_cancel_left,QU,m]
  rfl
 have split:∀i (b:cX),(σ++n.map some)[i]? =some (some b)->(i<σ.length/\σ[i]? =some (some b))\/(∃j v,i=σ.length+j/\n[j]? =some b/\vs[j]? =some v):=λi b h=>by
  by_cases hi:i<σ.length
  ·rw[Q9 hi]at h;exact .inl ⟨hi,h⟩
  ·rw[RD (by omega),RE,R8]at h;obtain⟨b',h1,h2⟩:=h;cases h2;have m:i - σ.length<vs.length:=by rw[hl];exact(QT.1 h1).1
   exact .inr ⟨i - σ.length,vs[i - σ.length],by omega,h1,by simp[m]⟩
 refine⟨⟨Rr f.bl r.size,λb o=>⟨RH (f.fb b o).1 r.size,λi bl hi=>?_⟩,by simp[Env.fj,f.len,hl],λb=>?_,λi bl hi=>?_,λi j bi bj b hi m d e=>?_,f.gl.goes g⟩,g⟩
 ·rcases split i bl hi with⟨h1,h2⟩|⟨j,v,rfl,h2,l⟩
  ·rw[c i h1];exact(f.fb b o).2 i bl h2
  ·rw[a j v l];intro h;have:=hv v (Ro l) b h;have:=(f.fb b o).1;omega
 ·constructor
  ·rintro(h|⟨v,h1,h2⟩)
   ·rcases(f.mm b).1 h with h|⟨i,bl,h1,h2⟩
    ·exact .inl h
    ·have hi:i<σ.length:=(QT.1 h1).1;exact .inr ⟨i,bl,by rw[Q9 hi];exact h1,by rw[c i hi];exact h2⟩
   ·obtain⟨j,m⟩:=Rv h1;have t:j<n.length:=by rw[<-hl];exact(QT.1 m).1
    exact .inr ⟨σ.length+j,n[j],by rw[RD (by omega)];simp[t],by rw[a j v m];exact h2⟩
  ·rintro(h|⟨i,bl,h1,h2⟩)
   ·exact .inl ((f.mm b).2 (.inl h))
   ·rcases split i bl h1 with⟨l,q⟩|⟨j,v,rfl,q,p⟩
    ·rw[c i l]at h2;exact .inl ((f.mm b).2 (.inr ⟨i,bl,q,h2⟩))
    ·rw[a j v p]at h2;exact .inr ⟨v,Ro p,h2⟩
 ·rcases split i bl hi with⟨h1,h2⟩|⟨j,v,rfl,h2,l⟩
  ·rw[c i h1];exact(f.blk i bl h2).goes g (λb hb=>r.block b ((f.blk i bl h2).lt hb).2)
  ·rw[a j v l];exact hb j v bl l h2
 ·rcases split i bi hi with⟨h1,h2⟩|⟨k,v,rfl,h2,l⟩<;>rcases split j bj m with⟨q,p⟩|⟨k',v',rfl,p,s⟩
  ·rw[c i h1]at d;rw[c j q]at e;exact f.inj i j bi bj b h2 p d e
  ·rw[c i h1]at d;rw[a k' v' s]at e;have:=((f.blk i bi h2).lt d).2;have:=hv v' (Ro s) b e;omega
  ·rw[a k v l]at d;rw[c j q]at e;have:=((f.blk j bj p).lt e).2;have:=hv v (Ro l) b d;omega
  ·rw[a k v l]at d;rw[a k' v' s]at e;rw[hd k k' v v' b l s d e]
class we (p:PV):Prop where
 out:∀(E:Env) (w w':World) (v:Value),cZ E w v p->cZ E w' v p
 Qh:∀(E:Env) (w:World) (v v':Value),cZ E w v p->cZ E w v' p->v=v'
instance (v:Value):we (.raw v):=⟨λ_ _ _ _ h=>by cases h;exact .raw _,λ_ _ _ _ h h'=>by cases h;cases h';rfl⟩
instance (i:Nat):we (.own i):=⟨λ_ _ _ _ h=>by cases h with|own _ hi _ h hs=>exact .own i hi _ h hs,λ_ _ _ _ h h'=>by
 cases h with
 |own _ _ _ h _=>cases h' with
  |own _ _ _ h' _=>rw[<-h,<-h']⟩
instance (i k:Nat):we (.ptr i k):=⟨λ_ _ _ _ h=>by cases h with|ptr _ _ b hi h=>exact .ptr i k b hi h,λE w v v' h h'=>by
 cases h with
 |ptr _ _ b _ h=>cases h' with
  |ptr _ _ b' _ h'=>
   have:b=b':=by
    rcases h with h|⟨n,c,h⟩<;>rcases h' with h'|⟨n',c',h'⟩<;>rw[h]at h'<;>simp at h'<;>first|exact h'|exact h'.1
   rw[this]⟩
section
variable {P:Program} {ops:Array Oper} {N L:Nat}
def np(P:Program)(t:cq)(o:Oper)(p:PV):Prop:=∀E ρ w,mq ρ->dt E w ρ t->∃v,(∀w',(execOp ρ o).run P w'= .ok (.value v) w')/\cZ E w v p
theorem jQ{t}{o:Oper}{x p}(c:o.op= .move x)(hx:aH t x=some p):np P t o p:=λE ρ w a b=>
 ⟨ρ x,λw'=>by simp only[execOp,c,Sem.run_pure],aD a b hx⟩
theorem OP{t}{o:Oper}{op x y ty i k}{a b:Int}{v}(g:o.op= .binOp op ty x y i)(hx:aH t x=some (.raw (.int k a)))(hy:aH t y=some (.raw (.int k b)))
  (hv:∀w,(binOp op ty (.int k a) (.int k b)).run P w= .ok v w):np P t o (.raw v):=λE ρ w c e=>by
 have h1:=aD c e hx;have h2:=aD c e hy;generalize h:ρ x=z at h1;generalize d:ρ y=j at h2;cases h1;cases h2;have f:∀w,(eqGuard op ty x y (.int k a) (.int k b)).run P w= .ok () w:=by
  intro w;unfold eqGuard;split<;>rfl
 exact⟨v,λw'=>by simp only[execOp,g,h,d,Sem.run_bind,Sem.run_pure,Result.andThen_ok,f,hv],.raw _⟩
theorem OQ{t}{o:Oper}{x y ty e}{a b c:Int}(d:o.op= .binOp .sub ty x y e)(hx:aH t x=some (.raw (.int .i64 a)))(hy:aH t y=some (.raw (.int .i64 b)))(hc:a - b=c)(hn:In64 c):np P t o (.raw (.int .i64 c)):=
 OP d hx hy λw=>by simp[binOp,Op.intArith,hc,lA hn]
theorem np.y{t o p σ}(h:np P t o p):bE P σ t o p:=λF base E ρ w a _ b=>by
 obtain⟨v,h1,h2⟩:=h E ρ w a b;rw[h1];exact bI h2
def o4:List Oper->List PV->cq->cq
 |o::l,p::ps,t=>o4 l ps (match o.dst with|some d=>(d,p)::t|none=>t)
 |_,_,t=>t
inductive kC (P:Program) (N:Nat) (ops:Array Oper) (σ:ca):List Oper->List PV->List Bool->cq->Prop
 |nil {t:cq}:kC P N ops σ [] [] [] t
 |val {o:Oper} {rest:List Oper} {t:cq} {d:Nat} {p:PV} {ps:List PV} {fs:List Bool} (ks:List Nat):(ks.all λk=>(o.looksAt ops).contains k)=true->bE P σ (iN t ks) o p->o.dst=some d->Nat.blt d N=true->kC P N ops σ rest ps fs ((d,p)::t)->kC P N ops σ (o::rest) (p::ps) (false::fs) t
 |late {o:Oper} {rest:List Oper} {t:cq} {d:Nat} {p:PV} {ps:List PV} {fs:List Bool} (ks:List Nat):(ks.all λk=>(o.looksAt ops).contains k)=true->np P (iN t ks) o p->we p->o.dst=some d->Nat.blt d N=true->kC P N ops σ rest ps fs ((d,p)::t)->kC P N ops σ (o::rest) (p::ps) (true::fs) t
structure Datum (P:Program) (N:Nat) (ops:Array Oper) (σ:ca) (o:Oper) (p:PV) (fl:Bool) (t:cq):Prop where
 dst:∃d,o.dst=some d/\d<N
 y:∃ks,(∀k∈ks,k∈o.looksAt ops)/\bE P σ (iN t ks) o p
 r:fl=true->we p/\∃ks,(∀k∈ks,k∈o.looksAt ops)/\np P (iN t ks) o p
theorem kC.data{σ}{l:List Oper}{ps:List PV}{fs:List Bool}{t}(h:kC P N ops σ l ps fs t):ps.length=l.length/\fs.length=l.length/\∀(i:Nat) o p f,l[i]? =some o->ps[i]? =some p->fs[i]? =some f->Datum P N ops σ o p f (o4 (l.take i) (ps.take i) t):=by
 have mem:∀ {ks:List Nat} {o:Oper},(ks.all λk=>(o.looksAt ops).contains k)=true->∀k∈ks,k∈o.looksAt ops:=λh k hk=>by
  have:=Rq.1 h k hk;simpa using this
 induction h with
 |nil=>exact⟨rfl,rfl,λi o p f h=>by simp at h⟩
 | @val o rest t d p ps fs ks hks hy hd hN _ b=>
  refine⟨by simp[b.1],by simp[b.2.1],λi o' p' f h1 h2 a=>?_⟩;cases i with
  |zero=>
   simp at h1 h2 a;subst h1;subst h2;subst a;exact⟨⟨d,hd,Nat.blt_eq.mp hN⟩,⟨ks,mem hks,hy⟩,λe=>by cases e⟩
  |succ i=>
   have:=b.2.2 i o' p' f (by simpa using h1) (by simpa using h2) (by simpa using a);simpa[o4,hd]using this
 | @late o rest t d p ps fs ks hks hy c hd hN _ b=>
  refine⟨by simp[b.1],by simp[b.2.1],λi o' p' f h1 h2 a=>?_⟩;cases i with
  |zero=>
   simp at h1 h2 a;subst h1;subst h2;subst a;exact⟨⟨d,hd,Nat.blt_eq.mp hN⟩,⟨ks,mem hks,hy.y⟩,λ_=>⟨c,ks,mem hks,hy⟩⟩
  |succ i=>
   have:=b.2.2 i o' p' f (by simpa using h1) (by simpa using h2) (by simpa using a);simpa[o4,hd]using this
def cL(ops:Array Oper)(i:Nat):Option Nat:=(ops[i]?).bind (·.dst)
def eW(ops:Array Oper)(i:Nat):List Nat:=match ops[i]? with|some o=>o.looksAt ops|none=>[]
def KP(ops:Array Oper)(f m:Nat)(fl:List Bool):Bool:=
 decide (m<=ops.size)&&Nat.beq fl.length m&&
 ((List.range ops.size).all λi=>(nq ops i).all λk=>decide (k<i))&&
 ((List.range ops.size).all λi=>((ops[i]?).all λo=>o.guard.isNone))&&
 ((List.range m).all λi=>(List.range i).all λj=>cL ops i !=cL ops j)&&
 ((List.range m).all λj=>(eW ops j).all λk=>(List.range m).all λi=>cL ops i !=some k||(decide (i<j)&&(nq ops j).contains i))&&
 ((List.range ops.size).all λi=>decide (i<m)||(List.range i).all λj=>fl.getD j false||fT ops f i j)&&
 ((List.range ops.size).all λi=>decide (i<m)||(List.range m).all λj=> !fl.getD j false||((cL ops j).all λd=> !(eW ops i).contains d||fT ops f i j))&&
 ((List.range ops.size).all λi=>decide (i<m)||(List.range m).all λj=> !fl.getD j false||((cL ops i).all λd=>cL ops j !=some d&& !(eW ops j).contains d))
structure Form (ops:Array Oper) (f m:Nat) (fl:List Bool):Prop where
 le:m<=ops.size
 PJ:fl.length=m
 nq:∀i,i<ops.size->∀k∈nq ops i,k<i
 ng:∀(i:Nat) (o:Oper),ops[i]? =some o->o.guard=none
 ss:∀i j,i<m->j<i->cL ops i≠cL ops j
 rd:∀j,j<m->∀k∈eW ops j,∀i,i<m->cL ops i=some k->i<j/\i∈PW.nq ops j
 Qf:∀i,i<ops.size->m<=i->∀j,j<i->fl.getD j false=false->fT ops f i j=true
 use:∀i,i<ops.size->m<=i->∀j,j<m->fl.getD j false=true->∀d,cL ops j=some d->d∈eW ops i->fT ops f i j=true
 wr:∀i,i<ops.size->m<=i->∀j,j<m->fl.getD j false=true->∀d,cL ops i=some d->cL ops j≠some d/\d∉eW ops j
theorem E0{f m:Nat}{fl}(h:KP ops f m fl=true):Form ops f m fl:=by
 unfold KP at h;simp only[Q7]at h;obtain⟨⟨⟨⟨⟨⟨⟨⟨h1,h2⟩,e⟩,g⟩,l⟩,q⟩,r⟩,s⟩,t⟩:=h;have all:∀ {n:Nat} {p:Nat->Bool},(List.range n).all p=true->∀i,i<n->p i=true:=λh i hi=>Rq.1 h i (Ri.2 hi);refine⟨by simpa using h1,Rp h2,λi hi k hk=>?_,λi o c=>?_,λi j hi a=>?_,λj a k hk i hi hd=>?_,λi hi hm j a b=>?_,λi hi hm j a b d hd hl=>?_,λi hi hm j a b d hd=>?_⟩
 ·have:=Rq.1 (all e i hi) k hk;simpa using this
 ·have hi:i<ops.size:=(Rw.1 c).1;have:=all g i hi;rw[c]at this;simpa using this
 ·have:=all (all l i hi) j a;simpa using this
 ·have:=all (Rq.1 (all q j a) k hk) i hi;rw[hd]at this;simpa using this
 ·have:=all r i hi;simp only[RX,Ra]at this;rcases this with h|h
  ·omega
  ·have:=all h j a;rw[b]at this;simpa using this
 ·have:=all s i hi;simp only[RX,Ra]at this;rcases this with h|h
  ·omega
  ·have:=all h j a;rw[b,hd]at this;simpa[hl]using this
 ·have:=all t i hi;simp only[RX,Ra]at this;rcases this with h|h
  ·omega
  ·have:=all h j a;rw[b,hd]at this;simpa using this
structure G4 (ops:Array Oper) (m:Nat) (fl:List Bool) (ls:Array Bool) (a a₁:Act):Prop where
 lE:a.defers=a₁.defers
 size:a.tmps.size=a₁.tmps.size
 tmp:∀k,(∀j,j<m->fl.getD j false=true->ls.getD j true=false->cL ops j≠some k)->a.eval (.tmp k)=a₁.eval (.tmp k)
def Mt(P:Program)(ops:Array Oper)(m:Nat)(fl:List Bool)(a₁:Act):Prop:=
 ∀j o d,j<m->fl.getD j false=true->ops[j]? =some o->o.dst=some d->∀w,(execOp a₁.eval o).run P w= .ok (.value (a₁.eval (.tmp d))) w
theorem Ft{i:Nat}{o:Oper}(a:ops[i]? =some o){k:Nat}(hk:Operand.tmp k∈o.op.operands):k∈eW ops i:=by
 unfold eW;rw[a];exact SH _ (T2.2 ⟨.tmp k,by simpa using hk,rfl⟩)
theorem po{i:Nat}{o:Oper}{a a₁:Act}(c:ops[i]? =some o)(hs:∀cs b,o.op≠ .select cs b)(h:∀k∈eW ops i,a.eval (.tmp k)=a₁.eval (.tmp k)):execOp a.eval o=execOp a₁.eval o:=by
 refine execOp_congr o hs λx hx=>?_
 match x,hx with
 | .tmp k,hx=>exact h k (Ft c hx)
 | .const v,_=>rfl
 | .global g,_=>rfl
 | .func g,_=>rfl
theorem Nc{a a₁:Act}(hd:a.defers=a₁.defers)(hs:a.tmps.size=a₁.tmps.size)(h:∀k,a.eval (.tmp k)=a₁.eval (.tmp k)):a=a₁:=by
 obtain⟨t,d⟩:=a;obtain⟨t',b⟩:=a₁;simp only at hd hs;subst hd;congr;apply U1 hs;intro i h1 h2;have:=h i;simpa[Act.eval,h1,h2]using this
theorem kU(a:Act){d:Nat}(hd:d<a.tmps.size)(v:Value)(k:Nat):(a.put (some d) v).eval (.tmp k)=if k=d then v else a.eval (.tmp k):=by
 split
 ·rename_i e;subst e;simp[Act.put,Act.eval,hd]
 ·rename_i e;exact Act.eval_put (λc b heq=>by cases b;cases heq;exact e rfl)
def Ha(b:Act->World->Prop):Exit->Act->World->Prop
 | .normal,a,w=>b a w
 |_,_,_=>False
theorem JK{o:Oper}{a a₁:Act}{w}{K g:Act->World->Prop}{i:Act->World->Prop}{Q:Exit->Act->World->Prop}(he:execOp a.eval o=execOp a₁.eval o)(hd:a.defers=a₁.defers)(b:o.wp P a₁ w K (Ha i))(h:∀ds v w',K (({a₁ with defers:=ds}:Act).put o.dst v) w'->g (({a with defers:=ds}:Act).put o.dst v) w'):o.wp P a w g Q:=by
 have h1:∀v w',K (a₁.put o.dst v) w'->g (a.put o.dst v) w':=λv w' hk=>by
  have:=h a₁.defers v w' hk;rw[<-hd]at this;exact this
 unfold Oper.wp at*;rw[he];generalize (execOp a₁.eval o).run P w=x at*;cases x with
 |ok n w'=>
  cases n<;>simp only[Oper.upon]at b ⊢
  case value v=>exact h1 _ _ b
  case skip=>exact h1 _ _ b
  case defer d=>rw[hd];exact h _ _ _ b
  case enter f c=>exact Calls.mono b (λe j he=>by cases e<;>first|exact h1 _ _ he|exact he.elim|exact(he.elim λ_ h=>h.elim λ_ h=>h.elim))
  case row r c=>exact Rows.mono b (λ_ _ he=>h1 _ _ he)
  all_goals exact b.elim
 |halt x w'=>cases x<;>simp only[Oper.upon]at b ⊢ <;>exact b.elim
theorem Im{f m:Nat}{fl:List Bool}(z:Form ops f m fl)(F:∀(i:Nat) (o:Oper),ops[i]? =some o->∀cs b,o.op≠ .select cs b)(ai:∀j,j<m->∃d,cL ops j=some d){Qn:Act->World->Prop}{Q:Exit->Act->World->Prop}(hQ:∀a w,Qn a w->Q .normal a w):
  ∀(fuel k r:Nat) (ls:Array Bool) (a a₁:Act) (w:World),k+r=ops.size->m<=k->ls.size=ops.size->(∀i,k<=i->i<ops.size->ls.getD i true=false)->(∀i,m<=i->i<k->ls.getD i true=true)->(∀i,i<m->fl.getD i false=false->ls.getD i true=true)->Down ops ls->fuel=bS ls m+r->
   G4 ops m fl ls a a₁->Mt P ops m fl a₁->(∀j d,j<m->cL ops j=some d->d<a₁.tmps.size)->wpOps P ops (Ha Qn) (List.range' k r) a₁ w->wpAny P .any ops Q fuel ls a w:=by
 intro fuel;induction fuel with
 |zero=>
  intro k r ls a a₁ w hk hm G Y W hC hD al g K J h;have hr:r=0:=by omega
  subst hr;have hu:bS ls m=0:=by omega
  have Z:∀i,i<ops.size->ls.getD i true=true:=λi hi=>by
   rcases Sf i m with H|H
   ·exact dK hu i H
   ·exact W i H (by omega)
  have ar:Region.ready .any ops ls=[]:=by
   apply TB.2;intro i hi;obtain⟨h1,h2,_⟩:=cT.1 hi;rw[Z i h1]at h2;cases h2
  have:a=a₁:=Nc g.lE g.size λk=>g.tmp k λj n _ hl=>by
   rw[dK hu j n]at hl;cases hl
  subst this;exact⟨ar,hQ a w h⟩
 |succ fuel ih=>
  intro k r ls a a₁ w hk hm G Y W hC hD al g K J h;have hf:∀b c (i:Nat),i<ops.size->ls.getD i b=ls.getD i c:=λb c i hi=>by simp[show i<ls.size by omega]
  have aq:Region.ready .any ops ls≠[]:=by
   rcases SS (bS ls m)with hu|hu
   ·have T:k<ops.size:=by omega
    have:k∈Region.ready .any ops ls:=cT.2 ⟨T,Y k (Rc _) T,λj n=>by
     have:=z.nq k T j n;rw[hf false true j (by omega)];rcases Sf j m with H|H
     ·exact dK hu j H
     ·exact W j H this⟩
    intro h0;rw[h0]at this;cases this
   ·obtain⟨i,h1,h2,h3⟩:=gA hu;have hle:=z.le;have:i∈Region.ready .any ops ls:=cT.2 ⟨by omega,h2,λj n=>by
     have:=z.nq i (by omega) j n;rw[hf false true j (by omega)];exact h3 j this⟩
    intro h0;rw[h0]at this;cases this
  refine⟨λh0=>absurd h0 aq,λi hi=>?_⟩;obtain⟨B,E,M⟩:=cT.1 hi;have C:ops[i]? =some ops[i]:=by simp[B]
  have V:Region.wanted ops[i] (yielded ops a.tmps)=true:=by unfold Region.wanted;rw[z.ng i _ C]
  have l:∀(j:Nat) b,(ls.setIfInBounds i true).getD j b=if j=i then true else ls.getD j b:=λj b=>by
   by_cases e:i=j
   ·subst e;simp[show i<ls.size by omega]
   ·rw[QZ (λh=>e h.symm),Rm,Rm,Rx e]
  have D:Down ops (ls.setIfInBounds i true):=λj n p q u=>by
   rw[l];split
   ·rfl
   ·rw[l]at n;split at n
    ·rename_i e;subst e;exact M q u
    ·exact hD j n p q u
  unfold wpOp;rw[C];simp only[V,Sw];rcases Sf i m with t|t
  ·
   have ak:fl.getD i false=true:=by
    cases hb:fl.getD i false with
    |true=>rfl
    |false=>rw[hC i t hb]at E;cases E
   cases hd:(ops[i]).dst with
   |none=>
    obtain⟨d,aa⟩:=ai i t;simp only[cL,C,R5]at aa;have:=hd.symm.trans aa;cases this
   |some d=>
    have ab:cL ops i=some d:=by simp only[cL,C,R5];exact hd
    have ae:=K i ops[i] d t ak C hd w;have hex:execOp a.eval ops[i]=execOp a₁.eval ops[i]:=po C (F i _ C) λq u=>g.tmp q λj n _ y s=>by
     have:=(z.rd i t q u j n s).2;have:=M j this;rw[hf false true j (by omega),y]at this;cases this
    left;unfold Oper.wp;rw[hex,ae];simp only[Oper.upon];rw[hd];have af:=J i d t ab;refine ih k r _ _ a₁ w hk hm (by simpa using G) (λj n p=>by rw[l,QZ (by omega)];exact Y j n p) (λj n p=>by rw[l,QZ (by omega)];exact W j n p) (λj n p=>?_) D ?_ ⟨by simpa[Act.put]using g.lE,by simpa[Act.put]using g.size,λq u=>?_⟩ K J h
    ·rw[l];split
     ·rfl
     ·exact hC j n p
    ·have:=gC E t (by have:=z.le;omega);omega
    ·rw[kU a (by rw[g.size];exact af)];split
     ·rename_i e;rw[e]
     ·rename_i e;refine g.tmp q λj n x y s=>?_;by_cases e2:j=i
      ·subst e2;rw[ab]at s;cases s;exact e rfl
      ·exact u j n x (by rw[l,QZ e2];exact y) s
  ·
   have an:i=k:=by
    rcases Sf i k with H|H
    ·rw[W i t H]at E;cases E
    ·rcases Sf k i with X|X
     ·have aj:fl.getD k false=false:=by
       have:=z.PJ;simp[QU,RJ (show fl.length<=k by omega)]
      have:=eX G hD z.nq f i k B (z.Qf i B t k X aj) M;rw[hf false true k (by omega),Y k (Rc _) (by omega)]at this;cases this
     ·omega
   subst an;obtain⟨r',rfl⟩:∃r',r=r'+1:=⟨r - 1,by omega⟩;rw[TE,wpOps_cons]at h;unfold wpOp at h;rw[C]at h;have R:Region.wanted ops[i] (yielded ops a₁.tmps)=true:=by unfold Region.wanted;rw[z.ng i _ C]
   simp only[R,Sw]at h;have hh:=h.resolve_right (λ⟨_,_,_,u⟩=>u);have hex:execOp a.eval ops[i]=execOp a₁.eval ops[i]:=po C (F i _ C) λq u=>g.tmp q λj n x y s=>by
    have:=eX G hD z.nq f i j B (z.use i B t j n x q s u) M;rw[hf false true j (by have:=z.le;omega),y]at this;cases this
   left;refine JK hex g.lE hh λS v w' hK=>?_;have ag:∀d,(ops[i]).dst=some d->cL ops i=some d:=λd hd=>by simp only[cL,C,R5];exact hd
   refine ih (i+1) r' _ _ _ w' (by omega) (by omega) (by simpa using G) (λj n p=>by rw[l,QZ (by omega)];exact Y j (by omega) p) (λj n p=>?_) (λj n p=>by rw[l,QZ (by omega)];exact hC j n p) D ?_ ⟨?_,?_,λq u=>?_⟩ (λj o d n x O s av=>?_) (λj d n s=>?_) hK
   ·rw[l];split
    ·rfl
    ·exact W j n (by omega)
   ·have:bS (ls.setIfInBounds i true) m=bS ls m:=by
     have:∀q,q<=m->bS (ls.setIfInBounds i true) q=bS ls q:=by
      intro q;induction q with
      |zero=>intro _;rfl
      |succ q au=>
       intro u;simp only[bS];rw[au (by omega),l q true,QZ (show ¬q=i by omega)]
     exact this m (Rc _)
    omega
   ·cases(ops[i]).dst<;>rfl
   ·cases(ops[i]).dst<;>simpa[Act.put]using g.size
   ·have U:∀j,j<m->fl.getD j false=true->ls.getD j true=false->cL ops j≠some q:=λj n x y=>u j n x (by rw[l,QZ (by omega)];exact y);cases hd:(ops[i]).dst with
    |none=>exact g.tmp q U
    |some d=>
     by_cases A:d<a.tmps.size
     ·rw[kU _ (by simpa using A),kU _ (by rw[<-g.size];exact A)];split
      ·rfl
      ·exact g.tmp q U
     ·have e1:({a with defers:=S}:Act).put (some d) v= {a with defers:=S}:=by simp[Act.put,Array.setIfInBounds,A]
      have e2:({a₁ with defers:=S}:Act).put (some d) v= {a₁ with defers:=S}:=by simp[Act.put,Array.setIfInBounds,<-g.size,A]
      rw[e1,e2];exact g.tmp q U
   ·have ao:=K j o d n x O s av;have ad:cL ops j=some d:=by simp only[cL,O,R5];exact s
    have key:∀q,(q∈eW ops j\/q=d)->(({a₁ with defers:=S}:Act).put (ops[i]).dst v).eval (.tmp q)=a₁.eval (.tmp q):=λq u=>by
     refine Act.eval_put (a:= {a₁ with defers:=S}) λe he heq=>?_;cases heq;have:=z.wr i B t j n x q (ag q he);rcases u with u|rfl
     ·exact this.2 u
     ·exact this.1 ad
    have ah:execOp (({a₁ with defers:=S}:Act).put (ops[i]).dst v).eval o=execOp a₁.eval o:=po O (F j o O) λq u=>key q (.inl u);rw[ah,ao,key d (.inr rfl)]
   ·have:=J j d n s;cases(ops[i]).dst<;>simpa[Act.put]using this
theorem nL:∀(l:List Oper) (ps:List PV) (t:cq) (k:Nat) (p:PV),look k (o4 l ps t)=some p->(∃(j:Nat) (o:Oper),l[j]? =some o/\o.dst=some k/\ps[j]? =some p)\/look k t=some p
 | [],_,t,k,p,h=>.inr (by simpa[o4]using h)
 |_::_,[],t,k,p,h=>.inr (by simpa[o4]using h)
 |o::l,q::ps,t,k,p,h=>by
  simp only[o4]at h;rcases nL l ps _ k p h with⟨j,o',h1,h2,b⟩|a
  ·exact .inl ⟨j+1,o',by simpa using h1,h2,by simpa using b⟩
  ·cases hd:o.dst with
   |none=>rw[hd]at a;exact .inr a
   |some d=>
    rw[hd]at a;simp only[look]at a;rw[RI]at a;split at a
    ·rename_i he;have:=Rp he;subst this;cases a;exact .inl ⟨0,o,rfl,hd,rfl⟩
    ·exact .inr a
section
variable {F:Nat->Prop} {base:Nat} {E:Env} {σ:ca} {t:cq} {l:List Oper} {ps:List PV} {fl:List Bool} {f m:Nat}
structure mS (N m:Nat) (l:List Oper) (ps:List PV) (E:Env) (t:cq) (w:World) (dn:Nat->Prop) (a:Act) (w':World):Prop where
 ext:Ext w w'
 lE:a.defers=[]
 size:a.tmps.size=N
 t0:dt E w' a.eval t
 nf:∀j,j<m->dn j->∀d p,cL l.toArray j=some d->ps[j]? =some p->cZ E w' (a.eval (.tmp d)) p
theorem kJ{i:Nat}{o:Oper}(h:(l.take m)[i]? =some o):i<m/\l.toArray[i]? =some o/\cL l.toArray i=o.dst:=by
 rw[RV]at h;split at h
 ·rename_i hi;refine⟨hi,by simpa using h,?_⟩;simp only[cL];have:l.toArray[i]? =some o:=by simpa using h
  rw[this];rfl
 ·cases h
theorem rB{dn:Nat->Prop}{a:Act}{w w'}(h:mS N m l ps E t w dn a w'){i:Nat}(hi:i<=m){ks:List Nat}(c:∀j k,j<i->k∈ks->cL l.toArray j=some k->dn j):dt E w' a.eval (iN (o4 ((l.take m).take i) (ps.take i) t) ks):=λk p hk=>by
 obtain⟨h1,h2⟩:=kr ks k p hk;rcases nL _ _ _ k p h2 with⟨j,o,b,d,e⟩|q
 ·rw[RV]at b;split at b
  ·rename_i n;obtain⟨r,s,g⟩:=kJ b;rw[RV,QY n]at e;exact h.nf j (by omega) (c j k n h1 (by rw[g];exact d)) k p (by rw[g];exact d) e
  ·cases b
 ·exact h.t0 k p q
theorem wF{dn:Nat->Prop}{a:Act}{w w' h}(z:Form l.toArray f m fl)(s:∀i d,i<m->cL l.toArray i=some d->look d t=none)(c:mS N m l ps E t w dn a w')(o:Ext w' h){i d:Nat}{p}(hi:i<m)(hd:cL l.toArray i=some d)(n:d<N)(hp:ps[i]? =some p){v}(hv:cZ E h v p):
  mS N m l ps E t w (λj=>dn j\/j=i) (a.put (some d) v) h:=by
 refine⟨c.ext.trans o,by simpa[Act.put]using c.lE,by simpa[Act.put]using c.size,λk q hk=>?_,λj A r x q b u=>?_⟩
 ·have g:k≠d:=λe=>by subst e;rw[s i k hi hd]at hk;cases hk
  rw[kU a (by rw[c.size];exact n),QZ g];exact(c.t0 k q hk).ext o
 ·rw[kU a (by rw[c.size];exact n)];by_cases e:j=i
  ·subst e;rw[hd]at b;cases b;rw[hp]at u;cases u;rw[QY rfl];exact hv
  ·have g:x≠d:=λB=>by
    subst B;rcases Sf i j with y|y
    ·exact z.ss j i A y (by rw[hd,b])
    ·exact z.ss i j hi (by omega) (by rw[hd,b])
   rw[QZ g];exact(c.nf j A (r.resolve_right e) x q b u).ext o
theorem mS.mono{dn b:Nat->Prop}{a w w'}(h:mS N m l ps E t w dn a w')(hd:∀j,j<m->b j->dn j):mS N m l ps E t w b a w':=⟨h.ext,h.lE,h.size,h.t0,λj d c=>h.nf j d (hd j d c)⟩
theorem Ia(K:Form l.toArray f m fl)(S:m<=l.length)(B:∀i d,i<m->cL l.toArray i=some d->look d t=none)(hc:kC P N l.toArray σ (l.take m) ps fl t){ls:Array Bool}{a w w'}(Q:mS N m l ps E t w (λj=>ls.getD j true=true) a w')(o:∀i,i<m->fl.getD i false=false->ls.getD i true=true):
  ∃a₁,G4 l.toArray m fl ls a a₁/\mS N m l ps E t w (λ_=>True) a₁ w':=by
 obtain⟨R,G,r⟩:=hc.data;have u:(l.take m).length=m:=by simp;omega
 have key:∀q,q<=m->∃b,G4 l.toArray m fl ls a b/\mS N m l ps E t w (λj=>ls.getD j true=true\/j<q) b w':=by
  intro q;induction q with
  |zero=>intro _;exact⟨a,⟨rfl,rfl,λ_ _=>rfl⟩,Q.mono λj _ h=>h.resolve_right (by omega)⟩
  |succ q U=>
   intro V;obtain⟨b,c,g⟩:=U (by omega);cases hb:ls.getD q true with
   |true=>exact⟨b,c,g.mono λj _ h=>by
     rcases h with h|h
     ·exact .inl h
     ·by_cases e:j=q
      ·subst e;exact .inl hb
      ·exact .inr (by omega)⟩
   |false=>
    have n:fl.getD q false=true:=by
     cases O:fl.getD q false with
     |true=>rfl
     |false=>rw[o q (by omega) O]at hb;cases hb
    have J:(l.take m)[q]? =some ((l.take m)[q]'(by omega)):=QX (by omega);obtain⟨_,T,z⟩:=kJ J;have x:ps[q]? =some (ps[q]'(by omega)):=by simp
    have A:fl[q]? =some true:=by
     have:q<fl.length:=by rw[G,u];omega
     simp[this]at n ⊢;exact n
    have D:=r q _ _ _ J x A;obtain⟨d,hd,p⟩:=D.dst;obtain⟨_,ks,hks,M⟩:=D.r rfl;have y:=rB g (i:=q) (by omega) (ks:=ks) (λj k C _ _=>.inr C);obtain⟨v,_,hv⟩:=M E b.eval w' (iI b) y;have s:cL l.toArray q=some d:=by rw[z];exact hd
    refine⟨b.put (some d) v,⟨by simpa[Act.put]using c.lE,by simpa[Act.put]using c.size,λk hk=>?_⟩,(wF K B g (Tc _) (by omega) s p x hv).mono λj _ h=>?_⟩
    ·have H:k≠d:=λe=>hk q (by omega) n hb (by rw[s,e]);rw[kU b (by rw[g.size];exact p),QZ H];exact c.tmp k hk
    ·rcases h with h|h
     ·exact .inl (.inl h)
     ·by_cases e:j=q
      ·exact .inr e
      ·exact .inl (.inr (by omega))
 obtain⟨b,h1,h2⟩:=key m (Rc _);exact⟨b,h1,h2.mono λj C _=>.inr C⟩
theorem HY(B:m<=l.length)(hc:kC P N l.toArray σ (l.take m) ps fl t){a w w'}(x:mS N m l ps E t w (λ_=>True) a w'):Mt P l.toArray m fl a:=λj o d y u C hd s=>by
 obtain⟨A,r,b⟩:=hc.data;have e:(l.take m).length=m:=by simp;omega
 have g:(l.take m)[j]? =some o:=by rw[RV,QY y];simpa using C
 have h:ps[j]? =some (ps[j]'(by omega)):=by simp
 have q:fl[j]? =some true:=by
  have:j<fl.length:=by rw[r,e];omega
  simp[this]at u ⊢;exact u
 have D:=b j _ _ _ g h q;obtain⟨c,ks,hks,z⟩:=D.r rfl;have k:=rB x (i:=j) (by omega) (ks:=ks) (λ_ _ _ _ _=>trivial);obtain⟨v,n,hv⟩:=z E a.eval w' (iI a) k;have p:cL l.toArray j=some d:=by rw[(kJ g).2.2];exact hd
 have:=c.Qh E w' _ _ (x.nf j y trivial d _ p h) hv;rw[this];exact n s
end
theorem dh{id:Nat}{l:List Oper}{t t' σ}{Q:Exit->St->Prop}(m f:Nat){fl ps}(hm:P.follows .mixedOrders=true)(hc:kC P N l.toArray σ (l.take m) ps fl t)(hB:(KP l.toArray f m fl&&Region.noSelect l.toArray)=true)(aA:Nat.ble m l.length=true)
  (aq:((l.take m).all λo=>o.dst.all λd=>(look d t).isNone)=true) (ag:Sub (o4 (l.take m) ps t) t') (hw:WR P N L l.toArray (l.drop m) ⟨t',σ⟩ (λs=>Q .normal s)):W P N L (.region id l.toArray true) ⟨t,σ⟩ Q:=λF base E₀ w₀ E a w aj hs=>by
 simp only[Q7]at hB;have G:=E0 hB.1;have C:m<=l.length:=Nat.ble_eq.mp aA;obtain⟨aH,aJ,J⟩:=hc.data;have aF:(l.take m).length=m:=by simp;omega
 have M:∀i d,i<m->cL l.toArray i=some d->look d t=none:=λi d hi hd=>by
  have H:(l.take m)[i]? =some ((l.take m)[i]'(by omega)):=QX (by omega);have:=Rq.1 aq _ (Ro H);rw[(kJ H).2.2]at hd;rw[hd]at this;simpa using this
 have K:∀i,i<m->∃d,cL l.toArray i=some d/\d<N:=λi hi=>by
  have H:(l.take m)[i]? =some ((l.take m)[i]'(by omega)):=QX (by omega);have hp:ps[i]? =some (ps[i]'(by omega)):=by simp
  have R:fl[i]? =some (fl[i]'(by omega)):=by simp
  obtain⟨d,h1,h2⟩:=(J i _ _ _ H hp R).dst;exact⟨d,by rw[(kJ H).2.2];exact h1,h2⟩
 have af:∀(i:Nat) (o:Oper),l.toArray[i]? =some o->∀cs b,o.op≠ .select cs b:=λi o H cs b=>Region.noSelect_spec hB.2 i o cs b H;have main:∀(g:Nat) (ls:Array Bool) (a:Act) (w':World),ls.size=l.toArray.size->(∀i,m<=i->i<l.toArray.size->ls.getD i true=false)->Down l.toArray ls->g=bS ls m+(l.toArray.size - m)->mS N m l ps E t w (λj=>ls.getD j true=true) a w'->
   wpAny P .any l.toArray (λe Z w'=>mY F base N E₀ w₀ (Q e) Z w') g ls a w':=by
  have xe:∀(g:Nat) (ls:Array Bool) (a:Act) (w':World),ls.size=l.toArray.size->(∀i,m<=i->i<l.toArray.size->ls.getD i true=false)->Down l.toArray ls->g=bS ls m+(l.toArray.size - m)->mS N m l ps E t w (λj=>ls.getD j true=true) a w'->
    (∀i,i<m->fl.getD i false=false->ls.getD i true=true)->wpAny P .any l.toArray (λe Z w'=>mY F base N E₀ w₀ (Q e) Z w') g ls a w':=by
   intro g ls a w' y n x B O u;obtain⟨a₁,ai,r⟩:=Ia G C M hc O u;have ae:dR F base N ⟨t',σ⟩ E a₁ w':=by
    refine⟨hs.sat.ext r.ext,dt.sub (λk p hk=>?_) ag,r.lE,r.size⟩;rcases nL _ _ _ k p hk with⟨j,o,h1,h2,h3⟩|h'
    ·obtain⟨z,_,h4⟩:=kJ h1;exact r.nf j z trivial k p (by rw[h4];exact h2) h3
    ·exact r.t0 k p h'
   have eB:=hw F base E₀ w₀ E a₁ w' (aj.on (.ext r.ext) (Ti r.ext hs.sat.bl)) ae (Ha λZ w'=>mY F base N E₀ w₀ (Q .normal) Z w') m (λZ w' hp=>hp) (λj=>by simp);refine Im G af (λj z=>(K j z).imp λ_ h=>h.1) (λa w h=>h) g m (l.toArray.size - m) ls a a₁ w' (by have:=G.le;omega) (Rc _) y n (λi h1 h2=>by omega) u x B ai (HY C hc r) (λj d z hd=>?_) (by simpa using eB);obtain⟨d',h1,h2⟩:=K j z;rw[hd]at h1;cases h1;rw[r.size];exact h2
  intro g;induction g with
  |zero=>
   intro ls a w' y n x B O;exact xe 0 ls a w' y n x B O (λi hi _=>dK (m:=m) (by omega) i hi)
  |succ g ih=>
   intro ls a w' y n x B O;by_cases u:∀i,i<m->fl.getD i false=false->ls.getD i true=true
   ·exact xe (g+1) ls a w' y n x B O u
   ·have hle:=G.le;obtain⟨j0,aw,ax,U⟩:∃j0,j0<m/\fl.getD j0 false=false/\ls.getD j0 true=false:=by
     apply Q4;intro aC;refine u λi hi R=>?_;cases hb:ls.getD i true with
     |true=>rfl
     |false=>exact absurd ⟨i,hi,R,hb⟩ aC
    have R:∀b c (i:Nat),i<l.toArray.size->ls.getD i b=ls.getD i c:=λb c i hi=>by simp only[Rm];simp[show i<ls.size by omega]
    have ab:0<bS ls m:=by
     rcases SS (bS ls m)with h|h
     ·rw[dK h j0 aw]at U;cases U
     ·exact h
    obtain⟨i0,aG,au,av⟩:=gA ab;have aB:i0∈Region.ready .any l.toArray ls:=cT.2 ⟨by omega,au,λk hk=>by
     have:=G.nq i0 (by omega) k hk;rw[R false true k (by omega)];exact av k this⟩
    refine⟨λh0=>absurd aB (by rw[h0];simp),λi hi=>?_⟩;obtain⟨h1,h2,h3⟩:=cT.1 hi;have S:i<m:=by
     rcases Sf i m with h'|h'
     ·exact h'
     ·have:=eX y x G.nq f i j0 h1 (G.Qf i h1 h' j0 (by omega) ax) h3;rw[R false true j0 (by omega),U]at this;cases this
    have H:(l.take m)[i]? =some ((l.take m)[i]'(by omega)):=QX (by omega);obtain⟨_,X,an⟩:=kJ H;have hp:ps[i]? =some (ps[i]'(by omega)):=by simp
    have ao:fl[i]? =some (fl[i]'(by omega)):=by simp
    have D:=J i _ _ _ H hp ao;obtain⟨d,hd,ak⟩:=D.dst;obtain⟨ks,hks,hY⟩:=D.y;have al:cL l.toArray i=some d:=by rw[an];exact hd
    have ad:=rB O (i:=i) (by omega) (ks:=ks) (λj k z hk ay=>by
     have az:k∈eW l.toArray i:=by
      unfold eW;rw[X];exact hks k hk
     have:=h3 j (G.rd i S k az j (by omega) ay).2;rw[R false true j (by omega)]at this;exact this)
    unfold wpOp;rw[X];have Y:Region.wanted ((l.take m)[i]'(by omega)) (yielded l.toArray a.tmps)=true:=by unfold Region.wanted;rw[G.ng i _ X]
    simp only[Y,Sw];left;refine tv (hY F base E a.eval w' (iI a) (hs.sat.ext O.ext) ad) λv aE hE hv=>?_;rw[hd];have A:∀(j:Nat) b,(ls.setIfInBounds i true).getD j b=if j=i then true else ls.getD j b:=λj b=>by
     by_cases e:i=j
     ·subst e;simp[show i<ls.size by omega]
     ·rw[QZ (λh=>e h.symm),Rm,Rm,Rx e]
    refine ih _ _ aE (by simpa using y) (λj z T=>by rw[A j true,QZ (show ¬j=i by omega)];exact n j z T) (λj z T q hq=>?_) (by have:=gC h2 S (by omega);omega) ((wF G M O hE S al ak hp hv).mono λj z V=>?_)
    ·rw[A];split
     ·rfl
     ·rw[A]at z;split at z
      ·rename_i e;subst e;exact h3 q hq
      ·exact x j z T q hq
    ·rw[A]at V;split at V
     ·rename_i e;exact .inr e
     ·exact .inl V
 obtain⟨ah,ds⟩:=a;refine wp_region_any hm ?_;have hE:Ext w {w with drawn:=w.drawn+1}:=⟨rfl,rfl,rfl,Rc _,λ_ _=>rfl⟩;have aD:∀k,k<=l.length->bS (Array.replicate l.toArray.size false) k=k:=by
  intro k;induction k with
  |zero=>intro _;rfl
  |succ k ih=>
   intro hk;simp only[bS];rw[ih (by omega),eC _ _ (by simp;omega)];simp
 refine main l.toArray.size (Array.replicate l.toArray.size false) ⟨ah,ds⟩ _ (by simp) (λi _ hi=>eC _ _ hi _) (λi hi ar=>?_) (by rw[aD m C];simp;omega) ⟨hE,hs.lE,hs.size,hs.tmp.goes (.ext hE),λj z aa=>?_⟩
 ·rw[eC _ _ ar]at hi;cases hi
 ·rw[eC _ _ (by simp;omega)]at aa;cases aa
theorem jt{id:Nat}{l:List Oper}{y t t' σ}{Q:Exit->St->Prop}(m f:Nat){fl ps}(hm:P.follows .mixedOrders=true)(hc:kC P N l.toArray σ (l.take m) ps fl t)(e:(KP l.toArray f m fl&&Region.noSelect l.toArray)=true)(c:Nat.ble m l.length=true)
  (b:((l.take m).all λo=>o.dst.all λd=>(look d t).isNone)=true) (a:Sub (o4 (l.take m) ps t) t') (hw:WR P N L l.toArray (l.drop m) ⟨t',σ⟩ (λs=>W P N L y s Q)):W P N L (.seq (.region id l.toArray true) y) ⟨t,σ⟩ Q:=ai (dh m f hm hc e c b a hw)
end
inductive Tr (α:Type) where
 |l
 |n (a:Tr α) (k:Nat) (v:α) (b:Tr α)
def Tr.get{α:Type}:Tr α->Nat->Option α
 | .l,_=>none
 | .n a k v b,j=>bif Nat.beq j k then some v else bif Nat.blt j k then a.get j else b.get j
inductive Tr.xQ {α:Type} (R:Nat->α->Prop):Tr α->Prop
 |l:Tr.xQ R .l
 |n {a b:Tr α} {k:Nat} {v:α}:Tr.xQ R a->R k v->Tr.xQ R b->Tr.xQ R (.n a k v b)
theorem Tr.xQ.get{α:Type}{R:Nat->α->Prop}{t:Tr α}(h:Tr.xQ R t){j:Nat}{v}:t.get j=some v->R j v:=by
 induction h with
 |l=>intro h;cases h
 | @n a b k u _ hr _ c d=>
  intro h;simp only[Tr.get,RI]at h;split at h
  ·rename_i he;cases Rp he;cases h;exact hr
  ·split at h
   ·exact c h
   ·exact d h
structure vN where
 tk:Tr (Option Nat)
 fo:Tr Nat
 el:Tr (Nat×Nat)
 st:Tr (List (Nat×Nat)×List Value)
 sl:Tr (Nat×Nat×List Value)
 rk:Tr (Nat×Nat×Nat×List Value)
 zk:Tr (List Value)
 bk:Tr Unit
 pk:Tr Unit
 ar:Tr (Nat×Nat)
 en:Tr Unit
structure vN.Ok (P:Program) (Φ:vN):Prop where
 tk:Φ.tk.xQ λk v=>vL P k=some v
 fo:Φ.fo.xQ λk v=>kM P (k / 100) (k % 100)=some v
 el:Φ.el.xQ λk v=>vS P k=some v
 st:Φ.st.xQ λk v=>Pu P k=some v
 sl:Φ.sl.xQ λk v=>MW P k=some v
 rk:Φ.rk.xQ λk v=>A5 P k=some v
 zk:Φ.zk.xQ λk v=>BF P k=some v
 bk:Φ.bk.xQ λk _=>wo P k=true
 pk:Φ.pk.xQ λk _=>rL P k=true
 ar:Φ.ar.xQ λk v=>Ol P k=some v
 en:Φ.en.xQ λk _=>enters P k=true
class Has (P:Program) (Φ:outParam vN):Prop where
 ok:vN.Ok P Φ
def force{α:Type}:List α->Option (List α)
 | []=>some []
 |x::l=>match force l with
  |some r=>some (x::r)
  |none=>none
theorem force_eq{α:Type}:∀ {l r:List α},force l=some r->l=r
 | [],r,h=>by cases h;rfl
 |x::l,r,h=>by
  simp only[force]at h;split at h
  ·rename_i r' hr;cases h;rw[force_eq hr]
  ·cases h
def KS(xs:List PV)(k:Nat):Nat->Option (List PV)
 |0=>some []
 |n+1=>match xs[k]? with
  |some p=>match KS xs (k+1) n with
   |some r=>some (p::r)
   |none=>none
  |none=>none
theorem DN{xs:List PV}:∀ {n k:Nat} {ys:List PV},KS xs k n=some ys->(xs.drop k).take n=ys/\ys.length=n
 |0,k,ys,h=>by cases h;simp
 |n+1,k,ys,h=>by
  simp only[KS]at h;split at h
  ·rename_i p hp;split at h
   ·rename_i r hr;cases h;obtain⟨h1,h2⟩:=DN hr;have a:=(QT.1 hp).1;have hx:xs[k]=p:=by rw[QX a]at hp;exact UT hp
    refine⟨?_,by simp[h2]⟩;rw[TR a,List.take_succ_cons,h1,hx]
   ·cases h
  ·cases h
def part(xs:List PV)(k n:Nat):Option PV:=bif Nat.beq k 0&&Nat.beq xs.length n then some (.agg xs) else match KS xs k n with
 |some ys=>some (.agg ys)
 |none=>none
def Ov(op:BinOp)(a b:Int):Option PV:=
 match op with
 | .lss=>some (.raw (.bool (decide (a<b))))
 | .leq=>some (.raw (.bool (decide (a<=b))))
 | .gtr=>some (.raw (.bool (decide (b<a))))
 | .geq=>some (.raw (.bool (decide (b<=a))))
 | .eql=>some (.raw (.bool (decide (a=b))))
 | .neq=>some (.raw (.bool (decide (a≠b))))
 |_=>none
def Nf(Φ:vN)(op:BinOp)(ty:TypeId):PV->PV->Option PV
 | .raw (.int .i64 a),.raw (.int .i64 b)=>Ov op a b
 | .raw (.bool a),.raw (.bool b)=>match Φ.bk.get ty with
  |some _=>match op with
   | .eql=>some (.raw (.bool (a==b)))
   | .neq=>some (.raw (.bool (!(a==b))))
   |_=>none
  |none=>none
 | .ptr _ _,.raw (.pointer none)=>match Φ.pk.get ty with
  |some _=>match op with
   | .eql=>some (.raw (.bool false))
   | .neq=>some (.raw (.bool true))
   |_=>none
  |none=>none
 | .bq _ _,.raw (.pointer none)=>match Φ.pk.get ty with
  |some _=>match op with
   | .eql=>some (.raw (.bool false))
   |_=>none
  |none=>none
 |_,_=>none
def gI(Φ:vN)(σ:ca)(t:cq):Op->Option PV
  | .move x=>aH t x
  | .assign x=>aH t x
  | .pick c a b=>match aH t c with
    |some (.raw (.bool true))=>aH t a
    |some (.raw (.bool false))=>aH t b
    |_=>none
  | .unOp .not _ x=>match aH t x with
    |some (.raw (.bool q))=>some (.raw (.bool (!q)))
    |_=>none
  | .binOp op ty x y _=>match aH t x with
    |some p=>match aH t y with
      |some q=>Nf Φ op ty p q
      |none=>none
    |none=>none
  | .nilCheck x=>match aH t x with
    |some (.bq xs k)=>some (.bq xs k)
    |some (.ptr i k)=>some (.ptr i k)
    |some (.func f c)=>some (.func f c)
    |_=>none
  | .fieldAddr s x f=>bif Nat.blt f 100 then match Φ.fo.get (s*100+f)with
      |some off=>match aH t x with
        |some (.bq xs k)=>some (.bq xs (k+off))
        |some (.ptr i k)=>some (.ptr i (k+off))
        |_=>none
      |none=>none
    else none
  | .load ty x=>match Φ.tk.get ty with
    |some none=>match aH t x with
      |some (.bq xs k)=>xs[k]?
      |some (.ptr i k)=>match σ[i]? with
        |some (some blk)=>blk.xs[k]?
        |_=>none
      |_=>none
    |some (some n)=>match aH t x with
      |some (.bq xs k)=>part xs k n
      |some (.ptr i k)=>match σ[i]? with
        |some (some blk)=>part blk.xs k n
        |_=>none
      |_=>none
    |none=>none
  | .extract x k=>match aH t x with
    |some (.tuple xs)=>xs[k]?
    |_=>none
  | .makeFunc fn fs cs=>match fn with
    | .func f=>match fs.toList with
      | []=>match jx t cs.toList with
        |some xs=>some (.func f xs)
        |none=>none
      |_=>none
    |_=>none
  | .box _ x=>match aH t x with
    |some p=>match lD p with
      |some xs=>some (.bq xs 0)
      |none=>none
    |none=>none
  | .build ty parts=>match Φ.st.get ty with
    |some (pl,z)=>match ib t parts.toList with
      |some ps=>match lO (pl[·]?) (z.map .raw) ps with
        |some xs=>match force xs with
          |some ys=>some (.agg ys)
          |none=>none
        |none=>none
      |none=>none
    |none=>none
  | .buildSlice ty n parts=>match Φ.sl.get ty with
    | some (_, s, z) => bif Nat.blt 0 n && Nat.ble (n * s) 16777216 then match ib t parts.toList with
        |some ps=>match lO (λi=>some (i*s,s)) (dQ (z.map .raw) n) ps with
          |some xs=>match force xs with
            |some ys=>some (.slice n ys)
            |none=>none
          |none=>none
        |none=>none
      else bif Nat.beq n 0&&Nat.beq parts.size 0 then some (.slice 0 []) else none
    |none=>none
  | .call c=>match c.callee with
    | .builtin .len=>match c.args.toList,c.argTypes.toList with
      | [x],[ty]=>match Φ.el.get ty with
        |some _=>match aH t x with
          |some (.slice n _)=>some (.raw (.int .i64 n))
          |some (.raw (.slice none 0 0))=>some (.raw (.int .i64 0))
          |some (.own m)=>match σ[m]? with
            |some (some (.row _ _ n _))=>some (.raw (.int .i64 n))
            |_=>none
          |_=>none
        |none=>none
      |_,_=>none
    |_=>none
  |_=>none
section
variable {P:Program} {σ:ca} {t:cq} {o:Oper} {Φ:vN}
theorem yW{xs:List PV}{k n:Nat}{p}(h:part xs k n=some p):∃ys,p= .agg ys/\(xs.drop k).take n=ys/\ys.length=n:=by
 unfold part at h;rw[RI]at h;split at h
 ·rename_i hc;simp only[Q7]at hc;have h1:=Rp hc.1;have h2:=Rp hc.2;subst h1;cases h;exact⟨xs,rfl,by rw[UC,<-h2,RC],h2⟩
 ·split at h
  ·rename_i ys hy;cases h;exact⟨ys,rfl,DN hy⟩
  ·cases h
theorem N1(b:Φ.Ok P){op x y ty c p q r}(a:o.op= .binOp op ty x y c)(hx:aH t x=some p)(hy:aH t y=some q)(h:Nf Φ op ty p q=some r):bE P σ t o r:=by
 unfold Nf at h;split at h
 ·unfold Ov at h;split at h<;>first|(cases h;done)|skip
  ·cases h;exact O7 a hx hy rfl
  ·cases h;exact O5 a hx hy rfl
  ·cases h;exact O4 a hx hy rfl
  ·cases h;exact Em a hx hy rfl
  ·cases h;exact JP a hx hy rfl
  ·cases h;exact O9 a hx hy rfl
 ·split at h
  ·rename_i u hu;have hb:=b.bk.get hu;split at h
   ·cases h;exact GR a hb hx hy rfl
   ·cases h;exact GS a hb hx hy rfl
   ·cases h
  ·cases h
 ·split at h
  ·rename_i u hu;have hb:=b.pk.get hu;split at h
   ·cases h;exact vG a hb hx hy
   ·cases h;exact BC a hb hx hy
   ·cases h
  ·cases h
 ·split at h
  ·rename_i u hu;have hb:=b.pk.get hu;split at h
   ·cases h;exact JV a hb hx hy
   ·cases h
  ·cases h
 ·cases h
theorem ye{α:Type}{a:Array α}{l:List α}(h:a.toList=l):a=l.toArray:=by rw[<-h]
theorem HZ(s f:Nat):(s*100+f) / 100=s+f / 100/\(s*100+f) % 100=f % 100:=by omega
theorem nr(d:Φ.Ok P){op p}(a:o.op=op)(h:gI Φ σ t op=some p):bE P σ t o p:=by
 unfold gI at h;split at h
 ·exact gF a h
 ·exact fw a h
 ·split at h
  ·rename_i hc;exact Mn a hc h
  ·rename_i hc;exact Ml a hc h
  ·cases h
 ·split at h
  ·rename_i hc;cases h;exact Pa a hc
  ·cases h
 ·split at h
  ·rename_i p' hp;split at h
   ·rename_i F C;exact N1 d a hp C h
   ·cases h
  ·cases h
 ·split at h
  ·rename_i hc;cases h;exact BB a hc
  ·rename_i hc;cases h;exact jG a hc
  ·rename_i hc;cases h;exact GX a hc
  ·cases h
 ·rename_i s x f;rw[RI]at h;split at h
  ·rename_i b;have b:=Nat.blt_eq.mp b;split at h
   ·rename_i off v;have g:=d.fo.get v;obtain⟨z,A⟩:=HZ s f;rw[z,A,Nat.div_eq_of_lt b,UN b,Tl]at g;split at h
    ·rename_i hc;cases h;exact vC a g hc
    ·rename_i hc;cases h;exact vD a g hc
    ·cases h
   ·cases h
  ·cases h
 ·split at h
  ·rename_i l;have hk:=d.tk.get l;split at h
   ·rename_i hc;exact rY a hk hc h
   ·rename_i hc;split at h
    ·rename_i hi;exact aY a hk hc hi h
    ·cases h
   ·cases h
  ·rename_i n l;have hk:=d.tk.get l;split at h
   ·rename_i hc;obtain⟨ys,rfl,h1,h2⟩:=yW h;exact kf a hk hc h1 h2
   ·rename_i hc;split at h
    ·rename_i hi;obtain⟨ys,rfl,h1,h2⟩:=yW h;exact ee a hk hc hi h1 h2
    ·cases h
   ·cases h
  ·cases h
 ·split at h
  ·rename_i hc;exact GU a hc h
  ·cases h
 ·split at h
  ·split at h
   ·rename_i u;split at h
    ·rename_i hc;cases h;rw[ye u]at a;exact gm a hc
    ·cases h
   ·cases h
  ·cases h
 ·split at h
  ·rename_i hc;split at h
   ·rename_i hx;cases h;exact JN a hc hx
   ·cases h
  ·cases h
 ·split at h
  ·rename_i y;have hk:=d.st.get y;split at h
   ·rename_i k;split at h
    ·rename_i g;split at h
     ·rename_i i;cases h;cases force_eq i;exact gT a hk k g
     ·cases h
    ·cases h
   ·cases h
  ·cases h
 ·split at h
  ·rename_i w;have hk:=d.sl.get w;rw[RI]at h;split at h
   ·rename_i hn;simp only[Q7,Ue,Tu]at hn;split at h
    ·rename_i k;split at h
     ·rename_i g;split at h
      ·rename_i i;cases h;cases force_eq i;exact iT a hk hn k g
      ·cases h
     ·cases h
    ·cases h
   ·rw[RI]at h;split at h
    ·rename_i hn;simp only[Q7]at hn;have h1:=Rp hn.1;have h2:=Rp hn.2;subst h1;have B:=Ui h2;rw[B]at a;cases h;exact zo a hk
    ·cases h
  ·cases h
 ·rename_i c;split at h
  ·rename_i e;split at h
   ·rename_i x ty q m;split at h
    ·rename_i r;have hk:=d.el.get r;have j:o.op= .call {callee:=.builtin .len,args:= #[x],argTypes:= #[ty]}:=by
      rw[a];obtain⟨c1,D,E⟩:=c;simp only at e q m;rw[e,ye q,ye m]
     split at h
     ·rename_i hc;cases h;exact vF j hk hc
     ·rename_i hc;cases h;exact qU j hk hc
     ·rename_i hc;split at h
      ·rename_i hi;cases h;exact qW j hk hc hi
      ·cases h
     ·cases h
    ·cases h
   ·cases h
  ·cases h
 ·cases h
theorem se{t'}:∀ {l},(∀x∈l,aH t' x=aH t x)->jx t' l=jx t l
 | [],_=>rfl
 |x::l,h=>by simp only[jx,h x (R1 ..),se (λy hy=>h y (RU _ hy))]
theorem nE{t'}:∀ {l:List (Nat×Operand)},(∀x∈l,aH t' x.2=aH t x.2)->ib t' l=ib t l
 | [],_=>rfl
 |(i,x)::l,h=>by simp only[ib,h (i,x) (R1 ..),nE (λy hy=>h y (RU _ hy))]
theorem zK{t'}(op:Op)(h:∀x∈op.operands,aH t' x=aH t x):gI Φ σ t' op=gI Φ σ t op:=by
 cases op with
 |move x=>exact h x (by simp[Op.operands])
 |assign x=>exact h x (by simp[Op.operands])
 |pick c a b=>simp only[gI,h c (by simp[Op.operands]),h a (by simp[Op.operands]),h b (by simp[Op.operands])]
 |unOp u ty x=>cases u<;>simp only[gI,h x (by simp[Op.operands])]
 |binOp b ty x y e=>simp only[gI,h x (by simp[Op.operands]),h y (by simp[Op.operands])]
 |nilCheck x=>simp only[gI,h x (by simp[Op.operands])]
 |fieldAddr s x f=>simp only[gI,h x (by simp[Op.operands])]
 |load ty x=>simp only[gI,h x (by simp[Op.operands])]
 |extract x k=>simp only[gI,h x (by simp[Op.operands])]
 |box ty x=>simp only[gI,h x (by simp[Op.operands])]
 |makeFunc fn fs cs=>
  have:jx t' cs.toList=jx t cs.toList:=se λx hx=>h x (by simp only[Op.operands];exact Array.mem_append_right _ (by simpa using hx));simp only[gI,this]
 |build ty ps=>
  have:ib t' ps.toList=ib t ps.toList:=nE λx hx=>h x.2 (by simp only[Op.operands,List.mem_toArray,RB];exact⟨x,hx,rfl⟩);simp only[gI,this]
 |buildSlice ty n ps=>
  have:ib t' ps.toList=ib t ps.toList:=nE λx hx=>h x.2 (by simp only[Op.operands,List.mem_toArray,RB];exact⟨x,hx,rfl⟩);simp only[gI,this]
 |call c=>
  simp only[gI];split
  ·split
   ·rename_i x ty d _;rw[h x (by simp only[Op.operands,Call.operands];exact Array.mem_append_right _ (by rw[ye d];simp))]
   ·rfl
  ·rfl
 |_=>rfl
theorem AA{ks:List Nat}{k:Nat}(h:k∈ks):look k (iN t ks)=look k t:=by
 cases e:look k (iN t ks)with
 |some p=>exact((kr ks k p e).2).symm
 |none=>
  induction ks with
  |nil=>cases h
  |cons j ks c=>
   simp only[iN]at e;by_cases a:k=j
   ·subst a;cases hl:look k t with
    |none=>rfl
    |some p=>rw[hl]at e;simp[look,US]at e
   ·have hm:k∈ks:=by cases h with|head=>exact absurd rfl a|tail _ b=>exact b
    split at e
    ·have hb:Nat.beq k j=false:=by rw[Tw];exact λb=>a (Rp b)
     simp only[look,hb,cond_false]at e;exact c hm e
    ·exact c hm e
theorem yx{ks:List Nat}{x}(h:∀k,x= .tmp k->k∈ks):aH (iN t ks) x=aH t x:=by
 cases x with
 |tmp k=>exact AA (h k rfl)
 |_=>rfl
def Ju(Φ:vN)(N:Nat)(ops:Array Oper)(σ:ca)(t:cq)(o:Oper):Option (Nat×PV):=
 match o.dst with
 |some d=>bif Nat.blt d N then match fO ops t o with
   |some true=>match gI Φ σ t o.op with
    |some p=>some (d,p)
    |none=>none
   |some false=>some (d,.raw undef)
   |none=>none
  else none
 |none=>none
def Jj(Φ:vN)(N:Nat)(ops:Array Oper)(σ:ca):Nat->List Oper->cq->Option (List Oper×cq)
 |0,l,t=>some (l,t)
 |_+1,[],_=>none
 |n+1,o::l,t=>match Ju Φ N ops σ t o with
  |some x=>Jj Φ N ops σ n l (x::t)
  |none=>none
variable {N L:Nat} {ops:Array Oper}
theorem fJ.a[c:Has P Φ](n:Nat){l b u t'}(h:Jj Φ N ops σ n l t=some (b,u))(k:fJ P N ops σ b u t'):fJ P N ops σ l t t':=by
 induction n generalizing l t with
 |zero=>cases h;exact k
 |succ n e=>
  cases l with
  |nil=>cases h
  |cons o l=>
   simp only[Jj]at h;split at h
   ·rename_i x hx;have a:=e h;unfold Ju at hx;split at hx
    ·rename_i d hd;rw[RI]at hx;split at hx
     ·rename_i hN;split at hx
      ·rename_i hw;split at hx
       ·rename_i p hp;cases hx;exact .val (nr c.ok rfl hp) hd hw hN a
       ·cases hx
      ·rename_i hw;cases hx;exact .skip hd hw hN a
      ·cases hx
     ·cases hx
    ·cases hx
   ·cases h
theorem eH.a[c:Has P Φ](n:Nat){l b u t'}(h:Jj Φ N ops σ n l t=some (b,u))(k:eH P N ops σ b u t'):eH P N ops σ l t t':=by
 induction n generalizing l t with
 |zero=>cases h;exact k
 |succ n e=>
  cases l with
  |nil=>cases h
  |cons o l=>
   simp only[Jj]at h;split at h
   ·rename_i x hx;have a:=e h;unfold Ju at hx;split at hx
    ·rename_i d hd;rw[RI]at hx;split at hx
     ·rename_i hN;split at hx
      ·rename_i hw;split at hx
       ·rename_i p hp;cases hx;refine .val (o.looksAt ops) (by simp) (nr c.ok rfl (op:=o.op) ?_) hd hw hN a;rw[zK,hp];intro x hx;refine yx λk hk=>?_;subst hk;exact SH _ (T2.2 ⟨.tmp k,by simpa using hx,rfl⟩)
       ·cases hx
      ·rename_i hw;cases hx;exact .skip hd hw hN a
      ·cases hx
     ·cases hx
    ·cases hx
   ·cases h
def dk(N:Nat)(ops:Array Oper)(t:cq)(o:Oper):Option Nat:=
 match o.dst with
 |some d=>bif Nat.blt d N then match fO ops t o with
   |some true=>some d
   |_=>none
  else none
 |none=>none
theorem fF{d:Nat}(h:dk N ops t o=some d):o.dst=some d/\fO ops t o=some true/\Nat.blt d N=true:=by
 unfold dk at h;split at h
 ·rename_i a hd;rw[RI]at h;split at h
  ·rename_i hN;split at h
   ·rename_i hw;cases h;exact⟨hd,hw,hN⟩
   ·cases h
  ·cases h
 ·cases h
theorem fJ.v{rest t'}{d:Nat}{p}(hy:bE P σ t o p)(h:dk N ops t o=some d)(k:fJ P N ops σ rest ((d,p)::t) t'):fJ P N ops σ (o::rest) t t':=.val hy (fF h).1 (fF h).2.1 (fF h).2.2 k
theorem eH.v{rest t'}{d:Nat}{p}(ks:List Nat)(hy:bE P σ (iN t ks) o p)(hk:(ks.all λk=>(o.looksAt ops).contains k)=true)(h:dk N ops t o=some d)(k:eH P N ops σ rest ((d,p)::t) t'):eH P N ops σ (o::rest) t t':=.val ks hk hy (fF h).1 (fF h).2.1 (fF h).2.2 k
theorem bm{rest}{K:St->Prop}{d:Nat}{p}(hy:bE P σ t o p)(h:dk N ops t o=some d)(k:WR P N L ops rest ⟨(d,p)::t,σ⟩ K):WR P N L ops (o::rest) ⟨t,σ⟩ K:=bP hy (fF h).1 (fF h).2.1 (fF h).2.2 k
theorem cb{rest σ'}{K:St->Prop}{d:Nat}{p}(hy:cK P σ t o p σ')(h:dk N ops t o=some d)(k:WR P N L ops rest ⟨(d,p)::t,σ'⟩ K):WR P N L ops (o::rest) ⟨t,σ⟩ K:=ep hy (fF h).1 (fF h).2.1 (fF h).2.2 k
def jU(t:cq):List Nat->Option cq
 | []=>some []
 |k::ks=>match look k t with
  |some p=>match jU t ks with
   |some r=>some ((k,p)::r)
   |none=>none
  |none=>none
theorem aR:∀ {ks:List Nat} {u},jU t ks=some u->Sub t u
 | [],u,h=>by cases h;exact Sub.nil _
 |k::ks,u,h=>by
  simp only[jU]at h;split at h
  ·rename_i p hp;split at h
   ·rename_i r hr;cases h;exact .cons hp (aR hr)
   ·cases h
  ·cases h
theorem fJ.k(ks:List Nat){u}(h:jU t ks=some u):fJ P N ops σ [] t u:=.nil (aR h)
theorem eH.k(ks:List Nat){u}(h:jU t ks=some u):eH P N ops σ [] t u:=.nil (aR h)
theorem eF{c}{Q:Exit->St->Prop}(ks:List Nat){u}(h:jU t ks=some u)(k:W P N L c ⟨u,σ⟩ Q):W P N L c ⟨t,σ⟩ Q:=iB (aR h) k
theorem aE{K:St->Prop}(ks:List Nat){u}(h:jU t ks=some u)(k:K ⟨u,σ⟩):WR P N L ops [] ⟨t,σ⟩ K:=BK (aR h) (bg k)
def Lc:ca->Option Nat
 | []=>some 0
 |_::l=>match Lc l with
  |some n=>some (n+1)
  |none=>none
theorem DT:∀ {s:ca} {n:Nat},Lc s=some n->s.length=n
 | [],n,h=>by cases h;rfl
 |_::l,n,h=>by
  simp only[Lc]at h;split at h
  ·rename_i m hm;cases h;simp[DT hm]
  ·cases h
def Ly:PV->Bool
 | .raw (.int _ _)=>true
 | .raw (.bool _)=>true
 | .raw (.string _)=>true
 | .raw (.slice _ _ _)=>true
 | .raw (.pointer _)=>true
 | .slice _ _=>true
 | .bq _ _=>true
 | .func _ _=>true
 | .ptr _ _=>true
 | .own _=>true
 |_=>false
theorem IM{p}(h:Ly p=true):gH p:=by
 unfold Ly at h;split at h<;>first|infer_instance|cases h
theorem IL{xs:List PV}(h:xs.all Ly=true):dY xs:=⟨λi u hu=>IM (Rq.1 h u (Ro hu))⟩
def Bo(Φ:vN)(t:cq)(σ:ca):Op->Option (PV×ca)
  | .alloc ty=>match Φ.zk.get ty with
    |some z=>match force (z.map PV.raw)with
      |some a=>match Lc σ with
        |some n=>match force (σ++[some (.cells ty a)])with
          |some s=>some (.ptr n 0,s)
          |none=>none
        |none=>none
      |none=>none
    |none=>none
  | .store ty x y=>match Φ.tk.get ty with
    | some k => match aH t x with
      | some (.ptr i off) => match aH t y with
        | some p => match σ[i]? with
          | some (some blk) => match lD p with
            |some ys=>match force ys with
              |some ys=>bif Nat.beq ys.length (k.getD 1)&&(Nat.ble (off+ys.length) blk.xs.length&&ys.all Ly) then match force (over blk.xs off ys)with
                  |some b=>match force (σ.set i (some (blk.sC b)))with
                    |some s=>some (.raw undef,s)
                    |none=>none
                  |none=>none
                else none
              |none=>none
            |none=>none
          |_=>none
        |none=>none
      |_=>none
    |none=>none
  |_=>none
theorem vg(a : Φ.Ok P){op  p  σ' }(d : o.op = op)(h : Bo Φ t σ op = some (p, σ')) : cK P σ t o p σ' := by
  unfold Bo at h;split at h
  · split at h
    · rename_i b;split at h
      · rename_i c;cases force_eq c;split at h
        · rename_i hl;cases DT hl;split at h
          · rename_i hs;cases force_eq hs;cases h;exact oC d (a.zk.get b)
          · cases h
        · cases h
      · cases h
    · cases h
  · split at h
    · rename_i hk;split at h
      · rename_i hx;split at h
        · rename_i hy;split at h
          · rename_i hi;split at h
            · rename_i hc;split at h
              · rename_i e;cases force_eq e;rw[RI]at h;split at h
                · rename_i hb;simp only[Q7,Tu]at hb;have h1:=Rp hb.1;haveI:=IL hb.2.2;split at h
                  · rename_i b;cases force_eq b;split at h
                    · rename_i hs;cases force_eq hs;cases h;exact oD d (a.tk.get hk) hx hy hc h1 hi hb.2.1
                    · cases h
                  · cases h
                · cases h
              · cases h
            · cases h
          · cases h
        · cases h
      · cases h
    · cases h
  · cases h
def MY(Φ:vN)(N:Nat)(ops:Array Oper)(t:cq)(σ:ca)(o:Oper):Option (cq×ca):=
 match fO ops t o with
 |some true=>match o.dst with
  |some d=>bif Nat.blt d N then match gI Φ σ t o.op with
    |some p=>some ((d,p)::t,σ)
    |none=>match Bo Φ t σ o.op with
     |some (p,s)=>some ((d,p)::t,s)
     |none=>none
   else none
  |none=>match Bo Φ t σ o.op with
   |some (_,s)=>some (t,s)
   |none=>none
 |some false=>match o.dst with
  |some d=>bif Nat.blt d N then some ((d,.raw undef)::t,σ) else none
  |none=>none
 |none=>none
def NR(Φ:vN)(N:Nat)(ops:Array Oper):Nat->List Oper->cq->ca->Option (List Oper×cq×ca)
 |0,l,t,σ=>some (l,t,σ)
 |_+1,[],_,_=>none
 |n+1,o::l,t,σ=>match MY Φ N ops t σ o with
  |some (t',σ')=>NR Φ N ops n l t' σ'
  |none=>none
theorem au[b:Has P Φ](n:Nat){l c u σ'}{K:St->Prop}(h:NR Φ N ops n l t σ=some (c,u,σ'))(k:WR P N L ops c ⟨u,σ'⟩ K):WR P N L ops l ⟨t,σ⟩ K:=by
 induction n generalizing l t σ with
 |zero=>cases h;exact k
 |succ n e=>
  cases l with
  |nil=>cases h
  |cons o l=>
   simp only[NR]at h;split at h
   ·rename_i t' s' hx;have a:=e h;unfold MY at hx;split at hx
    ·rename_i hw;split at hx
     ·rename_i d hd;rw[RI]at hx;split at hx
      ·rename_i hN;split at hx
       ·rename_i p hp;cases hx;exact bP (nr b.ok rfl hp) hd hw hN a
       ·split at hx
        ·rename_i hs;cases hx;exact ep (vg b.ok rfl hs) hd hw hN a
        ·cases hx
      ·cases hx
     ·rename_i hd;split at hx
      ·rename_i hs;cases hx;exact bc (vg b.ok rfl hs) hd hw a
      ·cases hx
    ·rename_i hw;split at hx
     ·rename_i d hd;rw[RI]at hx;split at hx
      ·rename_i hN;cases hx;exact Di hd hw hN a
      ·cases hx
     ·cases hx
    ·cases hx
   ·cases h
def pZ(Φ:vN)(t:cq):Op->Option (Nat×List PV)
  | .call c=>match c.callee with
    | .value x=>match aH t x with
      | some (.func f cap) => match Φ.en.get f with
        |some _=>match jx t c.args.toList with
          |some ps=>match cap with
            | []=>some (f,ps)
            |q::cap=>match force (ps++(q::cap))with
              |some a=>some (f,a)
              |none=>none
          |none=>none
        |none=>none
      |_=>none
    |_=>none
  |_=>none
theorem mz(b:Φ.Ok P){op:Op}{f:Nat}{ps:List PV}(h:pZ Φ t op=some (f,ps)):∃x args d cap g,op= .call {callee:=.value x,args:=args,argTypes:=d}/\enters P f=true/\aH t x=some (.func f cap)/\jx t args.toList=some g/\g++cap=ps:=by
 unfold pZ at h;split at h
 ·rename_i c;obtain⟨c1,k,l⟩:=c;split at h
  ·rename_i x hx;simp only at hx;subst hx;split at h
   ·rename_i i;split at h
    ·rename_i a;split at h
     ·rename_i g j;split at h
      ·cases h;exact⟨_,_,_,_,_,rfl,b.en.get a,i,j,by simp⟩
      ·split at h
       ·rename_i e;cases h;exact⟨_,_,_,_,_,rfl,b.en.get a,i,j,force_eq e⟩
       ·cases h
     ·cases h
    ·cases h
   ·cases h
  ·cases h
 ·cases h
theorem dX[d:Has P Φ]{f:Nat}{ps r}(h:pZ Φ t o.op=some (f,ps))(hc:Can P f ps (· =r))[hp:aP ps]:bE P σ t o r:=by
 obtain⟨x,b,c,cap,i,e,a,hx,g,rfl⟩:=mz d.ok h;exact vB e a hx g hc
theorem Mg[e:Has P Φ]{f:Nat}{ps c r}(h:pZ Φ t o.op=some (f,ps))(i:af σ ps c)(hc:Can P f c (· =r))[hp:ra r]:bE P σ t o r:=by
 obtain⟨x,b,d,cap,j,g,a,hx,he,rfl⟩:=mz e.ok h;exact Mi g a hx he i hc
theorem sT[e:Has P Φ]{f:Nat}{ps c r}(h:pZ Φ t o.op=some (f,ps))(i:af [] ps c)(hc:Can P f c (· =r)):bE P σ t o r:=by
 obtain⟨x,b,d,cap,j,g,a,hx,he,rfl⟩:=mz e.ok h;exact Mh g a hx he i hc
theorem fJ.c[Has P Φ]{rest t'}{d f:Nat}{ps r}(h:pZ Φ t o.op=some (f,ps))(hc:Can P f ps (· =r))(hd:dk N ops t o=some d)(k:fJ P N ops σ rest ((d,r)::t) t')[aP ps]:fJ P N ops σ (o::rest) t t':=.v (dX h hc) hd k
theorem ez[Has P Φ]{rest}{K:St->Prop}{d f:Nat}{ps r}(h:pZ Φ t o.op=some (f,ps))(hc:Can P f ps (· =r))(hd:dk N ops t o=some d)(k:WR P N L ops rest ⟨(d,r)::t,σ⟩ K)[aP ps]:WR P N L ops (o::rest) ⟨t,σ⟩ K:=bm (dX h hc) hd k
theorem cD[e:Has P Φ]{rest}{K:St->Prop}{d f:Nat}{ps}(h:pZ Φ t o.op=some (f,ps))(hd:dk N ops t o=some d)(hc:bM P f ps σ (λr σ'=>WR P N L ops rest ⟨(d,r)::t,σ'⟩ K)):WR P N L ops (o::rest) ⟨t,σ⟩ K:=by
 obtain⟨x,b,c,cap,i,g,a,hx,he,rfl⟩:=mz e.ok h;exact zz g a hx he (fF hd).1 (fF hd).2.1 (fF hd).2.2 hc
theorem bW[a:Has P Φ]{b q}(h:gI Φ σ t o.op=some (.raw (.bool b)))(c:b=q):bE P σ t o (.raw (.bool q)):=by subst c;exact nr a.ok rfl h
def Qd(t:cq):Op->Option Int
 | .binOp op _ x y _=>match aH t x with
  |some (.raw (.int .i64 a))=>match aH t y with
   |some (.raw (.int .i64 b))=>match op with
    | .add=>some (a+b)
    | .sub=>some (a - b)
    | .mul=>some (a*b)
    |_=>none
   |_=>none
  |_=>none
 |_=>none
theorem aW{a:Int}(h:Qd t o.op=some a){c:Int}(hc:a=c:=by exact rfl)(hn:In64 c:=by unfold In64;omega):bE P σ t o (.raw (.int .i64 c)):=by
 subst hc;unfold Qd at h;split at h
 ·rename_i b;split at h
  ·rename_i hx;split at h
   ·rename_i hy;split at h
    ·cases h;exact O0 b hx hy rfl hn
    ·cases h;exact Pe b hx hy rfl hn
    ·cases h;exact O8 b hx hy rfl hn
    ·cases h
   ·cases h
  ·cases h
 ·cases h
def Qi(Φ:vN)(σ:ca)(t:cq):Op->Option (Int×Nat×Nat×(Nat->PV))
 | .indexAddr ty x a=>match aH t a with
  |some (.raw (.int _ i))=>match Φ.el.get ty with
   |some (_,s)=>match aH t x with
    |some (.slice n xs)=>some (i,n,s,λj=>.bq xs j)
    |some (.own m)=>match σ[m]? with
     |some (some (.row _ _ n _))=>some (i,n,s,λj=>.ptr m j)
     |_=>none
    |_=>none
   |none=>match Φ.ar.get ty with
    |some (n,s)=>match aH t x with
     |some (.bq xs off)=>some (i,n,s,λj=>.bq xs (off+j))
     |_=>none
    |none=>none
  |_=>none
 |_=>none
theorem aM[e:Has P Φ]{i:Int}{n s:Nat}{g:Nat->PV}(j:Nat)(h:Qi Φ σ t o.op=some (i,n,s,g))(h0:0<=i:=by omega)(h1:i<n:=by omega)(hj:i.toNat*s=j:=by omega):bE P σ t o (g j):=by
 unfold Qi at h;split at h
 ·rename_i d;split at h
  ·rename_i a;split at h
   ·rename_i c;have hk:=e.ok.el.get c;split at h
    ·rename_i hx;cases h;exact zq d hk hx a h0 h1 hj
    ·rename_i hx;split at h
     ·rename_i hi;cases h;exact cj d hk hx hi a h0 h1 hj
     ·cases h
    ·cases h
   ·split at h
    ·rename_i b;have hk:=e.ok.ar.get b;split at h
     ·rename_i hx;cases h;exact pf d hk hx a h0 h1 hj
     ·cases h
    ·cases h
  ·cases h
 ·cases h
def Pr(Φ:vN)(σ:ca)(t:cq):Op->Option (List PV×Nat×Option Nat)
 | .load ty x=>match Φ.tk.get ty with
  |some k=>match aH t x with
   |some (.bq xs o)=>some (xs,o,k)
   |some (.ptr i o)=>match σ[i]? with
    |some (some blk)=>some (blk.xs,o,k)
    |_=>none
   |_=>none
  |none=>none
 |_=>none
theorem aJ[c:Has P Φ]{xs}{k:Nat}{p}(h:Pr Φ σ t o.op=some (xs,k,none))(hp:xs[k]? =some p):bE P σ t o p:=by
 unfold Pr at h;split at h
 ·rename_i b;split at h
  ·rename_i a;have hk:=c.ok.tk.get a;split at h
   ·rename_i hx;cases h;exact rY b hk hx hp
   ·rename_i hx;split at h
    ·rename_i hi;cases h;exact aY b hk hx hi hp
    ·cases h
   ·cases h
  ·cases h
 ·cases h
theorem gj[c:Has P Φ]{xs ys:List PV}{k n:Nat}(h:Pr Φ σ t o.op=some (xs,k,some n))(hp:(xs.drop k).take n=ys)(hn:ys.length=n):bE P σ t o (.agg ys):=by
 unfold Pr at h;split at h
 ·rename_i b;split at h
  ·rename_i a;have hk:=c.ok.tk.get a;split at h
   ·rename_i hx;cases h;exact kf b hk hx hp hn
   ·rename_i hx;split at h
    ·rename_i hi;cases h;exact ee b hk hx hi hp hn
    ·cases h
   ·cases h
  ·cases h
 ·cases h
def OS(Φ:vN)(st:St):ResultVar->Option PV
 | .tmp k=>look k st.t
 | .cell k ty=>match look k st.t with
  |some (.ptr i off)=>match st.σ[i]? with
   |some (some blk)=>match Φ.tk.get ty with
    |some none=>blk.xs[off]?
    |some (some n)=>part blk.xs off n
    |none=>none
   |_=>none
  |_=>none
def NN(Φ:vN)(st:St):List ResultVar->Option (List PV)
 | []=>some []
 |r::rs=>match OS Φ st r with
  |some p=>match NN Φ st rs with
   |some ps=>some (p::ps)
   |none=>none
  |none=>none
theorem ay.of[c:Has P Φ]{st}:∀ {rs ps},NN Φ st rs=some ps->ay P st rs ps
 | [],ps,h=>by cases h;exact .nil
 |r::rs,ps,h=>by
  simp only[NN]at h;split at h
  ·rename_i p hp;split at h
   ·rename_i d b;cases h;refine .cons ?_ (ay.of b);unfold OS at hp;split at hp
    ·exact .tmp hp
    ·split at hp
     ·rename_i hl;split at hp
      ·rename_i hi;split at hp
       ·rename_i a;exact .MC hl hi (c.ok.tk.get a) hp
       ·rename_i a;obtain⟨ys,rfl,h1,h2⟩:=yW hp;exact .MD hl hi (c.ok.tk.get a) h1 h2
       ·cases hp
      ·cases hp
     ·cases hp
   ·cases h
  ·cases h
abbrev RY:=@ay.of
theorem QR{P  fn R Φ } [a : Has P Φ] {st : St} {ps q}(h:NN Φ st fn.results.toList=some ps)(h0:ax st.σ (Mb ps) q)(h1:R q):Pz P fn R .ret st:=⟨_,_,RY h,h0,h1⟩
def Ig:List Nat->Nat->Option Nat
 | [],_=>none
 |x::l,j=>bif Nat.beq x j then some 0 else match Ig l j with
  |some n=>some (n+1)
  |none=>none
theorem yD:∀ {fs:List Nat} {j i:Nat},Ig fs j=some i->fs[i]? =some j
 | [],_,_,h=>by cases h
 |x::l,j,i,h=>by
  simp only[Ig,RI]at h;split at h
  ·rename_i he;cases h;cases Rp he;rfl
  ·split at h
   ·rename_i n hn;cases h;simpa using yD hn
   ·cases h
theorem Ren.OL{fs:List Nat}{i j:Nat}(h:Ig fs j=some i):Ren fs (.own i) (.own j):=.own (yD h)
theorem Ren.OO{fs:List Nat}{i j k:Nat}(h:Ig fs j=some i):Ren fs (.ptr i k) (.ptr j k):=.ptr (yD h)
theorem pj.c{fs:List Nat}{t t' p p'}(k:Nat)(rest:pj fs t t')(h:look k t=some p:=by exact rfl)(hr:Ren fs p' p:=by first|exact Ren.pure|exact Ren.OL rfl|exact Ren.OO rfl):pj fs t ((k,p')::t'):=.cons k h hr rest
theorem aG.c{fs:List Nat}{x y xs ys}(rest:aG fs xs ys)(hr:Ren fs x y:=by first|exact Ren.pure|exact Ren.OL rfl|exact Ren.OO rfl):aG fs (x::xs) (y::ys):=S2 hr rest
abbrev Sr:=@aG.c
theorem bb[a:Has P Φ]{p}(h:gI Φ σ t o.op=some p):bE P σ t o p:=nr a.ok rfl h
theorem eM[a:Has P Φ]{p σ'}(h:Bo Φ t σ o.op=some (p,σ')):cK P σ t o p σ':=vg a.ok rfl h
def tV(N:Nat)(l:List Oper):Bool:=Region.lexB .any l.toArray&&l.all λo=>o.dst.all λe=>decide (e<N)
theorem nA{l:List Oper}(h:tV N l=true):Region.lexB .any l.toArray=true/\(l.all λo=>o.dst.all λe=>decide (e<N)&&(l.filterMap (·.dst)).contains e)=true/\((l.filterMap (·.dst)).all λe=>decide (e<N))=true:=by
 unfold tV at h;simp only[Q7,Rq]at h;refine⟨h.1,Rq.2 λo a=>?_,Rq.2 λe he=>?_⟩
 ·have h2:=h.2 o a;cases hd:o.dst with
  |none=>rfl
  |some e=>
   rw[hd]at h2;simp only[Option.all_some,Q7,List.contains_iff_mem,T2]at h2 ⊢;exact⟨h2,o,a,hd⟩
 ·obtain⟨o,a,hd⟩:=T2.1 he;have h2:=h.2 o a;rw[hd]at h2;exact h2
theorem Og{id:Nat}{l:List Oper}{t'}{Q:Exit->St->Prop}(hm:P.follows .mixedOrders=true)(a:tV N l=true)(h:eH P N l.toArray σ l t t')(b:Q .normal ⟨t',σ⟩):W P N L (.region id l.toArray true) ⟨t,σ⟩ Q:=Nb _ hm (nA a).1 (nA a).2.1 (nA a).2.2 h b
theorem er{id:Nat}{l:List Oper}{y t'}{Q:Exit->St->Prop}(hm:P.follows .mixedOrders=true)(a:tV N l=true)(h:eH P N l.toArray σ l t t')(b:W P N L y ⟨t',σ⟩ Q):W P N L (.seq (.region id l.toArray true) y) ⟨t,σ⟩ Q:=ai (Og hm a h b)
theorem bz{id:Nat}{l:List Oper}{y u}{Q:Exit->St->Prop}(k:Nat)(p:PV)(ks:List Nat)(_:jU t ks=some u)(h:fJ P N l.toArray σ l t ((k,p)::u))(a:W P N L y ⟨(k,p)::u,σ⟩ Q):W P N L (.seq (.region id l.toArray false) y) ⟨t,σ⟩ Q:=ab h a
theorem tF{id:Nat}{l:List Oper}{u}{Q:Exit->St->Prop}(k:Nat)(p:PV)(ks:List Nat)(_:jU t ks=some u)(h:fJ P N l.toArray σ l t ((k,p)::u))(a:Q .normal ⟨(k,p)::u,σ⟩):W P N L (.region id l.toArray false) ⟨t,σ⟩ Q:=aC h a
theorem iY{id:Nat}{l:List Oper}{y u}{Q:Exit->St->Prop}(hm:P.follows .mixedOrders=true)(a:tV N l=true)(k:Nat)(p:PV)(ks:List Nat)(_:jU t ks=some u)(h:eH P N l.toArray σ l t ((k,p)::u))(b:W P N L y ⟨(k,p)::u,σ⟩ Q):W P N L (.seq (.region id l.toArray true) y) ⟨t,σ⟩ Q:=er hm a h b
def Tr.keys{α:Type}:Tr α->List Nat
 | .l=>[]
 | .n a k _ b=>a.keys++k::b.keys
def Tr.GM{α:Type}:Tr α->List α
 | .l=>[]
 | .n a _ v b=>a.GM++v::b.GM
theorem Tr.uw{α:Type}:∀(t:Tr α),t.keys.length=t.GM.length
 | .l=>rfl
 | .n a _ _ b=>by simp[Tr.keys,Tr.GM,Tr.uw a,Tr.uw b]
theorem Tr.of{α:Type}(f:Nat->Option α):∀ {t:Tr α},t.keys.map f=t.GM.map some->t.xQ λk v=>f k=some v
 | .l,_=>.l
 | .n a k v b,h=>by
  simp only[Tr.keys,Tr.GM,Sm,R7]at h;obtain⟨h1,h2⟩:=List.append_inj h (by simp[Tr.uw]);simp only[Tx]at h2;exact .n (Tr.of f h1) h2.1 (Tr.of f h2.2)
theorem Tr.OK{α:Type}(f:Nat->Bool):∀ {t:Tr α},t.keys.all f=true->t.xQ λk _=>f k=true
 | .l,_=>.l
 | .n a k v b,h=>by
  simp only[Tr.keys,T3,UL,Q7]at h;exact .n (Tr.OK f h.1) h.2.1 (Tr.OK f h.2.2)
end
end
section
set_option maxRecDepth 100000
abbrev tq{α:Type}(k:Nat)(v:α):Tr α:=.n .l k v .l
def QB:Tr (Option Nat):=.n (.n (.n (.n (.n (.n (.n (tq 0 none) 1 none (tq 2 none)) 3 none (.n (tq 4 none) 5 none (tq 7 (some 4)))) 9 none (.n (.n (tq 12 none) 13 (some 2) (tq 15 none)) 16 none (.n (tq 17 none) 18 (some 1) .l))) 20 none (.n (.n (.n (tq 21 none) 22 none (tq 23 none)) 24 (some 3) (.n (tq 25 (some 3)) 26 (some 2) .l)) 27 (some 2) (.n (.n (tq 28 none) 29 (some 8) (tq 30 (some 8))) 31 none (.n (tq 32 none) 33 none .l)))) 34 none (.n (.n (.n (.n (tq 35 none) 36 none (tq 37 none)) 38 none (.n (tq 39 none) 40 none (tq 41 none))) 42 none (.n (.n (tq 43 (some 6)) 44 (some 6) (tq 45 none)) 46 none (.n (tq 47 none) 48 none .l))) 49 none (.n (.n (.n (tq 50 none) 51 none (tq 52 none)) 53 (some 3) (.n (tq 54 (some 3)) 55 none .l)) 56 none (.n (.n (tq 57 none) 58 (some 3) (tq 59 (some 2))) 60 (some 7) (.n (tq 61 (some 7)) 62 none .l))))) 63 none (.n (.n (.n (.n (.n (tq 64 none) 65 none (tq 66 none)) 67 none (.n (tq 68 none) 69 none (tq 70 none))) 71 (some 6) (.n (.n (tq 72 (some 6)) 73 none (tq 74 none)) 75 (some 3) (.n (tq 76 (some 3)) 77 none .l))) 78 none (.n (.n (.n (tq 79 none) 80 none (tq 81 none)) 82 (some 5) (.n (tq 83 (some 5)) 84 (some 12) .l)) 85 (some 12) (.n (.n (tq 86 none) 87 none (tq 88 none)) 89 none (.n (tq 90 none) 91 none .l)))) 92 none (.n (.n (.n (.n (tq 93 none) 94 none (tq 95 none)) 96 none (.n (tq 97 (some 4)) 98 none .l)) 99 none (.n (.n (tq 100 none) 101 none (tq 102 none)) 103 none (.n (tq 104 none) 105 none .l))) 106 none (.n (.n (.n (tq 107 none) 108 none (tq 109 none)) 110 none (.n (tq 111 none) 112 none .l)) 113 none (.n (.n (tq 114 none) 115 none (tq 116 none)) 117 none (.n (tq 118 none) 119 (some 3) .l)))))) 120 (some 3) (.n (.n (.n (.n (.n (.n (tq 121 none) 122 none (tq 123 none)) 124 none (.n (tq 125 none) 126 none (tq 127 none))) 128 none (.n (.n (tq 129 (some 2)) 130 (some 2) (tq 131 none)) 132 none (.n (tq 133 none) 134 none .l))) 135 none (.n (.n (.n (tq 136 (some 2)) 137 none (tq 138 none)) 139 none (.n (tq 140 none) 141 none .l)) 142 none (.n (.n (tq 143 none) 144 none (tq 145 none)) 146 none (.n (tq 147 none) 148 none .l)))) 149 none (.n (.n (.n (.n (tq 150 none) 151 none (tq 152 none)) 153 none (.n (tq 154 none) 155 none .l)) 156 none (.n (.n (tq 157 none) 158 none (tq 159 none)) 160 none (.n (tq 161 none) 162 none .l))) 163 none (.n (.n (.n (tq 164 none) 165 none (tq 166 none)) 167 none (.n (tq 168 none) 169 none .l)) 170 none (.n (.n (tq 171 none) 172 none (tq 173 none)) 174 none (.n (tq 175 none) 176 none .l))))) 177 none (.n (.n (.n (.n (.n (tq 178 none) 179 none (tq 180 none)) 181 none (.n (tq 182 none) 183 none (tq 184 none))) 185 none (.n (.n (tq 186 none) 187 none (tq 188 none)) 189 none (.n (tq 190 none) 191 none .l))) 192 none (.n (.n (.n (tq 193 none) 194 (some 7) (tq 195 (some 7))) 196 none (.n (tq 197 none) 198 none .l)) 199 none (.n (.n (tq 200 none) 201 none (tq 202 none)) 203 none (.n (tq 204 none) 205 none .l)))) 206 (some 9) (.n (.n (.n (.n (tq 207 (some 9)) 208 (some 24) (tq 209 none)) 210 none (.n (tq 211 none) 212 none .l)) 213 none (.n (.n (tq 214 none) 215 none (tq 216 none)) 217 none (.n (tq 220 none) 222 none .l))) 224 none (.n (.n (.n (tq 226 (some 20)) 227 none (tq 228 (some 65))) 229 none (.n (tq 232 (some 3)) 234 none .l)) 238 (some 32) (.n (.n (tq 239 (some 64)) 242 none (tq 245 none)) 246 none (.n (tq 255 none) 256 none .l))))))
def Qw:Tr (Nat):=.n (.n (.n (.n (.n (.n (.n (tq 700 0) 701 1 .l) 702 2 (tq 703 3)) 1300 0 (.n (tq 1301 1) 1800 0 (tq 2400 0))) 2401 1 (.n (.n (.n (tq 2402 2) 2500 0 .l) 2501 1 (tq 2502 2)) 2600 0 (.n (tq 2601 1) 2700 0 (tq 2701 1)))) 2900 0 (.n (.n (.n (.n (tq 2901 3) 2902 5 .l) 2903 6 (tq 2904 7)) 3000 0 (.n (tq 3001 3) 3002 5 (tq 3003 6))) 3004 7 (.n (.n (tq 4300 0) 4301 1 (tq 4302 2)) 4303 3 (.n (tq 4304 4) 4305 5 (tq 4400 0))))) 4401 1 (.n (.n (.n (.n (.n (tq 4402 2) 4403 3 .l) 4404 4 (tq 4405 5)) 5300 0 (.n (tq 5301 1) 5302 2 (tq 5400 0))) 5401 1 (.n (.n (tq 5402 2) 5800 0 (tq 5801 1)) 5802 2 (.n (tq 6000 0) 6001 1 (tq 6002 2)))) 6003 4 (.n (.n (.n (.n (tq 6004 5) 6005 6 .l) 6100 0 (tq 6101 1)) 6102 2 (.n (tq 6103 4) 6104 5 (tq 6105 6))) 7100 0 (.n (.n (tq 7101 1) 7102 2 (tq 7103 3)) 7104 4 (.n (tq 7105 5) 7200 0 (tq 7201 1)))))) 7202 2 (.n (.n (.n (.n (.n (.n (tq 7203 3) 7204 4 .l) 7205 5 (tq 7500 0)) 7501 1 (.n (tq 7502 2) 7600 0 (tq 7601 1))) 7602 2 (.n (.n (.n (tq 8200 0) 8201 3 .l) 8202 4 (tq 8300 0)) 8301 3 (.n (tq 8302 4) 8400 0 (tq 8401 1)))) 8402 7 (.n (.n (.n (.n (tq 8403 8) 8404 9 .l) 8405 10 (tq 8406 11)) 8500 0 (.n (tq 8501 1) 8502 7 (tq 8503 8))) 8504 9 (.n (.n (tq 8505 10) 8506 11 (tq 11900 0)) 11901 1 (.n (tq 11902 2) 12000 0 (tq 12001 1))))) 12002 2 (.n (.n (.n (.n (.n (tq 12900 0) 12901 1 .l) 13000 0 (tq 13001 1)) 13600 0 (.n (tq 13601 1) 19400 0 (tq 19401 3))) 19402 4 (.n (.n (tq 19403 5) 19404 6 (tq 19500 0)) 19501 3 (.n (tq 19502 4) 19503 5 (tq 19504 6)))) 20600 0 (.n (.n (.n (.n (tq 20601 3) 20602 4 .l) 20603 5 (tq 20604 6)) 20605 7 (.n (tq 20606 8) 20700 0 (tq 20701 3))) 20702 4 (.n (.n (tq 20703 5) 20704 6 (tq 20705 7)) 20706 8 (.n (tq 23200 0) 23201 1 (tq 23202 2))))))
def Qu:Tr (Nat×Nat):=.n (.n (.n (tq 22 (4,1)) 23 (61,7) (tq 28 (3,1))) 41 (76,3) (.n (tq 42 (136,2)) 50 (54,3) (tq 55 (58,3)))) 68 (67,1) (.n (.n (tq 74 (120,3)) 81 (85,12) (tq 92 (27,2))) 128 (5,1) (.n (tq 175 (174,1)) 183 (42,1) (tq 190 (28,1))))
def QA:Tr (List (Nat×Nat)×List Value):=.n (.n (.n (.n (.n (tq 7 ([(0,1),(1,1),(2,1),(3,1)],[.int .i64 0,.int .i64 0,.bool false,.int .u8 0])) 13 ([(0,1),(1,1)],[.string ⟨#[]⟩,.int .u64 0]) .l) 18 ([(0,1)],[.pointer none]) (tq 24 ([(0,1),(1,1),(2,1)],[.int .i64 0,.slice none 0 0,.slice none 0 0]))) 25 ([(0,1),(1,1),(2,1)],[.int .i64 0,.slice none 0 0,.slice none 0 0]) (.n (tq 26 ([(0,1),(1,1)],[.int .i64 0,.int .i64 0])) 27 ([(0,1),(1,1)],[.int .i64 0,.int .i64 0]) (tq 29 ([(0,3),(3,2),(5,1),(6,1),(7,1)],[.int .i64 0,.slice none 0 0,.slice none 0 0,.int .i64 0,.int .i64 0,.slice none 0 0,.int .i64 0,.int .i64 0])))) 30 ([(0,3),(3,2),(5,1),(6,1),(7,1)],[.int .i64 0,.slice none 0 0,.slice none 0 0,.int .i64 0,.int .i64 0,.slice none 0 0,.int .i64 0,.int .i64 0]) (.n (.n (.n (tq 43 ([(0,1),(1,1),(2,1),(3,1),(4,1),(5,1)],[.int .i64 0,.int .i64 0,.int .i64 0,.int .i64 0,.slice none 0 0,.int .i64 0])) 44 ([(0,1),(1,1),(2,1),(3,1),(4,1),(5,1)],[.int .i64 0,.int .i64 0,.int .i64 0,.int .i64 0,.slice none 0 0,.int .i64 0]) .l) 53 ([(0,1),(1,1),(2,1)],[.int .i64 0,.int .i64 0,.slice none 0 0]) (tq 54 ([(0,1),(1,1),(2,1)],[.int .i64 0,.int .i64 0,.slice none 0 0]))) 58 ([(0,1),(1,1),(2,1)],[.int .i64 0,.int .i64 0,.slice none 0 0]) (.n (tq 60 ([(0,1),(1,1),(2,2),(4,1),(5,1),(6,1)],[.int .i64 0,.int .i64 0,.int .i64 0,.int .i64 0,.int .i64 0,.int .i64 0,.int .i64 0])) 61 ([(0,1),(1,1),(2,2),(4,1),(5,1),(6,1)],[.int .i64 0,.int .i64 0,.int .i64 0,.int .i64 0,.int .i64 0,.int .i64 0,.int .i64 0]) (tq 71 ([(0,1),(1,1),(2,1),(3,1),(4,1),(5,1)],[.int .i64 0,.int .i64 0,.slice none 0 0,.slice none 0 0,.bool false,.int .i64 0]))))) 72 ([(0,1),(1,1),(2,1),(3,1),(4,1),(5,1)],[.int .i64 0,.int .i64 0,.slice none 0 0,.slice none 0 0,.bool false,.int .i64 0]) (.n (.n (.n (.n (tq 75 ([(0,1),(1,1),(2,1)],[.int .i64 0,.slice none 0 0,.slice none 0 0])) 76 ([(0,1),(1,1),(2,1)],[.int .i64 0,.slice none 0 0,.slice none 0 0]) .l) 82 ([(0,3),(3,1),(4,1)],[.int .i64 0,.slice none 0 0,.slice none 0 0,.slice none 0 0,.slice none 0 0]) (tq 83 ([(0,3),(3,1),(4,1)],[.int .i64 0,.slice none 0 0,.slice none 0 0,.slice none 0 0,.slice none 0 0]))) 84 ([(0,1),(1,6),(7,1),(8,1),(9,1),(10,1),(11,1)],[.int .i64 0,.int .i64 0,.int .i64 0,.int .i64 0,.int .i64 0,.slice none 0 0,.int .i64 0,.slice none 0 0,.slice none 0 0,.int .i64 0,.int .i64 0,.int .i64 0]) (.n (tq 85 ([(0,1),(1,6),(7,1),(8,1),(9,1),(10,1),(11,1)],[.int .i64 0,.int .i64 0,.int .i64 0,.int .i64 0,.int .i64 0,.slice none 0 0,.int .i64 0,.slice none 0 0,.slice none 0 0,.int .i64 0,.int .i64 0,.int .i64 0])) 119 ([(0,1),(1,1),(2,1)],[.slice none 0 0,.bool false,.slice none 0 0]) (tq 120 ([(0,1),(1,1),(2,1)],[.slice none 0 0,.bool false,.slice none 0 0])))) 129 ([(0,1),(1,1)],[.pointer none,.slice none 0 0]) (.n (.n (tq 130 ([(0,1),(1,1)],[.pointer none,.slice none 0 0])) 136 ([(0,1),(1,1)],[.int .i64 0,.int .i64 0]) (tq 194 ([(0,3),(3,1),(4,1),(5,1),(6,1)],[.int .i64 0,.slice none 0 0,.slice none 0 0,.slice none 0 0,.int .i64 0,.nilFunc,.nilFunc]))) 195 ([(0,3),(3,1),(4,1),(5,1),(6,1)],[.int .i64 0,.slice none 0 0,.slice none 0 0,.slice none 0 0,.int .i64 0,.nilFunc,.nilFunc]) (.n (tq 206 ([(0,3),(3,1),(4,1),(5,1),(6,1),(7,1),(8,1)],[.int .i64 0,.slice none 0 0,.slice none 0 0,.slice none 0 0,.slice none 0 0,.slice none 0 0,.slice none 0 0,.map none,.map none])) 207 ([(0,3),(3,1),(4,1),(5,1),(6,1),(7,1),(8,1)],[.int .i64 0,.slice none 0 0,.slice none 0 0,.slice none 0 0,.slice none 0 0,.slice none 0 0,.slice none 0 0,.map none,.map none]) (tq 232 ([(0,1),(1,1),(2,1)],[.slice none 0 0,.slice none 0 0,.slice none 0 0])))))
def Qz:Tr (Nat×Nat×List Value):=.n (.n (.n (tq 22 (4,1,[.bool false])) 23 (61,7,[.int .i64 0,.int .i64 0,.int .i64 0,.int .i64 0,.int .i64 0,.int .i64 0,.int .i64 0]) (tq 28 (3,1,[.int .i64 0]))) 41 (76,3,[.int .i64 0,.slice none 0 0,.slice none 0 0]) (.n (tq 42 (136,2,[.int .i64 0,.int .i64 0])) 50 (54,3,[.int .i64 0,.int .i64 0,.slice none 0 0]) (tq 55 (58,3,[.int .i64 0,.int .i64 0,.slice none 0 0])))) 68 (67,1,[.pointer none]) (.n (.n (tq 74 (120,3,[.slice none 0 0,.bool false,.slice none 0 0])) 81 (85,12,[.int .i64 0,.int .i64 0,.int .i64 0,.int .i64 0,.int .i64 0,.slice none 0 0,.int .i64 0,.slice none 0 0,.slice none 0 0,.int .i64 0,.int .i64 0,.int .i64 0]) (tq 92 (27,2,[.int .i64 0,.int .i64 0]))) 128 (5,1,[.int .u8 0]) (.n (tq 175 (174,1,[.nilFunc])) 183 (42,1,[.slice none 0 0]) (tq 190 (28,1,[.slice none 0 0]))))
def Qy:Tr (Nat×Nat×Nat×List Value):=.n (.n (.n (tq 22 (4,1,1,[.bool false])) 23 (61,7,56,[.int .i64 0,.int .i64 0,.int .i64 0,.int .i64 0,.int .i64 0,.int .i64 0,.int .i64 0]) (tq 28 (3,1,8,[.int .i64 0]))) 41 (76,3,56,[.int .i64 0,.slice none 0 0,.slice none 0 0]) (.n (tq 42 (136,2,16,[.int .i64 0,.int .i64 0])) 50 (54,3,40,[.int .i64 0,.int .i64 0,.slice none 0 0]) (tq 55 (58,3,40,[.int .i64 0,.int .i64 0,.slice none 0 0])))) 68 (67,1,8,[.pointer none]) (.n (.n (tq 74 (120,3,56,[.slice none 0 0,.bool false,.slice none 0 0])) 81 (85,12,144,[.int .i64 0,.int .i64 0,.int .i64 0,.int .i64 0,.int .i64 0,.slice none 0 0,.int .i64 0,.slice none 0 0,.slice none 0 0,.int .i64 0,.int .i64 0,.int .i64 0]) (tq 92 (27,2,16,[.int .i64 0,.int .i64 0]))) 128 (5,1,1,[.int .u8 0]) (.n (tq 175 (174,1,8,[.nilFunc])) 183 (42,1,24,[.slice none 0 0]) (tq 190 (28,1,24,[.slice none 0 0]))))
def QC:Tr (List Value):=.n (.n (.n (.n (.n (.n (tq 2 [.int .i64 0]) 3 [.int .i64 0] .l) 4 [.bool false] (.n (tq 5 [.int .u8 0]) 7 [.int .i64 0,.int .i64 0,.bool false,.int .u8 0] .l)) 9 [.string ⟨#[]⟩] (.n (.n (tq 12 [.int .u64 0]) 13 [.string ⟨#[]⟩,.int .u64 0] .l) 15 [.pointer none] (tq 16 [.pointer none]))) 17 [.pointer none] (.n (.n (.n (tq 18 [.pointer none]) 20 [.nilIface] .l) 21 [.int .i32 0] (.n (tq 22 [.slice none 0 0]) 23 [.slice none 0 0] .l)) 24 [.int .i64 0,.slice none 0 0,.slice none 0 0] (.n (.n (tq 25 [.int .i64 0,.slice none 0 0,.slice none 0 0]) 26 [.int .i64 0,.int .i64 0] .l) 27 [.int .i64 0,.int .i64 0] (tq 28 [.slice none 0 0])))) 29 [.int .i64 0,.slice none 0 0,.slice none 0 0,.int .i64 0,.int .i64 0,.slice none 0 0,.int .i64 0,.int .i64 0] (.n (.n (.n (.n (tq 30 [.int .i64 0,.slice none 0 0,.slice none 0 0,.int .i64 0,.int .i64 0,.slice none 0 0,.int .i64 0,.int .i64 0]) 33 [.int .i64 0] .l) 41 [.slice none 0 0] (.n (tq 42 [.slice none 0 0]) 43 [.int .i64 0,.int .i64 0,.int .i64 0,.int .i64 0,.slice none 0 0,.int .i64 0] .l)) 44 [.int .i64 0,.int .i64 0,.int .i64 0,.int .i64 0,.slice none 0 0,.int .i64 0] (.n (.n (tq 50 [.slice none 0 0]) 53 [.int .i64 0,.int .i64 0,.slice none 0 0] .l) 54 [.int .i64 0,.int .i64 0,.slice none 0 0] (tq 55 [.slice none 0 0]))) 58 [.int .i64 0,.int .i64 0,.slice none 0 0] (.n (.n (.n (tq 59 [.int .i64 0,.int .i64 0]) 60 [.int .i64 0,.int .i64 0,.int .i64 0,.int .i64 0,.int .i64 0,.int .i64 0,.int .i64 0] .l) 61 [.int .i64 0,.int .i64 0,.int .i64 0,.int .i64 0,.int .i64 0,.int .i64 0,.int .i64 0] (tq 67 [.pointer none])) 68 [.slice none 0 0] (.n (.n (tq 71 [.int .i64 0,.int .i64 0,.slice none 0 0,.slice none 0 0,.bool false,.int .i64 0]) 72 [.int .i64 0,.int .i64 0,.slice none 0 0,.slice none 0 0,.bool false,.int .i64 0] .l) 74 [.slice none 0 0] (tq 75 [.int .i64 0,.slice none 0 0,.slice none 0 0]))))) 76 [.int .i64 0,.slice none 0 0,.slice none 0 0] (.n (.n (.n (.n (.n (tq 78 [.pointer none]) 81 [.slice none 0 0] .l) 82 [.int .i64 0,.slice none 0 0,.slice none 0 0,.slice none 0 0,.slice none 0 0] (.n (tq 83 [.int .i64 0,.slice none 0 0,.slice none 0 0,.slice none 0 0,.slice none 0 0]) 84 [.int .i64 0,.int .i64 0,.int .i64 0,.int .i64 0,.int .i64 0,.slice none 0 0,.int .i64 0,.slice none 0 0,.slice none 0 0,.int .i64 0,.int .i64 0,.int .i64 0] .l)) 85 [.int .i64 0,.int .i64 0,.int .i64 0,.int .i64 0,.int .i64 0,.slice none 0 0,.int .i64 0,.slice none 0 0,.slice none 0 0,.int .i64 0,.int .i64 0,.int .i64 0] (.n (.n (tq 92 [.slice none 0 0]) 97 [.nilFunc,.nilFunc,.nilFunc,.nilFunc] .l) 100 [.map none] (tq 119 [.slice none 0 0,.bool false,.slice none 0 0]))) 120 [.slice none 0 0,.bool false,.slice none 0 0] (.n (.n (.n (tq 127 [.pointer none]) 128 [.slice none 0 0] .l) 129 [.pointer none,.slice none 0 0] (tq 130 [.pointer none,.slice none 0 0])) 131 [.nilIface] (.n (.n (tq 132 [.nilIface]) 136 [.int .i64 0,.int .i64 0] .l) 148 [.pointer none] (tq 161 [.pointer none])))) 175 [.slice none 0 0] (.n (.n (.n (.n (tq 180 [.pointer none]) 183 [.slice none 0 0] .l) 190 [.slice none 0 0] (.n (tq 194 [.int .i64 0,.slice none 0 0,.slice none 0 0,.slice none 0 0,.int .i64 0,.nilFunc,.nilFunc]) 195 [.int .i64 0,.slice none 0 0,.slice none 0 0,.slice none 0 0,.int .i64 0,.nilFunc,.nilFunc] .l)) 200 [.pointer none] (.n (.n (tq 204 [.map none]) 205 [.map none] .l) 206 [.int .i64 0,.slice none 0 0,.slice none 0 0,.slice none 0 0,.slice none 0 0,.slice none 0 0,.slice none 0 0,.map none,.map none] (tq 207 [.int .i64 0,.slice none 0 0,.slice none 0 0,.slice none 0 0,.slice none 0 0,.slice none 0 0,.slice none 0 0,.map none,.map none]))) 208 [.int .u8 0,.int .u8 0,.int .u8 0,.int .u8 0,.int .u8 0,.int .u8 0,.int .u8 0,.int .u8 0,.int .u8 0,.int .u8 0,.int .u8 0,.int .u8 0,.int .u8 0,.int .u8 0,.int .u8 0,.int .u8 0,.int .u8 0,.int .u8 0,.int .u8 0,.int .u8 0,.int .u8 0,.int .u8 0,.int .u8 0,.int .u8 0] (.n (.n (.n (tq 209 [.int .u64 0]) 216 [.pointer none] .l) 226 [.int .u64 0,.int .u64 0,.int .u64 0,.int .u64 0,.int .u64 0,.int .u64 0,.int .u64 0,.int .u64 0,.int .u64 0,.int .u64 0,.int .u64 0,.int .u64 0,.int .u64 0,.int .u64 0,.int .u64 0,.int .u64 0,.int .u64 0,.int .u64 0,.int .u64 0,.int .u64 0] (tq 227 [.int .u32 0])) 229 [.int .u64 0] (.n (.n (tq 232 [.slice none 0 0,.slice none 0 0,.slice none 0 0]) 238 [.int .u8 0,.int .u8 0,.int .u8 0,.int .u8 0,.int .u8 0,.int .u8 0,.int .u8 0,.int .u8 0,.int .u8 0,.int .u8 0,.int .u8 0,.int .u8 0,.int .u8 0,.int .u8 0,.int .u8 0,.int .u8 0,.int .u8 0,.int .u8 0,.int .u8 0,.int .u8 0,.int .u8 0,.int .u8 0,.int .u8 0,.int .u8 0,.int .u8 0,.int .u8 0,.int .u8 0,.int .u8 0,.int .u8 0,.int .u8 0,.int .u8 0,.int .u8 0] .l) 245 [.int .i64 0] (tq 255 [.pointer none])))))
def Qt:Tr (Unit):=tq 4 ()
def Qx:Tr (Unit):=.n (.n (.n (tq 15 ()) 16 () .l) 17 () (.n (tq 67 ()) 78 () .l)) 127 () (.n (.n (tq 148 ()) 161 () .l) 200 () (.n (tq 216 ()) 255 () .l))
def Qs:Tr (Nat×Nat):=.n (.n (tq 59 (2,1)) 97 (4,1) (tq 208 (24,1))) 226 (20,1) (.n (tq 228 (65,1)) 238 (32,1) (tq 239 (64,1)))
def Qv:Tr (Unit):=.n (.n (.n (.n (.n (.n (.n (tq 2 ()) 3 () (tq 4 ())) 5 () (.n (tq 6 ()) 7 () .l)) 8 () (.n (.n (tq 9 ()) 10 () (tq 11 ())) 12 () (.n (tq 13 ()) 14 () .l))) 15 () (.n (.n (.n (tq 16 ()) 17 () (tq 18 ())) 19 () (.n (tq 20 ()) 21 () .l)) 22 () (.n (.n (tq 23 ()) 24 () (tq 25 ())) 26 () (.n (tq 27 ()) 28 () .l)))) 29 () (.n (.n (.n (.n (tq 30 ()) 31 () (tq 32 ())) 33 () (.n (tq 34 ()) 35 () .l)) 36 () (.n (.n (tq 37 ()) 38 () (tq 39 ())) 40 () (.n (tq 41 ()) 42 () .l))) 43 () (.n (.n (.n (tq 44 ()) 45 () (tq 46 ())) 47 () (.n (tq 48 ()) 49 () .l)) 50 () (.n (.n (tq 51 ()) 52 () .l) 53 () (.n (tq 54 ()) 55 () .l))))) 56 () (.n (.n (.n (.n (.n (tq 57 ()) 58 () (tq 59 ())) 60 () (.n (tq 61 ()) 62 () .l)) 63 () (.n (.n (tq 64 ()) 65 () (tq 66 ())) 67 () (.n (tq 68 ()) 69 () .l))) 70 () (.n (.n (.n (tq 71 ()) 72 () (tq 73 ())) 74 () (.n (tq 75 ()) 76 () .l)) 77 () (.n (.n (tq 78 ()) 79 () .l) 80 () (.n (tq 81 ()) 82 () .l)))) 83 () (.n (.n (.n (.n (tq 84 ()) 85 () (tq 86 ())) 87 () (.n (tq 88 ()) 89 () .l)) 90 () (.n (.n (tq 91 ()) 92 () (tq 93 ())) 94 () (.n (tq 95 ()) 96 () .l))) 97 () (.n (.n (.n (tq 98 ()) 99 () (tq 100 ())) 101 () (.n (tq 102 ()) 103 () .l)) 104 () (.n (.n (tq 105 ()) 106 () .l) 107 () (.n (tq 108 ()) 109 () .l)))))) 110 () (.n (.n (.n (.n (.n (.n (tq 111 ()) 112 () (tq 113 ())) 114 () (.n (tq 115 ()) 116 () .l)) 117 () (.n (.n (tq 118 ()) 119 () (tq 120 ())) 121 () (.n (tq 122 ()) 123 () .l))) 124 () (.n (.n (.n (tq 125 ()) 126 () (tq 127 ())) 128 () (.n (tq 129 ()) 130 () .l)) 131 () (.n (.n (tq 132 ()) 133 () (tq 134 ())) 135 () (.n (tq 136 ()) 137 () .l)))) 138 () (.n (.n (.n (.n (tq 140 ()) 141 () (tq 142 ())) 143 () (.n (tq 144 ()) 145 () .l)) 146 () (.n (.n (tq 147 ()) 148 () (tq 149 ())) 150 () (.n (tq 151 ()) 152 () .l))) 153 () (.n (.n (.n (tq 154 ()) 155 () (tq 156 ())) 157 () (.n (tq 158 ()) 159 () .l)) 160 () (.n (.n (tq 161 ()) 162 () .l) 163 () (.n (tq 164 ()) 165 () .l))))) 166 () (.n (.n (.n (.n (.n (tq 167 ()) 168 () (tq 169 ())) 170 () (.n (tq 171 ()) 172 () .l)) 173 () (.n (.n (tq 174 ()) 175 () (tq 176 ())) 177 () (.n (tq 178 ()) 179 () .l))) 180 () (.n (.n (.n (tq 181 ()) 182 () (tq 183 ())) 184 () (.n (tq 185 ()) 186 () .l)) 187 () (.n (.n (tq 188 ()) 189 () .l) 190 () (.n (tq 191 ()) 192 () .l)))) 193 () (.n (.n (.n (.n (tq 194 ()) 195 () (tq 196 ())) 197 () (.n (tq 198 ()) 199 () .l)) 200 () (.n (.n (tq 201 ()) 202 () (tq 203 ())) 204 () (.n (tq 205 ()) 206 () .l))) 207 () (.n (.n (.n (tq 208 ()) 209 () (tq 210 ())) 211 () (.n (tq 212 ()) 213 () .l)) 214 () (.n (.n (tq 215 ()) 216 () .l) 217 () (.n (tq 220 ()) 245 () .l))))))
def facts:vN:=⟨QB,Qw,Qu,QA,Qz,Qy,QC,Qt,Qx,Qs,Qv⟩
theorem bw:vN.Ok prog facts:=⟨Tr.of (vL prog) (by kernel_rfl),Tr.of (λk=>kM prog (k / 100) (k % 100)) (by kernel_rfl),Tr.of (vS prog) (by kernel_rfl),Tr.of (Pu prog) (by kernel_rfl),Tr.of (MW prog) (by kernel_rfl),Tr.of (A5 prog) (by kernel_rfl),Tr.of (BF prog) (by kernel_rfl),Tr.OK (wo prog) (by kernel_rfl),Tr.OK (rL prog) (by kernel_rfl),Tr.of (Ol prog) (by kernel_rfl),Tr.OK (enters prog) (by kernel_rfl)⟩
abbrev Q6:=@bw.tk.get
abbrev Ru:=@bw.rk.get
abbrev RP:=@bw.el.get
abbrev S3:=@bw.sl.get
abbrev TT:=@bw.st.get
instance:Has prog facts:=⟨bw⟩
theorem mixed:prog.follows .mixedOrders=true:=by kernel_rfl
end
end PW
namespace Net
section
open Go
structure pM where
 a:Int
 b:Int
 c0:Int
 c1:Int
 cap:Int
 ga:Int
 wG:Int
def pM.zero:pM:=⟨0,0,0,0,0,0,0⟩
structure ak where
 nodes:Int
 over:List Bool
 ah:List pM
def cP(L:List pM)(i:Nat):pM:=L.getD i pM.zero
def aZ(T:ak)(a:Nat):Int:=if a % 2=0 then(cP T.ah (a / 2)).a else(cP T.ah (a / 2)).b
def flip(a:Nat):Nat:=if a % 2=0 then a+1 else a - 1
def aN(T:ak)(a:Nat):Int:=aZ T (flip a)
def cz(T:ak)(a:Nat):Int:=if a % 2=0 then(cP T.ah (a / 2)).c0 else(cP T.ah (a / 2)).c1
def bR(T:ak)(n:Nat):Bool:=T.over.getD n false
def aX(T:ak)(n:Int):Bool:=decide (0<=n/\n<T.nodes)
def ef(T:ak)(a:Int):Bool:=decide (0<=a/\a<2*(T.ah.length:Int))
def bN(T:ak)(down:List Bool):Bool:=decide (down.length=0\/down.length=2*T.ah.length)
def aI(down:List Bool)(a:Nat):Bool:=down.getD a false
def bQ(n lo hi:Int):Bool:=decide (lo<=n/\n<=hi)
def jO(T:ak)(l:pM):Bool:=
 !(l.a==l.b)&&aX T l.a&&aX T l.b&&bQ l.c0 1 65535&&bQ l.c1 1 65535&&bQ l.cap 0 1048576&&bQ l.ga 1 65536&&bQ l.wG 0 64
def av(T:ak):Bool:=
 bQ T.nodes 1 64&&decide (T.ah.length<=256)&&(decide (T.over.length=0)||decide ((T.over.length:Int)=T.nodes))&&T.ah.all (jO T)
theorem zE(p:pM->Bool)(L:List pM)(k:Nat)(hk:k<L.length):(L.take (k+1)).all p=((L.take k).all p&&p (cP L k)):=by
 rw[List.take_succ_eq_append_getElem hk,T3];simp[cP,hk]
theorem zD(p:pM->Bool)(L:List pM)(k:Nat)(hk:k<L.length)(h:p (cP L k)=false):L.all p=false:=by
 rw[Tw];intro a;have:=Rq.1 a (cP L k) (by simp[cP,hk]);rw[h]at this;cases this
theorem jg(T:ak)(h:bQ T.nodes 1 64=false\/256<T.ah.length\/(T.over.length≠0/\(T.over.length:Int)≠T.nodes)):false=av T:=by
 unfold av;rcases h with h|h|⟨h1,h2⟩
 ·simp[h]
 ·have:decide (T.ah.length<=256)=false:=by simp;omega
  simp[this]
 ·simp[h1,h2]
theorem vu(T:ak)(h1:bQ T.nodes 1 64=true)(h2:T.ah.length<=256)(a:T.over.length=0\/(T.over.length:Int)=T.nodes):av T=T.ah.all (jO T):=by
 unfold av;rcases a with a|a<;>simp[h1,h2,a]
theorem wN{T}{l:pM}{q1 a b c d e f g}(g1:(l.a==l.b)=q1)(g2:aX T l.a=a)(g3:aX T l.b=b)(g4:bQ l.c0 1 65535=c)(g5:bQ l.c1 1 65535=d)(g6:bQ l.cap 0 1048576=e)(g7:bQ l.ga 1 65536=f)(g8:bQ l.wG 0 64=g):jO T l=(!q1 &&a&&b&&c&&d&&e&&f&&g):=by subst g1 g2 g3 g4 g5 g6 g7 g8;rfl
theorem sI(T:ak)(n:Int):bQ n 0 (T.nodes - 1)=aX T n:=by
 unfold bQ aX;exact decide_eq_decide.2 (by omega)
theorem pX{n lo hi:Int}(h:bQ n lo hi=true):lo<=n/\n<=hi:=by simpa[bQ]using h
theorem gQ{T:ak}(h:av T=true):1<=T.nodes/\T.nodes<=64/\T.ah.length<=256/\(T.over.length=0\/(T.over.length:Int)=T.nodes):=by
 unfold av at h;simp only[Q7,RX,Ra]at h;obtain⟨⟨⟨h1,h2⟩,a⟩,_⟩:=h;have:=pX h1;exact⟨this.1,this.2,h2,a⟩
theorem vt{T:ak}(h:av T=true)(i:Nat)(hi:i<T.ah.length):jO T (cP T.ah i)=true:=by
 unfold av at h;simp only[Q7]at h;exact Rq.1 h.2 _ (by simp[cP,hi])
def o8(T:ak)(a:Int):Int:=if 0<=a/\a<2*(T.ah.length:Int) then aZ T a.toNat else -1
def A0(T:ak)(a:Int):Int:=if 0<=a/\a<2*(T.ah.length:Int) then aN T a.toNat else -1
def AW(T:ak)(a:Int):Int:=if 0<=a/\a<2*(T.ah.length:Int) then cz T a.toNat else -1
def iM(T:ak)(n:Int)(k:Nat):List Int:=((List.range k).filter λa=>aZ T a==n).map Int.ofNat
def bK(T:ak)(n:Int):List Int:=iM T n (2*T.ah.length)
theorem w7(T:ak)(n:Int)(k:Nat)(h:(aZ T k==n)=true):iM T n (k+1)=iM T n k++[(k:Int)]:=by
 simp[iM,R2,Sd,h]
theorem AP(T:ak)(n:Int)(k:Nat)(h:(aZ T k==n)=false):iM T n (k+1)=iM T n k:=by
 simp[iM,R2,Sd,h]
theorem eu(T:ak)(n:Int)(k:Nat):(iM T n k).length<=k:=by
 simp only[iM,RN];exact Rr (RG _ _) (by simp)
def o9(L M:List Int):Bool:=decide (L=M)
theorem Jm(L M:List Int)(h:L.length≠M.length):false=o9 L M:=by
 unfold o9;symm;exact Rg λe=>h (by rw[e])
theorem L5(L M:List Int)(k:Nat)(h:L.getD k 0≠M.getD k 0):false=o9 L M:=by
 unfold o9;symm;exact Rg λe=>h (by rw[e])
theorem Jl(L M:List Int)(hM:M.length=L.length)(h:∀i,i<L.length->L.getD i 0=M.getD i 0):true=o9 L M:=by
 unfold o9;symm;refine Rb (Sl hM.symm λi h1 h2=>?_);have:=h i h1;simpa[h1,h2]using this
theorem xA(T:ak)(k:Nat)(hk:k<2*T.ah.length):o8 T (k:Int)=aZ T k:=by
 unfold o8;rw[QY ⟨by omega,by omega⟩];rfl
theorem F8(T:ak)(k:Nat)(hk:k<2*T.ah.length):A0 T (k:Int)=aN T k:=by
 unfold A0;rw[QY ⟨by omega,by omega⟩];rfl
theorem FZ(T:ak)(k:Nat)(hk:k<2*T.ah.length):AW T (k:Int)=cz T k:=by
 unfold AW;rw[QY ⟨by omega,by omega⟩];rfl
theorem Mf(a:Nat)(e:a<9223372036854775806):bits .xor .i64 (a:Int) 1=(flip a:Int):=by
 have h1:(a ^^^ 1) / 2=a / 2:=by rw[Nat.xor_div_two];simp
 have h2:((a ^^^ 1) % 2=1)↔¬((a % 2=1)↔(1 % 2=1)):=Nat.xor_mod_two_eq_one;have d:a ^^^ 1=flip a:=by unfold flip;split<;>omega
 have b:(BitVec.ofInt 64 (a:Int)).toNat=a:=by rw[BitVec.ofInt_natCast,BitVec.toNat_ofNat];exact UN (by omega)
 have c:(BitVec.ofInt 64 (1:Int)).toNat=1:=by decide
 show IntKind.i64.wrap ((BitVec.ofInt 64 (a:Int) ^^^ BitVec.ofInt 64 (1:Int)).toNat:Int)=_;rw[BitVec.toNat_xor,b,c,d];exact IntWalk.i64_in _ (by unfold flip;split<;>omega)
end
end Net
namespace PW
section
open Go.RowKit cG Mem Net
abbrev num(n:Int):PV:=.raw (.int .i64 n)
abbrev flag(b:Bool):PV:=.raw (.bool b)
theorem bX{α:Type}{L:List α}{i:Nat}{d}(h:i<L.length):L.getD i d∈L:=by
 have:L.getD i d=L[i]:=by simp[h]
 rw[this];exact TF h
theorem dE{α:Type}(L:List α)(i:Nat)(d:α)(h:i<L.length):L.take (i+1)=L.take i++[L.getD i d]:=by
 rw[SN];simp[h]
def aU(L:List Int):List PV:=L.map λn=>.raw (.int .i64 n)
def bZ(L:List Bool):List PV:=L.map λb=>.raw (.bool b)
def aq(L:List Int):PV:=.slice L.length (aU L)
def aV(L:List Bool):PV:=.slice L.length (bZ L)
def lS(l:pM):List PV:=[.raw (.int .i64 l.a),.raw (.int .i64 l.b),.raw (.int .i64 l.c0),.raw (.int .i64 l.c1),.raw (.int .i64 l.cap),.raw (.int .i64 l.ga),.raw (.int .i64 l.wG)]
def jy(L:List pM):List PV:=L.flatMap lS
def bn(T:ak):List PV:=[.raw (.int .i64 T.nodes),aV T.over,.slice T.ah.length (jy T.ah)]
def aL(T:ak):PV:=.agg (bn T)
instance (L:List Int):aP (aU L):=aP.map _ _ λ_=>inferInstance
instance (L:List Bool):aP (bZ L):=aP.map _ _ λ_=>inferInstance
instance (L:List Int):dY (aU L):=dY.map _ _ λ_=>inferInstance
instance (l:pM):aP (lS l):=by unfold lS;infer_instance
instance (L:List pM):aP (jy L):=UF _ _ λ_=>inferInstance
instance (L:List Int):IsPure (aq L):=by unfold aq;infer_instance
instance (L:List Bool):IsPure (aV L):=by unfold aV;infer_instance
instance (T:ak):aP (bn T):=by unfold bn;infer_instance
instance (T:ak):IsPure (aL T):=by unfold aL;infer_instance
instance (L:List Int):gH (aq L):=by unfold aq;infer_instance
theorem wI(L:List Int):(aU L).length=L.length:=by simp[aU]
theorem aB(L:List Int)(i:Nat)(h:i<L.length):(aU L)[i]? =some (.raw (.int .i64 (L.getD i 0))):=by simp[aU,h]
theorem db(L:List Bool)(i:Nat)(h:i<L.length):(bZ L)[i]? =some (.raw (.bool (L.getD i false))):=by simp[bZ,h]
theorem yE(L M:List Int):aU L++aU M=aU (L++M):=by simp[aU]
theorem cW(L:List Int)(n:Int):aU L++[.raw (.int .i64 n)]=aU (L++[n]):=by simp[aU]
theorem FN(L:List Int)(i:Nat)(n:Int)(h:i<L.length):over (aU L) i [.raw (.int .i64 n)]=aU (L.set i n):=by
 unfold over aU;rw[List.map_set,SV,QY (by simpa using h)];simp
theorem CF(L:List Bool)(i:Nat)(n:Bool)(h:i<L.length):over (bZ L) i [.raw (.bool n)]=bZ (L.set i n):=by
 unfold over bZ;rw[List.map_set,SV,QY (by simpa using h)];simp
theorem bM.mono{P f ps σ}{R a:PV->ca->Prop}(h:bM P f ps σ R)(hr:∀r σ',R r σ'->a r σ'):bM P f ps σ a:=λF base E w vs d c=>
 (h F base E w vs d c).mono λ_ _ ⟨v,r,σ',E',h1,h2,b⟩=>⟨v,r,σ',E',h1,hr r σ' h2,b⟩
abbrev RT:=@bM.mono
theorem cp{P}{σ:ca}{t}{o:Oper}{ty e n:Nat}{x y}{i j:Nat}{c:Int}{L:List Int}(a:o.op= .store ty x y)(hk:vL P ty=some none)(hx:aH t x=some (.ptr i j))(hy:aH t y=some (num c))(hi:σ[i]? =some (some (.row e 1 n (aU L))))(hj:j<L.length):
  cK P σ t o (.raw undef) (σ.set i (some (.row e 1 n (aU (L.set j c))))):=by
 have:=b9 a hk hx hy hi (by show j<(aU L).length;simpa[aU]using hj);have he:cX.sC (.row e 1 n (aU L)) (over (cX.xs (.row e 1 n (aU L))) j [num c])= .row e 1 n (aU (L.set j c)):=by
  show cX.row e 1 n (over (aU L) j [num c])=_;rw[FN L j c hj]
 rw[he]at this;exact this
theorem cA{P}{σ:ca}{t}{o:Oper}{ty e n:Nat}{x y}{i j:Nat}{c}{L:List Bool}(a:o.op= .store ty x y)(hk:vL P ty=some none)(hx:aH t x=some (.ptr i j))(hy:aH t y=some (flag c))(hi:σ[i]? =some (some (.row e 1 n (bZ L))))(hj:j<L.length):
  cK P σ t o (.raw undef) (σ.set i (some (.row e 1 n (bZ (L.set j c))))):=by
 have:=b9 a hk hx hy hi (by show j<(bZ L).length;simpa[bZ]using hj);have he:cX.sC (.row e 1 n (bZ L)) (over (cX.xs (.row e 1 n (bZ L))) j [flag c])= .row e 1 n (bZ (L.set j c)):=by
  show cX.row e 1 n (over (bZ L) j [flag c])=_;rw[CF L j c hj]
 rw[he]at this;exact this
theorem dj(n:Nat):dQ [.raw (.int .i64 0)] n=aU (List.replicate n 0):=by
 induction n with
 |zero=>rfl
 |succ n a=>simp only[dQ,a,SC,aU];rfl
theorem jH(n:Nat):dQ [.raw (.bool false)] n=bZ (List.replicate n false):=by
 induction n with
 |zero=>rfl
 |succ n a=>simp only[dQ,a,SC,bZ];rfl
theorem fq(L:List pM)(i j:Nat)(hi:i<L.length)(hj:j<7):(jy L)[i*7+j]? =(lS (cP L i))[j]? :=by
 induction L generalizing i with
 |nil=>simp at hi
 |cons l L a=>
  cases i with
  |zero=>
   simp only[jy,RL,Uj,Si];rw[Q9 (by simp[lS];omega)]
   rfl
  |succ i=>
   have:=a i (by simpa using hi);simp only[jy,RL]at*;rw[RD (by simp[lS];omega)];rw[show(i+1)*7+j - (lS l).length=i*7+j by simp[lS];omega];rw[this]
   rfl
theorem fW{E w v u}(h:cZ E w v (.raw u)):v=u:=by cases h;rfl
theorem Om{E w}{vs:Array Value}{p}(h:bp E w vs.toList [p]):∃v,vs= #[v]/\cZ E w v p:=by
 obtain⟨l⟩:=vs
 match l,h with
 | [v],h=>exact⟨v,rfl,h.JH.1⟩
 | [],h=>simp[bp]at h
 |_::_::_,h=>simp[bp]at h
theorem Ip(L:List pM)(i:Nat)(hi:i<L.length):((jy L).drop (i*7)).take 7=lS (cP L i):=by
 refine Sp λj=>?_;by_cases a:j<7
 ·rw[RV,QY a,Su,fq L i j hi a]
 ·rw[RJ (by simp;omega),RJ (by simp[lS];omega)]
end
end PW
namespace PW
open Go.RowKit cG Mem
open Go.Deep
section
variable {P:Program} {H:Type} {enc:TypeId×Value->H} {W:World}
abbrev EN:Env:=EF λ_=>False
theorem uQ{α:Type}{f:α->List PV}{s:Nat}{t e}{fuel:Nat}{v x}(M:P.underlying t=some (.slice e))(hc:P.cellsOf e=s)(C:0<s)
  (A:∀n cs y,DataW.trod enc P W 0 (λ_=>true) true n e cs=some y->cs.length=s->∃a,bp EN W cs (f a))
  (h:DataW.trod enc P W 0 (λ_=>true) true fuel t [v]=some x):∃L:List α,cZ EN W v (.slice L.length (L.flatMap f)):=by
 rcases open_slice M h with⟨c,_⟩|⟨a,len,cap,m,n,D,O,c,_,hl,hm,q,_,hx⟩
 ·simp at c;subst c;exact⟨[],.bH⟩
 ·simp at c;subst c;rw[hc]at hx;simp only[Sw]at q;subst q;have o:∀k,k<=len->∃(L:List α) (cs:List Value),L.length=k/\cs.length=k*s/\bp EN W cs (L.flatMap f)/\∀(i:Nat) u,cs[i]? =some u->W.cell? (a.add i)=some u:=by
   intro k;induction k with
   |zero=>intro _;exact⟨[],[],rfl,by simp,TQ _ _,λi u h=>by simp at h⟩
   |succ k N=>
    intro hk;obtain⟨L,cs,h1,h2,r,w⟩:=N (by omega);obtain⟨l,E,F⟩:=hx k (by omega);obtain⟨_,g,p⟩:=World.cells?_some E;obtain⟨b,hb⟩:=A n l _ F g;refine⟨L++[b],cs++l,by simp[h1],by rw[Q0,h2,g,SB],by rw[TZ];simpa using r.append hb,λi u hu=>?_⟩;by_cases hi:i<cs.length
    ·rw[Q9 hi]at hu;exact w i u hu
    ·rw[RD (by omega)]at hu;have K:i - cs.length<s:=by have:=(QT.1 hu).1;omega
     have:=p (i - cs.length) K;rw[hu]at this;rw[<-this];rw[Addr.add_add];congr 2;omega
  obtain⟨L,cs,h1,h2,r,w⟩:=o len (Rc _);by_cases h0:len=0
  ·subst h0;have:L=[]:=Rd h1;subst this;exact⟨[],.empty _ _ hm⟩
  ·obtain⟨b,off,spot⟩:=a;have B:0<cs.length:=by rw[h2];exact Nat.mul_pos (by omega) C
   have d:=w 0 cs[0] (by simp[B]);have j:spot=none:=by simpa[Addr.add]using World.cell?_spot d
   subst j;have z:b<W.heap.size:=by
    unfold World.cell? at d;split at d
    ·rename_i J;exact(Rw.1 J).1
    ·cases d
   refine⟨L,?_⟩;rw[h1];exact .slice b off len _ cs _ (by omega) hl hm z (λG=>G) (λi u hu=>by have:=w i u hu;rw[Addr.add_lit]at this;exact this) r.1 r.2
end
end PW
namespace PW
section
open Go.RowKit cG Mem Net
section
variable {H:Type} {enc:TypeId×Value->H} {W:World}
theorem je{n:Nat}{cs y}(h:DataW.trod enc prog W 0 (λ_=>true) true n 3 cs=some y):∃a:Int,cs=[.int .i64 a]:=by
 obtain⟨a,h1,_⟩:=DataW.trod_int Tryz.underlying3 h;exact⟨a,h1⟩
theorem sf{α:Type}(f:α->PV)(l:List α):l.flatMap (λa=>[f a])=l.map f:=by induction l with
 |nil=>rfl
 |cons a l b=>simp[b]
theorem LN{n:Nat}{v y}(h:DataW.trod enc prog W 0 (λ_=>true) true n 28 [v]=some y):∃L,cZ EN W v (aq L):=by
 obtain⟨L,b⟩:=uQ (f:=λa:Int=>[PV.raw (.int .i64 a)]) (s:=1) Tryz.underlying28 (by kernel_rfl) (by omega) (λn cs y hy _=>by
  obtain⟨a,rfl⟩:=je hy;exact⟨a,U2 (.raw _)⟩) h
 refine⟨L,?_⟩;rw[sf]at b;exact b
theorem I3{n:Nat}{v y}(h:DataW.trod enc prog W 0 (λ_=>true) true n 22 [v]=some y):∃L,cZ EN W v (aV L):=by
 obtain⟨L,b⟩:=uQ (f:=λa:Bool=>[PV.raw (.bool a)]) (s:=1) Tryz.underlying22 (by kernel_rfl) (by omega) (λn cs y hy _=>by
  obtain⟨a,rfl,_⟩:=DataW.trod_bool Tryz.underlying4 hy;exact⟨a,U2 (.raw _)⟩) h
 refine⟨L,?_⟩;rw[sf]at b;exact b
theorem LO{n:Nat}{cs:List Value}{y}(h:DataW.trod enc prog W 0 (λ_=>true) true n 61 cs=some y)(hl:cs.length=7):∃l:pM,bp EN W cs (lS l):=by
 have c:prog.cellsOf 3=1:=by kernel_rfl
 have j:prog.cellsOf 59=2:=by kernel_rfl
 obtain⟨xs,m,_,_,_,i,g⟩:=DataW.trod_struct Tryz.underlying61 h
 match cs,hl with
 | [c0,c1,b,a,d,e,f],_=>
  match xs,i with
  | [x,z,A,B,C,D],_=>
   have f0:DataW.trod enc prog W 0 (λ_=>true) true m 3 (([c0,c1,b,a,d,e,f].drop 0).take (prog.cellsOf 3))=some x:=g 0 _ rfl;rw[c]at f0;have f1:DataW.trod enc prog W 0 (λ_=>true) true m 3 (([c0,c1,b,a,d,e,f].drop 1).take (prog.cellsOf 3))=some z:=g 1 _ rfl;rw[c]at f1;have f2:DataW.trod enc prog W 0 (λ_=>true) true m 59 (([c0,c1,b,a,d,e,f].drop 2).take (prog.cellsOf 59))=some A:=g 2 _ rfl;rw[j]at f2;have f3:DataW.trod enc prog W 0 (λ_=>true) true m 3 (([c0,c1,b,a,d,e,f].drop 4).take (prog.cellsOf 3))=some B:=g 3 _ rfl;rw[c]at f3;have f4:DataW.trod enc prog W 0 (λ_=>true) true m 3 (([c0,c1,b,a,d,e,f].drop 5).take (prog.cellsOf 3))=some C:=g 4 _ rfl;rw[c]at f4;have f5:DataW.trod enc prog W 0 (λ_=>true) true m 3 (([c0,c1,b,a,d,e,f].drop 6).take (prog.cellsOf 3))=some D:=g 5 _ rfl;rw[c]at f5;obtain⟨a0,h0⟩:=je f0;obtain⟨t,h1⟩:=je f1;obtain⟨a3,k⟩:=je f3;obtain⟨a4,o⟩:=je f4;obtain⟨a5,p⟩:=je f5;obtain⟨E,m2,_,_,_,w,q⟩:=DataW.trod_array Tryz.underlying59 f2
   match E,w with
   | [z0,F],_=>
    have g0:=q 0 (by omega);have g1:=q 1 (by omega);rw[c]at g0 g1;obtain⟨u,r⟩:=je g0;obtain⟨v,s⟩:=je g1;simp at h0 h1 k o p r s;subst h0 h1 k o p r s;exact⟨⟨a0,t,u,v,a3,a4,a5⟩,SL (.raw _)<|SL (.raw _)<|SL (.raw _)<|SL (.raw _)<|SL (.raw _)<|SL (.raw _)<|SL (.raw _) (TQ _ _)⟩
end
end
end PW
namespace PW
open Go.ChangeShapes Go.WideShapes Go.ChangeAt Go.RowKit
open Go.Joins cG Mem
theorem own:ownKnob prog.godebug=none:=by kernel_rfl
theorem laidOut:laidOutB prog=true:=by kernel_rfl
theorem OH{H:Type}{enc:TypeId×Value->H}{W:World}{t v d p}(h:DataW.Trod enc prog W 0 (λ_=>true) true t v d p):∀x∈p,x.block<W.heap.size:=by
 obtain⟨m,hm⟩:=h;exact DataW.trod_lt m _ _ _ hm
end PW
namespace PW
section
open Go.RowKit cG Mem
theorem AB{P x r W}(h:laidMet P (x::r) W):laidMet P r W:=by
 obtain⟨ps,⟨g,t,cs,a,p,q,_,_,_,_,hr,rfl⟩,hn,hc⟩:=h;exact⟨q,hr,(UG.1 hn).2.1,λb off hm=>hc b off (RR.2 (.inr hm))⟩
theorem nI{P:Program}{W:World}{name k}{b:List Int}{g:Nat}(c:P.globalNamed name=some g)(h:Lib.TabIs P W name k b):∃t a,W.heap[g]? =some (.cells (b.map λz=>Value.int k z).toArray t a):=by
 unfold Lib.TabIs World.var? at h;rw[c]at h;simp only[R5]at h;split at h
 ·rename_i cs t a d;cases h;exact⟨t,a,d⟩
 ·cases h
def t32:List Int:=[0,1,28,2,29,14,24,3,30,22,20,15,25,17,4,8,31,27,13,23,21,19,16,7,26,12,18,6,11,5,10,9]
def t64:List Int:=[0,1,56,2,57,49,28,3,61,58,42,50,38,29,17,4,62,47,59,36,45,43,51,22,53,39,33,30,24,18,12,5,63,55,48,27,60,41,37,16,46,35,44,21,52,32,23,11,54,26,40,15,34,20,31,10,25,14,19,9,13,8,7,6]
def t10:List Int:=[1,10,100,1000,10000,100000,1000000,10000000,100000000,1000000000,10000000000,100000000000,1000000000000,10000000000000,100000000000000,1000000000000000,10000000000000000,100000000000000000,1000000000000000000,10000000000000000000]
theorem Fa{W}(h:laidMetH prog Rows.mixtureFollowsRow.laid W):jq (λ_=>False) W:=by
 have h1:laidMet prog [("math/bits.deBruijn32tab",Lib.tabData .u8 t32),("math/bits.deBruijn64tab",Lib.tabData .u8 t64),("internal/strconv.uint64pow10",Lib.tabData .u64 t10)] W:=h;have h2:=AB h1;have b:=AB h2;have a:=nI (g:=1) (by kernel_rfl) (Lib.tabIs_of_head (g:=1) (t:=238) (e:=5) (n:=32) (by kernel_rfl) (by kernel_rfl) (by kernel_rfl) (by kernel_rfl) (by kernel_rfl) (by kernel_rfl) h1);have a2:=nI (g:=2) (by kernel_rfl) (Lib.tabIs_of_head (g:=2) (t:=239) (e:=5) (n:=64) (by kernel_rfl) (by kernel_rfl) (by kernel_rfl) (by kernel_rfl) (by kernel_rfl) (by kernel_rfl) h2);have a3:=nI (g:=0) (by kernel_rfl) (Lib.tabIs_of_head (g:=0) (t:=226) (e:=209) (n:=20) (by kernel_rfl) (by kernel_rfl) (by kernel_rfl) (by kernel_rfl) (by kernel_rfl) (by kernel_rfl) b);intro g cs hm;refine⟨λd=>d,?_⟩;have c:GG=[(0,t10.map λz=>Value.int .u64 z),(1,t32.map λz=>Value.int .u8 z),(2,t64.map λz=>Value.int .u8 z)]:=by kernel_rfl
 rw[c]at hm;rcases RA.1 hm with e|hm
 ·cases e;exact a3
 ·rcases RA.1 hm with e|hm
  ·cases e;exact a
  ·rcases RA.1 hm with e|hm
   ·cases e;exact a2
   ·cases hm
section
variable {P:Program} {N L:Nat} {ops:Array Oper}
def WA(P:Program)(N L:Nat)(ops:Array Oper):Nat->Array Bool->St->(St->Prop)->Prop
 |0,ls,st,K=>Region.ready .any ops ls=[]/\K st
 |n+1,ls,st,K=>Region.ready .any ops ls≠[]/\∀i∈Region.ready .any ops ls,∃o,ops[i]? =some o/\o.guard=none/\WR P N L [o].toArray [o] st (λs=>WA P N L ops n (ls.setIfInBounds i true) s K)
def Pj(P:Program)(N L:Nat)(ops:Array Oper)(n:Nat)(ls:Array Bool)(st:St)(K:St->Prop)(is:List Nat):Prop:=
 ∀i∈is,∃o,ops[i]? =some o/\o.guard=none/\WR P N L [o].toArray [o] st (λs=>WA P N L ops n (ls.setIfInBounds i true) s K)
theorem lB{ls st}{K:St->Prop}(h:Region.ready .any ops ls=[])(hk:K st):WA P N L ops 0 ls st K:=⟨h,hk⟩
theorem bT{n:Nat}{ls st}{K:St->Prop}(i:Nat)(is:List Nat)(h:Region.ready .any ops ls=i::is)(hk:Pj P N L ops n ls st K (i::is)):WA P N L ops (n+1) ls st K:=
 ⟨by rw[h];simp,λj a=>hk j (by rw[<-h];exact a)⟩
theorem bU{n:Nat}{ls st}{K:St->Prop}:Pj P N L ops n ls st K []:=λi hi=>by simp at hi
theorem bC{n:Nat}{ls:Array Bool}{st}{K:St->Prop}{i:Nat}{is:List Nat}{o:Oper}(c:ops[i]? =some o)(b:o.guard=none)(h:WR P N L [o].toArray [o] st (λs=>WA P N L ops n (ls.setIfInBounds i true) s K))(hs:Pj P N L ops n ls st K is):Pj P N L ops n ls st K (i::is):=λj a=>by
 rcases RA.1 a with rfl|a
 ·exact⟨o,c,b,h⟩
 ·exact hs j a
def MA(K:Act->World->Prop)(Q:Exit->Act->World->Prop):Exit->Act->World->Prop
 | .normal,a,w=>K a w
 |e,a,w=>Q e a w
theorem yR{o:Oper}{a w}{K d c:Act->World->Prop}{Q:Exit->Act->World->Prop}(h:∀a w,K a w->d a w)(b:o.wp P a w K (MA c Q)):o.wp P a w d Q:=by
 unfold Oper.wp at*;generalize (execOp a.eval o).run P w=x at*;cases x with
 |ok n w'=>
  cases n<;>simp only[Oper.upon]at b ⊢ <;>
   first
    |exact h _ _ b
    |exact Calls.mono b (λe f he=>by cases e<;>first|exact h _ _ he|exact he)
    |exact Rows.mono b (λ_ _ he=>h _ _ he)
 |halt x w'=>cases x<;>simp only[Oper.upon]at b ⊢ <;>exact b
theorem WA.any:∀ {n:Nat} {ls st} {K:St->Prop},WA P N L ops n ls st K->∀F base E₀ w₀ E a w,qY base L E₀ w₀ E w->dR F base N st E a w->∀(Q:Exit->Act->World->Prop),(∀b w',mY F base N E₀ w₀ K b w'->Q .normal b w')->wpAny P .any ops Q n ls a w
 |0,ls,st,K,h,F,base,E₀,w₀,E,a,w,hc,hs,Q,d=>⟨h.1,d a w ⟨st,E,h.2,hs,hc.g,hc.b⟩⟩
 |n+1,ls,st,K,h,F,base,E₀,w₀,E,a,w,hc,hs,Q,d=>by
  refine⟨λh0=>absurd h0 h.1,λi hi=>?_⟩;obtain⟨o,f,e,hw⟩:=h.2 i hi;have h1:=hw F base E₀ w₀ E a w hc hs (MA (wpAny P .any ops Q n (ls.setIfInBounds i true)) Q) 0 (λb w' ⟨s,E',g,k,l,m⟩=>by
   show wpAny P .any ops Q n (ls.setIfInBounds i true) b w';exact WA.any g F base E₀ w₀ E' b w' ⟨hc.L,l,m⟩ k Q d) (λj=>by simp)
  simp only[Rk]at h1;rw[TE,wpOps_cons]at h1;unfold wpOp at h1 ⊢;have c:∀y,Region.wanted o y=true:=λy=>by unfold Region.wanted;rw[e]
  simp only[SO,T4,c,Sw]at h1;simp only[f,c,Sw];rcases h1 with h1|⟨h1,h2⟩
  ·exact .inl (yR (λa w h=>h) h1)
  ·exact .inr ⟨h1,h2⟩
theorem pV{id:Nat}{l:List Oper}{st}{Q:Exit->St->Prop}(hm:P.follows .mixedOrders=true)(h:WA P N L l.toArray l.length (Array.replicate l.length false) st (λs=>Q .normal s)):W P N L (.region id l.toArray true) st Q:=λF base E₀ w₀ E a w hc hs=>by
 refine wp_region_any hm ?_;have b:Ext w {w with drawn:=w.drawn+1}:=⟨rfl,rfl,rfl,Rc _,λ_ _=>rfl⟩;have:=h.any F base E₀ w₀ E a {w with drawn:=w.drawn+1} (hc.on (.ext b) (Ti b hs.sat.bl)) ⟨hs.sat.ext b,hs.tmp.goes (.ext b),hs.lE,hs.size⟩ (λe c w'=>mY F base N E₀ w₀ (Q e) c w') (λc w' h=>h);simpa using this
theorem rf{id:Nat}{l:List Oper}{y st}{Q:Exit->St->Prop}(hm:P.follows .mixedOrders=true)(h:WA P N L l.toArray l.length (Array.replicate l.length false) st (λs=>W P N L y s Q)):W P N L (.seq (.region id l.toArray true) y) st Q:=ai (pV hm h)
theorem xC{α:Type}{l:List α}{k:Nat}{x}(h:l[k]? =some x):l.set k x=l:=by
 obtain⟨hk,rfl⟩:=QT.1 h;simp
theorem cm{c t}{σ:ca}{Q:Exit->St->Prop}(i k e s:Nat){ty}{xs:List PV}(hi:σ[i]? =some (some (.cells ty xs)))(hk:xs[k]? =some (.raw (.slice none 0 0)))
  (h:W P N L c ⟨t,(σ++[some (cX.row e s 0 [])]).set i (some (.cells ty (xs.set k (.own σ.length))))⟩ Q):W P N L c ⟨t,σ⟩ Q:=λF base E₀ w₀ E a w hc hs=>by
 obtain⟨l,a2,a3⟩:=Ho hs.sat e s;have j:=(QT.1 hi).1;have d:(σ++[some (cX.row e s 0 [])])[i]? =some (some (.cells ty xs)):=by rw[Q9 j];exact hi
 obtain⟨b,cs,hb,h1,h2,n⟩:=l.blk i _ d;obtain⟨p,g,f⟩:=n.get hk;cases f;obtain⟨o,m⟩:=l.JF d (b:=b) (by rw[hb];rfl) (Rc _) (λ_ _ _=>rfl) (bi':=.cells ty (xs.set k (.own σ.length))) ⟨b,cs,hb,h1,h2,by
  have:=n.set k a3;rw[xC g]at this;exact this⟩
 exact h F base E₀ w₀ _ a w (hc.on (a2.trans m) (Below.refl _ _)) ⟨o,(hs.tmp.goes a2).goes m,hs.lE,hs.size⟩
inductive Ew (σ:ca) (t:cq):cq->Prop
 |nil:Ew σ t []
 |cons {t':cq} (k:Nat) {p q:PV}:look k t=some p->ax σ p q->Ew σ t t'->Ew σ t ((k,q)::t')
theorem Ew.get{σ t t'}(h:Ew σ t t'):∀k q,look k t'=some q->∃p,look k t=some p/\ax σ p q:=by
 induction h with
 |nil=>intro k q h;cases h
 |cons k h1 h2 _ b=>
  intro j q a;simp only[look]at a;rw[RI]at a;split at a
  ·rename_i he;have:=Rp he;subst this;cases a;exact⟨_,h1,h2⟩
  ·exact b j q a
theorem zA{c t t' σ}{Q:Exit->St->Prop}(e:Ew σ t t')(h:W P N 0 c ⟨t',[]⟩ Q):W P N 0 c ⟨t,σ⟩ Q:=λF base E₀ w₀ E a w hc hs=>by
 have d:∀b,F b->E.M b:=λb hb=>(hs.sat.mm b).2 (.inl hb);refine h F base E₀ w₀ (EF F) a w ⟨hc.L,⟨by rw[hc.L];exact RQ _,λi hi=>by rw[hc.L]at hi;omega,λb h1 h2 f=>hc.g.M b h1 h2 (d b f),hc.g.size,hc.g.heap⟩,hc.b⟩
  ⟨⟨hs.sat.bl,λb hb=>⟨(hs.sat.fb b hb).1,λi blk h=>by simp at h⟩,rfl,λb=>by simp[EF],λi blk h=>by simp at h,λi j bi bj b h=>by simp at h,hs.sat.gl.sub d⟩,λk q g=>?_,hs.lE,hs.size⟩
 obtain⟨p,h1,h2⟩:=e.get k q g;exact h2.rep hs.sat d (λb hb=>(hs.sat.fb b hb).2) _ (hs.tmp k p h1)
end
section
variable {P:Program} {N L:Nat} {ops:Array Oper} {Φ:vN} {Ts:List cq} {Ss:List ca} {K:St->Prop}
def Dr:Nat->Nat->List Bool
 |0,_=>[]
 |n+1,z=>Nat.beq (z % 2) 1::Dr n (z / 2)
def pY(n z:Nat):Array Bool:=(Dr n z).toArray
def MO(ops:Array Oper)(z:Nat)(l:List (Nat×Nat)):Bool:=
 !l.isEmpty &&(Region.ready .any ops (pY ops.size z)==l.map (·.1))&&l.all λp=>(Dr ops.size z).set p.1 true==Dr ops.size p.2
def ze(Ts:List cq)(Ss:List ca)(j:Nat)(ks:List Nat)(k:Nat):Option St:=
 match Ts[j]? with
 |some T=>match jU T ks with
  |some t=>match Ss[k]? with
   |some σ=>some ⟨t,σ⟩
   |none=>none
  |none=>none
 |none=>none
def WZ(P:Program)(N L:Nat)(ops:Array Oper)(Ts:List cq)(Ss:List ca)(K:St->Prop)(n z j:Nat)(ks:List Nat)(k:Nat):Prop:=
 ∀st,ze Ts Ss j ks k=some st->WA P N L ops n (pY ops.size z) st K
def Dj(P:Program)(N L:Nat)(ops:Array Oper)(K:St->Prop)(n:Nat)(st:St)(l:List (Nat×Nat)):Prop:=
 ∀p∈l,∃o,ops[p.1]? =some o/\o.guard=none/\WR P N L [o].toArray [o] st (λs=>WA P N L ops n (pY ops.size p.2) s K)
theorem tH{n:Nat}{ls st}(Ts:List cq)(Ss:List ca)(ks:List Nat)(hr:ze Ts Ss 0 ks 0=some st)(hl:ls=pY ops.size 0)(h:∀M:Nat->Nat->Nat->List Nat->Nat->Prop,(∀ {n z j ks k},WZ P N L ops Ts Ss K n z j ks k->M n z j ks k)->(∀ {n z j ks k},M n z j ks k->WZ P N L ops Ts Ss K n z j ks k)->M n 0 0 ks 0):WA P N L ops n ls st K:=by
 have:=h (WZ P N L ops Ts Ss K) id id st hr;rwa [<-hl]at this
theorem rb{z j k:Nat}{ks:List Nat}{st}(hr:ze Ts Ss j ks k=some st)(a:Region.ready .any ops (pY ops.size z)=[])(hk:K st):WZ P N L ops Ts Ss K 0 z j ks k:=λs hs=>by
 rw[hr]at hs;cases hs;exact lB a hk
theorem aa{n z j k:Nat}{ks:List Nat}{st}(l:List (Nat×Nat))(hr:ze Ts Ss j ks k=some st)(h:Dj P N L ops K n st l)(hl:MO ops z l=true:=by kernel_rfl):WZ P N L ops Ts Ss K (n+1) z j ks k:=λs hs=>by
 rw[hr]at hs;cases hs;unfold MO at hl;simp only[Q7,Rq]at hl;obtain⟨⟨h0,h1⟩,h2⟩:=hl;have h1:=eq_of_beq h1;refine⟨?_,λi hi=>?_⟩
 ·rw[h1];intro e;cases l with
  |nil=>simp at h0
  |cons a l=>simp at e
 ·rw[h1]at hi;obtain⟨p,hp,rfl⟩:=RB.1 hi;obtain⟨o,b,c,d⟩:=h p hp;refine⟨o,b,c,?_⟩;have e:(pY ops.size z).setIfInBounds p.1 true=pY ops.size p.2:=by
   unfold pY;rw[<-eq_of_beq (h2 p hp)];simp
  rw[e];exact d
theorem ag{n:Nat}{st}:Dj P N L ops K n st []:=λp hp=>by simp at hp
theorem sY{n i z:Nat}{st}{o:Oper}{l:List (Nat×Nat)}(b:ops[i]? =some o)(a:o.guard=none)(h:WR P N L [o].toArray [o] st (λs=>WA P N L ops n (pY ops.size z) s K))(hs:Dj P N L ops K n st l):Dj P N L ops K n st ((i,z)::l):=λp hp=>by
 rcases RA.1 hp with rfl|hp
 ·exact⟨o,b,a,h⟩
 ·exact hs p hp
variable {n i z j k:Nat} {ks:List Nat} {o:Oper} {t t':cq} {σ σ':ca} {l:List (Nat×Nat)} {p:PV} {d:Nat}
theorem br(c:ops[i]? =some o)(b:o.guard=none)(hy:bE P σ t o p)(hd:dk N [o].toArray t o=some d)(a:WZ P N L ops Ts Ss K n z j ks k)(hr:ze Ts Ss j ks k=some ⟨t',σ⟩)(hk:jU ((d,p)::t) ks=some t')(hs:Dj P N L ops K n ⟨t,σ⟩ l):Dj P N L ops K n ⟨t,σ⟩ ((i,z)::l):=
 sY c b (bm hy hd (aE ks hk (a _ hr))) hs
theorem cc(c:ops[i]? =some o)(b:o.guard=none)(hy:cK P σ t o p σ')(hd:dk N [o].toArray t o=some d)(a:WZ P N L ops Ts Ss K n z j ks k)(hr:ze Ts Ss j ks k=some ⟨t',σ'⟩)(hk:jU ((d,p)::t) ks=some t')(hs:Dj P N L ops K n ⟨t,σ⟩ l):Dj P N L ops K n ⟨t,σ⟩ ((i,z)::l):=
 sY c b (cb hy hd (aE ks hk (a _ hr))) hs
theorem pU(c:ops[i]? =some o)(b:o.guard=none)(hy:cK P σ t o p σ')(hd:o.dst=none)(hw:fO [o].toArray t o=some true)(a:WZ P N L ops Ts Ss K n z j ks k)(hr:ze Ts Ss j ks k=some ⟨t',σ'⟩)(hk:jU t ks=some t')(hs:Dj P N L ops K n ⟨t,σ⟩ l):Dj P N L ops K n ⟨t,σ⟩ ((i,z)::l):=
 sY c b (bc hy hd hw (aE ks hk (a _ hr))) hs
theorem fK[Has P Φ]{f:Nat}{ps}(e:ops[i]? =some o)(c:o.guard=none)(b:pZ Φ t o.op=some (f,ps))(hd:dk N [o].toArray t o=some d)(hc:bM P f ps σ (λr s=>r=p/\s=σ'))(a:WZ P N L ops Ts Ss K n z j ks k)(hr:ze Ts Ss j ks k=some ⟨t',σ'⟩)(hk:jU ((d,p)::t) ks=some t')(hs:Dj P N L ops K n ⟨t,σ⟩ l):Dj P N L ops K n ⟨t,σ⟩ ((i,z)::l):=
 sY e c (cD b hd (RT hc (λr s h=>by obtain⟨rfl,rfl⟩:=h;exact aE ks hk (a _ hr)))) hs
def MX(Φ:vN)(ops:Array Oper)(N:Nat)(t:cq)(σ:ca)(i:Nat)(ks:List Nat):Option cq:=
 match ops[i]? with
 |some o=>match o.guard with
  |none=>match gI Φ σ t o.op with
   |some p=>match dk N [o].toArray t o with
    |some d=>jU ((d,p)::t) ks
    |none=>none
   |none=>none
  |some _=>none
 |none=>none
theorem an[e:Has P Φ](a:WZ P N L ops Ts Ss K n z j ks k)(hr:ze Ts Ss j ks k=some ⟨t',σ⟩)(h:MX Φ ops N t σ i ks=some t')(hs:Dj P N L ops K n ⟨t,σ⟩ l):Dj P N L ops K n ⟨t,σ⟩ ((i,z)::l):=by
 unfold MX at h;split at h
 ·rename_i o c;split at h
  ·rename_i b;split at h
   ·rename_i p hp;split at h
    ·rename_i d hd;exact br c b (bb hp) hd a hr h hs
    ·cases h
   ·cases h
  ·cases h
 ·cases h
end
end
end PW
namespace eE
section
open Go.RowKit Go.Shelf Net
attribute [local go_sem] Oper.semAt_some
structure Kp (G n:Nat) (W W':World):Prop where
 size:W.heap.size<=W'.heap.size
 block:∀b,b<n->b≠G->W'.heap[b]? =W.heap[b]?
theorem Kp.refl(G n:Nat)(W:World):Kp G n W W:=⟨Rc _,λ_ _ _=>rfl⟩
theorem Kp.trans{G n:Nat}{A B C}(h:Kp G n A B)(k:Kp G n B C):Kp G n A C:=⟨Rr h.size k.size,λb h1 h2=>(k.block b h1 h2).trans (h.block b h1 h2)⟩
theorem Kp.cell{G n:Nat}{W W':World}(h:Kp G n W W'){p:Addr}(hb:p.block<n)(a:p.block≠G):W'.cell? p=W.cell? p:=World.cell?_of_block (h.block _ hb a)
theorem jk{W:World}{a v}(o:Obj)(h:W.cell? a=some v):(W.alloc o).cell? a=some v:=cell_kept h (World.grownBy_alloc W o none) (λr e=>by cases e)
theorem Kp.alloc{G n:Nat}{W:World}(h:n<=W.heap.size)(o:Obj):Kp G n W (W.alloc o):=⟨by simp,λb h1 _=>Below.heap_alloc _ _ _ (by omega)⟩
def cO(k x:Int)(L:List pM)(i:Nat):Bool:=if k=1 then decide ((i:Int)=x) else if k=2 then decide ((cP L i).a=x)||decide ((cP L i).b=x) else decide ((cP L i).wG=x)
abbrev Ix(N:Nat):= {i:Nat // i<N}
def nf(p:Nat->Bool)(N:Nat):Nat->List (Ix N)
 |0=>[]
 |k+1=>if h:p k=true/\k<N then nf p N k++[⟨k,h.2⟩] else nf p N k
theorem qg(p:Nat->Bool)(N:Nat):∀k,(nf p N k).length<=k
 |0=>Rc _
 |k+1=>by
  simp only[nf];have:=qg p N k;split
  ·simp;omega
  ·omega
theorem qh{p:Nat->Bool}{N k:Nat}(h:p k=true)(hk:k<N):nf p N (k+1)=nf p N k++[⟨k,hk⟩]:=by simp only[nf];rw[dif_pos ⟨h,hk⟩]
theorem yC{p:Nat->Bool}{N k:Nat}(h:p k=false):nf p N (k+1)=nf p N k:=by simp only[nf];rw[dif_neg (by rw[h];simp)]
theorem Fp(F:Fence)(n:Nat)(hf:F.fn 96)(hro:F.round=none)(hn:1<=n)(l Bt Bc G n₁ b off cap:Nat)(L:List pM)(x:Int)(hreach:L.length<=1000)(hb:b<n₁)(hbG:b≠G)(hc1:Bc<n₁)(hcG:Bc≠G)(J Jx:List (Ix L.length)->World->Prop)
  (hY:∀pre (i:Ix L.length) W,J pre W->pre.length<L.length->YieldAt F (n - 1) prog l #[.int .i64 (i.1:Int)] W λe W'=>
   (e= .returned (.bool true)/\J (pre++[i]) W'/\Kp G n₁ W W')\/(e= .returned (.bool false)/\Jx (pre++[i]) W'))
  (W:World) (hBt:W.cell? ⟨Bt,2,none⟩=some (.slice (some ⟨b,off,none⟩) L.length cap)) (hBk:W.cell? ⟨Bc,0,none⟩=some (.int .i64 1)) (hBx:W.cell? ⟨Bc,1,none⟩=some (.int .i64 x))
  (hcs:∀i,i<L.length->W.cell? ⟨b,off+i*7,none⟩=some (.int .i64 (cP L i).a)/\W.cell? ⟨b,off+i*7+1,none⟩=some (.int .i64 (cP L i).b)/\W.cell? ⟨b,off+i*7+2,none⟩=some (.int .i64 (cP L i).c0)/\W.cell? ⟨b,off+i*7+3,none⟩=some (.int .i64 (cP L i).c1)/\W.cell? ⟨b,off+i*7+4,none⟩=some (.int .i64 (cP L i).cap)/\W.cell? ⟨b,off+i*7+5,none⟩=some (.int .i64 (cP L i).ga)/\W.cell? ⟨b,off+i*7+6,none⟩=some (.int .i64 (cP L i).wG))
  (hsz:n₁<=W.heap.size) (hA:AbidesFrom W.heap.size J) (h0:J [] W):
  CallsIn F n prog 96 #[.func (.yield l) #[] #[],.pointer (some ⟨Bt,0,none⟩),.pointer (some ⟨Bc,0,none⟩)] W λe W'=>(∃v,e= .returned v)/\
   ((∃ys,ys=nf (cO 1 x L) L.length L.length/\J ys W')\/(∃pre,Jx pre W')):=by
 refine callsIn_of_wp func96 I hf ?_ hro
 simp only[ntmps96,Tf,Q8,S7,Nat.reduceAdd,Nat.reduceSub,Tn,To,TM,TD,Sx,RF]
 gi_wp2
 gi_loopw [10] (λi wr=>∃k:Nat,k<=L.length/\i= .int .i64 k/\J (nf (cO 1 x L) L.length k) wr/\Kp G n₁ W wr)
  (λi _=>L.length - (intOf i).toNat)
 case atStart=>exact⟨0,RQ _,rfl,h0,Kp.refl _ _ _⟩
 case round=>
  obtain⟨k,hk,rfl,hJs,hnx⟩:=hrel
  by_cases hlt:k<L.length
  ·obtain⟨a0,a1,a2,a3,a4,a5,a6⟩:=hcs k hlt
   have b0:=(hnx.cell (p:=⟨b,off+k*7,none⟩) hb hbG).trans a0
   have b1:=(hnx.cell (p:=⟨b,off+k*7+1,none⟩) hb hbG).trans a1
   have b2:=(hnx.cell (p:=⟨b,off+k*7+2,none⟩) hb hbG).trans a2
   have b3:=(hnx.cell (p:=⟨b,off+k*7+3,none⟩) hb hbG).trans a3
   have b4:=(hnx.cell (p:=⟨b,off+k*7+4,none⟩) hb hbG).trans a4
   have b5:=(hnx.cell (p:=⟨b,off+k*7+5,none⟩) hb hbG).trans a5
   have b6:=(hnx.cell (p:=⟨b,off+k*7+6,none⟩) hb hbG).trans a6
   have c0:=(hnx.cell (p:=⟨Bc,0,none⟩) hc1 hcG).trans hBk
   have c1:=(hnx.cell (p:=⟨Bc,1,none⟩) hc1 hcG).trans hBx
   clear a0 a1 a2 a3 a4 a5 a6
   have⟨fa,hfa⟩:=QQ ((cP L k).a)
   have⟨fb,hfb⟩:=QQ ((cP L k).b)
   have⟨fg,hfg⟩:=QQ ((cP L k).wG)
   rw[hfa]at b0
   rw[hfb]at b1
   rw[hfg]at b6
   have d0:=jk (.cells #[.int .i64 fa,.int .i64 fb,.int .i64 (cP L k).c0,.int .i64 (cP L k).c1,.int .i64 (cP L k).cap,.int .i64 (cP L k).ga,.int .i64 fg] 61) c0
   have d1:=jk (.cells #[.int .i64 fa,.int .i64 fb,.int .i64 (cP L k).c0,.int .i64 (cP L k).c1,.int .i64 (cP L k).cap,.int .i64 (cP L k).ga,.int .i64 fg] 61) c1
   have hJ2:J (nf (cO 1 x L) L.length k) (wr.alloc (.cells #[.int .i64 fa,.int .i64 fb,.int .i64 (cP L k).c0,.int .i64 (cP L k).c1,.int .i64 (cP L k).cap,.int .i64 (cP L k).ga,.int .i64 fg] 61)):=hA _ _ _ none hJs (World.grownBy_alloc _ _ none) (λr e=>by cases e)
   have hK2:Kp G n₁ W (wr.alloc (.cells #[.int .i64 fa,.int .i64 fb,.int .i64 (cP L k).c0,.int .i64 (cP L k).c1,.int .i64 (cP L k).cap,.int .i64 (cP L k).ga,.int .i64 fg] 61)):=hnx.trans (Kp.alloc (by have:=hnx.size;omega) _)
   by_cases hp:(k:Int)=x
   ·subst hp
    obtain⟨fn,tmps,assign,body,hy,hR⟩:=hY _ ⟨k,hlt⟩ _ hJ2 (by have:=qg (cO 1 (k:Int) L) L.length k;omega)
    dsimp only at hy
    have hpk:cO 1 (k:Int) L k=true:=by unfold cO;simp
    gi_wp2
    refine hR.mono ?_
    rintro e W3 (⟨rfl,hJ3,hk3⟩|⟨rfl,hJx3⟩)
    ·gi_wp2
     go_roundw
     case rel=>exact⟨k+1,by omega,by simp,by rw[qh hpk hlt];exact hJ3,hK2.trans hk3⟩
     case measure=>simp[intOf];omega
    ·gi_wp2
     refine bodyPost_ret (results_none rfl _ _ _) I ?_
     exact⟨⟨_,rfl⟩,.inr ⟨_,hJx3⟩⟩
   ·have hpk:cO 1 x L k=false:=by unfold cO;simp[hfa,hfb,hfg,hp]
    gi_wp2
    refine⟨λ_ h=>(by cases h),?_⟩
    gi_wp2
    go_roundw
    case rel=>exact⟨k+1,by omega,by simp,by rw[yC hpk];exact hJ2,hK2⟩
    case measure=>simp[intOf];omega
  ·obtain rfl:k=L.length:=by omega
   gi_wp2
   go_end0
   exact⟨⟨_,rfl⟩,.inl ⟨_,rfl,hJs⟩⟩
theorem Fq(F:Fence)(n:Nat)(hf:F.fn 96)(hro:F.round=none)(hn:1<=n)(l Bt Bc G n₁ b off cap:Nat)(L:List pM)(x:Int)(hreach:L.length<=1000)(hb:b<n₁)(hbG:b≠G)(hc1:Bc<n₁)(hcG:Bc≠G)(J Jx:List (Ix L.length)->World->Prop)
  (hY:∀pre (i:Ix L.length) W,J pre W->pre.length<L.length->YieldAt F (n - 1) prog l #[.int .i64 (i.1:Int)] W λe W'=>
   (e= .returned (.bool true)/\J (pre++[i]) W'/\Kp G n₁ W W')\/(e= .returned (.bool false)/\Jx (pre++[i]) W'))
  (W:World) (hBt:W.cell? ⟨Bt,2,none⟩=some (.slice (some ⟨b,off,none⟩) L.length cap)) (hBk:W.cell? ⟨Bc,0,none⟩=some (.int .i64 2)) (hBx:W.cell? ⟨Bc,1,none⟩=some (.int .i64 x))
  (hcs:∀i,i<L.length->W.cell? ⟨b,off+i*7,none⟩=some (.int .i64 (cP L i).a)/\W.cell? ⟨b,off+i*7+1,none⟩=some (.int .i64 (cP L i).b)/\W.cell? ⟨b,off+i*7+2,none⟩=some (.int .i64 (cP L i).c0)/\W.cell? ⟨b,off+i*7+3,none⟩=some (.int .i64 (cP L i).c1)/\W.cell? ⟨b,off+i*7+4,none⟩=some (.int .i64 (cP L i).cap)/\W.cell? ⟨b,off+i*7+5,none⟩=some (.int .i64 (cP L i).ga)/\W.cell? ⟨b,off+i*7+6,none⟩=some (.int .i64 (cP L i).wG))
  (hsz:n₁<=W.heap.size) (hA:AbidesFrom W.heap.size J) (h0:J [] W):
  CallsIn F n prog 96 #[.func (.yield l) #[] #[],.pointer (some ⟨Bt,0,none⟩),.pointer (some ⟨Bc,0,none⟩)] W λe W'=>(∃v,e= .returned v)/\
   ((∃ys,ys=nf (cO 2 x L) L.length L.length/\J ys W')\/(∃pre,Jx pre W')):=by
 refine callsIn_of_wp func96 I hf ?_ hro
 simp only[ntmps96,Tf,Q8,S7,Nat.reduceAdd,Nat.reduceSub,Tn,To,TM,TD,Sx,RF]
 gi_wp2
 gi_loopw [10] (λi wr=>∃k:Nat,k<=L.length/\i= .int .i64 k/\J (nf (cO 2 x L) L.length k) wr/\Kp G n₁ W wr)
  (λi _=>L.length - (intOf i).toNat)
 case atStart=>exact⟨0,RQ _,rfl,h0,Kp.refl _ _ _⟩
 case round=>
  obtain⟨k,hk,rfl,hJs,hnx⟩:=hrel
  by_cases hlt:k<L.length
  ·obtain⟨a0,a1,a2,a3,a4,a5,a6⟩:=hcs k hlt
   have b0:=(hnx.cell (p:=⟨b,off+k*7,none⟩) hb hbG).trans a0
   have b1:=(hnx.cell (p:=⟨b,off+k*7+1,none⟩) hb hbG).trans a1
   have b2:=(hnx.cell (p:=⟨b,off+k*7+2,none⟩) hb hbG).trans a2
   have b3:=(hnx.cell (p:=⟨b,off+k*7+3,none⟩) hb hbG).trans a3
   have b4:=(hnx.cell (p:=⟨b,off+k*7+4,none⟩) hb hbG).trans a4
   have b5:=(hnx.cell (p:=⟨b,off+k*7+5,none⟩) hb hbG).trans a5
   have b6:=(hnx.cell (p:=⟨b,off+k*7+6,none⟩) hb hbG).trans a6
   have c0:=(hnx.cell (p:=⟨Bc,0,none⟩) hc1 hcG).trans hBk
   have c1:=(hnx.cell (p:=⟨Bc,1,none⟩) hc1 hcG).trans hBx
   clear a0 a1 a2 a3 a4 a5 a6
   have⟨fa,hfa⟩:=QQ ((cP L k).a)
   have⟨fb,hfb⟩:=QQ ((cP L k).b)
   have⟨fg,hfg⟩:=QQ ((cP L k).wG)
   rw[hfa]at b0
   rw[hfb]at b1
   rw[hfg]at b6
   have d0:=jk (.cells #[.int .i64 fa,.int .i64 fb,.int .i64 (cP L k).c0,.int .i64 (cP L k).c1,.int .i64 (cP L k).cap,.int .i64 (cP L k).ga,.int .i64 fg] 61) c0
   have d1:=jk (.cells #[.int .i64 fa,.int .i64 fb,.int .i64 (cP L k).c0,.int .i64 (cP L k).c1,.int .i64 (cP L k).cap,.int .i64 (cP L k).ga,.int .i64 fg] 61) c1
   have hJ2:J (nf (cO 2 x L) L.length k) (wr.alloc (.cells #[.int .i64 fa,.int .i64 fb,.int .i64 (cP L k).c0,.int .i64 (cP L k).c1,.int .i64 (cP L k).cap,.int .i64 (cP L k).ga,.int .i64 fg] 61)):=hA _ _ _ none hJs (World.grownBy_alloc _ _ none) (λr e=>by cases e)
   have hK2:Kp G n₁ W (wr.alloc (.cells #[.int .i64 fa,.int .i64 fb,.int .i64 (cP L k).c0,.int .i64 (cP L k).c1,.int .i64 (cP L k).cap,.int .i64 (cP L k).ga,.int .i64 fg] 61)):=hnx.trans (Kp.alloc (by have:=hnx.size;omega) _)
   by_cases hp:fa=x
   ·subst hp
    obtain⟨fn,tmps,assign,body,hy,hR⟩:=hY _ ⟨k,hlt⟩ _ hJ2 (by have:=qg (cO 2 fa L) L.length k;omega)
    dsimp only at hy
    have hpk:cO 2 fa L k=true:=by unfold cO;simp[hfa,hfb,hfg]
    gi_wp2
    refine hR.mono ?_
    rintro e W3 (⟨rfl,hJ3,hk3⟩|⟨rfl,hJx3⟩)
    ·gi_wp2
     go_roundw
     case rel=>exact⟨k+1,by omega,by simp,by rw[qh hpk hlt];exact hJ3,hK2.trans hk3⟩
     case measure=>simp[intOf];omega
    ·gi_wp2
     refine bodyPost_ret (results_none rfl _ _ _) I ?_
     exact⟨⟨_,rfl⟩,.inr ⟨_,hJx3⟩⟩
   ·by_cases hq:fb=x
    ·subst hq
     obtain⟨fn,tmps,assign,body,hy,hR⟩:=hY _ ⟨k,hlt⟩ _ hJ2 (by have:=qg (cO 2 fb L) L.length k;omega)
     dsimp only at hy
     have hpk:cO 2 fb L k=true:=by unfold cO;simp[hfa,hfb,hfg]
     gi_wp2
     refine hR.mono ?_
     rintro e W3 (⟨rfl,hJ3,hk3⟩|⟨rfl,hJx3⟩)
     ·gi_wp2
      go_roundw
      case rel=>exact⟨k+1,by omega,by simp,by rw[qh hpk hlt];exact hJ3,hK2.trans hk3⟩
      case measure=>simp[intOf];omega
     ·gi_wp2
      refine bodyPost_ret (results_none rfl _ _ _) I ?_
      exact⟨⟨_,rfl⟩,.inr ⟨_,hJx3⟩⟩
    ·have hpk:cO 2 x L k=false:=by unfold cO;simp[hfa,hfb,hfg,hp,hq]
     gi_wp2
     refine⟨λ_ h=>(by cases h),?_⟩
     gi_wp2
     go_roundw
     case rel=>exact⟨k+1,by omega,by simp,by rw[yC hpk];exact hJ2,hK2⟩
     case measure=>simp[intOf];omega
  ·obtain rfl:k=L.length:=by omega
   gi_wp2
   go_end0
   exact⟨⟨_,rfl⟩,.inl ⟨_,rfl,hJs⟩⟩
theorem Fs(F:Fence)(n:Nat)(hf:F.fn 96)(hro:F.round=none)(hn:1<=n)(l Bt Bc G n₁ b off cap:Nat)(L:List pM)(x:Int)(hreach:L.length<=1000)(hb:b<n₁)(hbG:b≠G)(hc1:Bc<n₁)(hcG:Bc≠G)(J Jx:List (Ix L.length)->World->Prop)
  (hY:∀pre (i:Ix L.length) W,J pre W->pre.length<L.length->YieldAt F (n - 1) prog l #[.int .i64 (i.1:Int)] W λe W'=>
   (e= .returned (.bool true)/\J (pre++[i]) W'/\Kp G n₁ W W')\/(e= .returned (.bool false)/\Jx (pre++[i]) W'))
  (W:World) (hBt:W.cell? ⟨Bt,2,none⟩=some (.slice (some ⟨b,off,none⟩) L.length cap)) (hBk:W.cell? ⟨Bc,0,none⟩=some (.int .i64 3)) (hBx:W.cell? ⟨Bc,1,none⟩=some (.int .i64 x))
  (hcs:∀i,i<L.length->W.cell? ⟨b,off+i*7,none⟩=some (.int .i64 (cP L i).a)/\W.cell? ⟨b,off+i*7+1,none⟩=some (.int .i64 (cP L i).b)/\W.cell? ⟨b,off+i*7+2,none⟩=some (.int .i64 (cP L i).c0)/\W.cell? ⟨b,off+i*7+3,none⟩=some (.int .i64 (cP L i).c1)/\W.cell? ⟨b,off+i*7+4,none⟩=some (.int .i64 (cP L i).cap)/\W.cell? ⟨b,off+i*7+5,none⟩=some (.int .i64 (cP L i).ga)/\W.cell? ⟨b,off+i*7+6,none⟩=some (.int .i64 (cP L i).wG))
  (hsz:n₁<=W.heap.size) (hA:AbidesFrom W.heap.size J) (h0:J [] W):
  CallsIn F n prog 96 #[.func (.yield l) #[] #[],.pointer (some ⟨Bt,0,none⟩),.pointer (some ⟨Bc,0,none⟩)] W λe W'=>(∃v,e= .returned v)/\
   ((∃ys,ys=nf (cO 3 x L) L.length L.length/\J ys W')\/(∃pre,Jx pre W')):=by
 refine callsIn_of_wp func96 I hf ?_ hro
 simp only[ntmps96,Tf,Q8,S7,Nat.reduceAdd,Nat.reduceSub,Tn,To,TM,TD,Sx,RF]
 gi_wp2
 gi_loopw [10] (λi wr=>∃k:Nat,k<=L.length/\i= .int .i64 k/\J (nf (cO 3 x L) L.length k) wr/\Kp G n₁ W wr)
  (λi _=>L.length - (intOf i).toNat)
 case atStart=>exact⟨0,RQ _,rfl,h0,Kp.refl _ _ _⟩
 case round=>
  obtain⟨k,hk,rfl,hJs,hnx⟩:=hrel
  by_cases hlt:k<L.length
  ·obtain⟨a0,a1,a2,a3,a4,a5,a6⟩:=hcs k hlt
   have b0:=(hnx.cell (p:=⟨b,off+k*7,none⟩) hb hbG).trans a0
   have b1:=(hnx.cell (p:=⟨b,off+k*7+1,none⟩) hb hbG).trans a1
   have b2:=(hnx.cell (p:=⟨b,off+k*7+2,none⟩) hb hbG).trans a2
   have b3:=(hnx.cell (p:=⟨b,off+k*7+3,none⟩) hb hbG).trans a3
   have b4:=(hnx.cell (p:=⟨b,off+k*7+4,none⟩) hb hbG).trans a4
   have b5:=(hnx.cell (p:=⟨b,off+k*7+5,none⟩) hb hbG).trans a5
   have b6:=(hnx.cell (p:=⟨b,off+k*7+6,none⟩) hb hbG).trans a6
   have c0:=(hnx.cell (p:=⟨Bc,0,none⟩) hc1 hcG).trans hBk
   have c1:=(hnx.cell (p:=⟨Bc,1,none⟩) hc1 hcG).trans hBx
   clear a0 a1 a2 a3 a4 a5 a6
   have⟨fa,hfa⟩:=QQ ((cP L k).a)
   have⟨fb,hfb⟩:=QQ ((cP L k).b)
   have⟨fg,hfg⟩:=QQ ((cP L k).wG)
   rw[hfa]at b0
   rw[hfb]at b1
   rw[hfg]at b6
   have d0:=jk (.cells #[.int .i64 fa,.int .i64 fb,.int .i64 (cP L k).c0,.int .i64 (cP L k).c1,.int .i64 (cP L k).cap,.int .i64 (cP L k).ga,.int .i64 fg] 61) c0
   have d1:=jk (.cells #[.int .i64 fa,.int .i64 fb,.int .i64 (cP L k).c0,.int .i64 (cP L k).c1,.int .i64 (cP L k).cap,.int .i64 (cP L k).ga,.int .i64 fg] 61) c1
   have hJ2:J (nf (cO 3 x L) L.length k) (wr.alloc (.cells #[.int .i64 fa,.int .i64 fb,.int .i64 (cP L k).c0,.int .i64 (cP L k).c1,.int .i64 (cP L k).cap,.int .i64 (cP L k).ga,.int .i64 fg] 61)):=hA _ _ _ none hJs (World.grownBy_alloc _ _ none) (λr e=>by cases e)
   have hK2:Kp G n₁ W (wr.alloc (.cells #[.int .i64 fa,.int .i64 fb,.int .i64 (cP L k).c0,.int .i64 (cP L k).c1,.int .i64 (cP L k).cap,.int .i64 (cP L k).ga,.int .i64 fg] 61)):=hnx.trans (Kp.alloc (by have:=hnx.size;omega) _)
   by_cases hp:fg=x
   ·subst hp
    obtain⟨fn,tmps,assign,body,hy,hR⟩:=hY _ ⟨k,hlt⟩ _ hJ2 (by have:=qg (cO 3 fg L) L.length k;omega)
    dsimp only at hy
    have hpk:cO 3 fg L k=true:=by unfold cO;simp[hfa,hfb,hfg]
    gi_wp2
    refine hR.mono ?_
    rintro e W3 (⟨rfl,hJ3,hk3⟩|⟨rfl,hJx3⟩)
    ·gi_wp2
     go_roundw
     case rel=>exact⟨k+1,by omega,by simp,by rw[qh hpk hlt];exact hJ3,hK2.trans hk3⟩
     case measure=>simp[intOf];omega
    ·gi_wp2
     refine bodyPost_ret (results_none rfl _ _ _) I ?_
     exact⟨⟨_,rfl⟩,.inr ⟨_,hJx3⟩⟩
   ·have hpk:cO 3 x L k=false:=by unfold cO;simp[hfa,hfb,hfg,hp]
    gi_wp2
    refine⟨λ_ h=>(by cases h),?_⟩
    gi_wp2
    go_roundw
    case rel=>exact⟨k+1,by omega,by simp,by rw[yC hpk];exact hJ2,hK2⟩
    case measure=>simp[intOf];omega
  ·obtain rfl:k=L.length:=by omega
   gi_wp2
   go_end0
   exact⟨⟨_,rfl⟩,.inl ⟨_,rfl,hJs⟩⟩
end
end eE
namespace PW
section
open Go.RowKit cG Mem
section
variable {P:Program} {N L:Nat}
theorem GY(p:PV)(n:Nat):dQ [p] n=List.replicate n p:=by
 induction n with
 |zero=>rfl
 |succ n a=>simp only[dQ,a,SC];rfl
theorem lI.of{fs:List Nat}{σ}:∀(σ':ca) (js:List Nat),σ'.length=js.length->(∀(i:Nat) b' j,σ'[i]? =some (some b')->js[i]? =some j->∃b,σ[j]? =some (some b)/\BH fs b' b)->lI fs σ σ' js
 | [],[],_,_=>.nil
 |none::σ',j::js,hl,h=>.gone (lI.of σ' js (by simpa using hl) (λi b' k h1 h2=>h (i+1) b' k (by simpa using h1) (by simpa using h2)))
 |some b'::σ',j::js,hl,h=>by
  obtain⟨b,h1,h2⟩:=h 0 b' j rfl rfl;exact .kept h1 h2 (lI.of σ' js (by simpa using hl) (λi b' k h1 h2=>h (i+1) b' k (by simpa using h1) (by simpa using h2)))
 | [],_::_,hl,_=>by simp at hl
 |_::_,[],hl,_=>by simp at hl
theorem wW:∀(l:List Nat),l.Nodup->lF l=true
 | [],_=>rfl
 |x::l,h=>by
  rw[SD]at h;simp[lF,h.1,wW l h.2]
theorem tE{c t}{σ:ca}{Q:Exit->St->Prop}(i k e s:Nat){e1 s1 n:Nat}{xs:List PV}(hi:σ[i]? =some (some (.row e1 s1 n xs)))(hk:xs[k]? =some (.raw (.slice none 0 0)))
  (h:W P N L c ⟨t,(σ++[some (cX.row e s 0 [])]).set i (some (.row e1 s1 n (xs.set k (.own σ.length))))⟩ Q):W P N L c ⟨t,σ⟩ Q:=λF base E₀ w₀ E a w hc hs=>by
 obtain⟨m,a2,a3⟩:=Ho hs.sat e s;have l:=(QT.1 hi).1;have f:(σ++[some (cX.row e s 0 [])])[i]? =some (some (.row e1 s1 n xs)):=by rw[Q9 l];exact hi
 obtain⟨cs,h2,p⟩:=m.blk i _ f;obtain⟨v,d,j⟩:=p.get hk;cases j;have hb:∃b,bL ((E.push (.slice none 0 0)).at_ i)=some b:=by
  rcases h2.2 with u|⟨g,cap,cur,hv,_⟩
  ·have q:=h2.1;rw[u.2,Uj]at q;rw[Rd q]at d;simp at d
  ·exact⟨g,by rw[hv];rfl⟩
 obtain⟨b,hb⟩:=hb;obtain⟨r,o⟩:=m.JF f (b:=b) hb (Rc _) (λ_ _ _=>rfl) (bi':=.row e1 s1 n (xs.set k (.own σ.length))) ⟨cs,h2,by
  have:=p.set k a3;rw[xC d]at this;exact this⟩
 exact h F base E₀ w₀ _ a w (hc.on (a2.trans o) (Below.refl _ _)) ⟨r,(hs.tmp.goes a2).goes o,hs.lE,hs.size⟩
def gP(n:Nat):List PV:=(List.range n).map λi=>.own (i+1)
def nc(e1 e:TypeId)(rs:List (List Int)):ca:=some (.row e1 1 rs.length (gP rs.length))::rs.map λr=>some (.row e 1 r.length (aU r))
def qP(e1 e n k:Nat):ca:=some (.row e1 1 n (gP k++List.replicate (n - k) (PV.raw (.slice none 0 0))))::List.replicate k (some (.row e 1 0 []))
theorem Dn{c t}{Q:Exit->St->Prop}(e1 e n:Nat)(h:W P N L c ⟨t,qP e1 e n n⟩ Q):∀m k,k+m=n->W P N L c ⟨t,qP e1 e n k⟩ Q
  | 0, k, hk => by obtain rfl : k = n := by omega
                   exact h
  |m+1,k,hk=>by
    have d:=Dn e1 e n h m (k+1) (by omega);have a:(gP k).length=k:=by simp[gP]
    refine tE 0 k e 1 (e1:=e1) (s1:=1) (n:=n) (xs:=gP k++List.replicate (n - k) (PV.raw (.slice none 0 0))) I ?_ ?_
    · rw[RD (by omega),a,Sn,QY (by omega)]
    · have b:(qP e1 e n k++[some (cX.row e 1 0 [])]).set 0 (some (.row e1 1 n ((gP k++List.replicate (n - k) (PV.raw (.slice none 0 0))).set k (.own (qP e1 e n k).length))))=qP e1 e n (k+1):=by
        unfold qP;simp only[RF,SW,Q8,R6];congr 3
        · rw[Tk _ _ (by omega),a,Nat.sub_self,show n - k=(n - (k+1))+1 by omega,SC,SW];unfold gP;rw[R2,Sm];simp
        · rw[Ur]
      rw[b];exact d
theorem sb{c t}{Q:Exit->St->Prop}(e1 e n:Nat)(h:W P N L c ⟨t,nc e1 e (List.replicate n [])⟩ Q):W P N L c ⟨t,[some (.row e1 1 n (dQ [.raw (.slice none 0 0)] n))]⟩ Q:=by
 have:=Dn (P:=P) (N:=N) (L:=L) (c:=c) (t:=t) (Q:=Q) e1 e n (by
  have a:qP e1 e n n=nc e1 e (List.replicate n []):=by
   unfold qP nc;simp[aU]
  rw[a];exact h) n 0 (by omega)
 rw[GY];simpa[qP,gP]using this
def J0(n k:Nat):List Nat:=0::(List.range n).map λi=>if i=k then n+1 else i+1
theorem xo(n k:Nat):lF (J0 n k)=true:=by
 apply wW;unfold J0;rw[SD];constructor
 ·simp only[RB,not_exists,not_and];intro i _ h;split at h<;>omega
 ·rw[Ux,Ty];refine Tz ?_ (Ux.1 UP);intro i j hi b a h;have:=Ri.1 hi;have:=Ri.1 b;split at h<;>split at h<;>omega
theorem za(n k i:Nat)(hi:i<n):(J0 n k)[i+1]? =some (if i=k then n+1 else i+1):=by
 unfold J0;simp[hi]
theorem nT(n i:Nat)(hi:i<n):(gP n)[i]? =some (.own (i+1)):=by simp[gP,hi]
theorem nY(e1 e:TypeId)(rs:List (List Int))(k:Nat)(hk:k<rs.length):(nc e1 e rs)[k+1]? =some (some (.row e 1 (rs.getD k []).length (aU (rs.getD k [])))):=by
 unfold nc;simp[hk]
theorem Bb(e1 e:TypeId)(rs:List (List Int))(k:Nat)(hk:k<rs.length)(x:Int):
  lI (J0 rs.length k) (((nc e1 e rs).set (k+1) none++[some (cX.row e 1 ((rs.getD k []).length+1) (aU (rs.getD k [])++[.raw (.int .i64 x)]))]).set 0 (some (.row e1 1 rs.length (over (gP rs.length) k [.own (nc e1 e rs).length])))) (nc e1 e (rs.set k (rs.getD k []++[x]))) (J0 rs.length k):=by
 have m:(gP rs.length).length=rs.length:=by simp[gP]
 have c:(nc e1 e rs).length=rs.length+1:=by simp[nc]
 have h:over (gP rs.length) k [.own (nc e1 e rs).length]=(gP rs.length).set k (.own (rs.length+1)):=by
  unfold over;rw[c,SV,QY (by omega)];simp
 rw[h];apply lI.of
 ·simp[nc,J0]
 ·intro i b' j h1 h2;cases i with
  |zero=>
   simp only[nc,T4,SF,Ry]at h1;simp only[J0,T4,SF]at h2;subst h1;subst h2;refine⟨.row e1 1 rs.length ((gP rs.length).set k (.own (rs.length+1))),by simp[nc],.row ⟨by simp,λi a b l f=>?_⟩⟩;have hi:i<rs.length:=by have:=(QT.1 l).1;omega
   rw[nT _ _ hi]at l;cases l;rw[Rh]at f;split at f
   ·rename_i d;subst d;rw[QY (by omega)]at f;cases f;exact .own (by rw[za _ _ _ hi,QY rfl])
   ·rename_i d;rw[nT _ _ hi]at f;cases f;exact .own (by rw[za _ _ _ hi,QZ (Ne.symm d)])
  |succ i=>
   have hi:i<rs.length:=by
    have:=(QT.1 h1).1;simp[nc]at this;exact this
   rw[nY _ _ _ _ (by simpa using hi)]at h1;rw[za _ _ _ hi]at h2;cases h1;by_cases d:i=k
   ·rw[QY d]at h2;cases h2;subst d;refine⟨.row e 1 ((rs.getD i []).length+1) (aU (rs.getD i [])++[.raw (.int .i64 x)]),?_,?_⟩
    ·rw[Us (by omega),RD (by simp[c])];simp[c]
    ·have g:(rs.set i (rs.getD i []++[x])).getD i []=rs.getD i []++[x]:=by simp[QU,hi]
     rw[g,cW];exact .eY (by simp) I
   ·rw[QZ d]at h2;cases h2;refine⟨.row e 1 (rs.getD i []).length (aU (rs.getD i [])),?_,?_⟩
    ·rw[Us (by omega),Q9 (by simp[c];omega),Us (by omega),nY _ _ _ _ hi]
    ·have g:(rs.set k (rs.getD k []++[x])).getD i []=rs.getD i []:=by simp[QU,Rh,Ne.symm d]
     rw[g];exact .row RZ
def mc(rs:List (List Int)):PV:=.slice rs.length (rs.map aq)
instance (rs:List (List Int)):aP (rs.map aq):=aP.map _ _ λ_=>inferInstance
instance (rs:List (List Int)):IsPure (mc rs):=by unfold mc;infer_instance
theorem Ba(e1 e:TypeId)(rs:List (List Int)):ax (nc e1 e rs) (.own 0) (mc rs):=by
 refine Tj rfl ⟨by simp[gP],λi a b h1 h2=>?_⟩;have hi:i<rs.length:=by have:=(QT.1 h2).1;simpa using this
 rw[nT _ _ hi]at h1;cases h1;have:b=aq (rs.getD i []):=by simpa[hi]using h2.symm
 subst this;exact Tj (nY e1 e rs i hi) Sj
def ek(f:Nat->Int)(n k:Nat):List (List Int):=(List.range n).map fun(m:Nat)=>((List.range k).filter λa=>decide (f a=(m:Int))).map Int.ofNat
theorem fR(f:Nat->Int)(n k:Nat):(ek f n k).length=n:=by simp[ek]
theorem kA(f:Nat->Int)(n k m:Nat)(hm:m<n):(ek f n k).getD m []=((List.range k).filter λa=>decide (f a=(m:Int))).map Int.ofNat:=by simp[ek,hm]
theorem u5(f:Nat->Int)(n:Nat):ek f n 0=List.replicate n []:=by
 apply Sp;intro i;simp only[ek,List.range_zero,Tg,So,RE,Sn];by_cases h:i<n<;>simp[h]
theorem u4(f:Nat->Int)(n k m:Nat)(hm:f k=(m:Int))(a:m<n):ek f n (k+1)=(ek f n k).set m ((ek f n k).getD m []++[(k:Int)]):=by
 apply Sp;intro i;rw[Rh];by_cases h:i<n
 ·have hl:i<(ek f n k).length:=by rw[fR];exact h
  by_cases e:m=i
  ·subst e;rw[QY rfl,QY hl,kA _ _ _ _ h];simp[ek,h,R2,Sd,hm]
  ·rw[QZ e];simp[ek,h,R2,Sd,hm];omega
 ·have hl:¬i<(ek f n k).length:=by rw[fR];exact h
  have:(ek f n (k+1))[i]? =none:=by simp[ek,h]
  rw[this];split
  ·rw[QZ (by omega)]
  ·simp[ek,h]
end
open Net
theorem N2{P σ t}{o:Oper}{x y ty d}{a:Nat}(c:o.op= .binOp .xor ty x y d)(hx:aH t x=some (num a))(hy:aH t y=some (num 1))(b:a<9223372036854775806):bE P σ t o (num (flip a:Int)):=
 mX c hx hy λw=>by
  have h:IntKind.i64.wrap ((BitVec.ofInt IntKind.i64.bits (a:Int) ^^^ BitVec.ofInt IntKind.i64.bits 1).toNat:Int)=(flip a:Int):=Mf a b;simp only[binOp,Op.intBits,h]
  rfl
theorem CQ(a:Nat):((a:Int)).tdiv 2=((a / 2:Nat):Int):=rfl
theorem I0(a:Nat):((a:Int)).tmod 2=((a % 2:Nat):Int):=rfl
theorem aQ{T:ak}{n:Int}:aX T n=true↔0<=n/\n<T.nodes:=by simp[aX]
theorem bO{T:ak}(h:av T=true):T.ah.length<=256:=(gQ h).2.2.1
theorem tt{b:Prop}[Decidable b](h:decide b=true):b:=Q5 h
theorem ff{b:Prop}[Decidable b](h:decide b=false):¬b:=Rf h
theorem ln{E w v}{n:Nat}{xs}(h:cZ E w v (.slice n xs)):n<=maxLen:=by
 obtain⟨a,c,_,h1,h2⟩:=qA h;omega
theorem mA{P f ps}{R:PV->Prop}(h:(∃E w vs,bp E w vs ps)->Can P f ps R):Can P f ps R:=λF w vs b c a=>h ⟨_,_,_,a⟩ F w vs b c a
theorem zO{P f}{T:ak}{ps}{R:PV->Prop}(h:T.ah.length<=maxLen->T.over.length<=maxLen->Can P f (aL T::ps) R):Can P f (aL T::ps) R:=by
 refine mA λ⟨E,w,vs,a⟩=>?_;obtain⟨v,_,hv⟩:=a.get (i:=0) I;unfold aL bn at hv;cases hv with
 |agg cs _ hl hr=>
  have hr:bp E w cs.toList _:=⟨by simpa using hl,λi x u h1 h2=>hr i x u (by simpa using h1) h2⟩;obtain⟨v1,_,h1⟩:=hr.get (i:=1) I;obtain⟨v2,_,h2⟩:=hr.get (i:=2) I;exact h (ln h2) (ln h1)
theorem jw(T:ak)(hl:T.ah.length<=4611686018427387903):Can prog 63 [aL T] (· =num (2*(T.ah.length:Int))):=by
 exact aF func63 I ntmps63 I<|ab (.a 2 I<|.k [1] I)<|ab (.a 3 I<|.v (aW I) I<|.a 1 I<|.k [2] I)<|ao<|QR I ax.pure rfl
theorem kX(T:ak)(a:Nat)(b:a<2*T.ah.length):Can prog 20 [aL T,num a] (· =num (aZ T a)):=by
 have hi:a / 2<T.ah.length:=by omega
 refine zO λhm _=>?_;unfold maxLen at hm;refine aF func20 I ntmps20 I<|ab (.a 2 I<|.k [1,2] I)<|ai<|ab (.a 1 I<|.v (xK I I I (by decide) (I0 a)) I<|.a 1 I<|.k [1,2,7] I)<|ae I (λhc=>?_) (λhc=>?_)
 ·have h2:a % 2=0:=by have:=tt hc;omega
  unfold aZ;rw[QY h2];exact ab (.a 3 I<|.v (jV I I I (by decide) (CQ a) (by unfold In64;omega)) I<|.v (aM (a / 2*7) I) I<|.a 1 I<|.v (aJ I (fq T.ah (a / 2) 0 hi (by omega))) I<|.a 1 I<|.k [4] I)<|ao<|QR I ax.pure rfl
 ·have h2:¬a % 2=0:=by have:=ff hc;omega
  unfold aZ;rw[QZ h2];exact aj<|ab (.a 3 I<|.v (jV I I I (by decide) (CQ a) (by unfold In64;omega)) I<|.v (aM (a / 2*7) I) I<|.a 1 I<|.v (aJ I (fq T.ah (a / 2) 1 hi (by omega))) I<|.a 1 I<|.k [4] I)<|ao<|QR I ax.pure rfl
theorem iH(T:ak)(a:Nat)(b:a<2*T.ah.length)(hl:T.ah.length<=4611686018427387902):Can prog 47 [aL T,num a] (· =num (aN T a)):=by
 exact aF func47 I ntmps47 I<|ab (.a 2 I<|.k [1,2] I)<|ab (.a 2 I<|.v (N2 I I I (by omega)) I<|.c rfl (kX T (Net.flip a) (by unfold Net.flip;split<;>omega)) I<|.a 1 I<|.k [4] I)<|ao<|QR I ax.pure rfl
theorem zW(T:ak)(a:Nat)(hi:a / 2<T.ah.length):(jy T.ah)[a / 2*7+2+a % 2]? =some (num (cz T a)):=by
 rw[S6,fq T.ah (a / 2) (2+a % 2) hi (by omega)];unfold cz;rcases Uy a with h|h<;>rw[h]
 ·rfl
 ·rfl
theorem nv(T:ak)(a:Nat)(b:a<2*T.ah.length):Can prog 153 [aL T,num a] (· =num (cz T a)):=by
 have hi:a / 2<T.ah.length:=by omega
 refine zO λhm _=>?_;unfold maxLen at hm;exact aF func153 I ntmps153 I<|ab (.a 2 I<|.k [1,2] I)<|ab (.a 3 I<|.v (jV I I I (by decide) (CQ a) (by unfold In64;omega)) I<|.a 1 I<|.v (xK I I I (by decide) (I0 a)) I<|.v (aM (a / 2*7) I) I<|.a 1 I<|.v (aM (a % 2) I) I<|.v (aJ I (zW T a hi)) I<|.a 1 I<|.k [4] I)<|ao<|QR I ax.pure rfl
theorem qv(T:ak)(n:Nat)(hn:T.over.length=0\/n<T.over.length):Can prog 152 [aL T,num n] (· =flag (bR T n)):=by
 have⟨c,a⟩:=QQ (decide (0<(T.over.length:Int)));have⟨d,b⟩:=QQ (T.over.getD n false);have he:bR T n=(c&&d):=by
  unfold bR;cases c
  ·have:=ff a;rw[QU,RJ (by omega)];rfl
  ·exact b
 rw[he];refine aF func152 I ntmps152 I<|ab (.a 2 I<|.k [1,2] I)<|bz 4 (.raw (.bool (c&&d))) [] I ?_ ?_
 ·refine .a 3 I<|.v (bW I (a)) I<|.a 1 I<|?_;cases c
  ·exact .a 7 I<|.k [4] I
  ·exact .a 3 I<|.v (aM (n) I (by omega) (by have:=tt a;omega)) I<|.v (aJ I (show _=some (flag d) by rw[db _ n (by have:=tt a;omega),b])) I<|.a 2 I<|.k [4] I
 exact ao<|QR I ax.pure rfl
theorem ej(T:ak)(n:Int):Can prog 23 [aL T,num n] (· =flag (aX T n)):=by
 have⟨c,a⟩:=QQ (decide (0<=n));have⟨d,b⟩:=QQ (decide (n<T.nodes));have he:aX T n=(c&&d):=by rw[<-a,<-b];unfold aX;exact S8 _ _
 rw[he];refine aF func23 I ntmps23 I<|ab (.a 2 I<|.k [1,2] I)<|bz 4 (.raw (.bool (c&&d))) [] I ?_ ?_
 ·refine .a 1 I<|.v (bW I (a)) I<|.a 1 I<|?_;cases c
  ·exact .a 6 I<|.k [4] I
  ·exact .a 3 I<|.v (bW I (b)) I<|.a 2 I<|.k [4] I
 exact ao<|QR I ax.pure rfl
theorem s4(T:ak)(hl:T.ah.length<=4611686018427387903)(a:Int):Can prog 79 [aL T,num a] (· =flag (ef T a)):=by
 have⟨d,b⟩:=QQ (decide (0<=a));have⟨e,c⟩:=QQ (decide (a<2*(T.ah.length:Int)));have he:ef T a=(d&&e):=by rw[<-b,<-c];unfold ef;exact S8 _ _
 rw[he];refine aF func79 I ntmps79 I<|ab (.a 2 I<|.k [1,2] I)<|bz 4 (.raw (.bool (d&&e))) [] I ?_ ?_
 ·refine .a 1 I<|.v (bW I (b)) I<|.a 1 I<|?_;cases d
  ·exact .a 6 I<|.k [4] I
  ·exact .a 2 I<|.c rfl (jw T hl) I<|.v (bW I (c)) I<|.a 2 I<|.k [4] I
 exact ao<|QR I ax.pure rfl
theorem nH(T:ak)(D:List Bool)(hl:T.ah.length<=4611686018427387903):Can prog 97 [aL T,aV D] (· =flag (bN T D)):=by
 have⟨c,a⟩:=QQ (decide ((D.length:Int)=0));have⟨d,b⟩:=QQ (decide ((D.length:Int)=2*(T.ah.length:Int)));have he:bN T D=(c||d):=by rw[<-a,<-b];unfold bN;rw[<-TS];exact decide_eq_decide.2 (by omega)
 rw[he];refine aF func97 I ntmps97 I<|ab (.a 2 I<|.k [1,2] I)<|bz 4 (.raw (.bool (c||d))) [] I ?_ ?_
 ·refine .a 2 I<|.v (bW I (a)) I<|.a 1 I<|?_;cases c
  ·exact .a 3 I<|.c rfl (jw T hl) I<|.v (bW I (b)) I<|.a 2 I<|.k [4] I
  ·exact .a 7 I<|.k [4] I
 exact ao<|QR I ax.pure rfl
theorem DK{D:List Bool}{a:Nat}{p1 d}(b:decide (0<(D.length:Int))=p1)(c:D.getD a false=d):aI D a=(p1&&d):=by
 unfold aI;cases p1
 ·have:=ff b;rw[QU,RJ (by omega)];rfl
 ·exact c
theorem kI(D:List Bool)(a:Nat)(f:D.length=0\/a<D.length):Can prog 99 [aV D,num a] (· =flag (aI D a)):=by
 have⟨d,b⟩:=QQ (decide (0<(D.length:Int)));have⟨e,c⟩:=QQ (D.getD a false);rw[DK b c];refine aF func99 I ntmps99 I<|ab (.a 1 I<|.k [0,1] I)<|bz 4 (.raw (.bool (d&&e))) [] I ?_ ?_
 ·refine .a 2 I<|.v (bW I (b)) I<|.a 1 I<|?_;cases d
  ·exact .a 6 I<|.k [4] I
  ·exact .a 2 I<|.v (aM (a) I (by omega) (by have:=tt b;omega)) I<|.v (aJ I (show _=some (flag e) by rw[db _ a (by have:=tt b;omega),c])) I<|.a 2 I<|.k [4] I
 exact ao<|QR I ax.pure rfl
theorem jh(n lo hi:Int):Can prog 95 [num n,num lo,num hi] (· =flag (bQ n lo hi)):=by
 have⟨c,a⟩:=QQ (decide (lo<=n));have⟨d,b⟩:=QQ (decide (n<=hi));have he:bQ n lo hi=(c&&d):=by rw[<-a,<-b];unfold bQ;exact S8 _ _
 rw[he];refine aF func95 I ntmps95 I<|ab (.a 1 I<|.k [0,1,2] I)<|bz 6 (.raw (.bool (c&&d))) [] I ?_ ?_
 ·refine .a 2 I<|.v (bW I (a)) I<|.a 1 I<|?_;cases c
  ·exact .a 5 I<|.k [6] I
  ·exact .a 2 I<|.v (bW I (b)) I<|.a 2 I<|.k [6] I
 exact ao<|QR I ax.pure rfl
theorem fv(T:ak):Can prog 62 [aL T] (· =flag (av T)):=by
  have⟨p0,m⟩:=QQ (bQ T.nodes 1 64);have⟨K,b⟩:=QQ (decide ((T.over.length:Int)≠0));have⟨O,c⟩:=QQ (decide ((T.over.length:Int)≠T.nodes));have⟨P,f⟩:=QQ (decide (256<(T.ah.length:Int)));have hw:Can prog 95 [num T.nodes,num 1,num 64] (· =flag p0):=by rw[<-m];exact jh _ _ _
  refine aF func62 I ntmps62 I<|ab (.a 2 I<|.k [1] I)<|ai<|bz 14 (.raw (.bool ((!p0)||P))) [1] I ?_ ?_
  · refine .a 2 I<|.c rfl (hw) I<|.a 2 I<|?_;cases p0
    · exact .a 5 I<|.k [14,1] I
    · exact .a 3 I<|.v (bW I (f)) I<|.a 1 I<|.k [14,1] I
  refine ae I (λhc=>?_) (λhc=>?_)
  · have hv:av T=false:=by
      rcases Sh.1 hc with h|h
      · exact(jg T (.inl (by rw[m];simpa using h))).symm
      · rw[h]at f;exact(jg T (.inr (.inl (by have:=tt f;omega)))).symm
    rw[hv];exact ab (.a 1 I<|.k [2] I)<|ao<|QR I ax.pure rfl
  · obtain ⟨c1, M⟩ := Rt.1 hc;have h0:p0=true:=by simpa using c1
    rw[h0]at m;rw[M]at f;have hle:T.ah.length<=256:=by have:=ff f;omega
    clear hw hc c1;refine aj<|ai<|bz 26 (.raw (.bool (K&&O))) [1] I ?_ ?_
    · refine .a 3 I<|.v (bW I (b)) I<|.a 1 I<|?_;cases K
      · exact .a 7 I<|.k [26,1] I
      · exact .a 5 I<|.v (bW I (c)) I<|.a 1 I<|.k [26,1] I
    refine ae I (λhc=>?_) (λhc=>?_)
    · have hv:av T=false:=by
        obtain⟨L,a2⟩:=Q3.1 hc;rw[L]at b;rw[a2]at c;exact(jg T (.inr (.inr ⟨by have:=tt b;omega,tt c⟩))).symm
      rw[hv];exact ab (.a 1 I<|.k [2] I)<|ao<|QR I ax.pure rfl
    · have C:T.over.length=0\/(T.over.length:Int)=T.nodes:=by
        rcases SE.1 hc with h|h
        · rw[h]at b;exact .inl (by have:=ff b;omega)
        · rw[h]at c;exact .inr (by have:=ff c;omega)
      rw[vu T m hle C];clear hc b c;refine aj<|ai<|ab (.a 4 I<|.k [1,29,30] I)<|aw<|eF [1,29,30] I<|bd (λr s=>∃k,k<=T.ah.length/\r=T.ah.length - k/\(T.ah.take k).all (jO T)=true/\s=⟨[(1,.bq (bn T) 0),(29,num T.ah.length),(30,num k)],[]⟩) T.ah.length ⟨0,by omega,by omega,by simp,rfl⟩ ?_;rintro r s ⟨k,hk,rfl,d,rfl⟩;refine ab (.a 1 I<|.k [1,29,30,31] I)<|ai<|ae I (λhc=>?_) (λhc=>?_)
      · have n:k<T.ah.length:=by have:=tt hc;omega
        have g:∀j,j<7->(jy T.ah)[k*7+j]? =(lS (cP T.ah k))[j]? :=λj N=>fq T.ah k j n N;have⟨q1,g1⟩:=QQ (decide ((cP T.ah k).a=(cP T.ah k).b));have⟨t,g2⟩:=QQ (aX T (cP T.ah k).a);have⟨x,g3⟩:=QQ (aX T (cP T.ah k).b);have⟨u,g4⟩:=QQ (bQ (cP T.ah k).c0 1 65535);have⟨y,g5⟩:=QQ (bQ (cP T.ah k).c1 1 65535);have⟨v,g6⟩:=QQ (bQ (cP T.ah k).cap 0 1048576);have⟨w,g7⟩:=QQ (bQ (cP T.ah k).ga 1 65536);have⟨z,g8⟩:=QQ (bQ (cP T.ah k).wG 0 64);have q:=wN (T:=T) (l:=cP T.ah k) (q1:=q1) (by rw[<-g1];exact SR.2 (by simp)) g2 g3 g4 g5 g6 g7 g8;have e:=zE (jO T) T.ah k n;have i:=zD (jO T) T.ah k n;rw[q]at e i;have n2:=ej T (cP T.ah k).a;rw[g2]at n2;have D:=ej T (cP T.ah k).b;rw[g3]at D;have E:=jh (cP T.ah k).c0 1 65535;rw[g4]at E;have F:=jh (cP T.ah k).c1 1 65535;rw[g5]at F;have G:=jh (cP T.ah k).cap 0 1048576;rw[g6]at G;have H:=jh (cP T.ah k).ga 1 65536;rw[g7]at H;have J:=jh (cP T.ah k).wG 0 64;rw[g8]at J;clear q g2 g3 g4 g5 g6 g7 g8;refine aj<|ai<|aw<|ab (.a 2 I<|.k [1,3,29,30] I)<|ab (.a 3 I<|.v (aM (k*7) I) I<|.a 1 I<|.k [1,4,29,30] I)<|ai<|iY mixed (by kernel_rfl) 63 (.raw (.bool ((q1|| !t)|| !x))) [1,4,29,30] I ?_ ?_
        · refine .a 3 I<|.v [39] (aJ I (g 0 (by omega))) I I<|.a 3 I<|.v [43] (aJ I (g 1 (by omega))) I I<|.v [40,44] (bW I (g1)) I I<|.a 1 I<|?_;cases q1
          · refine .a 4 I<|.v [50] (aJ I (g 0 (by omega))) I I<|.v [47,51] (dX I (n2)) I I<|.a 3 I<|?_;cases t
            · exact .a 8 I<|.k [63,1,4,29,30] I
            · exact .a 4 I<|.v [59] (aJ I (g 1 (by omega))) I I<|.v [56,60] (dX I (D)) I I<|.a 2 I<|.k [63,1,4,29,30] I
          · exact .a 17 I<|.k [63,1,4,29,30] I
        refine ae I (λhx=>?_) (λhx=>?_)
        · have a:=i (by cases q1<;>cases t<;>cases x<;>simp_all);rw[a];exact ab (.a 1 I<|.k [2] I)<|ao<|QR I ax.pure rfl
        · have o:q1=false:=by cases q1<;>simp_all
          have p:t=true:=by cases t<;>simp_all
          have A:x=true:=by cases x<;>simp_all
          subst o p A;clear n2 D hx;refine aj<|ai<|bz 79 (.raw (.bool ((!u)|| !y))) [1,4,29,30] I ?_ ?_
          · refine .a 3 I<|.v (aM (0) I) I<|.v (aJ I (g 2 (by omega))) I<|.c rfl (E) I<|.a 2 I<|?_;cases u
            · exact .a 8 I<|.k [79,1,4,29,30] I
            · exact .a 3 I<|.v (aM (1) I) I<|.v (aJ I (g 3 (by omega))) I<|.c rfl (F) I<|.a 2 I<|.k [79,1,4,29,30] I
          refine ae I (λhx=>?_) (λhx=>?_)
          · have a:=i (by cases u<;>cases y<;>simp_all);rw[a];exact ab (.a 1 I<|.k [2] I)<|ao<|QR I ax.pure rfl
          · have o:u=true:=by cases u<;>simp_all
            have p:y=true:=by cases y<;>simp_all
            subst o p;clear E F hx;refine aj<|bz 101 (.raw (.bool (((!v)|| !w)|| !z))) [1,29,30] I ?_ ?_
            · refine .a 3 I<|.v (aJ I (g 4 (by omega))) I<|.c rfl (G) I<|.a 2 I<|?_;cases v
              · exact .a 15 I<|.k [101,1,29,30] I
              · refine .a 3 I<|.v (aJ I (g 5 (by omega))) I<|.c rfl (H) I<|.a 3 I<|?_;cases w
                · exact .a 7 I<|.k [101,1,29,30] I
                · exact .a 3 I<|.v (aJ I (g 6 (by omega))) I<|.c rfl (J) I<|.a 2 I<|.k [101,1,29,30] I
            refine ae I (λhx=>?_) (λhx=>?_)
            · have a:=i (by cases v<;>cases w<;>cases z<;>simp_all);rw[a];exact ab (.a 1 I<|.k [2] I)<|ao<|QR I ax.pure rfl
            · have o:v=true:=by cases v<;>simp_all
              have p:w=true:=by cases w<;>simp_all
              have A:z=true:=by cases z<;>simp_all
              subst o p A;clear G H J hx;refine aj<|aC (.v (aW I) I<|.a 1 I<|.k [1,29,30] I) ?_;exact⟨T.ah.length - (k+1),by omega,k+1,by omega,rfl,by rw[e,d];rfl,rfl⟩
      · have B:k=T.ah.length:=by have:=ff hc;omega
        subst B;rw[RC]at d;rw[d];exact ba<|ab (.a 1 I<|.k [2] I)<|ao<|QR I ax.pure rfl
section
variable {P:Program} {ops:Array Oper} {Q:Exit->Act->World->Prop}
theorem CE{l n:Nat}{o:Oper}{a w}{K j:Act->World->Prop}(i:∀c,o.op≠ .defer c)(m:¬LetsOut Q)(g:∀a w,K a w->j a w)(h:o.wp P a w K Q):o.wpIn (Fence.wide.inRound l) n P a w j Q:=by
 refine⟨λ_ _=>trivial,?_⟩;rw[Fence.inRound_round,Oper.semAt_eq _ _ _ i];unfold Oper.wp at h;generalize (execOp a.eval o).run P w=x at*;cases x with
 |ok x w'=>
  cases x<;>simp only[Oper.uponIn,Oper.upon]at h ⊢
  case value v=>exact g _ _ h
  case skip=>exact g _ _ h
  case defer d=>exact g _ _ h
  case enter f b=>exact⟨λh=>by simp[Fence.wide]at h,CallsIn.inRound l (callsIn_wide.2 (h.mono λe k he=>by cases e<;>first|exact g _ _ he|exact he))⟩
  case row r b=>exact⟨λh=>by simp[Fence.wide]at h,λc cs _=>by
   obtain⟨v,w',r,s⟩:=h c cs;exact⟨v,w',g _ _ r,stepsIn_wide.2 s⟩⟩
  all_goals exact h.elim
 |halt x w'=>cases x<;>simp only[Oper.uponIn,Oper.upon]at h ⊢ <;>exact h
theorem lz{l n:Nat}(b:∀(i:Nat) (o:Oper),ops[i]? =some o->∀c,o.op≠ .defer c)(d:¬LetsOut Q):∀(fuel:Nat) (ls:Array Bool) (a:Act) (w:World),wpAny P .any ops Q fuel ls a w->wpAnyIn (Fence.wide.inRound l) n P .any ops Q fuel ls a w
 |0,ls,a,w,h=>h
 |fuel+1,ls,a,w,h=>by
  refine⟨h.1,λi hi=>?_⟩;have h2:=h.2 i hi;unfold wpOp at h2;unfold wpOpIn;cases e:ops[i]? with
  |none=>rw[e]at h2;exact lz b d fuel _ a w h2
  |some o=>
   rw[e]at h2;simp only at h2 ⊢;split
   ·rename_i hw;rw[QY hw]at h2;rcases h2 with h2|h2
    ·exact CE (b i o e) d (λa w h=>lz b d fuel _ a w h) h2
    ·exact absurd h2.2 d
   ·rename_i hw;rw[QZ hw]at h2;exact⟨λ_ _=>trivial,lz b d fuel _ _ w h2⟩
end
end
end PW
end Go.Proofs.YtoopjinigmhpcaaGreatDoor
