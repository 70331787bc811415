/- OWN WORK, put together by tools/asm.py, seat.py, mini.py. -/
import Derived.Test.YtcpckngdfjmbgaaGreatBaseL
namespace Go.Ab
open Go.RowKit
theorem aD {e e':Nat→AV} {x:AX} (h:∀ t∈x.lk,e' t=e t):x.ev e'=x.ev e:=by
 cases x with
 | t s=>exact h s (by simp [AX.lk])
 | c v=>rfl
theorem ej {e e':Nat→AV} {l:List AX} (h:∀ t∈JS l,e' t=e t):pW e' l=pW e l:=by
 unfold pW
 exact List.map_congr_left fun x hx=>aD fun t ht=>h t (List.mem_flatMap.2 ⟨x,hx,ht⟩)
theorem j7 {e e':Nat→AV} {l:Option AX} (h:∀ t∈NZ l,e' t=e t):C2 e' l=C2 e l:=by
 cases l with
 | none=>rfl
 | some x=>simp [C2,aD (x:=x) h]
theorem Hf {e e':Nat→AV} {l:List (Nat × Nat × AX)} (h:∀ t∈JS (l.map fun p=>p.2.2),e' t=e t):JU e' l=JU e l:=by
 unfold JU
 exact List.map_congr_left fun x hx=>by rw [aD fun t ht=>h t (List.mem_flatMap.2 ⟨x.2.2,List.mem_map.2 ⟨x,hx,rfl⟩,ht⟩)]
theorem kj {H:eC} {op:aN} {e e':Nat→AV} (h:∀ t∈op.looks,e' t=e t):ak H op e'=ak H op e:=by
 funext σ K
 cases op <;> simp only [aN.looks,List.mem_append,or_imp,forall_and] at h <;> simp only [ak]
 case mv=>rw [aD h]
 case pick=>rw [aD h.1,aD h.2.1,aD h.2.2]
 case box=>rw [aD h]
 case build=>rw [Hf h]
 case lit=>rw [ej h]
 case load=>rw [aD h]
 case store=>rw [aD h.1,aD h.2]
 case aY=>rw [aD h]
 case bin=>rw [aD h.1,aD h.2]
 case Hx=>rw [aD h.1,aD h.2]
 case eqs=>rw [aD h.1,aD h.2]
 case un=>rw [aD h]
 case conv=>rw [aD h]
 case G7=>rw [ej h]
 case fa=>rw [aD h]
 case cg=>rw [aD h.1,aD h.2]
 case ext=>rw [aD h]
 case len=>rw [aD h]
 case lens=>rw [aD h]
 case app=>rw [aD h.1,aD h.2]
 case AQ=>rw [aD h.1,ej h.2]
 case qI=>rw [aD h.1,j7 h.2.1,j7 h.2.2]
 case te=>rw [aD h.1,j7 h.2.1,j7 h.2.2]
 case call=>rw [ej h]
 case dz=>rw [aD h.1,ej h.2]
 case pu=>rw [ej h]
 case kK=>rw [aD h]
 case KY=>rw [aD h]
 case Kw=>rw [aD h.1,aD h.2]
 case E5=>rw [aD h.1,aD h.2]
 case JV=>rw [aD h]
 case Hy=>rw [aD h]
 case KI=>rw [aD h]
 case Of=>rw [aD h]
 case Aj=>rw [aD h.1,aD h.2]
 case DA=>rw [aD h]
 case Fa=>rw [aD h.1,aD h.2.1,aD h.2.2.1,aD h.2.2.2]
 case Cl=>rw [aD h.1,j7 h.2.1,j7 h.2.2]
 case cZ=>rw [aD h.1,aD h.2.1,aD h.2.2]
 case fj=>rw [aD h.1,aD h.2]
 case E9=>rw [aD h.1,aD h.2.1,aD h.2.2]
 case Mm=>rw [aD h]
 case KZ=>rw [ej h]
theorem EJ {op:BinOp} {x y:AV} {K:AV→Prop} (h:qo op x y K):∃ v,K v∧∀ K':AV→Prop,K' v→qo op x y K':=by
 unfold qo at h
 split at h
 ·cases op <;> simp only at h <;> (try exact h.elim) <;>
   first
   | exact ⟨_,h.2.2,fun K' hk=>⟨h.1,h.2.1,hk⟩⟩
   | exact ⟨_,h.2,fun K' hk=>⟨h.1,hk⟩⟩
 ·cases op <;> simp only at h <;> (try exact h.elim) <;>
   first
   | exact ⟨_,h.2,fun K' hk=>⟨h.1,hk⟩⟩
   | exact ⟨_,h,fun K' hk=>hk⟩
 ·exact h.elim
theorem pM {mx:Bool}:∀ {l:List AV} {x:AV} {K:AV→Prop},eQ mx x l K→∃ v,K v∧∀ K':AV→Prop,K' v→eQ mx x l K'
 | [],x,K,h=>by simp only [eQ] at h; exact ⟨x,h,fun K' hk=>by simpa only [eQ] using hk⟩
 | y :: r,x,K,h=>by
  unfold eQ at h
  split at h
  ·rename_i heq; cases heq
  ·rename_i heq
   cases heq
   obtain ⟨hk,h⟩:=h
   obtain ⟨v,h1,h2⟩:=pM h
   exact ⟨v,h1,fun K' hK'=>by unfold eQ; exact ⟨hk,h2 K' hK'⟩⟩
  ·exact h.elim
theorem gr {n:Nat} {lo hi:Option AV} {K:Nat→Nat→Prop} (h:od n lo hi K):∃ p q,p≤q∧K p q∧∀ K':Nat→Nat→Prop,K' p q→od n lo hi K':=by
 unfold od at h
 split at h
 ·exact ⟨0,n,Nat.zero_le _,h,fun K' hk=>hk⟩
 ·exact ⟨_,n,by omega,h.2.2,fun K' hk=>⟨h.1,h.2.1,hk⟩⟩
 ·exact ⟨0,_,Nat.zero_le _,h.2.2,fun K' hk=>⟨h.1,h.2.1,hk⟩⟩
 ·exact ⟨_,_,by omega,h.2.2.2,fun K' hk=>⟨h.1,h.2.1,h.2.2.1,hk⟩⟩
 ·exact h.elim
theorem Ho {n:Nat} {lo hi:Option AV} {K:Nat→Nat→Prop} (h:od n lo hi K):∃ p q,p≤n∧K p q∧∀ K':Nat→Nat→Prop,K' p q→od n lo hi K':=by
 unfold od at h
 split at h
 ·exact ⟨0,n,Nat.zero_le _,h,fun K' hk=>hk⟩
 ·exact ⟨_,n,by omega,h.2.2,fun K' hk=>⟨h.1,h.2.1,hk⟩⟩
 ·exact ⟨0,_,Nat.zero_le _,h.2.2,fun K' hk=>⟨h.1,h.2.1,hk⟩⟩
 ·exact ⟨_,_,by omega,h.2.2.2,fun K' hk=>⟨h.1,h.2.1,h.2.2.1,hk⟩⟩
 ·exact h.elim
theorem Jh {n c:Nat} (hn:n≤c) {lo hi:Option AV} {K:Nat→Nat→Prop} (h:wh n c lo hi K):∃ p q,p≤c∧K p q∧∀ K':Nat→Nat→Prop,K' p q→wh n c lo hi K':=by
 unfold wh at h
 split at h
 ·exact ⟨0,n,Nat.zero_le _,h,fun K' hk=>hk⟩
 ·exact ⟨_,n,by omega,h.2.2,fun K' hk=>⟨h.1,h.2.1,hk⟩⟩
 ·exact ⟨0,_,Nat.zero_le _,h.2.2,fun K' hk=>⟨h.1,h.2.1,hk⟩⟩
 ·exact ⟨_,_,by omega,h.2.2.2,fun K' hk=>⟨h.1,h.2.1,h.2.2.1,hk⟩⟩
 ·exact h.elim
structure Ow (H:eC) (op:aN) (e:Nat→AV) (ob:Nat→Option aS) (id g:Nat) (v:AV) (wr:Option (Nat × aS)):Prop where
 lE:∀ i∈dO wr,i∈op.lE e id
 run:∀ ob' n c,(∀ i∈op.dM e,ob' i=ob i)→(op.new=true→n=id∧c=g)→∀ K':AV→St→Prop,
  (∀ τ:St,τ.ob=eE ob' wr→(op.new=false→τ.n=n∧τ.c=c)→K' v τ)→ak H op e ⟨ob',n,c⟩ K'
section
variable {H : eC} {e : Nat → AV} {ob : Nat → Option aS} {id g : Nat} {K : AV → St → Prop}
theorem aO {op:aN} {v:AV} (_hn:op.new=false) (h:∀ σ' (K':AV→St→Prop),K' v σ'→ak H op e σ' K'):Ow H op e ob id g v none:=
 ⟨fun i hi=>by simp [dO] at hi,fun ob' n c _ _ K' hK=>h _ _ (hK _ rfl fun _=>⟨rfl,rfl⟩)⟩
theorem yt {op:aN} (hnd:op.nd=false) (hcall:op.bX e=none) (h:ak H op e ⟨ob,id,g⟩ K):∃ v wr τ,K v τ∧τ.ob=eE ob wr∧Ow H op e ob id g v wr:=by
 cases op with
 | mv x=>exact ⟨_,none,_,h,rfl,aO rfl fun σ' K' hk=>hk⟩
 | pick c a b=>
  simp only [ak] at h
  generalize hc:c.ev e=cv at h
  unfold pw at h
  split at h
  ·rename_i t
   cases t with
   | true=>exact ⟨_,none,_,h.1 rfl,rfl,aO rfl fun σ' K' hk=>by simp only [ak,hc,pw]; exact ⟨fun _=>hk,fun h=>by cases h⟩⟩
   | false=>exact ⟨_,none,_,h.2 rfl,rfl,aO rfl fun σ' K' hk=>by simp only [ak,hc,pw]; exact ⟨fun h=>(by cases h),fun _=>hk⟩⟩
  ·exact h.elim
 | alloc es ty z=>
  refine ⟨_,some (id,_),_,h,rfl,⟨fun i hi=>by simpa [dO,aN.lE] using hi,fun ob' n c _ hn K' hK=>?_⟩⟩
  obtain ⟨rfl,rfl⟩:=hn rfl
  exact hK _ rfl fun h=>by simp [aN.new] at h
 | fp es ty=>
  refine ⟨_,some (id,_),_,h,rfl,⟨fun i hi=>by simpa [dO,aN.lE] using hi,fun ob' n c _ hn K' hK=>?_⟩⟩
  obtain ⟨rfl,rfl⟩:=hn rfl
  exact hK _ rfl fun h=>by simp [aN.new] at h
 | box es ty x=>
  obtain ⟨h1,h2,h⟩:=h
  refine ⟨_,some (id,_),_,h,rfl,⟨fun i hi=>by simpa [dO,aN.lE] using hi,fun ob' n c _ hn K' hK=>?_⟩⟩
  obtain ⟨rfl,rfl⟩:=hn rfl
  exact ⟨h1,h2,hK _ rfl fun h=>by simp [aN.new] at h⟩
 | build zs ps=>exact ⟨_,none,_,h.2,rfl,aO rfl fun σ' K' hk=>⟨h.1,hk⟩⟩
 | lit mu es ty xs=>
  obtain ⟨h1,h⟩:=h
  cases mu with
  | true=>
   refine ⟨_,some (id,_),_,h,rfl,⟨fun i hi=>by simpa [dO,aN.lE] using hi,fun ob' n c _ hn K' hK=>?_⟩⟩
   obtain ⟨rfl,rfl⟩:=hn rfl
   exact ⟨h1,hK _ rfl fun h=>by simp [aN.new] at h⟩
  | false=>
   refine ⟨_,none,_,h,rfl,⟨fun i hi=>by simp [dO] at hi,fun ob' n c _ _ K' hK=>?_⟩⟩
   exact ⟨h1,hK _ rfl fun h=>by simp [aN.new] at h⟩
 | load ag sz x=>
  simp only [ak] at h
  generalize hx:x.ev e=xv at h
  unfold uc at h
  split at h
  ·obtain ⟨o,ho,h1,h2,h3,y,hy,hK⟩:=h
   refine ⟨_,none,_,hK,rfl,⟨fun i hi=>by simp [dO] at hi,fun ob' n c hr _ K' hk=>?_⟩⟩
   simp only [ak,hx,uc]
   exact ⟨o,by rw [hr _ (by simp [aN.dM,hx,AV.kx])]; exact ho,h1,h2,h3,y,hy,hk _ rfl fun _=>⟨rfl,rfl⟩⟩
  ·obtain ⟨h3,y,hy,hK⟩:=h
   exact ⟨_,none,_,hK,rfl,aO rfl fun σ' K' hk=>by simp only [ak,hx,uc]; exact ⟨h3,y,hy,hk⟩⟩
  ·exact h.elim
 | store sz x v=>
  simp only [ak] at h
  generalize hx:x.ev e=xv at h
  unfold si at h
  split at h
  ·obtain ⟨o,ho,h1,h2,h3,h4,h5,h6,y,hy,hK⟩:=h
   refine ⟨_,some (_,_),_,hK,rfl,⟨fun i hi=>by simpa [dO,aN.lE,hx,AV.kx] using hi,fun ob' n c hr _ K' hk=>?_⟩⟩
   simp only [ak,hx,si]
   exact ⟨o,by rw [hr _ (by simp [aN.dM,hx,AV.kx])]; exact ho,h1,h2,h3,h4,h5,h6,y,hy,hk _ rfl fun _=>⟨rfl,rfl⟩⟩
  ·exact h.elim
 | aY x=>
  simp only [ak] at h
  generalize hx:x.ev e=xv at h
  unfold iz at h
  split at h
  ·exact ⟨_,none,_,h,rfl,aO rfl fun σ' K' hk=>by simp only [ak,hx,iz]; exact hk⟩
  ·exact ⟨_,none,_,h,rfl,aO rfl fun σ' K' hk=>by simp only [ak,hx,iz]; exact hk⟩
  ·exact ⟨_,none,_,h,rfl,aO rfl fun σ' K' hk=>by simp only [ak,hx,iz]; exact hk⟩
  ·exact ⟨_,none,_,h,rfl,aO rfl fun σ' K' hk=>by simp only [ak,hx,iz]; exact hk⟩
  ·exact h.elim
 | bin op x y=>
  have h:qo op (x.ev e) (y.ev e) (fun v=>K v ⟨ob,id,g⟩):=h
  obtain ⟨v,hv,hd⟩:=EJ h
  exact ⟨v,none,_,hv,rfl,aO rfl fun σ' K' hk=>hd (fun v=>K' v σ') hk⟩
 | Hx neg x y=>
  simp only [ak] at h
  generalize hx:x.ev e=xv at h
  generalize hy:y.ev e=yv at h
  unfold Er at h
  split at h
  ·exact ⟨_,none,_,h,rfl,aO rfl fun σ' K' hk=>by simp only [ak,hx,hy,Er]; exact hk⟩
  ·exact h.elim
 | eqs neg n x y=>
  simp only [ak] at h
  generalize hx:x.ev e=xv at h
  generalize hy:y.ev e=yv at h
  unfold AT at h
  split at h
  ·obtain ⟨b,hb,hK⟩:=h
   exact ⟨_,none,_,hK,rfl,aO rfl fun σ' K' hk=>by simp only [ak,hx,hy,AT]; exact ⟨b,hb,hk⟩⟩
  ·exact h.elim
 | un op x=>
  simp only [ak] at h
  generalize hx:x.ev e=xv at h
  unfold L8 at h
  split at h
  ·exact ⟨_,none,_,h,rfl,aO rfl fun σ' K' hk=>by simp only [ak,hx,L8]; exact hk⟩
  ·exact ⟨_,none,_,h,rfl,aO rfl fun σ' K' hk=>by simp only [ak,hx,L8]; exact hk⟩
  ·exact h.elim
 | conv k x=>
  simp only [ak] at h
  generalize hx:x.ev e=xv at h
  unfold zM at h
  split at h
  ·exact ⟨_,none,_,h,rfl,aO rfl fun σ' K' hk=>by simp only [ak,hx,zM]; exact hk⟩
  ·exact h.elim
 | Mm x=>simp [aN.nd] at hnd
 | KZ f fs=>exact ⟨_,none,_,h.2,rfl,aO rfl fun σ' K' hk=>⟨h.1,hk⟩⟩
 | E9 es x h' m'=>
  simp only [ak] at h
  generalize hx:x.ev e=xv at h
  generalize hh:h'.ev e=hv at h
  generalize hm:m'.ev e=mv at h
  unfold DU at h
  split at h
  ·obtain ⟨h1,h2,h3,h4,hK⟩:=h
   exact ⟨_,none,_,hK,rfl,aO rfl fun σ' K' hk=>by simp only [ak,hx,hh,hm,DU]; exact ⟨h1,h2,h3,h4,hk⟩⟩
  ·exact h.elim
 | G7 f caps=>exact ⟨_,none,_,h,rfl,aO rfl fun σ' K' hk=>hk⟩
 | fa off x=>
  simp only [ak] at h
  generalize hx:x.ev e=xv at h
  unfold Ld at h
  split at h
  ·exact ⟨_,none,_,h,rfl,aO rfl fun σ' K' hk=>by simp only [ak,hx,Ld]; exact hk⟩
  ·exact ⟨_,none,_,h,rfl,aO rfl fun σ' K' hk=>by simp only [ak,hx,Ld]; exact hk⟩
  ·exact h.elim
 | cg es x i=>
  simp only [ak] at h
  generalize hx:x.ev e=xv at h
  generalize hi:i.ev e=iv at h
  unfold vP at h
  split at h
  ·obtain ⟨h1,⟨o,ho,hg⟩,h2,h3,hK⟩:=h
   refine ⟨_,none,_,hK,rfl,⟨fun i hi=>by simp [dO] at hi,fun ob' n c hr _ K' hk=>?_⟩⟩
   simp only [ak,hx,hi,vP]
   exact ⟨h1,⟨o,by rw [hr _ (by simp [aN.dM,hx,AV.kx])]; exact ho,hg⟩,h2,h3,hk _ rfl fun _=>⟨rfl,rfl⟩⟩
  ·obtain ⟨h1,h2,h3,hK⟩:=h
   exact ⟨_,none,_,hK,rfl,aO rfl fun σ' K' hk=>by simp only [ak,hx,hi,vP]; exact ⟨h1,h2,h3,hk⟩⟩
  ·obtain ⟨h1,h2,h3,hK⟩:=h
   exact ⟨_,none,_,hK,rfl,aO rfl fun σ' K' hk=>by simp only [ak,hx,hi,vP]; exact ⟨h1,h2,h3,hk⟩⟩
  ·obtain ⟨h1,h2,h3,hK⟩:=h
   exact ⟨_,none,_,hK,rfl,aO rfl fun σ' K' hk=>by simp only [ak,hx,hi,vP]; exact ⟨h1,h2,h3,hk⟩⟩
  ·exact h.elim
 | ext x i=>
  simp only [ak] at h
  generalize hx:x.ev e=xv at h
  unfold uo at h
  split at h
  ·obtain ⟨v,hv,hK⟩:=h
   exact ⟨_,none,_,hK,rfl,aO rfl fun σ' K' hk=>by simp only [ak,hx,uo]; exact ⟨v,hv,hk⟩⟩
  ·exact h.elim
 | len x=>
  simp only [ak] at h
  generalize hx:x.ev e=xv at h
  unfold gE at h
  split at h
  ·exact ⟨_,none,_,h,rfl,aO rfl fun σ' K' hk=>by simp only [ak,hx,gE]; exact hk⟩
  ·exact ⟨_,none,_,h,rfl,aO rfl fun σ' K' hk=>by simp only [ak,hx,gE]; exact hk⟩
  ·exact ⟨_,none,_,h,rfl,aO rfl fun σ' K' hk=>by simp only [ak,hx,gE]; exact hk⟩
  ·exact ⟨_,none,_,h,rfl,aO rfl fun σ' K' hk=>by simp only [ak,hx,gE]; exact hk⟩
  ·exact ⟨_,none,_,h,rfl,aO rfl fun σ' K' hk=>by simp only [ak,hx,gE]; exact hk⟩
  ·exact h.elim
 | lens x=>
  simp only [ak] at h
  generalize hx:x.ev e=xv at h
  unfold yZ at h
  split at h
  ·exact ⟨_,none,_,h,rfl,aO rfl fun σ' K' hk=>by simp only [ak,hx,yZ]; exact hk⟩
  ·exact h.elim
 | AQ mx x xs=>
  obtain ⟨v,hv,hd⟩:=pM h
  exact ⟨v,none,_,hv,rfl,aO rfl fun σ' K' hk=>hd _ hk⟩
 | te x lo hi=>
  simp only [ak,td] at h
  generalize hx:x.ev e=xv at h
  unfold tc at h
  split at h
  ·obtain ⟨p,q,_,hK,hd⟩:=gr h
   exact ⟨_,none,_,hK,rfl,aO rfl fun σ' K' hk=>by simp only [ak,td,hx,tc]; exact hd _ hk⟩
  ·exact h.elim
 | qI es x lo hi=>
  simp only [ak,iT] at h
  generalize hx:x.ev e=xv at h
  unfold eD at h
  split at h
  ·obtain ⟨p,q,_,hK,hd⟩:=gr h
   exact ⟨_,none,_,hK,rfl,aO rfl fun σ' K' hk=>by simp only [ak,iT,hx,eD]; exact hd _ hk⟩
  ·obtain ⟨h1,h⟩:=h
   obtain ⟨p,q,_,hK,hd⟩:=gr h
   exact ⟨_,none,_,hK,rfl,aO rfl fun σ' K' hk=>by simp only [ak,iT,hx,eD]; exact ⟨h1,hd _ hk⟩⟩
  ·obtain ⟨h1,⟨o,ho,hg⟩,h⟩:=h
   obtain ⟨p,q,hpq,hK,hd⟩:=gr h
   by_cases hl:p=q
   ·refine ⟨_,none,_,hK.1 hl,rfl,⟨fun i hi=>by simp [dO] at hi,fun ob' n c hr _ K' hk=>?_⟩⟩
    simp only [ak,iT,hx,eD]
    exact ⟨h1,⟨o,by rw [hr _ (by simp [aN.dM,hx,AV.kx])]; exact ho,hg⟩,hd _ ⟨fun _=>hk _ rfl fun _=>⟨rfl,rfl⟩,fun h=>by omega⟩⟩
   ·refine ⟨_,none,_,hK.2 (by omega),rfl,⟨fun i hi=>by simp [dO] at hi,fun ob' n c hr _ K' hk=>?_⟩⟩
    simp only [ak,iT,hx,eD]
    exact ⟨h1,⟨o,by rw [hr _ (by simp [aN.dM,hx,AV.kx])]; exact ho,hg⟩,hd _ ⟨fun h=>absurd h hl,fun _=>hk _ rfl fun _=>⟨rfl,rfl⟩⟩⟩
  ·rename_i id' g' es' off n c
   obtain ⟨h1,h2,h⟩:=h
   obtain ⟨p,q,hpq,hK,hd⟩:=Jh (by omega) h
   by_cases hl:p=c-off
   ·exact ⟨_,none,_,hK.1 hl,rfl,aO rfl fun σ' K' hk=>by simp only [ak,iT,hx,eD]; exact ⟨h1,h2,hd _ ⟨fun _=>hk,fun h=>by omega⟩⟩⟩
   ·exact ⟨_,none,_,hK.2 (by omega),rfl,aO rfl fun σ' K' hk=>by simp only [ak,iT,hx,eD]; exact ⟨h1,h2,hd _ ⟨fun h=>absurd h hl,fun _=>hk⟩⟩⟩
  ·exact h.elim
 | Cl es n x lo hi=>
  simp only [ak] at h
  generalize hx:x.ev e=xv at h
  unfold yk at h
  split at h
  ·obtain ⟨p,q,hpq,hK,hd⟩:=Ho h
   by_cases hl:p=n
   ·exact ⟨_,none,_,hK.1 hl,rfl,aO rfl fun σ' K' hk=>by simp only [ak,yk,hx]; exact hd _ ⟨fun _=>hk,fun h=>by omega⟩⟩
   ·exact ⟨_,none,_,hK.2 (by omega),rfl,aO rfl fun σ' K' hk=>by simp only [ak,yk,hx]; exact hd _ ⟨fun h=>absurd h hl,fun _=>hk⟩⟩
  ·exact h.elim
 | app es bytes ty x y=>
  simp only [ak] at h
  obtain ⟨h1,h2,h⟩:=h
  obtain ⟨l,hl,hel⟩:∃ l,(match x.ev e with
   | .nil=>l.length≤maxLen∧l.length * bytes≤140737488355328∧(l=[]→K .nil ⟨ob,id,g⟩)∧(l≠[]→K (.sl id g es 0 l.length) ((St.mk ob id g).push es ty l))
   | .sl id' g' es' off n=>es'=es∧off=0∧∃ o,ob id'=some o∧o.g=g'∧o.es=es∧o.ty=ty∧o.ro=false∧o.ap=true∧o.l.length=n∧
     n+l.length≤maxLen∧(n+l.length) * bytes≤140737488355328∧K (.sl id' g es 0 (n+l.length)) ((St.mk ob id g).renew id' o (o.l++l))
   | .fG id' g' es' off n c=>es'=es∧(l=[]→K (.fG id' g' es off n c) ⟨ob,id,g⟩)∧(l≠[]→∃ o,ob id'=some o∧o.g=g'∧o.es=es∧o.ro=false∧off+(n+l.length)≤o.l.length∧off+(n+l.length)≤c∧
     K (.fG id' g' es off (n+l.length) c) ((St.mk ob id g).put id' o (o.l.take (off+n)++l++o.l.drop (off+n+l.length))))
   | .fl es' l0=>es'=es∧(∀ z∈l0++l,z.cG=true)∧l0.length+l.length≤maxLen∧(l0.length+l.length) * bytes≤140737488355328∧K (.list es (l0++l)) ⟨ob,id,g⟩
   | _=>False)∧∀ (ob':Nat→Option aS) n c,(∀ i∈(y.ev e).kx,ob' i=ob i)→∀ Kl:List AV→Prop,Kl l→bW ⟨ob',n,c⟩ (y.ev e) Kl:=by
   generalize hy:y.ev e=yv at h
   unfold bW at h
   split at h
   ·exact ⟨_,h,fun ob' n c _ Kl hk=>hk⟩
   ·exact ⟨_,h,fun ob' n c _ Kl hk=>hk⟩
   ·obtain ⟨o,ho,a1,a2,a3,h⟩:=h
    exact ⟨_,h,fun ob' n c hr Kl hk=>⟨o,(hr _ (by simp [AV.kx])).trans ho,a1,a2,a3,hk⟩⟩
   ·obtain ⟨o,ho,a1,a2,a3,h⟩:=h
    exact ⟨_,h,fun ob' n c hr Kl hk=>⟨o,(hr _ (by simp [AV.kx])).trans ho,a1,a2,a3,hk⟩⟩
   ·exact h.elim
  generalize hx:x.ev e=xv at hl
  split at hl
  ·obtain ⟨b1,b2,b3,b4⟩:=hl
   by_cases hl0:l=[]
   ·refine ⟨_,none,_,b3 hl0,rfl,⟨fun i hi=>by simp [dO] at hi,fun ob' n c hr hn K' hk=>?_⟩⟩
    simp only [ak,hx,mE]
    exact ⟨h1,h2,hel ob' n c (fun i hi=>hr i (by simp [aN.dM,hi])) _ ⟨b1,b2,fun _=>hk _ rfl fun h=>by simp [aN.new] at h,fun h=>absurd hl0 h⟩⟩
   ·refine ⟨_,some (id,_),_,b4 hl0,rfl,⟨fun i hi=>by simpa [dO,aN.lE,hx,Lu] using hi,fun ob' n c hr hn K' hk=>?_⟩⟩
    obtain ⟨rfl,rfl⟩:=hn rfl
    simp only [ak,hx,mE]
    exact ⟨h1,h2,hel ob' n c (fun i hi=>hr i (by simp [aN.dM,hi])) _ ⟨b1,b2,fun h=>absurd h hl0,fun _=>hk _ rfl fun h=>by simp [aN.new] at h⟩⟩
  ·obtain ⟨rfl,rfl,o,ho,b1,b2,b3,b4,b5,b6,b7,b8,b9⟩:=hl
   refine ⟨_,some (_,_),_,b9,rfl,⟨fun i hi=>by simpa [dO,aN.lE,hx,Lu,AV.kx] using hi,fun ob' n c hr hn K' hk=>?_⟩⟩
   obtain ⟨rfl,rfl⟩:=hn rfl
   simp only [ak,hx,mE]
   exact ⟨h1,h2,hel ob' n c (fun i hi=>hr i (by simp [aN.dM,hi])) _ ⟨trivial,trivial,o,(hr _ (by simp [aN.dM,hx,AV.kx])).trans ho,b1,b2,b3,b4,b5,b6,b7,b8,hk _ rfl fun h=>by simp [aN.new] at h⟩⟩
  ·obtain ⟨rfl,c0,c1⟩:=hl
   by_cases b0:l=[]
   ·refine ⟨_,none,_,c0 b0,rfl,⟨fun i hi=>by simp [dO] at hi,fun ob' n c hr hn K' hk=>?_⟩⟩
    simp only [ak,hx,mE]
    exact ⟨h1,h2,hel ob' n c (fun i hi=>hr i (by simp [aN.dM,hi])) _ ⟨trivial,fun _=>hk _ rfl fun h=>by simp [aN.new] at h,fun h=>absurd b0 h⟩⟩
   obtain ⟨o,ho,b1,b2,b3,b4,b5,b9⟩:=c1 b0
   refine ⟨_,some (_,_),_,b9,rfl,⟨fun i hi=>by simpa [dO,aN.lE,hx,Lu,AV.kx] using hi,fun ob' n c hr hn K' hk=>?_⟩⟩
   obtain ⟨rfl,rfl⟩:=hn rfl
   simp only [ak,hx,mE]
   exact ⟨h1,h2,hel ob' n c (fun i hi=>hr i (by simp [aN.dM,hi])) _ ⟨trivial,fun h=>absurd h b0,fun _=>⟨o,(hr _ (by simp [aN.dM,hx,AV.kx])).trans ho,b1,b2,b3,b4,b5,hk _ rfl fun h=>by simp [aN.new] at h⟩⟩⟩
  ·obtain ⟨rfl,c0,c1,c2,c3⟩:=hl
   refine ⟨_,none,_,c3,rfl,⟨fun i hi=>by simp [dO] at hi,fun ob' n c hr hn K' hk=>?_⟩⟩
   simp only [ak,hx,mE]
   exact ⟨h1,h2,hel ob' n c (fun i hi=>hr i (by simp [aN.dM,hi])) _ ⟨trivial,c0,c1,c2,hk _ rfl fun h=>by simp [aN.new] at h⟩⟩
  ·exact hl.elim
 | pu p xs=>
  obtain ⟨v,hv,hK⟩:=h
  exact ⟨v,none,_,hK,rfl,aO rfl fun σ' K' hk=>⟨v,hv,hk⟩⟩
 | Of x=>
  obtain ⟨v,hv,hK⟩:=h
  exact ⟨_,none,_,hK,rfl,aO rfl fun σ' K' hk=>⟨v,hv,hk⟩⟩
 | Hy x=>
  simp only [ak,xN] at h
  obtain ⟨h1,h2,h⟩:=h
  generalize hx:x.ev e=xv at h h1 h2
  unfold bW at h
  split at h
  ·obtain ⟨s,hs,hK⟩:=h
   exact ⟨_,none,_,hK,rfl,aO rfl fun σ' K' hk=>by simp only [ak,xN,hx,bW]; exact ⟨h1,h2,s,hs,hk⟩⟩
  ·obtain ⟨s,hs,hK⟩:=h
   exact ⟨_,none,_,hK,rfl,aO rfl fun σ' K' hk=>by simp only [ak,xN,hx,bW]; exact ⟨h1,h2,s,hs,hk⟩⟩
  ·obtain ⟨o,ho,a1,a2,a3,s,hs,hK⟩:=h
   refine ⟨_,none,_,hK,rfl,⟨fun i hi=>by simp [dO] at hi,fun ob' n c hr _ K' hk=>?_⟩⟩
   simp only [ak,xN,hx,bW]
   exact ⟨h1,h2,o,by rw [hr _ (by simp [aN.dM,hx,AV.kx])]; exact ho,a1,a2,a3,s,hs,hk _ rfl fun _=>⟨rfl,rfl⟩⟩
  ·obtain ⟨o,ho,a1,a2,a3,s,hs,hK⟩:=h
   refine ⟨_,none,_,hK,rfl,⟨fun i hi=>by simp [dO] at hi,fun ob' n c hr _ K' hk=>?_⟩⟩
   simp only [ak,xN,hx,bW]
   exact ⟨h1,h2,o,by rw [hr _ (by simp [aN.dM,hx,AV.kx])]; exact ho,a1,a2,a3,s,hs,hk _ rfl fun _=>⟨rfl,rfl⟩⟩
  ·exact h.elim
 | Fa es x l h' m'=>
  simp only [ak] at h
  generalize hx:x.ev e=xv at h
  generalize hl:l.ev e=lv at h
  generalize hh:h'.ev e=hv at h
  generalize hm:m'.ev e=mv at h
  unfold yl at h
  split at h
  ·obtain ⟨h1,h2,h3,h4,h5,hK⟩:=h
   exact ⟨_,none,_,hK,rfl,aO rfl fun σ' K' hk=>by simp only [ak,hx,hl,hh,hm,yl]; exact ⟨h1,h2,h3,h4,h5,hk⟩⟩
  ·obtain ⟨h1,h2,h3,h4,h5,hK⟩:=h
   exact ⟨_,none,_,hK,rfl,aO rfl fun σ' K' hk=>by simp only [ak,hx,hl,hh,hm,yl]; exact ⟨h1,h2,h3,h4,h5,hk⟩⟩
  ·obtain ⟨h1,h2,h3,h4,h5,hK⟩:=h
   exact ⟨_,none,_,hK,rfl,aO rfl fun σ' K' hk=>by simp only [ak,hx,hl,hh,hm,yl]; exact ⟨h1,h2,h3,h4,h5,hk⟩⟩
  ·exact h.elim
 | kK neg x=>simp [aN.nd] at hnd
 | Aj es bytes ty z x y=>simp [aN.nd] at hnd
 | DA es bytes ty y=>simp [aN.nd] at hnd
 | mV=>
  refine ⟨_,some (id,⟨g,2,rA,false,false,[]⟩),_,h,rfl,⟨fun i hi=>by simpa [dO,aN.lE] using hi,fun ob' n c _ hn K' hK=>?_⟩⟩
  obtain ⟨rfl,rfl⟩:=hn rfl
  exact hK _ rfl fun h=>by simp [aN.new] at h
 | cZ x k v=>simp [aN.nd] at hnd
 | fj ok z x k=>simp [aN.nd] at hnd
 | KY mu es bytes ty z x=>
  simp only [ak] at h
  generalize hx:x.ev e=xv at h
  unfold G6 at h
  split at h
  ·obtain ⟨h1,h2,h3,h⟩:=h
   cases mu with
   | true=>
    rw [if_pos rfl] at h
    refine ⟨_,some (id,_),_,h,rfl,⟨fun i hi=>by simpa [dO,aN.lE] using hi,fun ob' n c _ hn K' hK=>?_⟩⟩
    obtain ⟨rfl,rfl⟩:=hn rfl
    simp only [ak,hx,G6]
    exact ⟨h1,h2,h3,by rw [if_pos trivial]; exact hK _ rfl fun h=>by simp [aN.new] at h⟩
   | false=>
    rw [if_neg (by simp)] at h
    refine ⟨_,none,_,h,rfl,⟨fun i hi=>by simp [dO] at hi,fun ob' n c _ _ K' hK=>?_⟩⟩
    simp only [ak,hx,G6]
    exact ⟨h1,h2,h3,by rw [if_neg (by simp)]; exact hK _ rfl fun h=>by simp [aN.new] at h⟩
  ·exact h.elim
 | Kw es x h=>simp [aN.nd] at hnd
 | E5 es x y=>simp [aN.nd] at hnd
 | JV es z x=>simp [aN.nd] at hnd
 | KI mu ty x=>simp [aN.nd] at hnd
 | call f args=>simp [aN.bX] at hcall
 | dz x args=>
  simp only [ak] at h
  simp only [aN.bX] at hcall
  generalize hx:x.ev e=xv at h hcall
  unfold mB at h
  split at h
  ·simp at hcall
  ·simp at hcall
  ·exact h.elim
end
structure SR where
 p:Nat
 o:aR
 dM:List Nat
 v:AV
 wr:Option (Nat × aS)
 e0:Nat→AV
 dF:Nat→Option aS
 md:Option (Nat × IntKind × Int × AV):=none
def gF (ob:Nat→Option aS):Option (Nat × IntKind × Int × AV)→Nat→Option aS
 | none=>ob
 | some (id,kk,n,v)=>aZ ob id ((ob id).map fun o=>{ o with l:=eg kk n v o.l })
def oA:Option (Nat × IntKind × Int × AV)→List Nat
 | none=>[]
 | some (id,_)=>[id]
def zi (n:Int) (l:List AV):Bool:=l.any fun y=>decide (n=keyOf y)
def Bp (ob dF:Nat→Option aS):Option (Nat × IntKind × Int × AV)→Prop
 | none=>True
 | some (id,kk,n,_)=>∃ o o0,ob id=some o∧dF id=some o0∧o={ o0 with l:=o.l }∧cK kk o.l=true∧zi n o.l=false
theorem ic (n:Int) (y:AV) (l:List AV):zi n (y :: l)=(decide (n=keyOf y)||zi n l):=(rfl)
theorem pR (k:IntKind) (y:AV) (l:List AV):cK k (y :: l)=(wM k y&&cK k l):=(rfl)
theorem c8 (k:IntKind) (n:Int) (v:List AV):keyOf (.agg (.int k n :: v))=n:=(rfl)
theorem BL (k kk:IntKind) (n:Int) (v:AV):wM k (.agg [.int kk n,v])=decide (kk=k):=(rfl)
theorem cC (k:IntKind) (n:Int) (v:AV) (z:AV) (s:List AV):eg k n v (z :: s)=if n=keyOf z then .agg [.int k n,v] :: s else if n<keyOf z then .agg [.int k n,v] :: z :: s else z :: eg k n v s:=(rfl)
theorem sH {kk:IntKind} {n q:Int} {v:AV}:∀ {l:List AV},zi q (eg kk n v l)=(decide (q=n)||zi q l)
 | []=>by simp only [eg,ic,c8]
 | y :: r=>by
  have ih:=sH (kk:=kk) (n:=n) (q:=q) (v:=v) (l:=r)
  rw [cC]
  split
  ·rename_i h; simp only [ic,c8,←h]; cases decide (q=n) <;> rfl
  ·split
   ·simp only [ic,c8]
   ·simp only [ic,ih]
    cases decide (q=keyOf y) <;> cases decide (q=n) <;> rfl
theorem pQ {k kk:IntKind} {n:Int} {v:AV}:∀ {l:List AV},zi n l=false→cK k (eg kk n v l)=(decide (kk=k)&&cK k l)
 | [],_=>by simp only [eg,pR,BL]
 | y :: r,h=>by
  rw [ic,Bool.or_eq_false_iff,decide_eq_false_iff_not] at h
  have ih:=pQ (k:=k) (kk:=kk) (n:=n) (v:=v) (l:=r) h.2
  rw [cC,if_neg h.1]
  split
  ·simp only [pR,BL]
  ·simp only [pR,ih]
   cases wM k y <;> cases decide (kk=k) <;> rfl
theorem BE {k1 k2:IntKind} {n1 n2:Int} {v1 v2:AV} (h:n1≠n2):∀ {l:List AV},eg k2 n2 v2 (eg k1 n1 v1 l)=eg k1 n1 v1 (eg k2 n2 v2 l)
 | []=>by
  simp only [eg,c8]
  repeat' split
  all_goals first | (exfalso; omega) | rfl
 | y :: r=>by
  have ih:=BE (k1:=k1) (k2:=k2) (v1:=v1) (v2:=v2) h (l:=r)
  rw [cC k1 n1 v1 y r,cC k2 n2 v2 y r]
  rcases Int.lt_trichotomy n1 (keyOf y) with h1 | h1 | h1 <;> rcases Int.lt_trichotomy n2 (keyOf y) with h2 | h2 | h2
  ·rw [if_neg (by omega),if_pos h1,if_neg (by omega),if_pos h2]
   simp only [cC,c8]
   repeat' split
   all_goals first | (exfalso; omega) | rfl
  ·rw [if_neg (by omega),if_pos h1,if_pos h2]
   simp only [cC,c8]
   repeat' split
   all_goals first | (exfalso; omega) | rfl
  ·rw [if_neg (by omega),if_pos h1,if_neg (by omega),if_neg (by omega)]
   simp only [cC,c8]
   repeat' split
   all_goals first | (exfalso; omega) | rfl
  ·rw [if_pos h1,if_neg (by omega),if_pos h2]
   simp only [cC,c8]
   repeat' split
   all_goals first | (exfalso; omega) | rfl
  ·exfalso; omega
  ·rw [if_pos h1,if_neg (by omega),if_neg (by omega)]
   simp only [cC,c8]
   repeat' split
   all_goals first | (exfalso; omega) | rfl
  ·rw [if_neg (by omega),if_neg (by omega),if_neg (by omega),if_pos h2]
   simp only [cC,c8]
   repeat' split
   all_goals first | (exfalso; omega) | rfl
  ·rw [if_neg (by omega),if_neg (by omega),if_pos h2]
   simp only [cC,c8]
   repeat' split
   all_goals first | (exfalso; omega) | rfl
  ·rw [if_neg (by omega),if_neg (by omega),if_neg (by omega),if_neg (by omega)]
   rw [cC,cC,if_neg (by omega),if_neg (by omega),if_neg (by omega),if_neg (by omega),ih]
def lg (ef:Nat→AV) (obf:Nat→Option aS):List SR→(Nat→AV)→(Nat→Option aS)→Prop
 | [],e,ob=>e=ef∧ob=obf
 | s :: L,e,ob=>(∀ t∈s.o.lk,e t=s.e0 t)∧(∀ i∈s.dM,ob i=s.dF i)∧Bp ob s.dF s.md∧lg ef obf L (bG e s.o.d s.v) (gF (eE ob s.wr) s.md)
structure GP (s t:SR):Prop where
 a:∀ d,s.o.d=some d→d∉t.o.lk
 b:∀ d,t.o.d=some d→d∉s.o.lk
 c:∀ d,s.o.d=some d→t.o.d≠some d
 r1:∀ i∈dO s.wr,i∉t.dM∧i∉dO t.wr
 r2:∀ i∈dO t.wr,i∉s.dM
 m1:∀ i∈oA s.md,i∉t.dM∧i∉dO t.wr
 m2:∀ i∈oA t.md,i∉s.dM∧i∉dO s.wr
 o1:∀ i∈oA s.md,i∉dO s.wr
 o2:∀ i∈oA t.md,i∉dO t.wr
theorem tq {e:Nat→AV} {d:Option Nat} {v:AV} {t:Nat} (h:∀ i,d=some i→i≠t):bG e d v t=e t:=by
 cases d with
 | none=>rfl
 | some i=>exact aa _ _ _ _ (Ne.symm (h i rfl))
theorem IB {ob:Nat→Option aS} {wr:Option (Nat × aS)} {k:Nat} (h:∀ i∈dO wr,i≠k):eE ob wr k=ob k:=by
 cases wr with
 | none=>rfl
 | some x=>exact aa _ _ _ _ (Ne.symm (h x.1 (by simp [dO])))
theorem ph {α:Type} {f:Nat→α} {i j:Nat} {x y:α} (h:i≠j):aZ (aZ f i x) j y=aZ (aZ f j y) i x:=by
 funext k
 by_cases h1:k=i
 ·subst h1; rw [aa _ _ _ _ h,ay,ay]
 ·by_cases h2:k=j
  ·subst h2; rw [ay,aa _ _ _ _ h1,ay]
  ·rw [aa _ _ _ _ h2,aa _ _ _ _ h1,aa _ _ _ _ h1,aa _ _ _ _ h2]
theorem By {e:Nat→AV} {d d':Option Nat} {v v':AV} (h:∀ i,d=some i→d'≠some i):bG (bG e d v) d' v'=bG (bG e d' v') d v:=by
 cases d with
 | none=>rfl
 | some i=>
  cases d' with
  | none=>rfl
  | some j=>exact ph fun hh=>h i rfl (by rw [hh])
theorem G8 {ob:Nat→Option aS} {x y:Option (Nat × aS)} (h:∀ i∈dO x,i∉dO y):eE (eE ob x) y=eE (eE ob y) x:=by
 cases x with
 | none=>rfl
 | some i=>
  cases y with
  | none=>rfl
  | some j=>exact ph fun hh=>h i.1 (by simp [dO]) (by rw [hh]; simp [dO])
section
variable {ef : Nat → AV} {obf : Nat → Option aS}
theorem za {ob:Nat→Option aS} {md:Option (Nat × IntKind × Int × AV)} {k:Nat} (h:∀ i∈oA md,i≠k):gF ob md k=ob k:=by
 cases md with
 | none=>rfl
 | some x=>exact aa _ _ _ _ (Ne.symm (h x.1 (by simp [oA])))
theorem sD {ob:Nat→Option aS} {x:Option (Nat × aS)} {y:Option (Nat × IntKind × Int × AV)} (h:∀ i∈oA y,i∉dO x):eE (gF ob y) x=gF (eE ob x) y:=by
 cases x with
 | none=>rfl
 | some i=>
  cases y with
  | none=>rfl
  | some j=>
   have hne:i.1≠j.1:=fun hh=>h j.1 (by simp [oA]) (by simp [dO,hh])
   simp only [eE,gF]
   rw [aa _ _ _ _ (Ne.symm hne)]
   exact ph (Ne.symm hne)
theorem Bp.off {ob ob' dF:Nat→Option aS} {md:Option (Nat × IntKind × Int × AV)} (h:Bp ob dF md) (hk:∀ i∈oA md,ob' i=ob i):Bp ob' dF md:=by
 cases md with
 | none=>trivial
 | some x=>
  obtain ⟨o,o0,h1,h2⟩:=h
  exact ⟨o,o0,by rw [hk x.1 (by simp [oA])]; exact h1,h2⟩
theorem K3 {ob ob1 ob2:Nat→Option aS} {x y:Option (Nat × IntKind × Int × AV)} (h1:Bp ob ob1 x) (h2:Bp (gF ob x) ob2 y) :
  Bp ob ob2 y∧Bp (gF ob y) ob1 x∧gF (gF ob x) y=gF (gF ob y) x:=by
 cases x with
 | none=>exact ⟨h2,trivial,rfl⟩
 | some x=>
  cases y with
  | none=>exact ⟨trivial,h1,rfl⟩
  | some y=>
   obtain ⟨i,k1,n1,v1⟩:=x
   obtain ⟨j,k2,n2,v2⟩:=y
   obtain ⟨o1,o1',a1,a2,a3,a4,a5⟩:=h1
   obtain ⟨o2,o2',b1,b2,b3,b4,b5⟩:=h2
   by_cases hij:j=i
   ·subst hij
    simp only [gF,a1,Option.map_some,ay,Option.some.injEq] at b1
    subst b1
    simp only at b3 b4 b5
    rw [pQ a5,Bool.and_eq_true,decide_eq_true_eq] at b4
    rw [sH,Bool.or_eq_false_iff,decide_eq_false_iff_not] at b5
    obtain ⟨rfl,b4⟩:=b4
    refine ⟨⟨o1,o2',a1,b2,?_,b4,b5.2⟩,⟨{ o1 with l:=eg k1 n2 v2 o1.l },o1',by simp [gF,a1,aZ],a2,?_,?_,?_⟩,?_⟩
    ·have:=congrArg (fun o:aS=>{ o with l:=o1.l }) b3
     exact this
    ·have:=congrArg (fun o:aS=>{ o with l:=eg k1 n2 v2 o1.l }) a3
     exact this
    ·rw [pQ b5.2]; simp [a4]
    ·rw [sH,a5]; simp [Ne.symm b5.1]
    ·simp only [gF,a1,Option.map_some,ay]
     funext q
     by_cases hq:q=j
     ·subst hq
      rw [ay,ay,BE (Ne.symm b5.1)]
     ·rw [aa _ _ _ _ hq,aa _ _ _ _ hq,aa _ _ _ _ hq,aa _ _ _ _ hq]
   ·refine ⟨⟨o2,o2',by rw [←b1,za (by simp [oA]; exact fun h=>hij h.symm)],b2,b3,b4,b5⟩,⟨o1,o1',by rw [za (by simp [oA]; exact hij)]; exact a1,a2,a3,a4,a5⟩,?_⟩
    simp only [gF]
    rw [aa _ _ _ _ hij,aa _ _ _ _ (Ne.symm hij)]
    exact ph (Ne.symm hij)
theorem lg.swap {s t:SR} {L:List SR} {e:Nat→AV} {ob:Nat→Option aS} (hA:GP s t) (h:lg ef obf (s :: t :: L) e ob):lg ef obf (t :: s :: L) e ob:=by
 obtain ⟨h1,h2,hm,h3,h4,hm',h5⟩:=h
 have hO:=G8 (ob:=ob) (x:=s.wr) (y:=t.wr) fun i hi=>(hA.r1 i hi).2
 have cs:∀ A,eE (gF A s.md) t.wr=gF (eE A t.wr) s.md:=fun A=>sD fun i hi=>(hA.m1 i hi).2
 have ct:∀ A,eE (gF A t.md) s.wr=gF (eE A s.wr) t.md:=fun A=>sD fun i hi=>(hA.m2 i hi).2
 have cs':∀ A,eE (gF A s.md) s.wr=gF (eE A s.wr) s.md:=fun A=>sD hA.o1
 have off:∀ {A:Nat→Option aS} {wr:Option (Nat × aS)} {i:Nat},i∉dO wr→eE A wr i=A i:=fun h=>IB fun j hj e=>h (e ▸ hj)
 have offM:∀ {A:Nat→Option aS} {md:Option (Nat × IntKind × Int × AV)} {i:Nat},i∉oA md→gF A md i=A i:=fun h=>za fun j hj e=>h (e ▸ hj)
 obtain ⟨q1,q2,q3⟩:=K3 (ob:=eE (eE ob s.wr) t.wr) (hm.off fun i hi=>by rw [off (hA.m1 i hi).2,off (hA.o1 i hi)]) (hm'.off fun i hi=>by rw [←cs,off (hA.o2 i hi)])
 refine ⟨fun k hk=>?_,fun i hi=>?_,q1.off fun i hi=>by rw [off (hA.o2 i hi),off (hA.m2 i hi).2],fun k hk=>?_,fun i hi=>?_,?_,?_⟩
 ·rw [←h3 k hk,tq fun i hi hik=>hA.a i hi (hik ▸ hk)]
 ·rw [←h4 i hi,offM fun h=>(hA.m1 i h).1 hi,off fun h=>(hA.r1 i h).1 hi]
 ·rw [tq fun i hi hik=>hA.b i hi (hik ▸ hk)]; exact h1 k hk
 ·rw [offM fun h=>(hA.m2 i h).1 hi,off fun h=>hA.r2 i h hi]; exact h2 i hi
 ·refine q2.off fun i hi=>?_
  rw [hO,←ct,off (hA.o1 i hi)]
 ·rw [←By hA.c,ct,←hO,←q3,←cs]; exact h5
theorem lg.front {s:SR} {B:List SR}:∀ {A:List SR} {e:Nat→AV} {ob:Nat→Option aS},(∀ u∈A,GP u s)→lg ef obf (A++s :: B) e ob→lg ef obf (s :: (A++B)) e ob
 | [],e,ob,_,h=>h
 | u :: A,e,ob,hA,h=>by
  obtain ⟨h1,h2,hm,h3⟩:=h
  have h4:=lg.front (fun x hx=>hA x (List.mem_cons_of_mem _ hx)) h3
  exact lg.swap (hA u (List.mem_cons_self ..)) ⟨h1,h2,hm,h4⟩
end
section
variable {P : Program} {W : World} {O S0 : Nat → Prop} {ops : Array Oper} {Q : Exit → Act → World → Prop} {n n0 c0 nn cc : Nat}
def DF (P:Program) (W:World) (O S0:Nat→Prop) (ops:Array Oper) (Q:Exit→Act→World→Prop) (n c0 nn cc:Nat) (s:SR):Prop:=
 ∀ (m:Mp) (S:Nat→Prop) (w:World) (e:Nat→AV) (ob:Nat→Option aS) (a:Act) (K:Act→World→Prop),(∀ t∈s.o.lk,e t=s.e0 t)→(∀ i∈s.dM,ob i=s.dF i)→Bp ob s.dF s.md→
  ep W O S0 m S ⟨ob,nn,cc⟩ w n e a→(s.o.op.new=true→m (c0+s.p)=none∧c0+s.p<cc)→
  (∀ m' S' w' a',ep W O S0 m' S' ⟨gF (eE ob s.wr) s.md,nn,cc⟩ w' n (bG e s.o.d s.v) a'→Ext m S w m' S' w'→(∀ g,m' g≠m g→s.o.op.new=true∧g=c0+s.p)→K a' w')→wpOp P ops Q s.p K a w
theorem s6 {m:Mp} {S:Nat→Prop} {w:World} {e:Nat→AV} {a:Act} {j s:Nat} {b:Bool} (hE:bg m S w e a.tmps) (hn:a.tmps.size=n) (hs:(ops[j]?).bind (·.dst)=some s) (hsn:s<n) (hb:e s=.bool b) :
  yielded ops a.tmps j=some b:=by
 have hv:=hE s
 rw [hb] at hv
 have hv:=hv.of_bool
 have hlt:s<a.tmps.size:=by rw [hn]; exact hsn
 have h3:a.tmps[s]?=some (.bool b):=by
  simp only [Array.getD_eq_getD_getElem?] at hv
  rw [Array.getElem?_eq_getElem hlt] at hv ⊢
  simpa using hv
 simp [yielded,hs,h3]
theorem Ap {m:Mp} {S:Nat→Prop} {w:World} {e:Nat→AV} {a:Act} {j s:Nat} (hE:bg m S w e a.tmps) (hn:a.tmps.size=n) (hs:(ops[j]?).bind (·.dst)=some s) (hsn:s<n) (hb:e s=.tuple []) :
  yielded ops a.tmps j=none:=by
 have hv:=hE s
 rw [hb] at hv
 obtain ⟨vs,hv,_⟩:=hv.pI
 have hlt:s<a.tmps.size:=by rw [hn]; exact hsn
 have h3:a.tmps[s]?=some (.tuple vs):=by
  simp only [Array.getD_eq_getD_getElem?] at hv
  rw [Array.getElem?_eq_getElem hlt] at hv ⊢
  simpa using hv
 simp [yielded,hs,h3]
def E4 (r:aR) (e:Nat→AV):Prop:=match r.gd with
 | none=>True
 | some (s,w)=>e s=.bool w
theorem mF {m:Mp} {S:Nat→Prop} {w:World} {mt af:List Nat} {e:Nat→AV} {a:Act} {o:Oper} {r:aR} (hE:bg m S w e a.tmps) (hn:a.tmps.size=n) (hc:cO P mt n ops af o=some r) (hg:E4 r e) :
  Region.wanted o (yielded ops a.tmps)=true:=by
 obtain ⟨_,_,_,hg'⟩:=bT hc
 rcases hg' with ⟨h1,h2⟩ | ⟨j,wnt,s,h1,hs,hsn,h2⟩
 ·simp [Region.wanted,h1]
 ·unfold E4 at hg
  rw [h2] at hg
  simp [Region.wanted,h1,s6 hE hn hs hsn hg]
theorem yh {m:Mp} {S:Nat→Prop} {w:World} {mt af:List Nat} {e:Nat→AV} {a:Act} {o:Oper} {r:aR} {s:Nat} {b:Bool} (hE:bg m S w e a.tmps) (hn:a.tmps.size=n) (hc:cO P mt n ops af o=some r) (hg:r.gd=some (s,b)) (he:e s=.bool (!b)∨e s=.tuple []) :
  Region.wanted o (yielded ops a.tmps)=false:=by
 obtain ⟨_,_,_,hg'⟩:=bT hc
 rcases hg' with ⟨h1,h2⟩ | ⟨j,wnt,s',h1,hs,hsn,h2⟩
 ·rw [hg] at h2; cases h2
 ·rw [hg] at h2
  simp only [Option.some.injEq,Prod.mk.injEq] at h2
  obtain ⟨rfl,rfl⟩:=h2
  rcases he with he | he
  ·simp [Region.wanted,h1,s6 hE hn hs hsn he]
  ·simp [Region.wanted,h1,Ap hE hn hs hsn he]
theorem EB {mu:Bool} {ty:TypeId} {o:Oper} {op:aN} (hc:cP P mu ty o.op=some op) (h:cl o=true):(∃ f as,op=.call f as)∨∃ s as,op=.dz (.t s) as:=by
 unfold cl at h
 split at h
 ·rename_i c ho
  rw [ho] at hc
  simp only [cP] at hc
  split at hc
  all_goals (try (rename_i hcal _; rw [hcal] at h; simp at h; done))
  all_goals (try (rename_i hcal; rw [hcal] at h; simp at h; done))
  ·rename_i f as hcal has
   split at hc
   ·cases hc; exact .inl ⟨_,_,rfl⟩
   ·cases hc
  ·rename_i s as hcal has
   cases hc; exact .inr ⟨_,_,rfl⟩
  ·cases hc
 ·cases h
theorem zO {mu:Bool × Bool} {ty:TypeId} {o:Oper} {op:aN} (hc:sQ P mu ty o.op=some op) (h:cl o=true):(∃ f as,op=.call f as)∨∃ s as,op=.dz (.t s) as:=by
 obtain ⟨op0,h0,rfl⟩:=Option.map_eq_some_iff.1 hc
 rcases EB h0 h with ⟨f,as,rfl⟩ | ⟨s,as,rfl⟩
 ·exact .inl ⟨f,as,rfl⟩
 ·exact .inr ⟨s,as,rfl⟩
theorem Dz {op:aN} {e e':Nat→AV} (h:∀ t∈op.looks,e' t=e t):op.bX e'=op.bX e:=by
 cases op <;> simp only [aN.bX]
 case call=>rw [ej h]
 case dz=>
  simp only [aN.looks,List.mem_append,or_imp,forall_and] at h
  rw [aD h.1,ej h.2]
theorem EU {H:eC} {op:aN} {e:Nat→AV} {f:Nat} {args:List AV} (h:op.bX e=some (f,args)) (σ:St) (K:AV→St→Prop):ak H op e σ K=H f args σ K:=by
 cases op <;> simp only [aN.bX] at h <;> try cases h
 case call=>rfl
 case dz x as=>
  split at h
  ·rename_i f' caps hx
   cases h
   simp only [ak,hx,mB]
  ·rename_i f' caps hx
   cases h
   simp only [ak,hx,mB]
  ·cases h
theorem pP (r:aR) {t:Nat} (h:t∈r.op.looks):t∈r.lk:=by
 unfold aR.lk
 split
 ·exact List.mem_cons_of_mem _ h
 ·exact h
theorem vR {r:aR} {e e':Nat→AV} (h:∀ t∈r.lk,e' t=e t) (hg:E4 r e):E4 r e':=by
 unfold E4 at hg ⊢
 split
 ·trivial
 ·rename_i s w hgd
  rw [hgd] at hg
  rw [h s (by simp [aR.lk,hgd])]
  exact hg
theorem Ep {mt af:List Nat} {o:Oper} {r:aR} {p:Nat} {e0:Nat→AV} {dF:Nat→Option aS} {s:Nat} {b:Bool} (ho:ops[p]?=some o) (hc:cO P mt n ops af o=some r) (hg:r.gd=some (s,b)) (he:e0 s=.bool (!b)∨e0 s=.tuple []) :
  DF P W O S0 ops Q n c0 nn cc ⟨p,r,[],.tuple [],none,e0,dF,none⟩:=by
 intro m S w e ob a K h1 _ _ hI _ hK
 obtain ⟨hInv,hE,hn,hdf⟩:=hI
 have hes:e s=.bool (!b)∨e s=.tuple []:=by
  have:e s=e0 s:=h1 s (by simp [aR.lk,hg])
  rw [this]; exact he
 obtain ⟨_,hd,hdn,_⟩:=bT hc
 have hw:=yh hE hn hc hg hes
 unfold wpOp
 simp only [ho,hw,Bool.false_eq_true,if_false]
 obtain ⟨g1,g2,g3⟩:=bg.put hE hn hdn (VR.Cg (m:=m) (S:=S) (w:=w))
 exact hK m S w _ ⟨hInv,by simp only [hd]; exact g1,g2,by rw [g3]; exact hdf⟩ (Ext.refl m S w) fun g hg=>absurd rfl hg
theorem Hd {mt af:List Nat} {o:Oper} {r:aR} {p:Nat} {e0:Nat→AV} {dF:Nat→Option aS} {v:AV} {wr:Option (Nat × aS)} (ho:ops[p]?=some o) (hc:cO P mt n ops af o=some r) (hg:E4 r e0) (hcall:r.op.bX e0=none)
  (hD:Ow (HC P) r.op e0 dF (n0+p) (c0+p) v wr):DF P W O S0 ops Q n c0 nn cc ⟨p,r,r.op.dM e0,v,wr,e0,dF,none⟩:=by
 intro m S w e ob a K h1 h2 _ hI hf hK
 obtain ⟨hInv,hE,hn,hdf⟩:=hI
 obtain ⟨⟨mu,hop⟩,hd,hdn,_⟩:=bT hc
 have hw:=mF hE hn hc (vR h1 hg)
 have hcong:=kj (H:=HC P) (op:=r.op) (e:=e0) (e':=e) fun t ht=>h1 t (pP r ht)
 unfold wpOp
 simp only [ho,hw,if_true]
 have fin:∀ g0,(∀ (m':Mp) (S':Nat→Prop) (w':World),Inv W O S0 m' S' ⟨eE ob wr,nn,cc⟩ w'→((∀ g,g≠g0→m' g=m g)∨cl o=true)→∀ g,m' g≠m g→r.op.new=true∧g=c0+p)→
   ∀ a' w',Good W O S0 m S w g0 o a (fun x τ=>x=v∧τ=⟨eE ob wr,nn,cc⟩) a' w'→K a' w':=by
  rintro g0 hm a' w' ⟨x,σ',m',S',u,rfl,⟨rfl,rfl⟩,hI',hX,hV,hcl⟩
  obtain ⟨g1,g2,g3⟩:=bg.put (hE.ext hX) hn hdn hV
  exact hK m' S' w' _ ⟨hI',by simp only [hd]; exact g1,g2,by rw [g3]; exact hdf.ext hX⟩ hX (hm m' S' w' hI' hcl)
 have hncl:cl o=true→False:=fun h=>by
  rcases zO hop h with ⟨f,as,hh⟩ | ⟨s,as,hh⟩
  ·rw [hh] at hcall; simp [aN.bX] at hcall
  ·rw [hh] at hcall
   have hr:=hD.run dF (n0+p) (c0+p) (fun _ _=>rfl) (fun _=>⟨rfl,rfl⟩) (fun _ _=>True) (fun _ _ _=>trivial)
   rw [hh] at hr
   simp only [ak,AX.ev] at hr
   simp only [aN.bX,AX.ev] at hcall
   unfold mB at hr
   split at hr
   ·rename_i hx; simp [hx] at hcall
   ·rename_i hx; simp [hx] at hcall
   ·exact hr
 refine .inl ?_
 by_cases hnew:r.op.new=true
 ·obtain ⟨hf1,hf2⟩:=hf hnew
  refine Oper.wp_mono (fin (c0+p) fun m' S' w' _ hcl g hg=>?_) (Bw (N:=fun _=>nn) (C:=fun _=>cc) (id:=n0+p) (g0:=c0+p) hInv hf1 (fun g v hg=>hInv.bh.fresh g v hg) hf2 hE hop (fun h=>by rw [hnew] at h; cases h) fun _=>?_)
  ·rcases hcl with h | h
   ·exact ⟨hnew,Classical.byContradiction fun hne=>hg (h g hne)⟩
   ·exact (hncl h).elim
  ·rw [hcong]
   exact hD.run ob _ _ h2 (fun _=>⟨rfl,rfl⟩) _ fun τ hτ _=>⟨rfl,by rw [hτ]⟩
 ·have hnew:r.op.new=false:=by simpa using hnew
  refine Oper.wp_mono (fin cc fun m' S' w' hI' hcl g hg=>?_) (ki hInv hE hop ?_)
  ·rcases hcl with h | h
   ·refine absurd ?_ hg
    by_cases hgc:g=cc
    ·subst hgc; rw [cS (σ:=⟨eE ob wr,nn,g⟩) hI'.bh.fresh,cS (σ:=⟨ob,nn,g⟩) hInv.bh.fresh]
    ·exact h g hgc
   ·exact (hncl h).elim
  ·rw [hcong]
   exact hD.run ob nn cc h2 (fun h=>by rw [hnew] at h; cases h) _ fun τ hτ hnc=>⟨rfl,by obtain ⟨q1,q2⟩:=hnc hnew; cases τ; simp_all⟩
theorem VR.back {m m':Mp} {S S':Nat→Prop} {w w':World} (hle:m.le m') {a:AV} {v v0:Value} (h:VR m' S' w' a v) (h0:VR m S w a v0):VR m S' w' a v:=by
 induction h generalizing v0 with
 | pure h=>exact .pure h
 | sl h hn hs=>
  cases h0 with
  | pure h0=>cases h0
  | sl h1 hn1=>have:=hle _ _ h1; rw [h] at this; obtain rfl:=Option.some.inj this; exact .sl h1 hn hs
 | ja h=>
  cases h0 with
  | pure h0=>cases h0
  | ja h1=>have:=hle _ _ h1; rw [h] at this; cases this; exact .ja h1
 | ptr h=>
  cases h0 with
  | pure h0=>cases h0
  | ptr h1=>have:=hle _ _ h1; rw [h] at this; cases this; exact .ptr h1
 | fG h hn=>
  cases h0 with
  | pure h0=>cases h0
  | fG h1 hn1=>have:=hle _ _ h1; rw [h] at this; cases this; exact .fG h1 hn
 | yn h hn=>
  cases h0 with
  | pure h0=>cases h0
  | yn h1 hn1=>have:=hle _ _ h1; rw [h] at this; cases this; exact .yn h1 hn
 | agg hl _ ih=>
  obtain ⟨vs,rfl,hv⟩:=h0.nU
  exact .agg hl fun j y v hy hv'=>by obtain ⟨u,hu,hr⟩:=hv.get hy; exact ih j y v hy hv' hr
 | tuple hl _ ih=>
  obtain ⟨vs,rfl,hv⟩:=h0.pI
  exact .tuple hl fun j y v hy hv'=>by obtain ⟨u,hu,hr⟩:=hv.get hy; exact ih j y v hy hv' hr
 | func hl _ ih=>
  obtain ⟨vs,rfl,hv⟩:=h0.tK
  exact .func hl fun j y v hy hv'=>by obtain ⟨u,hu,hr⟩:=hv.get hy; exact ih j y v hy hv' hr
 | bA v=>exact .bA v
theorem Inv.back {m m':Mp} {S S':Nat→Prop} {w w':World} {ob:Nat→Option aS} {wr:Option (Nat × aS)} (h0:Inv W O S0 m S ⟨ob,nn,cc⟩ w) (hX:Ext m S w m' S' w') (h:Inv W O S0 m' S' ⟨eE ob wr,nn,cc⟩ w')
  (hwr:∀ id o',wr=some (id,o')→(∃ o,ob id=some o∧o.g=o'.g)∧∀ x∈o'.l,x.cG=true):Inv W O S0 m S' ⟨eE ob wr,nn,cc⟩ w':=by
 refine ⟨⟨h0.bh.fresh,fun k o ho=>?_,fun k k' o o' v v' b ho ho' hne hm hm'=>h.bh.fF k k' o o' v v' b ho ho' hne (hX.le _ _ hm) (hX.le _ _ hm'),h.bh.lt⟩,
  ⟨h.fr.os,h.fr.tape,h.fr.output,h.fr.size,h.fr.block,fun k o v b ho hro hm=>h.fr.own k o v b ho hro (hX.le _ _ hm),h.fr.sub⟩⟩
 obtain ⟨v1,h1,⟨hok,hes,xs,hown,hxs⟩,hb⟩:=h.bh.obj k o ho
 have old:ob k=some o→∃ v,m o.g=some v∧qs m S' w' o v∧∀ b,v.ownBlock=some b→(o.ro=true→S' b)∧(o.ro=false→¬S' b):=by
  intro hk
  obtain ⟨v0,g1,⟨_,_,xs0,_,hxs0⟩,_⟩:=h0.bh.obj k o hk
  have:=hX.le _ _ g1
  rw [h1] at this; obtain rfl:=Option.some.inj this
  refine ⟨v1,g1,⟨hok,hes,xs,hown,hxs.1,fun j y u hy hu=>?_⟩,hb⟩
  obtain ⟨u0,hu0,hr0⟩:=hxs0.get hy
  exact (hxs.2 j y u hy hu).back hX.le hr0
 cases wr with
 | none=>exact old ho
 | some x=>
  obtain ⟨id,o'⟩:=x
  obtain ⟨⟨oo,hoo,hgg⟩,hp⟩:=hwr id o' rfl
  by_cases e:k=id
  ·subst e
   simp only [eE,ay,Option.some.injEq] at ho
   subst ho
   obtain ⟨v0,g1,_,_⟩:=h0.bh.obj k oo hoo
   rw [hgg] at g1
   have:=hX.le _ _ g1
   rw [h1] at this; obtain rfl:=Option.some.inj this
   refine ⟨v1,g1,⟨hok,hes,xs,hown,hxs.1,fun j y u hy hu=>?_⟩,hb⟩
   obtain ⟨x,hx,hyx⟩:=List.mem_flatMap.1 (List.mem_of_getElem? hy)
   exact .pure ((hxs.2 j y u hy hu).cG (v8 (hp x hx) y hyx))
  ·simp only [eE,aa _ _ _ _ e] at ho
   exact old ho
theorem He {mt af:List Nat} {o:Oper} {r:aR} {p f:Nat} {args:List AV} {e0:Nat→AV} {dF:Nat→Option aS} {v:AV} {rd:List Nat} {wr:Option (Nat × aS)} (ho:ops[p]?=some o) (hc:cO P mt n ops af o=some r) (hg:E4 r e0)
  (hcall:r.op.bX e0=some (f,args)) (hD:Mv (HC P) f args dF v rd wr):DF P W O S0 ops Q n c0 nn cc ⟨p,r,rd,v,wr,e0,dF,none⟩:=by
 intro m S w e ob a K h1 h2 _ hI _ hK
 obtain ⟨hInv,hE,hn,hdf⟩:=hI
 obtain ⟨⟨mu,hop⟩,hd,hdn,_⟩:=bT hc
 have hw:=mF hE hn hc (vR h1 hg)
 have hcall':r.op.bX e=some (f,args):=by rw [Dz fun t ht=>h1 t (pP r ht)]; exact hcall
 unfold wpOp
 simp only [ho,hw,if_true]
 obtain ⟨hpur,hD⟩:=hD
 have key:ak (HC P) r.op e ⟨ob,nn,cc⟩ (fun x τ=>x=v∧τ=⟨eE ob wr,nn,cc⟩):=by
  rw [EU hcall']
  cases wr with
  | none=>exact hD ob nn cc h2
  | some x=>exact hD.2.2.2 ob nn cc h2
 refine .inl (Oper.wp_mono ?_ (ki hInv hE hop key))
 rintro a' w' ⟨x,σ',m',S',u,rfl,⟨rfl,rfl⟩,hI',hX,hV,_⟩
 have hwr:∀ id o',wr=some (id,o')→(∃ o,ob id=some o∧o.g=o'.g)∧∀ x∈o'.l,x.cG=true:=by
  rintro id o' rfl
  obtain ⟨⟨o1,q1,q2,_⟩,q3,q4,_⟩:=hD
  exact ⟨⟨o1,by rw [h2 id q4]; exact q1,q2⟩,q3⟩
 have hI2:=hInv.back hX hI' hwr
 have hX2:Ext m S w m S' w':=⟨Mp.le_refl m,hX.sub,hX.br⟩
 have hV2:VR m S' w' x u:=.pure (hV.cG hpur)
 obtain ⟨g1,g2,g3⟩:=bg.put (hE.ext hX2) hn hdn hV2
 exact hK m S' w' _ ⟨hI2,by simp only [hd]; exact g1,g2,by rw [g3]; exact hdf.ext hX2⟩ hX2 fun g hg=>absurd rfl hg
theorem IV {mt af:List Nat} {o:Oper} {r:aR} {p:Nat} {e0:Nat→AV} {dF:Nat→Option aS} {x k v:AX} {id g:Nat} {kq:IntKind} {q:Int} {o0:aS} (ho:ops[p]?=some o) (hc:cO P mt n ops af o=some r) (hg:E4 r e0)
  (hrop:r.op=.cZ x k v) (hx:x.ev e0=.ja id g) (hk:k.ev e0=.int kq q) (bm:(v.ev e0).one=true) (ho0:dF id=some o0) (hg0:o0.g=g) (hro:o0.ro=false) :
  DF P W O S0 ops Q n c0 nn cc ⟨p,r,[],.bA,none,e0,dF,some (id,kq,q,v.ev e0)⟩:=by
 intro m S w e ob a K h1 _ hmd hI _ hK
 obtain ⟨hInv,hE,hn,hdf⟩:=hI
 obtain ⟨⟨mu,hop⟩,hd,hdn,_⟩:=bT hc
 have hw:=mF hE hn hc (vR h1 hg)
 have hcong:=kj (H:=HC P) (op:=r.op) (e:=e0) (e':=e) fun t ht=>h1 t (pP r ht)
 obtain ⟨o1,o0',a1,a2,a3,a4,a5⟩:=hmd
 simp only at a2
 rw [ho0] at a2
 obtain rfl:=Option.some.inj a2
 unfold wpOp
 simp only [ho,hw,if_true]
 have key:ak (HC P) r.op e ⟨ob,nn,cc⟩ (fun x τ=>x=.bA∧τ=⟨gF ob (some (id,kq,q,v.ev e0)),nn,cc⟩):=by
  rw [hcong,hrop]
  simp only [ak,hx,hk,qx]
  refine ⟨bm,o1,a1,by rw [a3]; exact hg0,by rw [a3]; exact hro,a4,trivial,?_⟩
  simp only [gF,a1,Option.map_some,St.put]
 refine .inl (Oper.wp_mono ?_ (ki hInv hE hop key))
 rintro a' w' ⟨x',σ',m',S',u,rfl,⟨rfl,rfl⟩,hI',hX,hV,hcl⟩
 obtain ⟨g1,g2,g3⟩:=bg.put (hE.ext hX) hn hdn hV
 refine hK m' S' w' _ ⟨hI',by simp only [hd]; exact g1,g2,by rw [g3]; exact hdf.ext hX⟩ hX fun g hg=>?_
 rcases hcl with h | h
 ·refine absurd ?_ hg
  by_cases hgc:g=cc
  ·subst hgc; rw [cS (σ:=⟨gF ob (some (id,kq,q,v.ev e0)),nn,g⟩) hI'.bh.fresh,cS (σ:=⟨ob,nn,g⟩) hInv.bh.fresh]
  ·exact h g hgc
 ·rcases zO hop h with ⟨f,as,hh⟩ | ⟨s,as,hh⟩ <;> rw [hrop] at hh <;> cases hh
end
section
variable {P : Program} {W : World} {O S0 : Nat → Prop} {ops : Array Oper} {Q : Exit → Act → World → Prop} {n n0 c0 k0 nn cc : Nat}
def I2 (s t:SR):Prop:=s.p∈t.o.af∨xt+s.p∈t.o.af∨xt≤s.p∨((∀ i∈dO s.wr,i∉t.dM∧i∉dO t.wr)∧(∀ i∈dO t.wr,i∉s.dM)∧(∀ i∈oA s.md,i∉t.dM∧i∉dO t.wr)∧∀ i∈oA t.md,i∉s.dM∧i∉dO s.wr)
theorem tL {af:List Nat} {xs xs':List (Nat × Nat)} {id:Nat} (hx:∀ x∈xs',x∈xs) (h:cn af xs id):cn af xs' id:=fun x hx'=>h x (hx x hx')
theorem zh {n:Int}:∀ {l:List AV},mq n l=none→zi n l=false
 | [],_=>rfl
 | y :: r,h=>by
  unfold mq at h
  split at h
  ·cases h
  ·rename_i hn
   rw [ic,zh h]
   simp [hn]
theorem lL {af:List Nat} {xs xs':List (Nat × Nat)} {ids ids':List Nat} (hx:∀ x∈xs',x∈xs) (hi:∀ i∈ids',i∈ids) (h:bu af xs ids):bu af xs' ids':=fun x hx'=>by
 rcases h x (hx x hx') with h | h
 ·exact .inl h
 ·exact .inr fun i hi'=>h i (hi i hi')
theorem wR {mt:List Nat}:∀ (rs:List aR) (os:List Oper) (cs:List (List Nat)) (p:Nat) (R V:List (Nat × Nat)) (e:Nat→AV) (σ:St) (K:(Nat→AV)→St→Prop),
  bp P mt n ops cs os=some rs→(∀ k o,os[k]?=some o→ops[p+k]?=some o)→fY (HC P) n0 c0 k0 rs p K R V e σ→
  ∃ (L:List SR) (ef:Nat→AV) (obf:Nat→Option aS),lg ef obf L e σ.ob∧K ef ⟨obf,n0+k0,c0+k0⟩∧L.map (·.o)=rs∧L.map (·.p)=List.range' p rs.length∧(∀ s∈L,DF P W O S0 ops Q n c0 nn cc s)∧
   (∀ s∈L,bu s.o.af V (s.dM++dO s.wr)∧bu s.o.af R (dO s.wr)∧(∀ i∈oA s.md,cn s.o.af V i∧cn s.o.af R i)∧∀ i∈oA s.md,i∉dO s.wr)∧L.Pairwise I2
 | [],os,cs,p,R,V,e,σ,K,hc,ho,h=>⟨[],e,σ.ob,⟨rfl,rfl⟩,h,rfl,rfl,fun s hs=>by simp at hs,fun s hs=>by simp at hs,.nil⟩
 | r :: rs,os,cs,p,R,V,e,σ,K,hc,ho,h=>by
  cases os with
  | nil=>simp [bp] at hc
  | cons o os=>
   simp only [bp] at hc
   split at hc
   ·rename_i r' rs' h1 h2
    simp only [Option.some.injEq,List.cons.injEq] at hc
    obtain ⟨rfl,rfl⟩:=hc
    have hop:ops[p]?=some o:=ho 0 o rfl
    have ho':∀ k o,os[k]?=some o→ops[p+1+k]?=some o:=fun k o hk=>by rw [Nat.add_assoc,Nat.add_comm 1 k]; exact ho (k+1) o hk
    -- one step,and what follows
    have one:∀ (s:SR) (R' V':List (Nat × Nat)) (τ:St),s.p=p→s.o=r'→s.e0=e→s.dF=σ.ob→DF P W O S0 ops Q n c0 nn cc s→bu r'.af V (s.dM++dO s.wr)→bu r'.af R (dO s.wr)→(∀ i∈oA s.md,cn r'.af V i∧cn r'.af R i)→(∀ i∈oA s.md,i∉dO s.wr)→Bp σ.ob σ.ob s.md→
      (∀ x∈R,x∈R')→(∀ x∈V,x∈V')→(∀ i∈s.dM,(p,i)∈R')→(∀ i∈dO s.wr,(p,i)∈V')→(∀ i∈oA s.md,(xt+p,i)∈V')→τ.ob=gF (eE σ.ob s.wr) s.md→fY (HC P) n0 c0 k0 rs' (p+1) K R' V' (bG e r'.d s.v) τ→
      ∃ (L:List SR) (ef:Nat→AV) (obf:Nat→Option aS),lg ef obf L e σ.ob∧K ef ⟨obf,n0+k0,c0+k0⟩∧L.map (·.o)=r' :: rs'∧L.map (·.p)=List.range' p (r' :: rs').length∧(∀ s∈L,DF P W O S0 ops Q n c0 nn cc s)∧
       (∀ s∈L,bu s.o.af V (s.dM++dO s.wr)∧bu s.o.af R (dO s.wr)∧(∀ i∈oA s.md,cn s.o.af V i∧cn s.o.af R i)∧∀ i∈oA s.md,i∉dO s.wr)∧L.Pairwise I2:=by
     intro s R' V' τ hp hso hse hsb hex hm1 hm2 hm3 hm4 hm5 hR hV hR1 hV1 hV2 hτ hd
     obtain ⟨L,ef,obf,a1,a2,a3,a4,a5,a6,a7⟩:=wR rs' os cs.tail (p+1) R' V' _ τ K h2 ho' hd
     refine ⟨s :: L,ef,obf,⟨fun t _=>by rw [hse],fun i _=>by rw [hsb],by rw [hsb]; exact hm5,by rw [hso,←hτ]; exact a1⟩,a2,by simp [hso,a3],by simp [hp,a4,List.range'_succ],?_,?_,?_⟩
     ·intro u hu
      rcases List.mem_cons.1 hu with rfl | hu
      ·exact hex
      ·exact a5 u hu
     ·intro u hu
      rcases List.mem_cons.1 hu with rfl | hu
      ·rw [hso]; exact ⟨hm1,hm2,hm3,hm4⟩
      ·obtain ⟨b1,b2,b3,b4⟩:=a6 u hu
       exact ⟨lL hV (fun _ h=>h) b1,lL hR (fun _ h=>h) b2,fun i hi=>⟨tL hV (b3 i hi).1,tL hR (b3 i hi).2⟩,b4⟩
     ·refine .cons (fun u hu=>?_) a7
      obtain ⟨b1,b2,b3,b4⟩:=a6 u hu
      by_cases hin:s.p∈u.o.af
      ·exact .inl hin
      by_cases hin2:xt+s.p∈u.o.af
      ·exact .inr (.inl hin2)
      by_cases hin3:xt≤s.p
      ·exact .inr (.inr (.inl hin3))
      ·have hin':¬u.o.af.contains p=true:=by rw [hp] at hin; simpa using hin
       have hin2':¬u.o.af.contains (xt+p)=true:=by rw [hp] at hin2; simpa using hin2
       refine .inr (.inr (.inr ⟨fun i hi=>?_,fun i hi hs=>?_,fun i hi=>?_,fun i hi=>⟨fun hh=>?_,fun hh=>?_⟩⟩))
       ·have:=(b1 _ (hV1 i hi)).resolve_left hin'
        exact ⟨fun hh=>this i (List.mem_append_left _ hh) rfl,fun hh=>this i (List.mem_append_right _ hh) rfl⟩
       ·exact ((b2 _ (hR1 i hs)).resolve_left hin') i hi rfl
       ·have:=(b1 _ (hV2 i hi)).resolve_left hin2'
        exact ⟨fun hh=>this i (List.mem_append_left _ hh) rfl,fun hh=>this i (List.mem_append_right _ hh) rfl⟩
       ·rcases ((b3 i hi).2 _ (hR1 i hh)).resolve_left hin' with h | h
        ·exact h rfl
        ·rw [hp] at hin3; exact hin3 h
       ·rcases ((b3 i hi).1 _ (hV1 i hh)).resolve_left hin' with h | h
        ·exact h rfl
        ·rw [hp] at hin3; exact hin3 h
    have step:E4 r' e→sZ (HC P) r'.op r'.af R V p (n0+p) (c0+p) (Cd (fY (HC P) n0 c0 k0 rs' (p+1) K) e r'.d) e σ.ob→
      ∃ (L:List SR) (ef:Nat→AV) (obf:Nat→Option aS),lg ef obf L e σ.ob∧K ef ⟨obf,n0+k0,c0+k0⟩∧L.map (·.o)=r' :: rs'∧L.map (·.p)=List.range' p (r' :: rs').length∧(∀ s∈L,DF P W O S0 ops Q n c0 nn cc s)∧
       (∀ s∈L,bu s.o.af V (s.dM++dO s.wr)∧bu s.o.af R (dO s.wr)∧(∀ i∈oA s.md,cn s.o.af V i∧cn s.o.af R i)∧∀ i∈oA s.md,i∉dO s.wr)∧L.Pairwise I2:=by
     intro hg hd
     unfold sZ at hd
     split at hd
     ·rename_i x k v hmp
      have hrop:r'.op=.cZ x k v:=by
       unfold aN.oR at hmp
       split at hmp
       ·rename_i heq; cases hmp; exact heq
       ·cases hmp
      generalize hxv:x.ev e=X at hd
      generalize hkv:k.ev e=Y at hd
      unfold dmap at hd
      split at hd
      ·rename_i id g kq q
       obtain ⟨bm,m1,m2,o0,ho0,hg0,hro,hko,hfr,hk⟩:=hd
       exact one ⟨p,r',[],.bA,none,e,σ.ob,some (id,kq,q,v.ev e)⟩ R (V++[(xt+p,id)]) ⟨aZ σ.ob id (some { o0 with l:=eg kq q (v.ev e) o0.l }),n0+p,c0+p⟩ rfl rfl rfl rfl (IV hop h1 hg hrop hxv hkv bm ho0 hg0 hro) (fun x _=>.inr fun i hi=>by simp [dO] at hi) (fun x _=>.inr fun i hi=>by simp [dO] at hi)
        (fun i hi=>by simp only [oA,List.mem_singleton] at hi; subst hi; exact ⟨m1,m2⟩) (fun i _=>by simp [dO]) ⟨o0,o0,ho0,ho0,rfl,hko,zh hfr⟩
        (fun _ h=>h) (fun x hx=>List.mem_append_left _ hx) (fun i hi=>by simp at hi) (fun i hi=>by simp [dO] at hi) (fun i hi=>by simp only [oA,List.mem_singleton] at hi; subst hi; simp) (by simp only [gF,eE,ho0,Option.map_some]) hk
      ·exact hd.elim
     split at hd
     ·rename_i f args hcall
      obtain ⟨v,rd,wr,hC,m1,m2,hk⟩:=hd
      exact one ⟨p,r',rd,v,wr,e,σ.ob,none⟩ _ _ _ rfl rfl rfl rfl (He hop h1 hg hcall hC) m1 m2 (fun i hi=>by simp [oA] at hi) (fun i hi=>by simp [oA] at hi) trivial (fun x hx=>List.mem_append_left _ hx) (fun x hx=>List.mem_append_left _ hx)
       (fun i hi=>List.mem_append_right _ (List.mem_map.2 ⟨i,hi,rfl⟩)) (fun i hi=>List.mem_append_right _ (List.mem_map.2 ⟨i,hi,rfl⟩)) (fun i hi=>by simp [oA] at hi) rfl hk
     ·rename_i hcall
      obtain ⟨hnd,m1,m2,hr⟩:=hd
      obtain ⟨v,wr,τ,hk,hτ,hD⟩:=yt hnd hcall hr
      exact one ⟨p,r',r'.op.dM e,v,wr,e,σ.ob,none⟩ _ _ τ rfl rfl rfl rfl (Hd hop h1 hg hcall hD)
       (lL (fun _ h=>h) (fun i hi=>by rcases List.mem_append.1 hi with h | h; exact List.mem_append_left _ h; exact List.mem_append_right _ (hD.lE i h)) m1) (lL (fun _ h=>h) hD.lE m2) (fun i hi=>by simp [oA] at hi) (fun i hi=>by simp [oA] at hi) trivial
       (fun x hx=>List.mem_append_left _ hx) (fun x hx=>List.mem_append_left _ hx)
       (fun i hi=>List.mem_append_right _ (List.mem_map.2 ⟨i,hi,rfl⟩)) (fun i hi=>List.mem_append_right _ (List.mem_map.2 ⟨i,hD.lE i hi,rfl⟩)) (fun i hi=>by simp [oA] at hi) hτ hk
    simp only [fY] at h
    split at h
    ·rename_i hgd
     exact step (by simp [E4,hgd]) h
    ·rename_i s w hgd
     generalize hes:e s=g at h
     unfold sK at h
     split at h
     ·exact one ⟨p,r',[],.tuple [],none,e,σ.ob,none⟩ R V σ rfl rfl rfl rfl (Ep hop h1 hgd (.inr hes)) (fun x _=>.inr fun i hi=>by simp [dO] at hi) (fun x _=>.inr fun i hi=>by simp [dO] at hi) (fun i hi=>by simp [oA] at hi) (fun i hi=>by simp [oA] at hi) trivial
        (fun _ h=>h) (fun _ h=>h) (fun i hi=>by simp at hi) (fun i hi=>by simp [dO] at hi) (fun i hi=>by simp [oA] at hi) rfl h
     ·rename_i b
      have hb:e s=.bool b:=hes
      by_cases hbw:b=w
      ·exact step (by simp [E4,hgd,hb,hbw]) (h.1 hbw)
      ·have hbw':b=!w:=by cases b <;> cases w <;> simp_all
       exact one ⟨p,r',[],.tuple [],none,e,σ.ob,none⟩ R V σ rfl rfl rfl rfl (Ep hop h1 hgd (.inl (by rw [hb,hbw']))) (fun x _=>.inr fun i hi=>by simp [dO] at hi) (fun x _=>.inr fun i hi=>by simp [dO] at hi) (fun i hi=>by simp [oA] at hi) (fun i hi=>by simp [oA] at hi) trivial
        (fun _ h=>h) (fun _ h=>h) (fun i hi=>by simp at hi) (fun i hi=>by simp [dO] at hi) (fun i hi=>by simp [oA] at hi) rfl (h.2 hbw')
     ·exact h.elim
   ·cases hc
theorem ib {o:Oper} {u:Nat}:u∈direct o↔∃ e∈o.after,Region.binds .any e=true∧e.on=u:=by
 simp [direct,and_assoc]
def Rel (s t:SR):Prop:=s.p<t.p∧(s.p∈t.o.af∨GP s t)
theorem I5 {ef:Nat→AV} {obf:Nat→Option aS} (clo:Nat→List Nat) (hclo:∀ i o,ops[i]?=some o→(∀ u∈direct o,u<i)∧∀ x∈clo i,x∈direct o∨∃ u∈direct o,x∈clo u) :
  ∀ (fuel:Nat) (listed:Array Bool) (L:List SR) (m:Mp) (S:Nat→Prop) (w:World) (e:Nat→AV) (ob:Nat→Option aS) (a:Act),L.length≤fuel→listed.size=ops.size→
   (∀ i,i<ops.size→(listed.getD i true=false↔∃ s∈L,s.p=i))→(∀ s∈L,s.p<ops.size)→(∀ i,listed.getD i false=true→∀ x∈clo i,listed.getD x false=true)→
   L.Pairwise Rel→(∀ s∈L,s.o.af=clo s.p)→(∀ s∈L,DF P W O S0 ops Q n c0 nn cc s)→lg ef obf L e ob→ep W O S0 m S ⟨ob,nn,cc⟩ w n e a→
   (∀ s∈L,s.o.op.new=true→m (c0+s.p)=none∧c0+s.p<cc)→(∀ m' S' w' a',ep W O S0 m' S' ⟨obf,nn,cc⟩ w' n ef a'→Ext m S w m' S' w'→Q .normal a' w')→wpAny P .any ops Q fuel listed a w:=by
 intro fuel
 have done:∀ (listed:Array Bool) (m:Mp) (S:Nat→Prop) (w:World) (e:Nat→AV) (ob:Nat→Option aS) (a:Act),lg ef obf [] e ob→ep W O S0 m S ⟨ob,nn,cc⟩ w n e a→(∀ m' S' w' a',ep W O S0 m' S' ⟨obf,nn,cc⟩ w' n ef a'→Ext m S w m' S' w'→Q .normal a' w')→Q .normal a w:=by
  rintro listed m S w e ob a ⟨rfl,rfl⟩ hI hQ
  exact hQ m S w a hI (Ext.refl m S w)
 have noReady:∀ (listed:Array Bool),(∀ i,i<ops.size→(listed.getD i true=false↔∃ s∈([]:List SR),s.p=i))→Region.ready .any ops listed=[]:=by
  intro listed h
  rw [List.eq_nil_iff_forall_not_mem]
  intro j hj
  obtain ⟨h1,o,ho,_⟩:=mem_ready.1 hj
  obtain ⟨s,hs,_⟩:=(h j (Array.getElem?_eq_some_iff.1 ho).1).1 h1
  simp at hs
 induction fuel with
 | zero=>
  intro listed L m S w e ob a hlen hsz hL hLlt hcl hP haf hex hch hI hf hQ
  obtain rfl:L=[]:=List.eq_nil_of_length_eq_zero (by omega)
  exact ⟨noReady listed hL,done listed m S w e ob a hch hI hQ⟩
 | succ fuel ih=>
  intro listed L m S w e ob a hlen hsz hL hLlt hcl hP haf hex hch hI hf hQ
  refine ⟨fun hnil=>?_,fun i hi=>?_⟩
  ·cases L with
   | nil=>exact done listed m S w e ob a hch hI hQ
   | cons s L=>
    exfalso
    have hs:s.p<ops.size:=hLlt s (List.mem_cons_self ..)
    have:s.p∈Region.ready .any ops listed:=by
     refine mem_ready.2 ⟨(hL s.p hs).2 ⟨s,List.mem_cons_self ..,rfl⟩,ops[s.p],Array.getElem?_eq_getElem hs,fun x hx hb=>?_⟩
     have hlt:=(hclo s.p _ (Array.getElem?_eq_getElem hs)).1 x.on (ib.2 ⟨x,hx,hb,rfl⟩)
     have hxs:x.on<ops.size:=by omega
     cases hv:listed.getD x.on true with
     | true=>rw [Array.getD_eq_getD_getElem?,Array.getElem?_eq_getElem (by omega)] at hv ⊢; simpa using hv
     | false=>
      obtain ⟨u,hu,hup⟩:=(hL x.on hxs).1 hv
      rcases List.mem_cons.1 hu with rfl | hu
      ·omega
      ·have:=(List.pairwise_cons.1 hP).1 u hu; have:=this.1; omega
    rw [hnil] at this
    simp at this
  ·obtain ⟨h1,o,ho,hdep⟩:=mem_ready.1 hi
   have hilt:i<ops.size:=(Array.getElem?_eq_some_iff.1 ho).1
   obtain ⟨s,hs,rfl⟩:=(hL i hilt).1 h1
   obtain ⟨A,B,rfl⟩:=List.append_of_mem hs
   have hcloL:∀ x∈clo s.p,listed.getD x false=true:=by
    intro x hx
    rcases (hclo s.p o ho).2 x hx with h | ⟨u,hu,hxu⟩
    ·obtain ⟨y,hy,hb,rfl⟩:=ib.1 h
     exact hdep y hy hb
    ·obtain ⟨y,hy,hb,rfl⟩:=ib.1 hu
     exact hcl _ (hdep y hy hb) x hxu
   have hA:∀ u∈A,GP u s:=by
    intro u hu
    have hr:=(List.pairwise_append.1 hP).2.2 u hu s (List.mem_cons_self ..)
    rcases hr.2 with h | h
    ·exfalso
     rw [haf s hs] at h
     have h2:=hcloL _ h
     have hul:u∈A++s :: B:=List.mem_append_left _ hu
     have h3:=(hL u.p (hLlt u hul)).2 ⟨u,hul,rfl⟩
     rw [Array.getD_eq_getD_getElem?,Array.getElem?_eq_getElem (by have:=hLlt u hul; omega)] at h2 h3
     simp at h2 h3
     rw [h2] at h3; cases h3
    ·exact h
   obtain ⟨c1,c2,cm,c3⟩:=lg.front hA hch
   have hnd:∀ u∈A++B,u.p≠s.p:=by
    intro u hu he
    rcases List.mem_append.1 hu with hu | hu
    ·have:=((List.pairwise_append.1 hP).2.2 u hu s (List.mem_cons_self ..)).1; omega
    ·have:=((List.pairwise_cons.1 (List.pairwise_append.1 hP).2.1).1 u hu).1; omega
   have hsub:∀ u∈A++B,u∈A++s :: B:=fun u hu=>by
    rcases List.mem_append.1 hu with hu | hu
    ·exact List.mem_append_left _ hu
    ·exact List.mem_append_right _ (List.mem_cons_of_mem _ hu)
   refine hex s hs m S w e ob a _ c1 c2 cm hI (hf s hs) fun m' S' w' a' hI' hX hm=>?_
   refine ih (listed.setIfInBounds s.p true) (A++B) m' S' w' _ _ a' (by simp at hlen ⊢; omega) (by simpa using hsz) (fun j hj=>?_) (fun u hu=>hLlt u (hsub u hu)) (fun j hj x hx=>?_)
    (hP.sublist (by simp)) (fun u hu=>haf u (hsub u hu)) (fun u hu=>hex u (hsub u hu)) c3 hI' (fun u hu hnew=>?_) (fun m2 S2 w2 a2 q1 q2=>hQ m2 S2 w2 a2 q1 (hX.trans q2))
   ·by_cases hjs:j=s.p
    ·subst hjs
     constructor
     ·intro h; simp [Array.getD_eq_getD_getElem?,hsz,hilt] at h
     ·rintro ⟨u,hu,he⟩; exact absurd he (hnd u hu)
    ·rw [getD_set_ne true (Ne.symm hjs),hL j hj]
     constructor
     ·rintro ⟨u,hu,rfl⟩
      refine ⟨u,?_,rfl⟩
      rcases List.mem_append.1 hu with hu | hu
      ·exact List.mem_append_left _ hu
      ·rcases List.mem_cons.1 hu with rfl | hu
       ·exact absurd rfl hjs
       ·exact List.mem_append_right _ hu
     ·rintro ⟨u,hu,rfl⟩; exact ⟨u,hsub u hu,rfl⟩
   ·have key:∀ y,listed.getD y false=true→(listed.setIfInBounds s.p true).getD y false=true:=by
     intro y hy
     by_cases hys:y=s.p
     ·subst hys; simp [Array.getD_eq_getD_getElem?,hsz,hilt]
     ·rw [getD_set_ne false (Ne.symm hys)]; exact hy
    by_cases hjs:j=s.p
    ·subst hjs; exact key x (hcloL x hx)
    ·rw [getD_set_ne false (Ne.symm hjs)] at hj; exact key x (hcl j hj x hx)
   ·obtain ⟨f1,f2⟩:=hf u (hsub u hu) hnew
    refine ⟨?_,f2⟩
    refine Classical.byContradiction fun hne=>?_
    have hne':m' (c0+u.p)≠m (c0+u.p):=by rw [f1]; exact hne
    have:=(hm _ hne').2
    exact hnd u hu (by omega)
end
theorem wZ {x y:aR} (h:sW x y=true):(∀ d,x.d=some d→d∉y.lk)∧(∀ d,y.d=some d→d∉x.lk)∧(∀ d,x.d=some d→y.d≠some d):=by
 simp only [sW,Bool.and_eq_true] at h
 obtain ⟨⟨h1,h2⟩,h3⟩:=h
 refine ⟨fun d hd=>?_,fun d hd=>?_,fun d hd hy=>?_⟩
 ·rw [hd] at h1; simpa [Li] using h1
 ·rw [hd] at h2; simpa [Li] using h2
 ·rw [hd,hy] at h3; simp [TJ] at h3
theorem s8:∀ (L:List SR) (i:Nat),L.map (·.p)=List.range' i L.length→uU i (L.map (·.o))=true→L.Pairwise fun s t=>s.p<t.p∧(t.o.af.contains s.p=true∨sW s.o t.o=true)
 | [],_,_,_=>.nil
 | s :: L,i,hp,h=>by
  simp only [List.map_cons,List.length_cons,List.range'_succ,List.cons.injEq] at hp
  simp only [List.map_cons,uU,Bool.and_eq_true,List.all_eq_true,List.mem_map,forall_exists_index,and_imp,forall_apply_eq_imp_iff₂,Bool.or_eq_true] at h
  refine .cons (fun t ht=>⟨?_,by rw [hp.1]; exact h.1 t ht⟩) (s8 L (i+1) hp.2 h.2)
  have:t.p∈L.map (·.p):=List.mem_map.2 ⟨t,ht,rfl⟩
  rw [hp.2,List.mem_range'_1] at this
  omega
theorem lT {l:List aR}:∀ (os:List Oper) (rs:List aR) (i:Nat),j8 l i os rs=true→os.length=rs.length→∀ (j:Nat) (o:Oper) (r:aR),os[j]?=some o→rs[j]?=some r→p8 l (i+j) o r=true
 | [],rs,i,h,hl,j,o,r,ho,hr=>by simp at ho
 | o0 :: os,[],i,h,hl,j,o,r,ho,hr=>by simp at hr
 | o0 :: os,r0 :: rs,i,h,hl,0,o,r,ho,hr=>by
  simp only [j8,Bool.and_eq_true] at h
  simp only [List.getElem?_cons_zero,Option.some.injEq] at ho hr
  subst ho; subst hr
  exact h.1
 | o0 :: os,r0 :: rs,i,h,hl,j+1,o,r,ho,hr=>by
  simp only [j8,Bool.and_eq_true] at h
  have:=lT os rs (i+1) h.2 (by simpa using hl) j o r (by simpa using ho) (by simpa using hr)
  rw [Nat.add_assoc,Nat.add_comm 1 j] at this
  exact this
theorem Inv.raise {W:World} {O S0:Nat→Prop} {m:Mp} {S:Nat→Prop} {ob:Nat→Option aS} {n c n' c':Nat} {w:World} (h:Inv W O S0 m S ⟨ob,n,c⟩ w) (hc:c≤c'):Inv W O S0 m S ⟨ob,n',c'⟩ w:=
 ⟨⟨fun g v hg=>Nat.lt_of_lt_of_le (h.bh.fresh g v hg) hc,h.bh.obj,h.bh.fF,h.bh.lt⟩,⟨h.fr.os,h.fr.tape,h.fr.output,h.fr.size,h.fr.block,h.fr.own,h.fr.sub⟩⟩
theorem ir {P:Program} {mt:List Nat} {n:Nat} {ops:Array Oper}:∀ {cs:List (List Nat)} {os:List Oper} {rs:List aR},bp P mt n ops cs os=some rs→rs.length=os.length
 | _,[],rs,h=>by simp [bp] at h; subst h; rfl
 | cs,o :: os,rs,h=>by
  simp only [bp] at h
  split at h
  ·rename_i r rs' h1 h2
   simp only [Option.some.injEq] at h
   subst h
   simp [ir h2]
  ·cases h
theorem D1 {P:Program} {W:World} {O S0:Nat→Prop} {ops:Array Oper} {Q:Exit→Act→World→Prop} {mt:List Nat} {n k:Nat} {l:List aR} {m:Mp} {S:Nat→Prop} {σ:St} {w:World} {e:Nat→AV} {a:Act} {K:(Nat→AV)→St→Prop}
  (hc:bp P mt n ops (closure ops.toList) ops.toList=some l) (hok:FI ops.toList l k=true) (hI:ep W O S0 m S σ w n e a) (h:fY (HC P) σ.n σ.c k l 0 K [] [] e σ)
  (hQ:∀ m' S' σ' w' e' a',ep W O S0 m' S' σ' w' n e' a'→Ext m S w m' S' w'→K e' σ'→Q .normal a' w'):wpAny P .any ops Q ops.size (Array.replicate ops.size false) a { w with drawn:=w.drawn+1 }:=by
 obtain ⟨hInv,hE,hn,hdf⟩:=hI
 have hlen:=ir hc
 simp only [Array.length_toList] at hlen
 simp only [FI,Bool.and_eq_true] at hok
 obtain ⟨⟨⟨hk,hap⟩,hcl⟩,hsmall⟩:=hok
 simp only [decide_eq_true_eq] at hsmall
 obtain ⟨L,ef,obf,a1,a2,a3,a4,a5,a6,a7⟩:=wR (W:=W) (O:=O) (S0:=S0) (Q:=Q) (nn:=σ.n+k) (cc:=σ.c+k) l ops.toList _ 0 [] [] e σ K hc (fun j o ho=>by simpa using ho) h
 have hLl:L.length=l.length:=by rw [←a3]; simp
 have hst:=s8 L 0 (by rw [hLl]; exact a4) (by rw [a3]; exact hap)
 have hat:∀ (j:Nat) (s:SR),L[j]?=some s→s.p=j∧l[j]?=some s.o:=by
  intro j s hs
  have h1:(L.map (·.p))[j]?=some s.p:=by simp [hs]
  have h2:(L.map (·.o))[j]?=some s.o:=by simp [hs]
  have hj:j<l.length:=by rw [←hLl]; exact (List.getElem?_eq_some_iff.1 hs).1
  rw [a4,List.getElem?_range' hj] at h1
  rw [a3] at h2
  exact ⟨by simp at h1; omega,h2⟩
 have hmem:∀ s∈L,s.p<l.length∧l[s.p]?=some s.o:=by
  intro s hs
  obtain ⟨j,hj⟩:=List.getElem?_of_mem hs
  obtain ⟨h1,h2⟩:=hat j s hj
  rw [h1]
  exact ⟨(List.getElem?_eq_some_iff.1 h2).1,h2⟩
 have haf:∀ (j:Nat) (q:aR),l[j]?=some q→∀ x∈q.af,x<j:=by
  intro j
  induction j using Nat.strongRecOn with
  | _ j ih=>
   intro q hq x hx
   have hj:j<l.length:=(List.getElem?_eq_some_iff.1 hq).1
   have hj2:j<ops.size:=by omega
   have:=lT ops.toList l 0 hcl (by simpa using hlen.symm) j ops[j] q (by simp [Array.getElem?_eq_getElem hj2]) hq
   simp only [p8,Bool.and_eq_true,List.all_eq_true,decide_eq_true_eq,Nat.zero_add,Bool.or_eq_true,List.any_eq_true] at this
   rcases this.2 x hx with h | ⟨u,hu,h⟩
   ·exact this.1 x (by simpa using h)
   ·have h1:=this.1 u hu
    split at h
    ·rename_i q' hq'
     have:=ih u h1 q' hq' x (by simpa using h)
     omega
    ·cases h
 have hP:L.Pairwise Rel:=(List.Pairwise.and hst a7).imp_of_mem fun {s t} hs ht h=>by
  obtain ⟨⟨h1,h2⟩,h3⟩:=h
  refine ⟨h1,?_⟩
  have k1:=hmem s hs
  have k2:=hmem t ht
  rcases h3 with h3 | h3 | h3 | h3
  ·exact .inl h3
  ·have:=haf t.p t.o k2.2 _ h3; omega
  ·omega
  ·rcases h2 with h2 | h2
   ·exact .inl (by simpa using h2)
   ·obtain ⟨b1,b2,b3⟩:=wZ h2
    exact .inr ⟨b1,b2,b3,h3.1,h3.2.1,h3.2.2.1,h3.2.2.2,(a6 s hs).2.2.2,(a6 t ht).2.2.2⟩
 refine (I5 (nn:=σ.n+k) (cc:=σ.c+k) (c0:=σ.c) (n:=n) (fun i=>match l[i]? with | some q=>q.af | none=>[]) ?_ ops.size _ L m S _ e σ.ob a (by rw [hLl,hlen]; exact Nat.le_refl _) (by simp) (fun i hi=>?_) (fun s hs=>by rw [←hlen]; exact (hmem s hs).1)
  (fun i hi=>?_) hP (fun s hs=>by simp only [(hmem s hs).2]) a5 a1 ⟨(hInv.drew).raise (n:=σ.n) (c:=σ.c) (ob:=σ.ob) (Nat.le_add_right _ _),hE.ext (Ext.drew m S w),hn,hdf.ext (Ext.drew m S w)⟩ (fun s hs hnew=>?_) fun m' S' w' a' q1 q2=>hQ m' S' _ w' ef a' q1 ((Ext.drew m S w).trans q2) a2)
 ·intro i o ho
  have hi:i<l.length:=by rw [hlen]; exact (Array.getElem?_eq_some_iff.1 ho).1
  have:=lT ops.toList l 0 hcl (by simpa using hlen.symm) i o l[i] (by simpa using ho) (List.getElem?_eq_getElem hi)
  simp only [p8,Bool.and_eq_true,List.all_eq_true,decide_eq_true_eq,Nat.zero_add,Bool.or_eq_true,List.any_eq_true] at this
  refine ⟨this.1,fun x hx=>?_⟩
  simp only [List.getElem?_eq_getElem hi] at hx
  rcases this.2 x hx with h | ⟨u,hu,h⟩
  ·exact .inl (by simpa using h)
  ·refine .inr ⟨u,hu,?_⟩
   split at h
   ·rename_i q hq; simp only [hq]; simpa using h
   ·cases h
 ·constructor
  ·intro _
   have hi':i<L.length:=by rw [hLl,hlen]; exact hi
   exact ⟨L[i],List.getElem_mem hi',(hat i _ (List.getElem?_eq_getElem hi')).1⟩
  ·intro _; simp [Array.getD_eq_getD_getElem?,hi]
 ·simp only [Array.getD_eq_getD_getElem?] at hi
  by_cases h:i<ops.size <;> simp [h] at hi
 ·refine ⟨?_,?_⟩
  ·cases hv:m (σ.c+s.p) with
   | none=>rfl
   | some v=>have:=hInv.bh.fresh _ _ hv; omega
  ·rcases Bool.or_eq_true _ _ ▸ hk with h | h
   ·have:=(hmem s hs).1; have:k=l.length:=by simpa using h
    omega
   ·have:=List.all_eq_true.1 h s.o (by rw [←a3]; exact List.mem_map.2 ⟨s,hs,rfl⟩)
    rw [hnew] at this; cases this
end Go.Ab
