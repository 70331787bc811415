/- OWN WORK, put together by tools/asm.py, seat.py, mini.py. -/
import Derived.Test.YtcpckngdfjmbgaaGreatBaseL
namespace Go.Ab
open Go.RowKit
theorem aF {e e':Nat→AV} {x:AX} (h:∀ t∈x.lk,e' t=e t):x.ev e'=x.ev e:=by
 cases x with
 | t s=>exact h s (by simp [AX.lk])
 | c v=>rfl
theorem eB {e e':Nat→AV} {l:List AX} (h:∀ t∈KI l,e' t=e t):qp e' l=qp e l:=by
 unfold qp
 exact List.map_congr_left fun x hx=>aF fun t ht=>h t (List.mem_flatMap.2 ⟨x,hx,ht⟩)
theorem kf {e e':Nat→AV} {l:Option AX} (h:∀ t∈OM l,e' t=e t):DV e' l=DV e l:=by
 cases l with
 | none=>rfl
 | some x=>simp [DV,aF (x:=x) h]
theorem Ii {e e':Nat→AV} {l:List (Nat × Nat × AX)} (h:∀ t∈KI (l.map fun p=>p.2.2),e' t=e t):KL e' l=KL e l:=by
 unfold KL
 exact List.map_congr_left fun x hx=>by rw [aF fun t ht=>h t (List.mem_flatMap.2 ⟨x.2.2,List.mem_map.2 ⟨x,hx,rfl⟩,ht⟩)]
theorem kr {H:eJ} {op:aO} {e e':Nat→AV} (h:∀ t∈op.looks,e' t=e t):ar H op e'=ar H op e:=by
 funext σ K
 cases op <;> simp only [aO.looks,List.mem_append,or_imp,forall_and] at h <;> simp only [ar]
 case mv=>rw [aF h]
 case pick=>rw [aF h.1,aF h.2.1,aF h.2.2]
 case box=>rw [aF h]
 case build=>rw [Ii h]
 case lit=>rw [eB h]
 case load=>rw [aF h]
 case store=>rw [aF h.1,aF h.2]
 case ba=>rw [aF h]
 case bin=>rw [aF h.1,aF h.2]
 case F9=>rw [aF h.1,aF h.2]
 case eqs=>rw [aF h.1,aF h.2]
 case un=>rw [aF h]
 case conv=>rw [aF h]
 case H9=>rw [eB h]
 case fa=>rw [aF h]
 case bE=>rw [aF h.1,aF h.2]
 case ext=>rw [aF h]
 case len=>rw [aF h]
 case lens=>rw [aF h]
 case app=>rw [aF h.1,aF h.2]
 case Fa=>rw [aF h.1,eB h.2]
 case rm=>rw [aF h.1,kf h.2.1,kf h.2.2]
 case vQ=>rw [aF h.1,kf h.2.1,kf h.2.2]
 case call=>rw [eB h]
 case dF=>rw [aF h.1,eB h.2]
 case pu=>rw [eB h]
 case kW=>rw [aF h]
 case LL=>rw [aF h]
 case Lj=>rw [aF h.1,aF h.2]
 case Ga=>rw [aF h.1,aF h.2]
 case KM=>rw [aF h]
 case Iu=>rw [aF h]
 case Lw=>rw [aF h]
 case O2=>rw [aF h]
 case Ba=>rw [aF h.1,aF h.2]
 case Ev=>rw [aF h]
 case Ge=>rw [aF h.1,aF h.2.1,aF h.2.2.1,aF h.2.2.2]
 case Da=>rw [aF h.1,kf h.2.1,kf h.2.2]
 case dd=>rw [aF h.1,aF h.2.1,aF h.2.2]
 case ft=>rw [aF h.1,aF h.2]
 case LM=>rw [eB h]
theorem FL {op:BinOp} {x y:AV} {K:AV→Prop} (h:pL op x y K):∃ v,K v∧∀ K':AV→Prop,K' v→pL op x y K':=by
 unfold pL at h
 split at h
 ·cases op <;> simp only at h <;> (try exact h.elim) <;>
   first
   | exact ⟨_,h.2.2,fun K' hk=>⟨h.1,h.2.1,hk⟩⟩
   | exact ⟨_,h.2,fun K' hk=>⟨h.1,hk⟩⟩
 ·cases op <;> simp only at h <;> (try exact h.elim) <;>
   first
   | exact ⟨_,h.2,fun K' hk=>⟨h.1,hk⟩⟩
   | exact ⟨_,h,fun K' hk=>hk⟩
 ·exact h.elim
theorem qd {mx:Bool}:∀ {l:List AV} {x:AV} {K:AV→Prop},fb mx x l K→∃ v,K v∧∀ K':AV→Prop,K' v→fb mx x l K'
 | [],x,K,h=>by simp only [fb] at h; exact ⟨x,h,fun K' hk=>by simpa only [fb] using hk⟩
 | y :: r,x,K,h=>by
  unfold fb at h
  split at h
  ·rename_i heq; cases heq
  ·rename_i heq
   cases heq
   obtain ⟨hk,h⟩:=h
   obtain ⟨v,h1,h2⟩:=qd h
   exact ⟨v,h1,fun K' hK'=>by unfold fb; exact ⟨hk,h2 K' hK'⟩⟩
  ·exact h.elim
theorem gu {n:Nat} {lo hi:Option AV} {K:Nat→Nat→Prop} (h:oJ n lo hi K):∃ p q,p≤q∧K p q∧∀ K':Nat→Nat→Prop,K' p q→oJ n lo hi K':=by
 unfold oJ at h
 split at h
 ·exact ⟨0,n,Nat.zero_le _,h,fun K' hk=>hk⟩
 ·exact ⟨_,n,by omega,h.2.2,fun K' hk=>⟨h.1,h.2.1,hk⟩⟩
 ·exact ⟨0,_,Nat.zero_le _,h.2.2,fun K' hk=>⟨h.1,h.2.1,hk⟩⟩
 ·exact ⟨_,_,by omega,h.2.2.2,fun K' hk=>⟨h.1,h.2.1,h.2.2.1,hk⟩⟩
 ·exact h.elim
theorem Ir {n:Nat} {lo hi:Option AV} {K:Nat→Nat→Prop} (h:oJ n lo hi K):∃ p q,p≤n∧K p q∧∀ K':Nat→Nat→Prop,K' p q→oJ n lo hi K':=by
 unfold oJ at h
 split at h
 ·exact ⟨0,n,Nat.zero_le _,h,fun K' hk=>hk⟩
 ·exact ⟨_,n,by omega,h.2.2,fun K' hk=>⟨h.1,h.2.1,hk⟩⟩
 ·exact ⟨0,_,Nat.zero_le _,h.2.2,fun K' hk=>⟨h.1,h.2.1,hk⟩⟩
 ·exact ⟨_,_,by omega,h.2.2.2,fun K' hk=>⟨h.1,h.2.1,h.2.2.1,hk⟩⟩
 ·exact h.elim
theorem J6 {n c:Nat} (hn:n≤c) {lo hi:Option AV} {K:Nat→Nat→Prop} (h:w7 n c lo hi K):∃ p q,p≤c∧K p q∧∀ K':Nat→Nat→Prop,K' p q→w7 n c lo hi K':=by
 unfold w7 at h
 split at h
 ·exact ⟨0,n,Nat.zero_le _,h,fun K' hk=>hk⟩
 ·exact ⟨_,n,by omega,h.2.2,fun K' hk=>⟨h.1,h.2.1,hk⟩⟩
 ·exact ⟨0,_,Nat.zero_le _,h.2.2,fun K' hk=>⟨h.1,h.2.1,hk⟩⟩
 ·exact ⟨_,_,by omega,h.2.2.2,fun K' hk=>⟨h.1,h.2.1,h.2.2.1,hk⟩⟩
 ·exact h.elim
structure Pl (H:eJ) (op:aO) (e:Nat→AV) (ob:Nat→Option aU) (id g:Nat) (v:AV) (wr:Option (Nat × aU)):Prop where
 lU:∀ i∈dW wr,i∈op.lU e id
 run:∀ ob' n c,(∀ i∈op.dM e,ob' i=ob i)→(op.new=true→n=id∧c=g)→∀ K':AV→St→Prop,
  (∀ τ:St,τ.ob=eO ob' wr→(op.new=false→τ.n=n∧τ.c=c)→K' v τ)→ar H op e ⟨ob',n,c⟩ K'
section
variable {H : eJ} {e : Nat → AV} {ob : Nat → Option aU} {id g : Nat} {K : AV → St → Prop}
theorem aQ {op:aO} {v:AV} (_hn:op.new=false) (h:∀ σ' (K':AV→St→Prop),K' v σ'→ar H op e σ' K'):Pl H op e ob id g v none:=
 ⟨fun i hi=>by simp [dW] at hi,fun ob' n c _ _ K' hK=>h _ _ (hK _ rfl fun _=>⟨rfl,rfl⟩)⟩
theorem zB {op:aO} (hnd:op.nd=false) (hcall:op.cg e=none) (h:ar H op e ⟨ob,id,g⟩ K):∃ v wr τ,K v τ∧τ.ob=eO ob wr∧Pl H op e ob id g v wr:=by
 cases op with
 | mv x=>exact ⟨_,none,_,h,rfl,aQ rfl fun σ' K' hk=>hk⟩
 | pick c a b=>
  simp only [ar] at h
  generalize hc:c.ev e=cv at h
  unfold pS at h
  split at h
  ·rename_i t
   cases t with
   | true=>exact ⟨_,none,_,h.1 rfl,rfl,aQ rfl fun σ' K' hk=>by simp only [ar,hc,pS]; exact ⟨fun _=>hk,fun h=>by cases h⟩⟩
   | false=>exact ⟨_,none,_,h.2 rfl,rfl,aQ rfl fun σ' K' hk=>by simp only [ar,hc,pS]; exact ⟨fun h=>(by cases h),fun _=>hk⟩⟩
  ·exact h.elim
 | alloc es ty z=>
  refine ⟨_,some (id,_),_,h,rfl,⟨fun i hi=>by simpa [dW,aO.lU] using hi,fun ob' n c _ hn K' hK=>?_⟩⟩
  obtain ⟨rfl,rfl⟩:=hn rfl
  exact hK _ rfl fun h=>by simp [aO.new] at h
 | fA es ty=>
  refine ⟨_,some (id,_),_,h,rfl,⟨fun i hi=>by simpa [dW,aO.lU] using hi,fun ob' n c _ hn K' hK=>?_⟩⟩
  obtain ⟨rfl,rfl⟩:=hn rfl
  exact hK _ rfl fun h=>by simp [aO.new] at h
 | box es ty x=>
  obtain ⟨h1,h2,h⟩:=h
  refine ⟨_,some (id,_),_,h,rfl,⟨fun i hi=>by simpa [dW,aO.lU] using hi,fun ob' n c _ hn K' hK=>?_⟩⟩
  obtain ⟨rfl,rfl⟩:=hn rfl
  exact ⟨h1,h2,hK _ rfl fun h=>by simp [aO.new] at h⟩
 | build zs ps=>exact ⟨_,none,_,h.2,rfl,aQ rfl fun σ' K' hk=>⟨h.1,hk⟩⟩
 | lit mu es ty xs=>
  obtain ⟨h1,h⟩:=h
  cases mu with
  | true=>
   refine ⟨_,some (id,_),_,h,rfl,⟨fun i hi=>by simpa [dW,aO.lU] using hi,fun ob' n c _ hn K' hK=>?_⟩⟩
   obtain ⟨rfl,rfl⟩:=hn rfl
   exact ⟨h1,hK _ rfl fun h=>by simp [aO.new] at h⟩
  | false=>
   refine ⟨_,none,_,h,rfl,⟨fun i hi=>by simp [dW] at hi,fun ob' n c _ _ K' hK=>?_⟩⟩
   exact ⟨h1,hK _ rfl fun h=>by simp [aO.new] at h⟩
 | load ag sz x=>
  simp only [ar] at h
  generalize hx:x.ev e=xv at h
  unfold uM at h
  split at h
  ·obtain ⟨o,ho,h1,h2,h3,y,hy,hK⟩:=h
   refine ⟨_,none,_,hK,rfl,⟨fun i hi=>by simp [dW] at hi,fun ob' n c hr _ K' hk=>?_⟩⟩
   simp only [ar,hx,uM]
   exact ⟨o,by rw [hr _ (by simp [aO.dM,hx,AV.kK])]; exact ho,h1,h2,h3,y,hy,hk _ rfl fun _=>⟨rfl,rfl⟩⟩
  ·obtain ⟨h3,y,hy,hK⟩:=h
   exact ⟨_,none,_,hK,rfl,aQ rfl fun σ' K' hk=>by simp only [ar,hx,uM]; exact ⟨h3,y,hy,hk⟩⟩
  ·exact h.elim
 | store sz x v=>
  simp only [ar] at h
  generalize hx:x.ev e=xv at h
  unfold sQ at h
  split at h
  ·obtain ⟨o,ho,h1,h2,h3,h4,h5,h6,y,hy,hK⟩:=h
   refine ⟨_,some (_,_),_,hK,rfl,⟨fun i hi=>by simpa [dW,aO.lU,hx,AV.kK] using hi,fun ob' n c hr _ K' hk=>?_⟩⟩
   simp only [ar,hx,sQ]
   exact ⟨o,by rw [hr _ (by simp [aO.dM,hx,AV.kK])]; exact ho,h1,h2,h3,h4,h5,h6,y,hy,hk _ rfl fun _=>⟨rfl,rfl⟩⟩
  ·exact h.elim
 | ba x=>
  simp only [ar] at h
  generalize hx:x.ev e=xv at h
  unfold iL at h
  split at h
  ·exact ⟨_,none,_,h,rfl,aQ rfl fun σ' K' hk=>by simp only [ar,hx,iL]; exact hk⟩
  ·exact ⟨_,none,_,h,rfl,aQ rfl fun σ' K' hk=>by simp only [ar,hx,iL]; exact hk⟩
  ·exact ⟨_,none,_,h,rfl,aQ rfl fun σ' K' hk=>by simp only [ar,hx,iL]; exact hk⟩
  ·exact ⟨_,none,_,h,rfl,aQ rfl fun σ' K' hk=>by simp only [ar,hx,iL]; exact hk⟩
  ·exact h.elim
 | bin op x y=>
  have h:pL op (x.ev e) (y.ev e) (fun v=>K v ⟨ob,id,g⟩):=h
  obtain ⟨v,hv,hd⟩:=FL h
  exact ⟨v,none,_,hv,rfl,aQ rfl fun σ' K' hk=>hd (fun v=>K' v σ') hk⟩
 | F9 neg x y=>
  simp only [ar] at h
  generalize hx:x.ev e=xv at h
  generalize hy:y.ev e=yv at h
  unfold Fp at h
  split at h
  ·exact ⟨_,none,_,h,rfl,aQ rfl fun σ' K' hk=>by simp only [ar,hx,hy,Fp]; exact hk⟩
  ·exact h.elim
 | eqs neg n x y=>
  simp only [ar] at h
  generalize hx:x.ev e=xv at h
  generalize hy:y.ev e=yv at h
  unfold BO at h
  split at h
  ·obtain ⟨b,hb,hK⟩:=h
   exact ⟨_,none,_,hK,rfl,aQ rfl fun σ' K' hk=>by simp only [ar,hx,hy,BO]; exact ⟨b,hb,hk⟩⟩
  ·exact h.elim
 | un op x=>
  simp only [ar] at h
  generalize hx:x.ev e=xv at h
  unfold MX at h
  split at h
  ·exact ⟨_,none,_,h,rfl,aQ rfl fun σ' K' hk=>by simp only [ar,hx,MX]; exact hk⟩
  ·exact ⟨_,none,_,h,rfl,aQ rfl fun σ' K' hk=>by simp only [ar,hx,MX]; exact hk⟩
  ·exact h.elim
 | conv k x=>
  simp only [ar] at h
  generalize hx:x.ev e=xv at h
  unfold AI at h
  split at h
  ·exact ⟨_,none,_,h,rfl,aQ rfl fun σ' K' hk=>by simp only [ar,hx,AI]; exact hk⟩
  ·exact h.elim
 | LM f fs=>exact ⟨_,none,_,h.2,rfl,aQ rfl fun σ' K' hk=>⟨h.1,hk⟩⟩
 | H9 f caps=>exact ⟨_,none,_,h,rfl,aQ rfl fun σ' K' hk=>hk⟩
 | fa off x=>
  simp only [ar] at h
  generalize hx:x.ev e=xv at h
  unfold L4 at h
  split at h
  ·exact ⟨_,none,_,h,rfl,aQ rfl fun σ' K' hk=>by simp only [ar,hx,L4]; exact hk⟩
  ·exact ⟨_,none,_,h,rfl,aQ rfl fun σ' K' hk=>by simp only [ar,hx,L4]; exact hk⟩
  ·exact h.elim
 | bE es x i=>
  simp only [ar] at h
  generalize hx:x.ev e=xv at h
  generalize hi:i.ev e=iv at h
  unfold wJ at h
  split at h
  ·obtain ⟨h1,⟨o,ho,hg⟩,h2,h3,hK⟩:=h
   refine ⟨_,none,_,hK,rfl,⟨fun i hi=>by simp [dW] at hi,fun ob' n c hr _ K' hk=>?_⟩⟩
   simp only [ar,hx,hi,wJ]
   exact ⟨h1,⟨o,by rw [hr _ (by simp [aO.dM,hx,AV.kK])]; exact ho,hg⟩,h2,h3,hk _ rfl fun _=>⟨rfl,rfl⟩⟩
  ·obtain ⟨h1,h2,h3,hK⟩:=h
   exact ⟨_,none,_,hK,rfl,aQ rfl fun σ' K' hk=>by simp only [ar,hx,hi,wJ]; exact ⟨h1,h2,h3,hk⟩⟩
  ·obtain ⟨h1,h2,h3,hK⟩:=h
   exact ⟨_,none,_,hK,rfl,aQ rfl fun σ' K' hk=>by simp only [ar,hx,hi,wJ]; exact ⟨h1,h2,h3,hk⟩⟩
  ·obtain ⟨h1,h2,h3,hK⟩:=h
   exact ⟨_,none,_,hK,rfl,aQ rfl fun σ' K' hk=>by simp only [ar,hx,hi,wJ]; exact ⟨h1,h2,h3,hk⟩⟩
  ·exact h.elim
 | ext x i=>
  simp only [ar] at h
  generalize hx:x.ev e=xv at h
  unfold uS at h
  split at h
  ·obtain ⟨v,hv,hK⟩:=h
   exact ⟨_,none,_,hK,rfl,aQ rfl fun σ' K' hk=>by simp only [ar,hx,uS]; exact ⟨v,hv,hk⟩⟩
  ·exact h.elim
 | len x=>
  simp only [ar] at h
  generalize hx:x.ev e=xv at h
  unfold ik at h
  split at h
  ·exact ⟨_,none,_,h,rfl,aQ rfl fun σ' K' hk=>by simp only [ar,hx,ik]; exact hk⟩
  ·exact ⟨_,none,_,h,rfl,aQ rfl fun σ' K' hk=>by simp only [ar,hx,ik]; exact hk⟩
  ·exact ⟨_,none,_,h,rfl,aQ rfl fun σ' K' hk=>by simp only [ar,hx,ik]; exact hk⟩
  ·exact ⟨_,none,_,h,rfl,aQ rfl fun σ' K' hk=>by simp only [ar,hx,ik]; exact hk⟩
  ·exact ⟨_,none,_,h,rfl,aQ rfl fun σ' K' hk=>by simp only [ar,hx,ik]; exact hk⟩
  ·exact h.elim
 | lens x=>
  simp only [ar] at h
  generalize hx:x.ev e=xv at h
  unfold Ai at h
  split at h
  ·exact ⟨_,none,_,h,rfl,aQ rfl fun σ' K' hk=>by simp only [ar,hx,Ai]; exact hk⟩
  ·exact h.elim
 | Fa mx x xs=>
  obtain ⟨v,hv,hd⟩:=qd h
  exact ⟨v,none,_,hv,rfl,aQ rfl fun σ' K' hk=>hd _ hk⟩
 | vQ x lo hi=>
  simp only [ar,tN] at h
  generalize hx:x.ev e=xv at h
  unfold tM at h
  split at h
  ·obtain ⟨p,q,_,hK,hd⟩:=gu h
   exact ⟨_,none,_,hK,rfl,aQ rfl fun σ' K' hk=>by simp only [ar,tN,hx,tM]; exact hd _ hk⟩
  ·exact h.elim
 | rm es x lo hi=>
  simp only [ar,ji] at h
  generalize hx:x.ev e=xv at h
  unfold eK at h
  split at h
  ·obtain ⟨p,q,_,hK,hd⟩:=gu h
   exact ⟨_,none,_,hK,rfl,aQ rfl fun σ' K' hk=>by simp only [ar,ji,hx,eK]; exact hd _ hk⟩
  ·obtain ⟨h1,h⟩:=h
   obtain ⟨p,q,_,hK,hd⟩:=gu h
   exact ⟨_,none,_,hK,rfl,aQ rfl fun σ' K' hk=>by simp only [ar,ji,hx,eK]; exact ⟨h1,hd _ hk⟩⟩
  ·obtain ⟨h1,⟨o,ho,hg⟩,h⟩:=h
   obtain ⟨p,q,hpq,hK,hd⟩:=gu h
   by_cases hl:p=q
   ·refine ⟨_,none,_,hK.1 hl,rfl,⟨fun i hi=>by simp [dW] at hi,fun ob' n c hr _ K' hk=>?_⟩⟩
    simp only [ar,ji,hx,eK]
    exact ⟨h1,⟨o,by rw [hr _ (by simp [aO.dM,hx,AV.kK])]; exact ho,hg⟩,hd _ ⟨fun _=>hk _ rfl fun _=>⟨rfl,rfl⟩,fun h=>by omega⟩⟩
   ·refine ⟨_,none,_,hK.2 (by omega),rfl,⟨fun i hi=>by simp [dW] at hi,fun ob' n c hr _ K' hk=>?_⟩⟩
    simp only [ar,ji,hx,eK]
    exact ⟨h1,⟨o,by rw [hr _ (by simp [aO.dM,hx,AV.kK])]; exact ho,hg⟩,hd _ ⟨fun h=>absurd h hl,fun _=>hk _ rfl fun _=>⟨rfl,rfl⟩⟩⟩
  ·rename_i id' g' es' off n c
   obtain ⟨h1,h2,h⟩:=h
   obtain ⟨p,q,hpq,hK,hd⟩:=J6 (by omega) h
   by_cases hl:p=c-off
   ·exact ⟨_,none,_,hK.1 hl,rfl,aQ rfl fun σ' K' hk=>by simp only [ar,ji,hx,eK]; exact ⟨h1,h2,hd _ ⟨fun _=>hk,fun h=>by omega⟩⟩⟩
   ·exact ⟨_,none,_,hK.2 (by omega),rfl,aQ rfl fun σ' K' hk=>by simp only [ar,ji,hx,eK]; exact ⟨h1,h2,hd _ ⟨fun h=>absurd h hl,fun _=>hk⟩⟩⟩
  ·exact h.elim
 | Da es n x lo hi=>
  simp only [ar] at h
  generalize hx:x.ev e=xv at h
  unfold zk at h
  split at h
  ·obtain ⟨p,q,hpq,hK,hd⟩:=Ir h
   by_cases hl:p=n
   ·exact ⟨_,none,_,hK.1 hl,rfl,aQ rfl fun σ' K' hk=>by simp only [ar,zk,hx]; exact hd _ ⟨fun _=>hk,fun h=>by omega⟩⟩
   ·exact ⟨_,none,_,hK.2 (by omega),rfl,aQ rfl fun σ' K' hk=>by simp only [ar,zk,hx]; exact hd _ ⟨fun h=>absurd h hl,fun _=>hk⟩⟩
  ·exact h.elim
 | app es bytes ty x y=>
  simp only [ar] at h
  obtain ⟨h1,h2,h⟩:=h
  obtain ⟨l,hl,hel⟩:∃ l,(match x.ev e with
   | .nil=>l.length≤maxLen∧l.length * bytes≤140737488355328∧(l=[]→K .nil ⟨ob,id,g⟩)∧(l≠[]→K (.sl id g es 0 l.length) ((St.mk ob id g).push es ty l))
   | .sl id' g' es' off n=>es'=es∧off=0∧∃ o,ob id'=some o∧o.g=g'∧o.es=es∧o.ty=ty∧o.ro=false∧o.ap=true∧o.l.length=n∧
     n+l.length≤maxLen∧(n+l.length) * bytes≤140737488355328∧K (.sl id' g es 0 (n+l.length)) ((St.mk ob id g).renew id' o (o.l++l))
   | .fH id' g' es' off n c=>es'=es∧(l=[]→K (.fH id' g' es off n c) ⟨ob,id,g⟩)∧(l≠[]→∃ o,ob id'=some o∧o.g=g'∧o.es=es∧o.ro=false∧off+(n+l.length)≤o.l.length∧off+(n+l.length)≤c∧
     K (.fH id' g' es off (n+l.length) c) ((St.mk ob id g).put id' o (o.l.take (off+n)++l++o.l.drop (off+n+l.length))))
   | .fl es' l0=>es'=es∧(∀ z∈l0++l,z.cL=true)∧l0.length+l.length≤maxLen∧(l0.length+l.length) * bytes≤140737488355328∧K (.list es (l0++l)) ⟨ob,id,g⟩
   | _=>False)∧∀ (ob':Nat→Option aU) n c,(∀ i∈(y.ev e).kK,ob' i=ob i)→∀ Kl:List AV→Prop,Kl l→bY ⟨ob',n,c⟩ (y.ev e) Kl:=by
   generalize hy:y.ev e=yv at h
   unfold bY at h
   split at h
   ·exact ⟨_,h,fun ob' n c _ Kl hk=>hk⟩
   ·exact ⟨_,h,fun ob' n c _ Kl hk=>hk⟩
   ·obtain ⟨o,ho,a1,a2,a3,h⟩:=h
    exact ⟨_,h,fun ob' n c hr Kl hk=>⟨o,(hr _ (by simp [AV.kK])).trans ho,a1,a2,a3,hk⟩⟩
   ·obtain ⟨o,ho,a1,a2,a3,h⟩:=h
    exact ⟨_,h,fun ob' n c hr Kl hk=>⟨o,(hr _ (by simp [AV.kK])).trans ho,a1,a2,a3,hk⟩⟩
   ·exact h.elim
  generalize hx:x.ev e=xv at hl
  split at hl
  ·obtain ⟨b1,b2,b3,b4⟩:=hl
   by_cases hl0:l=[]
   ·refine ⟨_,none,_,b3 hl0,rfl,⟨fun i hi=>by simp [dW] at hi,fun ob' n c hr hn K' hk=>?_⟩⟩
    simp only [ar,hx,mT]
    exact ⟨h1,h2,hel ob' n c (fun i hi=>hr i (by simp [aO.dM,hi])) _ ⟨b1,b2,fun _=>hk _ rfl fun h=>by simp [aO.new] at h,fun h=>absurd hl0 h⟩⟩
   ·refine ⟨_,some (id,_),_,b4 hl0,rfl,⟨fun i hi=>by simpa [dW,aO.lU,hx,Mi] using hi,fun ob' n c hr hn K' hk=>?_⟩⟩
    obtain ⟨rfl,rfl⟩:=hn rfl
    simp only [ar,hx,mT]
    exact ⟨h1,h2,hel ob' n c (fun i hi=>hr i (by simp [aO.dM,hi])) _ ⟨b1,b2,fun h=>absurd h hl0,fun _=>hk _ rfl fun h=>by simp [aO.new] at h⟩⟩
  ·obtain ⟨rfl,rfl,o,ho,b1,b2,b3,b4,b5,b6,b7,b8,b9⟩:=hl
   refine ⟨_,some (_,_),_,b9,rfl,⟨fun i hi=>by simpa [dW,aO.lU,hx,Mi,AV.kK] using hi,fun ob' n c hr hn K' hk=>?_⟩⟩
   obtain ⟨rfl,rfl⟩:=hn rfl
   simp only [ar,hx,mT]
   exact ⟨h1,h2,hel ob' n c (fun i hi=>hr i (by simp [aO.dM,hi])) _ ⟨trivial,trivial,o,(hr _ (by simp [aO.dM,hx,AV.kK])).trans ho,b1,b2,b3,b4,b5,b6,b7,b8,hk _ rfl fun h=>by simp [aO.new] at h⟩⟩
  ·obtain ⟨rfl,c0,c1⟩:=hl
   by_cases b0:l=[]
   ·refine ⟨_,none,_,c0 b0,rfl,⟨fun i hi=>by simp [dW] at hi,fun ob' n c hr hn K' hk=>?_⟩⟩
    simp only [ar,hx,mT]
    exact ⟨h1,h2,hel ob' n c (fun i hi=>hr i (by simp [aO.dM,hi])) _ ⟨trivial,fun _=>hk _ rfl fun h=>by simp [aO.new] at h,fun h=>absurd b0 h⟩⟩
   obtain ⟨o,ho,b1,b2,b3,b4,b5,b9⟩:=c1 b0
   refine ⟨_,some (_,_),_,b9,rfl,⟨fun i hi=>by simpa [dW,aO.lU,hx,Mi,AV.kK] using hi,fun ob' n c hr hn K' hk=>?_⟩⟩
   obtain ⟨rfl,rfl⟩:=hn rfl
   simp only [ar,hx,mT]
   exact ⟨h1,h2,hel ob' n c (fun i hi=>hr i (by simp [aO.dM,hi])) _ ⟨trivial,fun h=>absurd h b0,fun _=>⟨o,(hr _ (by simp [aO.dM,hx,AV.kK])).trans ho,b1,b2,b3,b4,b5,hk _ rfl fun h=>by simp [aO.new] at h⟩⟩⟩
  ·obtain ⟨rfl,c0,c1,c2,c3⟩:=hl
   refine ⟨_,none,_,c3,rfl,⟨fun i hi=>by simp [dW] at hi,fun ob' n c hr hn K' hk=>?_⟩⟩
   simp only [ar,hx,mT]
   exact ⟨h1,h2,hel ob' n c (fun i hi=>hr i (by simp [aO.dM,hi])) _ ⟨trivial,c0,c1,c2,hk _ rfl fun h=>by simp [aO.new] at h⟩⟩
  ·exact hl.elim
 | pu p xs=>
  obtain ⟨v,hv,hK⟩:=h
  exact ⟨v,none,_,hK,rfl,aQ rfl fun σ' K' hk=>⟨v,hv,hk⟩⟩
 | O2 x=>
  obtain ⟨v,hv,hK⟩:=h
  exact ⟨_,none,_,hK,rfl,aQ rfl fun σ' K' hk=>⟨v,hv,hk⟩⟩
 | Iu x=>
  simp only [ar,yN] at h
  obtain ⟨h1,h2,h⟩:=h
  generalize hx:x.ev e=xv at h h1 h2
  unfold bY at h
  split at h
  ·obtain ⟨s,hs,hK⟩:=h
   exact ⟨_,none,_,hK,rfl,aQ rfl fun σ' K' hk=>by simp only [ar,yN,hx,bY]; exact ⟨h1,h2,s,hs,hk⟩⟩
  ·obtain ⟨s,hs,hK⟩:=h
   exact ⟨_,none,_,hK,rfl,aQ rfl fun σ' K' hk=>by simp only [ar,yN,hx,bY]; exact ⟨h1,h2,s,hs,hk⟩⟩
  ·obtain ⟨o,ho,a1,a2,a3,s,hs,hK⟩:=h
   refine ⟨_,none,_,hK,rfl,⟨fun i hi=>by simp [dW] at hi,fun ob' n c hr _ K' hk=>?_⟩⟩
   simp only [ar,yN,hx,bY]
   exact ⟨h1,h2,o,by rw [hr _ (by simp [aO.dM,hx,AV.kK])]; exact ho,a1,a2,a3,s,hs,hk _ rfl fun _=>⟨rfl,rfl⟩⟩
  ·obtain ⟨o,ho,a1,a2,a3,s,hs,hK⟩:=h
   refine ⟨_,none,_,hK,rfl,⟨fun i hi=>by simp [dW] at hi,fun ob' n c hr _ K' hk=>?_⟩⟩
   simp only [ar,yN,hx,bY]
   exact ⟨h1,h2,o,by rw [hr _ (by simp [aO.dM,hx,AV.kK])]; exact ho,a1,a2,a3,s,hs,hk _ rfl fun _=>⟨rfl,rfl⟩⟩
  ·exact h.elim
 | Ge es x l h' m'=>
  simp only [ar] at h
  generalize hx:x.ev e=xv at h
  generalize hl:l.ev e=lv at h
  generalize hh:h'.ev e=hv at h
  generalize hm:m'.ev e=mv at h
  unfold zn at h
  split at h
  ·obtain ⟨h1,h2,h3,h4,h5,hK⟩:=h
   exact ⟨_,none,_,hK,rfl,aQ rfl fun σ' K' hk=>by simp only [ar,hx,hl,hh,hm,zn]; exact ⟨h1,h2,h3,h4,h5,hk⟩⟩
  ·obtain ⟨h1,h2,h3,h4,h5,hK⟩:=h
   exact ⟨_,none,_,hK,rfl,aQ rfl fun σ' K' hk=>by simp only [ar,hx,hl,hh,hm,zn]; exact ⟨h1,h2,h3,h4,h5,hk⟩⟩
  ·obtain ⟨h1,h2,h3,h4,h5,hK⟩:=h
   exact ⟨_,none,_,hK,rfl,aQ rfl fun σ' K' hk=>by simp only [ar,hx,hl,hh,hm,zn]; exact ⟨h1,h2,h3,h4,h5,hk⟩⟩
  ·exact h.elim
 | kW neg x=>simp [aO.nd] at hnd
 | Ba es bytes ty z x y=>simp [aO.nd] at hnd
 | Ev es bytes ty y=>simp [aO.nd] at hnd
 | nq=>
  refine ⟨_,some (id,⟨g,2,rZ,false,false,[]⟩),_,h,rfl,⟨fun i hi=>by simpa [dW,aO.lU] using hi,fun ob' n c _ hn K' hK=>?_⟩⟩
  obtain ⟨rfl,rfl⟩:=hn rfl
  exact hK _ rfl fun h=>by simp [aO.new] at h
 | dd x k v=>simp [aO.nd] at hnd
 | ft ok z x k=>simp [aO.nd] at hnd
 | LL mu es bytes ty z x=>
  simp only [ar] at h
  generalize hx:x.ev e=xv at h
  unfold H8 at h
  split at h
  ·obtain ⟨h1,h2,h3,h⟩:=h
   cases mu with
   | true=>
    rw [if_pos rfl] at h
    refine ⟨_,some (id,_),_,h,rfl,⟨fun i hi=>by simpa [dW,aO.lU] using hi,fun ob' n c _ hn K' hK=>?_⟩⟩
    obtain ⟨rfl,rfl⟩:=hn rfl
    simp only [ar,hx,H8]
    exact ⟨h1,h2,h3,by rw [if_pos trivial]; exact hK _ rfl fun h=>by simp [aO.new] at h⟩
   | false=>
    rw [if_neg (by simp)] at h
    refine ⟨_,none,_,h,rfl,⟨fun i hi=>by simp [dW] at hi,fun ob' n c _ _ K' hK=>?_⟩⟩
    simp only [ar,hx,H8]
    exact ⟨h1,h2,h3,by rw [if_neg (by simp)]; exact hK _ rfl fun h=>by simp [aO.new] at h⟩
  ·exact h.elim
 | Lj es x h=>simp [aO.nd] at hnd
 | Ga es x y=>simp [aO.nd] at hnd
 | KM es z x=>simp [aO.nd] at hnd
 | Lw mu ty x=>simp [aO.nd] at hnd
 | call f args=>simp [aO.cg] at hcall
 | dF x args=>
  simp only [ar] at h
  simp only [aO.cg] at hcall
  generalize hx:x.ev e=xv at h hcall
  unfold mQ at h
  split at h
  ·simp at hcall
  ·simp at hcall
  ·exact h.elim
end
structure SR where
 p:Nat
 o:aT
 dM:List Nat
 v:AV
 wr:Option (Nat × aU)
 e0:Nat→AV
 dH:Nat→Option aU
 md:Option (Nat × IntKind × Int × AV):=none
def gJ (ob:Nat→Option aU):Option (Nat × IntKind × Int × AV)→Nat→Option aU
 | none=>ob
 | some (id,kk,n,v)=>bd ob id ((ob id).map fun o=>{ o with l:=ew kk n v o.l })
def oV:Option (Nat × IntKind × Int × AV)→List Nat
 | none=>[]
 | some (id,_)=>[id]
def An (n:Int) (l:List AV):Bool:=l.any fun y=>decide (n=keyOf y)
def Ck (ob dH:Nat→Option aU):Option (Nat × IntKind × Int × AV)→Prop
 | none=>True
 | some (id,kk,n,_)=>∃ o o0,ob id=some o∧dH id=some o0∧o={ o0 with l:=o.l }∧cP kk o.l=true∧An n o.l=false
theorem im (n:Int) (y:AV) (l:List AV):An n (y :: l)=(decide (n=keyOf y)||An n l):=(rfl)
theorem qj (k:IntKind) (y:AV) (l:List AV):cP k (y :: l)=(xB k y&&cP k l):=(rfl)
theorem df (k:IntKind) (n:Int) (v:List AV):keyOf (.agg (.int k n :: v))=n:=(rfl)
theorem CH (k kk:IntKind) (n:Int) (v:AV):xB k (.agg [.int kk n,v])=decide (kk=k):=(rfl)
theorem cJ (k:IntKind) (n:Int) (v:AV) (z:AV) (s:List AV):ew k n v (z :: s)=if n=keyOf z then .agg [.int k n,v] :: s else if n<keyOf z then .agg [.int k n,v] :: z :: s else z :: ew k n v s:=(rfl)
theorem te {kk:IntKind} {n q:Int} {v:AV}:∀ {l:List AV},An q (ew kk n v l)=(decide (q=n)||An q l)
 | []=>by simp only [ew,im,df]
 | y :: r=>by
  have ih:=te (kk:=kk) (n:=n) (q:=q) (v:=v) (l:=r)
  rw [cJ]
  split
  ·rename_i h; simp only [im,df,←h]; cases decide (q=n) <;> rfl
  ·split
   ·simp only [im,df]
   ·simp only [im,ih]
    cases decide (q=keyOf y) <;> cases decide (q=n) <;> rfl
theorem qi {k kk:IntKind} {n:Int} {v:AV}:∀ {l:List AV},An n l=false→cP k (ew kk n v l)=(decide (kk=k)&&cP k l)
 | [],_=>by simp only [ew,qj,CH]
 | y :: r,h=>by
  rw [im,Bool.or_eq_false_iff,decide_eq_false_iff_not] at h
  have ih:=qi (k:=k) (kk:=kk) (n:=n) (v:=v) (l:=r) h.2
  rw [cJ,if_neg h.1]
  split
  ·simp only [qj,CH]
  ·simp only [qj,ih]
   cases xB k y <;> cases decide (kk=k) <;> rfl
theorem CB {k1 k2:IntKind} {n1 n2:Int} {v1 v2:AV} (h:n1≠n2):∀ {l:List AV},ew k2 n2 v2 (ew k1 n1 v1 l)=ew k1 n1 v1 (ew k2 n2 v2 l)
 | []=>by
  simp only [ew,df]
  repeat' split
  all_goals first | (exfalso; omega) | rfl
 | y :: r=>by
  have ih:=CB (k1:=k1) (k2:=k2) (v1:=v1) (v2:=v2) h (l:=r)
  rw [cJ k1 n1 v1 y r,cJ k2 n2 v2 y r]
  rcases Int.lt_trichotomy n1 (keyOf y) with h1 | h1 | h1 <;> rcases Int.lt_trichotomy n2 (keyOf y) with h2 | h2 | h2
  ·rw [if_neg (by omega),if_pos h1,if_neg (by omega),if_pos h2]
   simp only [cJ,df]
   repeat' split
   all_goals first | (exfalso; omega) | rfl
  ·rw [if_neg (by omega),if_pos h1,if_pos h2]
   simp only [cJ,df]
   repeat' split
   all_goals first | (exfalso; omega) | rfl
  ·rw [if_neg (by omega),if_pos h1,if_neg (by omega),if_neg (by omega)]
   simp only [cJ,df]
   repeat' split
   all_goals first | (exfalso; omega) | rfl
  ·rw [if_pos h1,if_neg (by omega),if_pos h2]
   simp only [cJ,df]
   repeat' split
   all_goals first | (exfalso; omega) | rfl
  ·exfalso; omega
  ·rw [if_pos h1,if_neg (by omega),if_neg (by omega)]
   simp only [cJ,df]
   repeat' split
   all_goals first | (exfalso; omega) | rfl
  ·rw [if_neg (by omega),if_neg (by omega),if_neg (by omega),if_pos h2]
   simp only [cJ,df]
   repeat' split
   all_goals first | (exfalso; omega) | rfl
  ·rw [if_neg (by omega),if_neg (by omega),if_pos h2]
   simp only [cJ,df]
   repeat' split
   all_goals first | (exfalso; omega) | rfl
  ·rw [if_neg (by omega),if_neg (by omega),if_neg (by omega),if_neg (by omega)]
   rw [cJ,cJ,if_neg (by omega),if_neg (by omega),if_neg (by omega),if_neg (by omega),ih]
def lC (ef:Nat→AV) (obf:Nat→Option aU):List SR→(Nat→AV)→(Nat→Option aU)→Prop
 | [],e,ob=>e=ef∧ob=obf
 | s :: L,e,ob=>(∀ t∈s.o.lk,e t=s.e0 t)∧(∀ i∈s.dM,ob i=s.dH i)∧Ck ob s.dH s.md∧lC ef obf L (bL e s.o.d s.v) (gJ (eO ob s.wr) s.md)
structure HQ (s t:SR):Prop where
 a:∀ d,s.o.d=some d→d∉t.o.lk
 b:∀ d,t.o.d=some d→d∉s.o.lk
 c:∀ d,s.o.d=some d→t.o.d≠some d
 r1:∀ i∈dW s.wr,i∉t.dM∧i∉dW t.wr
 r2:∀ i∈dW t.wr,i∉s.dM
 m1:∀ i∈oV s.md,i∉t.dM∧i∉dW t.wr
 m2:∀ i∈oV t.md,i∉s.dM∧i∉dW s.wr
 o1:∀ i∈oV s.md,i∉dW s.wr
 o2:∀ i∈oV t.md,i∉dW t.wr
theorem tY {e:Nat→AV} {d:Option Nat} {v:AV} {t:Nat} (h:∀ i,d=some i→i≠t):bL e d v t=e t:=by
 cases d with
 | none=>rfl
 | some i=>exact aa _ _ _ _ (Ne.symm (h i rfl))
theorem Jw {ob:Nat→Option aU} {wr:Option (Nat × aU)} {k:Nat} (h:∀ i∈dW wr,i≠k):eO ob wr k=ob k:=by
 cases wr with
 | none=>rfl
 | some x=>exact aa _ _ _ _ (Ne.symm (h x.1 (by simp [dW])))
theorem pO {α:Type} {f:Nat→α} {i j:Nat} {x y:α} (h:i≠j):bd (bd f i x) j y=bd (bd f j y) i x:=by
 funext k
 by_cases h1:k=i
 ·subst h1; rw [aa _ _ _ _ h,az,az]
 ·by_cases h2:k=j
  ·subst h2; rw [az,aa _ _ _ _ h1,az]
  ·rw [aa _ _ _ _ h2,aa _ _ _ _ h1,aa _ _ _ _ h1,aa _ _ _ _ h2]
theorem Cu {e:Nat→AV} {d d':Option Nat} {v v':AV} (h:∀ i,d=some i→d'≠some i):bL (bL e d v) d' v'=bL (bL e d' v') d v:=by
 cases d with
 | none=>rfl
 | some i=>
  cases d' with
  | none=>rfl
  | some j=>exact pO fun hh=>h i rfl (by rw [hh])
theorem Ia {ob:Nat→Option aU} {x y:Option (Nat × aU)} (h:∀ i∈dW x,i∉dW y):eO (eO ob x) y=eO (eO ob y) x:=by
 cases x with
 | none=>rfl
 | some i=>
  cases y with
  | none=>rfl
  | some j=>exact pO fun hh=>h i.1 (by simp [dW]) (by rw [hh]; simp [dW])
section
variable {ef : Nat → AV} {obf : Nat → Option aU}
theorem Aj {ob:Nat→Option aU} {md:Option (Nat × IntKind × Int × AV)} {k:Nat} (h:∀ i∈oV md,i≠k):gJ ob md k=ob k:=by
 cases md with
 | none=>rfl
 | some x=>exact aa _ _ _ _ (Ne.symm (h x.1 (by simp [oV])))
theorem ta {ob:Nat→Option aU} {x:Option (Nat × aU)} {y:Option (Nat × IntKind × Int × AV)} (h:∀ i∈oV y,i∉dW x):eO (gJ ob y) x=gJ (eO ob x) y:=by
 cases x with
 | none=>rfl
 | some i=>
  cases y with
  | none=>rfl
  | some j=>
   have hne:i.1≠j.1:=fun hh=>h j.1 (by simp [oV]) (by simp [dW,hh])
   simp only [eO,gJ]
   rw [aa _ _ _ _ (Ne.symm hne)]
   exact pO (Ne.symm hne)
theorem Ck.off {ob ob' dH:Nat→Option aU} {md:Option (Nat × IntKind × Int × AV)} (h:Ck ob dH md) (hk:∀ i∈oV md,ob' i=ob i):Ck ob' dH md:=by
 cases md with
 | none=>trivial
 | some x=>
  obtain ⟨o,o0,h1,h2⟩:=h
  exact ⟨o,o0,by rw [hk x.1 (by simp [oV])]; exact h1,h2⟩
theorem LP {ob ob1 ob2:Nat→Option aU} {x y:Option (Nat × IntKind × Int × AV)} (h1:Ck ob ob1 x) (h2:Ck (gJ ob x) ob2 y) :
  Ck ob ob2 y∧Ck (gJ ob y) ob1 x∧gJ (gJ ob x) y=gJ (gJ ob y) x:=by
 cases x with
 | none=>exact ⟨h2,trivial,rfl⟩
 | some x=>
  cases y with
  | none=>exact ⟨trivial,h1,rfl⟩
  | some y=>
   obtain ⟨i,k1,n1,v1⟩:=x
   obtain ⟨j,k2,n2,v2⟩:=y
   obtain ⟨o1,o1',a1,a2,a3,a4,a5⟩:=h1
   obtain ⟨o2,o2',b1,b2,b3,b4,b5⟩:=h2
   by_cases hij:j=i
   ·subst hij
    simp only [gJ,a1,Option.map_some,az,Option.some.injEq] at b1
    subst b1
    simp only at b3 b4 b5
    rw [qi a5,Bool.and_eq_true,decide_eq_true_eq] at b4
    rw [te,Bool.or_eq_false_iff,decide_eq_false_iff_not] at b5
    obtain ⟨rfl,b4⟩:=b4
    refine ⟨⟨o1,o2',a1,b2,?_,b4,b5.2⟩,⟨{ o1 with l:=ew k1 n2 v2 o1.l },o1',by simp [gJ,a1,bd],a2,?_,?_,?_⟩,?_⟩
    ·have:=congrArg (fun o:aU=>{ o with l:=o1.l }) b3
     exact this
    ·have:=congrArg (fun o:aU=>{ o with l:=ew k1 n2 v2 o1.l }) a3
     exact this
    ·rw [qi b5.2]; simp [a4]
    ·rw [te,a5]; simp [Ne.symm b5.1]
    ·simp only [gJ,a1,Option.map_some,az]
     funext q
     by_cases hq:q=j
     ·subst hq
      rw [az,az,CB (Ne.symm b5.1)]
     ·rw [aa _ _ _ _ hq,aa _ _ _ _ hq,aa _ _ _ _ hq,aa _ _ _ _ hq]
   ·refine ⟨⟨o2,o2',by rw [←b1,Aj (by simp [oV]; exact fun h=>hij h.symm)],b2,b3,b4,b5⟩,⟨o1,o1',by rw [Aj (by simp [oV]; exact hij)]; exact a1,a2,a3,a4,a5⟩,?_⟩
    simp only [gJ]
    rw [aa _ _ _ _ hij,aa _ _ _ _ (Ne.symm hij)]
    exact pO (Ne.symm hij)
theorem lC.swap {s t:SR} {L:List SR} {e:Nat→AV} {ob:Nat→Option aU} (hA:HQ s t) (h:lC ef obf (s :: t :: L) e ob):lC ef obf (t :: s :: L) e ob:=by
 obtain ⟨h1,h2,hm,h3,h4,hm',h5⟩:=h
 have hO:=Ia (ob:=ob) (x:=s.wr) (y:=t.wr) fun i hi=>(hA.r1 i hi).2
 have cs:∀ A,eO (gJ A s.md) t.wr=gJ (eO A t.wr) s.md:=fun A=>ta fun i hi=>(hA.m1 i hi).2
 have ct:∀ A,eO (gJ A t.md) s.wr=gJ (eO A s.wr) t.md:=fun A=>ta fun i hi=>(hA.m2 i hi).2
 have cs':∀ A,eO (gJ A s.md) s.wr=gJ (eO A s.wr) s.md:=fun A=>ta hA.o1
 have off:∀ {A:Nat→Option aU} {wr:Option (Nat × aU)} {i:Nat},i∉dW wr→eO A wr i=A i:=fun h=>Jw fun j hj e=>h (e ▸ hj)
 have offM:∀ {A:Nat→Option aU} {md:Option (Nat × IntKind × Int × AV)} {i:Nat},i∉oV md→gJ A md i=A i:=fun h=>Aj fun j hj e=>h (e ▸ hj)
 obtain ⟨q1,q2,q3⟩:=LP (ob:=eO (eO ob s.wr) t.wr) (hm.off fun i hi=>by rw [off (hA.m1 i hi).2,off (hA.o1 i hi)]) (hm'.off fun i hi=>by rw [←cs,off (hA.o2 i hi)])
 refine ⟨fun k hk=>?_,fun i hi=>?_,q1.off fun i hi=>by rw [off (hA.o2 i hi),off (hA.m2 i hi).2],fun k hk=>?_,fun i hi=>?_,?_,?_⟩
 ·rw [←h3 k hk,tY fun i hi hik=>hA.a i hi (hik ▸ hk)]
 ·rw [←h4 i hi,offM fun h=>(hA.m1 i h).1 hi,off fun h=>(hA.r1 i h).1 hi]
 ·rw [tY fun i hi hik=>hA.b i hi (hik ▸ hk)]; exact h1 k hk
 ·rw [offM fun h=>(hA.m2 i h).1 hi,off fun h=>hA.r2 i h hi]; exact h2 i hi
 ·refine q2.off fun i hi=>?_
  rw [hO,←ct,off (hA.o1 i hi)]
 ·rw [←Cu hA.c,ct,←hO,←q3,←cs]; exact h5
theorem lC.front {s:SR} {B:List SR}:∀ {A:List SR} {e:Nat→AV} {ob:Nat→Option aU},(∀ u∈A,HQ u s)→lC ef obf (A++s :: B) e ob→lC ef obf (s :: (A++B)) e ob
 | [],e,ob,_,h=>h
 | u :: A,e,ob,hA,h=>by
  obtain ⟨h1,h2,hm,h3⟩:=h
  have h4:=lC.front (fun x hx=>hA x (List.mem_cons_of_mem _ hx)) h3
  exact lC.swap (hA u (List.mem_cons_self ..)) ⟨h1,h2,hm,h4⟩
end
section
variable {P : Program} {W : World} {O S0 : Nat → Prop} {ops : Array Oper} {Q : Exit → Act → World → Prop} {n n0 c0 nn cc : Nat}
def Ez (P:Program) (W:World) (O S0:Nat→Prop) (ops:Array Oper) (Q:Exit→Act→World→Prop) (n c0 nn cc:Nat) (s:SR):Prop:=
 ∀ (m:Mp) (S:Nat→Prop) (w:World) (e:Nat→AV) (ob:Nat→Option aU) (a:Act) (K:Act→World→Prop),(∀ t∈s.o.lk,e t=s.e0 t)→(∀ i∈s.dM,ob i=s.dH i)→Ck ob s.dH s.md→
  lR W O S0 m S ⟨ob,nn,cc⟩ w n e a→(s.o.op.new=true→m (c0+s.p)=none∧c0+s.p<cc)→
  (∀ m' S' w' a',lR W O S0 m' S' ⟨gJ (eO ob s.wr) s.md,nn,cc⟩ w' n (bL e s.o.d s.v) a'→Ext m S w m' S' w'→(∀ g,m' g≠m g→s.o.op.new=true∧g=c0+s.p)→K a' w')→wpOp P ops Q s.p K a w
theorem tI {m:Mp} {S:Nat→Prop} {w:World} {e:Nat→AV} {a:Act} {j s:Nat} {b:Bool} (hE:bq m S w e a.tmps) (hn:a.tmps.size=n) (hs:(ops[j]?).bind (·.dst)=some s) (hsn:s<n) (hb:e s=.bool b) :
  yielded ops a.tmps j=some b:=by
 have hv:=hE s
 rw [hb] at hv
 have hv:=hv.of_bool
 have hlt:s<a.tmps.size:=by rw [hn]; exact hsn
 have h3:a.tmps[s]?=some (.bool b):=by
  simp only [Array.getD_eq_getD_getElem?] at hv
  rw [Array.getElem?_eq_getElem hlt] at hv ⊢
  simpa using hv
 simp [yielded,hs,h3]
theorem Bh {m:Mp} {S:Nat→Prop} {w:World} {e:Nat→AV} {a:Act} {j s:Nat} (hE:bq m S w e a.tmps) (hn:a.tmps.size=n) (hs:(ops[j]?).bind (·.dst)=some s) (hsn:s<n) (hb:e s=.tuple []) :
  yielded ops a.tmps j=none:=by
 have hv:=hE s
 rw [hb] at hv
 obtain ⟨vs,hv,_⟩:=hv.p8
 have hlt:s<a.tmps.size:=by rw [hn]; exact hsn
 have h3:a.tmps[s]?=some (.tuple vs):=by
  simp only [Array.getD_eq_getD_getElem?] at hv
  rw [Array.getElem?_eq_getElem hlt] at hv ⊢
  simpa using hv
 simp [yielded,hs,h3]
def F8 (r:aT) (e:Nat→AV):Prop:=match r.gd with
 | none=>True
 | some (s,w)=>e s=.bool w
theorem mV {m:Mp} {S:Nat→Prop} {w:World} {mt af:List Nat} {e:Nat→AV} {a:Act} {o:Oper} {r:aT} (hE:bq m S w e a.tmps) (hn:a.tmps.size=n) (hc:cS P mt n ops af o=some r) (hg:F8 r e) :
  Region.wanted o (yielded ops a.tmps)=true:=by
 obtain ⟨_,_,_,hg'⟩:=bV hc
 rcases hg' with ⟨h1,h2⟩ | ⟨j,wnt,s,h1,hs,hsn,h2⟩
 ·simp [Region.wanted,h1]
 ·unfold F8 at hg
  rw [h2] at hg
  simp [Region.wanted,h1,tI hE hn hs hsn hg]
theorem zi {m:Mp} {S:Nat→Prop} {w:World} {mt af:List Nat} {e:Nat→AV} {a:Act} {o:Oper} {r:aT} {s:Nat} {b:Bool} (hE:bq m S w e a.tmps) (hn:a.tmps.size=n) (hc:cS P mt n ops af o=some r) (hg:r.gd=some (s,b)) (he:e s=.bool (!b)∨e s=.tuple []) :
  Region.wanted o (yielded ops a.tmps)=false:=by
 obtain ⟨_,_,_,hg'⟩:=bV hc
 rcases hg' with ⟨h1,h2⟩ | ⟨j,wnt,s',h1,hs,hsn,h2⟩
 ·rw [hg] at h2; cases h2
 ·rw [hg] at h2
  simp only [Option.some.injEq,Prod.mk.injEq] at h2
  obtain ⟨rfl,rfl⟩:=h2
  rcases he with he | he
  ·simp [Region.wanted,h1,tI hE hn hs hsn he]
  ·simp [Region.wanted,h1,Bh hE hn hs hsn he]
theorem FC {mu:Bool} {ty:TypeId} {o:Oper} {op:aO} (hc:cU P mu ty o.op=some op) (h:cl o=true):(∃ f as,op=.call f as)∨∃ s as,op=.dF (.t s) as:=by
 unfold cl at h
 split at h
 ·rename_i c ho
  rw [ho] at hc
  simp only [cU] at hc
  split at hc
  all_goals (try (rename_i hcal _; rw [hcal] at h; simp at h; done))
  all_goals (try (rename_i hcal; rw [hcal] at h; simp at h; done))
  ·rename_i f as hcal has
   split at hc
   ·cases hc; exact .inl ⟨_,_,rfl⟩
   ·cases hc
  ·rename_i s as hcal has
   cases hc; exact .inr ⟨_,_,rfl⟩
  ·cases hc
 ·cases h
theorem AK {mu:Bool × Bool} {ty:TypeId} {o:Oper} {op:aO} (hc:tl P mu ty o.op=some op) (h:cl o=true):(∃ f as,op=.call f as)∨∃ s as,op=.dF (.t s) as:=by
 rcases FC hc h with ⟨f,as,rfl⟩ | ⟨s,as,rfl⟩
 ·exact .inl ⟨f,as,rfl⟩
 ·exact .inr ⟨s,as,rfl⟩
theorem Eu {op:aO} {e e':Nat→AV} (h:∀ t∈op.looks,e' t=e t):op.cg e'=op.cg e:=by
 cases op <;> simp only [aO.cg]
 case call=>rw [eB h]
 case dF=>
  simp only [aO.looks,List.mem_append,or_imp,forall_and] at h
  rw [aF h.1,eB h.2]
theorem FY {H:eJ} {op:aO} {e:Nat→AV} {f:Nat} {args:List AV} (h:op.cg e=some (f,args)) (σ:St) (K:AV→St→Prop):ar H op e σ K=H f args σ K:=by
 cases op <;> simp only [aO.cg] at h <;> try cases h
 case call=>rfl
 case dF x as=>
  split at h
  ·rename_i f' caps hx
   cases h
   simp only [ar,hx,mQ]
  ·rename_i f' caps hx
   cases h
   simp only [ar,hx,mQ]
  ·cases h
theorem qh (r:aT) {t:Nat} (h:t∈r.op.looks):t∈r.lk:=by
 unfold aT.lk
 split
 ·exact List.mem_cons_of_mem _ h
 ·exact h
theorem wM {r:aT} {e e':Nat→AV} (h:∀ t∈r.lk,e' t=e t) (hg:F8 r e):F8 r e':=by
 unfold F8 at hg ⊢
 split
 ·trivial
 ·rename_i s w hgd
  rw [hgd] at hg
  rw [h s (by simp [aT.lk,hgd])]
  exact hg
theorem Fo {mt af:List Nat} {o:Oper} {r:aT} {p:Nat} {e0:Nat→AV} {dH:Nat→Option aU} {s:Nat} {b:Bool} (ho:ops[p]?=some o) (hc:cS P mt n ops af o=some r) (hg:r.gd=some (s,b)) (he:e0 s=.bool (!b)∨e0 s=.tuple []) :
  Ez P W O S0 ops Q n c0 nn cc ⟨p,r,[],.tuple [],none,e0,dH,none⟩:=by
 intro m S w e ob a K h1 _ _ hI _ hK
 obtain ⟨hInv,hE,hn,hdf⟩:=hI
 have hes:e s=.bool (!b)∨e s=.tuple []:=by
  have:e s=e0 s:=h1 s (by simp [aT.lk,hg])
  rw [this]; exact he
 obtain ⟨_,hd,hdn,_⟩:=bV hc
 have hw:=zi hE hn hc hg hes
 unfold wpOp
 simp only [ho,hw,Bool.false_eq_true,if_false]
 obtain ⟨g1,g2,g3⟩:=bq.put hE hn hdn (VR.C6 (m:=m) (S:=S) (w:=w))
 exact hK m S w _ ⟨hInv,by simp only [hd]; exact g1,g2,by rw [g3]; exact hdf⟩ (Ext.refl m S w) fun g hg=>absurd rfl hg
theorem Ig {mt af:List Nat} {o:Oper} {r:aT} {p:Nat} {e0:Nat→AV} {dH:Nat→Option aU} {v:AV} {wr:Option (Nat × aU)} (ho:ops[p]?=some o) (hc:cS P mt n ops af o=some r) (hg:F8 r e0) (hcall:r.op.cg e0=none)
  (hD:Pl (HC P) r.op e0 dH (n0+p) (c0+p) v wr):Ez P W O S0 ops Q n c0 nn cc ⟨p,r,r.op.dM e0,v,wr,e0,dH,none⟩:=by
 intro m S w e ob a K h1 h2 _ hI hf hK
 obtain ⟨hInv,hE,hn,hdf⟩:=hI
 obtain ⟨⟨mu,hop⟩,hd,hdn,_⟩:=bV hc
 have hw:=mV hE hn hc (wM h1 hg)
 have hcong:=kr (H:=HC P) (op:=r.op) (e:=e0) (e':=e) fun t ht=>h1 t (qh r ht)
 unfold wpOp
 simp only [ho,hw,if_true]
 have fin:∀ g0,(∀ (m':Mp) (S':Nat→Prop) (w':World),Inv W O S0 m' S' ⟨eO ob wr,nn,cc⟩ w'→((∀ g,g≠g0→m' g=m g)∨cl o=true)→∀ g,m' g≠m g→r.op.new=true∧g=c0+p)→
   ∀ a' w',Good W O S0 m S w g0 o a (fun x τ=>x=v∧τ=⟨eO ob wr,nn,cc⟩) a' w'→K a' w':=by
  rintro g0 hm a' w' ⟨x,σ',m',S',u,rfl,⟨rfl,rfl⟩,hI',hX,hV,hcl⟩
  obtain ⟨g1,g2,g3⟩:=bq.put (hE.ext hX) hn hdn hV
  exact hK m' S' w' _ ⟨hI',by simp only [hd]; exact g1,g2,by rw [g3]; exact hdf.ext hX⟩ hX (hm m' S' w' hI' hcl)
 have hncl:cl o=true→False:=fun h=>by
  rcases AK hop h with ⟨f,as,hh⟩ | ⟨s,as,hh⟩
  ·rw [hh] at hcall; simp [aO.cg] at hcall
  ·rw [hh] at hcall
   have hr:=hD.run dH (n0+p) (c0+p) (fun _ _=>rfl) (fun _=>⟨rfl,rfl⟩) (fun _ _=>True) (fun _ _ _=>trivial)
   rw [hh] at hr
   simp only [ar,AX.ev] at hr
   simp only [aO.cg,AX.ev] at hcall
   unfold mQ at hr
   split at hr
   ·rename_i hx; simp [hx] at hcall
   ·rename_i hx; simp [hx] at hcall
   ·exact hr
 refine .inl ?_
 by_cases hnew:r.op.new=true
 ·obtain ⟨hf1,hf2⟩:=hf hnew
  refine Oper.wp_mono (fin (c0+p) fun m' S' w' _ hcl g hg=>?_) (Cr (N:=fun _=>nn) (C:=fun _=>cc) (id:=n0+p) (g0:=c0+p) hInv hf1 (fun g v hg=>hInv.bu.fresh g v hg) hf2 hE hop (fun h=>by rw [hnew] at h; cases h) fun _=>?_)
  ·rcases hcl with h | h
   ·exact ⟨hnew,Classical.byContradiction fun hne=>hg (h g hne)⟩
   ·exact (hncl h).elim
  ·rw [hcong]
   exact hD.run ob _ _ h2 (fun _=>⟨rfl,rfl⟩) _ fun τ hτ _=>⟨rfl,by rw [hτ]⟩
 ·have hnew:r.op.new=false:=by simpa using hnew
  refine Oper.wp_mono (fin cc fun m' S' w' hI' hcl g hg=>?_) (ko hInv hE hop ?_)
  ·rcases hcl with h | h
   ·refine absurd ?_ hg
    by_cases hgc:g=cc
    ·subst hgc; rw [cZ (σ:=⟨eO ob wr,nn,g⟩) hI'.bu.fresh,cZ (σ:=⟨ob,nn,g⟩) hInv.bu.fresh]
    ·exact h g hgc
   ·exact (hncl h).elim
  ·rw [hcong]
   exact hD.run ob nn cc h2 (fun h=>by rw [hnew] at h; cases h) _ fun τ hτ hnc=>⟨rfl,by obtain ⟨q1,q2⟩:=hnc hnew; cases τ; simp_all⟩
theorem VR.back {m m':Mp} {S S':Nat→Prop} {w w':World} (hle:m.le m') {a:AV} {v v0:Value} (h:VR m' S' w' a v) (h0:VR m S w a v0):VR m S' w' a v:=by
 induction h generalizing v0 with
 | pure h=>exact .pure h
 | sl h hn hs=>
  cases h0 with
  | pure h0=>cases h0
  | sl h1 hn1=>have:=hle _ _ h1; rw [h] at this; obtain rfl:=Option.some.inj this; exact .sl h1 hn hs
 | jq h=>
  cases h0 with
  | pure h0=>cases h0
  | jq h1=>have:=hle _ _ h1; rw [h] at this; cases this; exact .jq h1
 | ptr h=>
  cases h0 with
  | pure h0=>cases h0
  | ptr h1=>have:=hle _ _ h1; rw [h] at this; cases this; exact .ptr h1
 | fH h hn=>
  cases h0 with
  | pure h0=>cases h0
  | fH h1 hn1=>have:=hle _ _ h1; rw [h] at this; cases this; exact .fH h1 hn
 | zq h hn=>
  cases h0 with
  | pure h0=>cases h0
  | zq h1 hn1=>have:=hle _ _ h1; rw [h] at this; cases this; exact .zq h1 hn
 | agg hl _ ih=>
  obtain ⟨vs,rfl,hv⟩:=h0.ov
  exact .agg hl fun j y v hy hv'=>by obtain ⟨u,hu,hr⟩:=hv.get hy; exact ih j y v hy hv' hr
 | tuple hl _ ih=>
  obtain ⟨vs,rfl,hv⟩:=h0.p8
  exact .tuple hl fun j y v hy hv'=>by obtain ⟨u,hu,hr⟩:=hv.get hy; exact ih j y v hy hv' hr
 | func hl _ ih=>
  obtain ⟨vs,rfl,hv⟩:=h0.yT
  exact .func hl fun j y v hy hv'=>by obtain ⟨u,hu,hr⟩:=hv.get hy; exact ih j y v hy hv' hr
 | bC v=>exact .bC v
theorem Inv.back {m m':Mp} {S S':Nat→Prop} {w w':World} {ob:Nat→Option aU} {wr:Option (Nat × aU)} (h0:Inv W O S0 m S ⟨ob,nn,cc⟩ w) (hX:Ext m S w m' S' w') (h:Inv W O S0 m' S' ⟨eO ob wr,nn,cc⟩ w')
  (hwr:∀ id o',wr=some (id,o')→(∃ o,ob id=some o∧o.g=o'.g)∧∀ x∈o'.l,x.cL=true):Inv W O S0 m S' ⟨eO ob wr,nn,cc⟩ w':=by
 refine ⟨⟨h0.bu.fresh,fun k o ho=>?_,fun k k' o o' v v' b ho ho' hne hm hm'=>h.bu.iB k k' o o' v v' b ho ho' hne (hX.le _ _ hm) (hX.le _ _ hm'),h.bu.lt⟩,
  ⟨h.fr.os,h.fr.tape,h.fr.output,h.fr.size,h.fr.block,fun k o v b ho hro hm=>h.fr.own k o v b ho hro (hX.le _ _ hm),h.fr.sub⟩⟩
 obtain ⟨v1,h1,⟨hok,hes,xs,hown,hxs⟩,hb⟩:=h.bu.obj k o ho
 have old:ob k=some o→∃ v,m o.g=some v∧qP m S' w' o v∧∀ b,v.ownBlock=some b→(o.ro=true→S' b)∧(o.ro=false→¬S' b):=by
  intro hk
  obtain ⟨v0,g1,⟨_,_,xs0,_,hxs0⟩,_⟩:=h0.bu.obj k o hk
  have:=hX.le _ _ g1
  rw [h1] at this; obtain rfl:=Option.some.inj this
  refine ⟨v1,g1,⟨hok,hes,xs,hown,hxs.1,fun j y u hy hu=>?_⟩,hb⟩
  obtain ⟨u0,hu0,hr0⟩:=hxs0.get hy
  exact (hxs.2 j y u hy hu).back hX.le hr0
 cases wr with
 | none=>exact old ho
 | some x=>
  obtain ⟨id,o'⟩:=x
  obtain ⟨⟨oo,hoo,hgg⟩,hp⟩:=hwr id o' rfl
  by_cases e:k=id
  ·subst e
   simp only [eO,az,Option.some.injEq] at ho
   subst ho
   obtain ⟨v0,g1,_,_⟩:=h0.bu.obj k oo hoo
   rw [hgg] at g1
   have:=hX.le _ _ g1
   rw [h1] at this; obtain rfl:=Option.some.inj this
   refine ⟨v1,g1,⟨hok,hes,xs,hown,hxs.1,fun j y u hy hu=>?_⟩,hb⟩
   obtain ⟨x,hx,hyx⟩:=List.mem_flatMap.1 (List.mem_of_getElem? hy)
   exact .pure ((hxs.2 j y u hy hu).cL (wW (hp x hx) y hyx))
  ·simp only [eO,aa _ _ _ _ e] at ho
   exact old ho
theorem Ih {mt af:List Nat} {o:Oper} {r:aT} {p f:Nat} {args:List AV} {e0:Nat→AV} {dH:Nat→Option aU} {v:AV} {rd:List Nat} {wr:Option (Nat × aU)} (ho:ops[p]?=some o) (hc:cS P mt n ops af o=some r) (hg:F8 r e0)
  (hcall:r.op.cg e0=some (f,args)) (hD:Nk (HC P) f args dH v rd wr):Ez P W O S0 ops Q n c0 nn cc ⟨p,r,rd,v,wr,e0,dH,none⟩:=by
 intro m S w e ob a K h1 h2 _ hI _ hK
 obtain ⟨hInv,hE,hn,hdf⟩:=hI
 obtain ⟨⟨mu,hop⟩,hd,hdn,_⟩:=bV hc
 have hw:=mV hE hn hc (wM h1 hg)
 have hcall':r.op.cg e=some (f,args):=by rw [Eu fun t ht=>h1 t (qh r ht)]; exact hcall
 unfold wpOp
 simp only [ho,hw,if_true]
 obtain ⟨hpur,hD⟩:=hD
 have key:ar (HC P) r.op e ⟨ob,nn,cc⟩ (fun x τ=>x=v∧τ=⟨eO ob wr,nn,cc⟩):=by
  rw [FY hcall']
  cases wr with
  | none=>exact hD ob nn cc h2
  | some x=>exact hD.2.2.2 ob nn cc h2
 refine .inl (Oper.wp_mono ?_ (ko hInv hE hop key))
 rintro a' w' ⟨x,σ',m',S',u,rfl,⟨rfl,rfl⟩,hI',hX,hV,_⟩
 have hwr:∀ id o',wr=some (id,o')→(∃ o,ob id=some o∧o.g=o'.g)∧∀ x∈o'.l,x.cL=true:=by
  rintro id o' rfl
  obtain ⟨⟨o1,q1,q2,_⟩,q3,q4,_⟩:=hD
  exact ⟨⟨o1,by rw [h2 id q4]; exact q1,q2⟩,q3⟩
 have hI2:=hInv.back hX hI' hwr
 have hX2:Ext m S w m S' w':=⟨Mp.le_refl m,hX.sub,hX.bG⟩
 have hV2:VR m S' w' x u:=.pure (hV.cL hpur)
 obtain ⟨g1,g2,g3⟩:=bq.put (hE.ext hX2) hn hdn hV2
 exact hK m S' w' _ ⟨hI2,by simp only [hd]; exact g1,g2,by rw [g3]; exact hdf.ext hX2⟩ hX2 fun g hg=>absurd rfl hg
theorem JO {mt af:List Nat} {o:Oper} {r:aT} {p:Nat} {e0:Nat→AV} {dH:Nat→Option aU} {x k v:AX} {id g:Nat} {kq:IntKind} {q:Int} {o0:aU} (ho:ops[p]?=some o) (hc:cS P mt n ops af o=some r) (hg:F8 r e0)
  (hrop:r.op=.dd x k v) (hx:x.ev e0=.jq id g) (hk:k.ev e0=.int kq q) (bm:(v.ev e0).one=true) (ho0:dH id=some o0) (hg0:o0.g=g) (hro:o0.ro=false) :
  Ez P W O S0 ops Q n c0 nn cc ⟨p,r,[],.bC,none,e0,dH,some (id,kq,q,v.ev e0)⟩:=by
 intro m S w e ob a K h1 _ hmd hI _ hK
 obtain ⟨hInv,hE,hn,hdf⟩:=hI
 obtain ⟨⟨mu,hop⟩,hd,hdn,_⟩:=bV hc
 have hw:=mV hE hn hc (wM h1 hg)
 have hcong:=kr (H:=HC P) (op:=r.op) (e:=e0) (e':=e) fun t ht=>h1 t (qh r ht)
 obtain ⟨o1,o0',a1,a2,a3,a4,a5⟩:=hmd
 simp only at a2
 rw [ho0] at a2
 obtain rfl:=Option.some.inj a2
 unfold wpOp
 simp only [ho,hw,if_true]
 have key:ar (HC P) r.op e ⟨ob,nn,cc⟩ (fun x τ=>x=.bC∧τ=⟨gJ ob (some (id,kq,q,v.ev e0)),nn,cc⟩):=by
  rw [hcong,hrop]
  simp only [ar,hx,hk,qW]
  refine ⟨bm,o1,a1,by rw [a3]; exact hg0,by rw [a3]; exact hro,a4,trivial,?_⟩
  simp only [gJ,a1,Option.map_some,St.put]
 refine .inl (Oper.wp_mono ?_ (ko hInv hE hop key))
 rintro a' w' ⟨x',σ',m',S',u,rfl,⟨rfl,rfl⟩,hI',hX,hV,hcl⟩
 obtain ⟨g1,g2,g3⟩:=bq.put (hE.ext hX) hn hdn hV
 refine hK m' S' w' _ ⟨hI',by simp only [hd]; exact g1,g2,by rw [g3]; exact hdf.ext hX⟩ hX fun g hg=>?_
 rcases hcl with h | h
 ·refine absurd ?_ hg
  by_cases hgc:g=cc
  ·subst hgc; rw [cZ (σ:=⟨gJ ob (some (id,kq,q,v.ev e0)),nn,g⟩) hI'.bu.fresh,cZ (σ:=⟨ob,nn,g⟩) hInv.bu.fresh]
  ·exact h g hgc
 ·rcases AK hop h with ⟨f,as,hh⟩ | ⟨s,as,hh⟩ <;> rw [hrop] at hh <;> cases hh
end
section
variable {P : Program} {W : World} {O S0 : Nat → Prop} {ops : Array Oper} {Q : Exit → Act → World → Prop} {n n0 c0 k0 nn cc : Nat}
def JS (s t:SR):Prop:=s.p∈t.o.af∨yr+s.p∈t.o.af∨yr≤s.p∨((∀ i∈dW s.wr,i∉t.dM∧i∉dW t.wr)∧(∀ i∈dW t.wr,i∉s.dM)∧(∀ i∈oV s.md,i∉t.dM∧i∉dW t.wr)∧∀ i∈oV t.md,i∉s.dM∧i∉dW s.wr)
theorem uv {af:List Nat} {xs xs':List (Nat × Nat)} {id:Nat} (hx:∀ x∈xs',x∈xs) (h:cw af xs id):cw af xs' id:=fun x hx'=>h x (hx x hx')
theorem Am {n:Int}:∀ {l:List AV},mK n l=none→An n l=false
 | [],_=>rfl
 | y :: r,h=>by
  unfold mK at h
  split at h
  ·cases h
  ·rename_i hn
   rw [im,Am h]
   simp [hn]
theorem l6 {af:List Nat} {xs xs':List (Nat × Nat)} {ids ids':List Nat} (hx:∀ x∈xs',x∈xs) (hi:∀ i∈ids',i∈ids) (h:bz af xs ids):bz af xs' ids':=fun x hx'=>by
 rcases h x (hx x hx') with h | h
 ·exact .inl h
 ·exact .inr fun i hi'=>h i (hi i hi')
theorem xF {mt:List Nat}:∀ (rs:List aT) (os:List Oper) (cs:List (List Nat)) (p:Nat) (R V:List (Nat × Nat)) (e:Nat→AV) (σ:St) (K:(Nat→AV)→St→Prop),
  br P mt n ops cs os=some rs→(∀ k o,os[k]?=some o→ops[p+k]?=some o)→fY (HC P) n0 c0 k0 rs p K R V e σ→
  ∃ (L:List SR) (ef:Nat→AV) (obf:Nat→Option aU),lC ef obf L e σ.ob∧K ef ⟨obf,n0+k0,c0+k0⟩∧L.map (·.o)=rs∧L.map (·.p)=List.range' p rs.length∧(∀ s∈L,Ez P W O S0 ops Q n c0 nn cc s)∧
   (∀ s∈L,bz s.o.af V (s.dM++dW s.wr)∧bz s.o.af R (dW s.wr)∧(∀ i∈oV s.md,cw s.o.af V i∧cw s.o.af R i)∧∀ i∈oV s.md,i∉dW s.wr)∧L.Pairwise JS
 | [],os,cs,p,R,V,e,σ,K,hc,ho,h=>⟨[],e,σ.ob,⟨rfl,rfl⟩,h,rfl,rfl,fun s hs=>by simp at hs,fun s hs=>by simp at hs,.nil⟩
 | r :: rs,os,cs,p,R,V,e,σ,K,hc,ho,h=>by
  cases os with
  | nil=>simp [br] at hc
  | cons o os=>
   simp only [br] at hc
   split at hc
   ·rename_i r' rs' h1 h2
    simp only [Option.some.injEq,List.cons.injEq] at hc
    obtain ⟨rfl,rfl⟩:=hc
    have hop:ops[p]?=some o:=ho 0 o rfl
    have ho':∀ k o,os[k]?=some o→ops[p+1+k]?=some o:=fun k o hk=>by rw [Nat.add_assoc,Nat.add_comm 1 k]; exact ho (k+1) o hk
    -- one step,and what follows
    have one:∀ (s:SR) (R' V':List (Nat × Nat)) (τ:St),s.p=p→s.o=r'→s.e0=e→s.dH=σ.ob→Ez P W O S0 ops Q n c0 nn cc s→bz r'.af V (s.dM++dW s.wr)→bz r'.af R (dW s.wr)→(∀ i∈oV s.md,cw r'.af V i∧cw r'.af R i)→(∀ i∈oV s.md,i∉dW s.wr)→Ck σ.ob σ.ob s.md→
      (∀ x∈R,x∈R')→(∀ x∈V,x∈V')→(∀ i∈s.dM,(p,i)∈R')→(∀ i∈dW s.wr,(p,i)∈V')→(∀ i∈oV s.md,(yr+p,i)∈V')→τ.ob=gJ (eO σ.ob s.wr) s.md→fY (HC P) n0 c0 k0 rs' (p+1) K R' V' (bL e r'.d s.v) τ→
      ∃ (L:List SR) (ef:Nat→AV) (obf:Nat→Option aU),lC ef obf L e σ.ob∧K ef ⟨obf,n0+k0,c0+k0⟩∧L.map (·.o)=r' :: rs'∧L.map (·.p)=List.range' p (r' :: rs').length∧(∀ s∈L,Ez P W O S0 ops Q n c0 nn cc s)∧
       (∀ s∈L,bz s.o.af V (s.dM++dW s.wr)∧bz s.o.af R (dW s.wr)∧(∀ i∈oV s.md,cw s.o.af V i∧cw s.o.af R i)∧∀ i∈oV s.md,i∉dW s.wr)∧L.Pairwise JS:=by
     intro s R' V' τ hp hso hse hsb hex hm1 hm2 hm3 hm4 hm5 hR hV hR1 hV1 hV2 hτ hd
     obtain ⟨L,ef,obf,a1,a2,a3,a4,a5,a6,a7⟩:=xF rs' os cs.tail (p+1) R' V' _ τ K h2 ho' hd
     refine ⟨s :: L,ef,obf,⟨fun t _=>by rw [hse],fun i _=>by rw [hsb],by rw [hsb]; exact hm5,by rw [hso,←hτ]; exact a1⟩,a2,by simp [hso,a3],by simp [hp,a4,List.range'_succ],?_,?_,?_⟩
     ·intro u hu
      rcases List.mem_cons.1 hu with rfl | hu
      ·exact hex
      ·exact a5 u hu
     ·intro u hu
      rcases List.mem_cons.1 hu with rfl | hu
      ·rw [hso]; exact ⟨hm1,hm2,hm3,hm4⟩
      ·obtain ⟨b1,b2,b3,b4⟩:=a6 u hu
       exact ⟨l6 hV (fun _ h=>h) b1,l6 hR (fun _ h=>h) b2,fun i hi=>⟨uv hV (b3 i hi).1,uv hR (b3 i hi).2⟩,b4⟩
     ·refine .cons (fun u hu=>?_) a7
      obtain ⟨b1,b2,b3,b4⟩:=a6 u hu
      by_cases hin:s.p∈u.o.af
      ·exact .inl hin
      by_cases hin2:yr+s.p∈u.o.af
      ·exact .inr (.inl hin2)
      by_cases hin3:yr≤s.p
      ·exact .inr (.inr (.inl hin3))
      ·have hin':¬u.o.af.contains p=true:=by rw [hp] at hin; simpa using hin
       have hin2':¬u.o.af.contains (yr+p)=true:=by rw [hp] at hin2; simpa using hin2
       refine .inr (.inr (.inr ⟨fun i hi=>?_,fun i hi hs=>?_,fun i hi=>?_,fun i hi=>⟨fun hh=>?_,fun hh=>?_⟩⟩))
       ·have:=(b1 _ (hV1 i hi)).resolve_left hin'
        exact ⟨fun hh=>this i (List.mem_append_left _ hh) rfl,fun hh=>this i (List.mem_append_right _ hh) rfl⟩
       ·exact ((b2 _ (hR1 i hs)).resolve_left hin') i hi rfl
       ·have:=(b1 _ (hV2 i hi)).resolve_left hin2'
        exact ⟨fun hh=>this i (List.mem_append_left _ hh) rfl,fun hh=>this i (List.mem_append_right _ hh) rfl⟩
       ·rcases ((b3 i hi).2 _ (hR1 i hh)).resolve_left hin' with h | h
        ·exact h rfl
        ·rw [hp] at hin3; exact hin3 h
       ·rcases ((b3 i hi).1 _ (hV1 i hh)).resolve_left hin' with h | h
        ·exact h rfl
        ·rw [hp] at hin3; exact hin3 h
    have step:F8 r' e→tG (HC P) r'.op r'.af R V p (n0+p) (c0+p) (C3 (fY (HC P) n0 c0 k0 rs' (p+1) K) e r'.d) e σ.ob→
      ∃ (L:List SR) (ef:Nat→AV) (obf:Nat→Option aU),lC ef obf L e σ.ob∧K ef ⟨obf,n0+k0,c0+k0⟩∧L.map (·.o)=r' :: rs'∧L.map (·.p)=List.range' p (r' :: rs').length∧(∀ s∈L,Ez P W O S0 ops Q n c0 nn cc s)∧
       (∀ s∈L,bz s.o.af V (s.dM++dW s.wr)∧bz s.o.af R (dW s.wr)∧(∀ i∈oV s.md,cw s.o.af V i∧cw s.o.af R i)∧∀ i∈oV s.md,i∉dW s.wr)∧L.Pairwise JS:=by
     intro hg hd
     unfold tG at hd
     split at hd
     ·rename_i x k v hmp
      have hrop:r'.op=.dd x k v:=by
       unfold aO.pB at hmp
       split at hmp
       ·rename_i heq; cases hmp; exact heq
       ·cases hmp
      generalize hxv:x.ev e=X at hd
      generalize hkv:k.ev e=Y at hd
      unfold dmap at hd
      split at hd
      ·rename_i id g kq q
       obtain ⟨bm,m1,m2,o0,ho0,hg0,hro,hko,hfr,hk⟩:=hd
       exact one ⟨p,r',[],.bC,none,e,σ.ob,some (id,kq,q,v.ev e)⟩ R (V++[(yr+p,id)]) ⟨bd σ.ob id (some { o0 with l:=ew kq q (v.ev e) o0.l }),n0+p,c0+p⟩ rfl rfl rfl rfl (JO hop h1 hg hrop hxv hkv bm ho0 hg0 hro) (fun x _=>.inr fun i hi=>by simp [dW] at hi) (fun x _=>.inr fun i hi=>by simp [dW] at hi)
        (fun i hi=>by simp only [oV,List.mem_singleton] at hi; subst hi; exact ⟨m1,m2⟩) (fun i _=>by simp [dW]) ⟨o0,o0,ho0,ho0,rfl,hko,Am hfr⟩
        (fun _ h=>h) (fun x hx=>List.mem_append_left _ hx) (fun i hi=>by simp at hi) (fun i hi=>by simp [dW] at hi) (fun i hi=>by simp only [oV,List.mem_singleton] at hi; subst hi; simp) (by simp only [gJ,eO,ho0,Option.map_some]) hk
      ·exact hd.elim
     split at hd
     ·rename_i f args hcall
      obtain ⟨v,rd,wr,hC,m1,m2,hk⟩:=hd
      exact one ⟨p,r',rd,v,wr,e,σ.ob,none⟩ _ _ _ rfl rfl rfl rfl (Ih hop h1 hg hcall hC) m1 m2 (fun i hi=>by simp [oV] at hi) (fun i hi=>by simp [oV] at hi) trivial (fun x hx=>List.mem_append_left _ hx) (fun x hx=>List.mem_append_left _ hx)
       (fun i hi=>List.mem_append_right _ (List.mem_map.2 ⟨i,hi,rfl⟩)) (fun i hi=>List.mem_append_right _ (List.mem_map.2 ⟨i,hi,rfl⟩)) (fun i hi=>by simp [oV] at hi) rfl hk
     ·rename_i hcall
      obtain ⟨hnd,m1,m2,hr⟩:=hd
      obtain ⟨v,wr,τ,hk,hτ,hD⟩:=zB hnd hcall hr
      exact one ⟨p,r',r'.op.dM e,v,wr,e,σ.ob,none⟩ _ _ τ rfl rfl rfl rfl (Ig hop h1 hg hcall hD)
       (l6 (fun _ h=>h) (fun i hi=>by rcases List.mem_append.1 hi with h | h; exact List.mem_append_left _ h; exact List.mem_append_right _ (hD.lU i h)) m1) (l6 (fun _ h=>h) hD.lU m2) (fun i hi=>by simp [oV] at hi) (fun i hi=>by simp [oV] at hi) trivial
       (fun x hx=>List.mem_append_left _ hx) (fun x hx=>List.mem_append_left _ hx)
       (fun i hi=>List.mem_append_right _ (List.mem_map.2 ⟨i,hi,rfl⟩)) (fun i hi=>List.mem_append_right _ (List.mem_map.2 ⟨i,hD.lU i hi,rfl⟩)) (fun i hi=>by simp [oV] at hi) hτ hk
    simp only [fY] at h
    split at h
    ·rename_i hgd
     exact step (by simp [F8,hgd]) h
    ·rename_i s w hgd
     generalize hes:e s=g at h
     unfold tg at h
     split at h
     ·exact one ⟨p,r',[],.tuple [],none,e,σ.ob,none⟩ R V σ rfl rfl rfl rfl (Fo hop h1 hgd (.inr hes)) (fun x _=>.inr fun i hi=>by simp [dW] at hi) (fun x _=>.inr fun i hi=>by simp [dW] at hi) (fun i hi=>by simp [oV] at hi) (fun i hi=>by simp [oV] at hi) trivial
        (fun _ h=>h) (fun _ h=>h) (fun i hi=>by simp at hi) (fun i hi=>by simp [dW] at hi) (fun i hi=>by simp [oV] at hi) rfl h
     ·rename_i b
      have hb:e s=.bool b:=hes
      by_cases hbw:b=w
      ·exact step (by simp [F8,hgd,hb,hbw]) (h.1 hbw)
      ·have hbw':b=!w:=by cases b <;> cases w <;> simp_all
       exact one ⟨p,r',[],.tuple [],none,e,σ.ob,none⟩ R V σ rfl rfl rfl rfl (Fo hop h1 hgd (.inl (by rw [hb,hbw']))) (fun x _=>.inr fun i hi=>by simp [dW] at hi) (fun x _=>.inr fun i hi=>by simp [dW] at hi) (fun i hi=>by simp [oV] at hi) (fun i hi=>by simp [oV] at hi) trivial
        (fun _ h=>h) (fun _ h=>h) (fun i hi=>by simp at hi) (fun i hi=>by simp [dW] at hi) (fun i hi=>by simp [oV] at hi) rfl (h.2 hbw')
     ·exact h.elim
   ·cases hc
theorem ij {o:Oper} {u:Nat}:u∈direct o↔∃ e∈o.after,Region.binds .any e=true∧e.on=u:=by
 simp [direct,and_assoc]
def Rel (s t:SR):Prop:=s.p<t.p∧(s.p∈t.o.af∨HQ s t)
theorem JV {ef:Nat→AV} {obf:Nat→Option aU} (clo:Nat→List Nat) (hclo:∀ i o,ops[i]?=some o→(∀ u∈direct o,u<i)∧∀ x∈clo i,x∈direct o∨∃ u∈direct o,x∈clo u) :
  ∀ (fuel:Nat) (listed:Array Bool) (L:List SR) (m:Mp) (S:Nat→Prop) (w:World) (e:Nat→AV) (ob:Nat→Option aU) (a:Act),L.length≤fuel→listed.size=ops.size→
   (∀ i,i<ops.size→(listed.getD i true=false↔∃ s∈L,s.p=i))→(∀ s∈L,s.p<ops.size)→(∀ i,listed.getD i false=true→∀ x∈clo i,listed.getD x false=true)→
   L.Pairwise Rel→(∀ s∈L,s.o.af=clo s.p)→(∀ s∈L,Ez P W O S0 ops Q n c0 nn cc s)→lC ef obf L e ob→lR W O S0 m S ⟨ob,nn,cc⟩ w n e a→
   (∀ s∈L,s.o.op.new=true→m (c0+s.p)=none∧c0+s.p<cc)→(∀ m' S' w' a',lR W O S0 m' S' ⟨obf,nn,cc⟩ w' n ef a'→Ext m S w m' S' w'→Q .normal a' w')→wpAny P .any ops Q fuel listed a w:=by
 intro fuel
 have done:∀ (listed:Array Bool) (m:Mp) (S:Nat→Prop) (w:World) (e:Nat→AV) (ob:Nat→Option aU) (a:Act),lC ef obf [] e ob→lR W O S0 m S ⟨ob,nn,cc⟩ w n e a→(∀ m' S' w' a',lR W O S0 m' S' ⟨obf,nn,cc⟩ w' n ef a'→Ext m S w m' S' w'→Q .normal a' w')→Q .normal a w:=by
  rintro listed m S w e ob a ⟨rfl,rfl⟩ hI hQ
  exact hQ m S w a hI (Ext.refl m S w)
 have noReady:∀ (listed:Array Bool),(∀ i,i<ops.size→(listed.getD i true=false↔∃ s∈([]:List SR),s.p=i))→Region.ready .any ops listed=[]:=by
  intro listed h
  rw [List.eq_nil_iff_forall_not_mem]
  intro j hj
  obtain ⟨h1,o,ho,_⟩:=mem_ready.1 hj
  obtain ⟨s,hs,_⟩:=(h j (Array.getElem?_eq_some_iff.1 ho).1).1 h1
  simp at hs
 induction fuel with
 | zero=>
  intro listed L m S w e ob a hlen hsz hL hLlt hcl hP haf hex hch hI hf hQ
  obtain rfl:L=[]:=List.eq_nil_of_length_eq_zero (by omega)
  exact ⟨noReady listed hL,done listed m S w e ob a hch hI hQ⟩
 | succ fuel ih=>
  intro listed L m S w e ob a hlen hsz hL hLlt hcl hP haf hex hch hI hf hQ
  refine ⟨fun hnil=>?_,fun i hi=>?_⟩
  ·cases L with
   | nil=>exact done listed m S w e ob a hch hI hQ
   | cons s L=>
    exfalso
    have hs:s.p<ops.size:=hLlt s (List.mem_cons_self ..)
    have:s.p∈Region.ready .any ops listed:=by
     refine mem_ready.2 ⟨(hL s.p hs).2 ⟨s,List.mem_cons_self ..,rfl⟩,ops[s.p],Array.getElem?_eq_getElem hs,fun x hx hb=>?_⟩
     have hlt:=(hclo s.p _ (Array.getElem?_eq_getElem hs)).1 x.on (ij.2 ⟨x,hx,hb,rfl⟩)
     have hxs:x.on<ops.size:=by omega
     cases hv:listed.getD x.on true with
     | true=>rw [Array.getD_eq_getD_getElem?,Array.getElem?_eq_getElem (by omega)] at hv ⊢; simpa using hv
     | false=>
      obtain ⟨u,hu,hup⟩:=(hL x.on hxs).1 hv
      rcases List.mem_cons.1 hu with rfl | hu
      ·omega
      ·have:=(List.pairwise_cons.1 hP).1 u hu; have:=this.1; omega
    rw [hnil] at this
    simp at this
  ·obtain ⟨h1,o,ho,hdep⟩:=mem_ready.1 hi
   have hilt:i<ops.size:=(Array.getElem?_eq_some_iff.1 ho).1
   obtain ⟨s,hs,rfl⟩:=(hL i hilt).1 h1
   obtain ⟨A,B,rfl⟩:=List.append_of_mem hs
   have hcloL:∀ x∈clo s.p,listed.getD x false=true:=by
    intro x hx
    rcases (hclo s.p o ho).2 x hx with h | ⟨u,hu,hxu⟩
    ·obtain ⟨y,hy,hb,rfl⟩:=ij.1 h
     exact hdep y hy hb
    ·obtain ⟨y,hy,hb,rfl⟩:=ij.1 hu
     exact hcl _ (hdep y hy hb) x hxu
   have hA:∀ u∈A,HQ u s:=by
    intro u hu
    have hr:=(List.pairwise_append.1 hP).2.2 u hu s (List.mem_cons_self ..)
    rcases hr.2 with h | h
    ·exfalso
     rw [haf s hs] at h
     have h2:=hcloL _ h
     have hul:u∈A++s :: B:=List.mem_append_left _ hu
     have h3:=(hL u.p (hLlt u hul)).2 ⟨u,hul,rfl⟩
     rw [Array.getD_eq_getD_getElem?,Array.getElem?_eq_getElem (by have:=hLlt u hul; omega)] at h2 h3
     simp at h2 h3
     rw [h2] at h3; cases h3
    ·exact h
   obtain ⟨c1,c2,cm,c3⟩:=lC.front hA hch
   have hnd:∀ u∈A++B,u.p≠s.p:=by
    intro u hu he
    rcases List.mem_append.1 hu with hu | hu
    ·have:=((List.pairwise_append.1 hP).2.2 u hu s (List.mem_cons_self ..)).1; omega
    ·have:=((List.pairwise_cons.1 (List.pairwise_append.1 hP).2.1).1 u hu).1; omega
   have hsub:∀ u∈A++B,u∈A++s :: B:=fun u hu=>by
    rcases List.mem_append.1 hu with hu | hu
    ·exact List.mem_append_left _ hu
    ·exact List.mem_append_right _ (List.mem_cons_of_mem _ hu)
   refine hex s hs m S w e ob a _ c1 c2 cm hI (hf s hs) fun m' S' w' a' hI' hX hm=>?_
   refine ih (listed.setIfInBounds s.p true) (A++B) m' S' w' _ _ a' (by simp at hlen ⊢; omega) (by simpa using hsz) (fun j hj=>?_) (fun u hu=>hLlt u (hsub u hu)) (fun j hj x hx=>?_)
    (hP.sublist (by simp)) (fun u hu=>haf u (hsub u hu)) (fun u hu=>hex u (hsub u hu)) c3 hI' (fun u hu hnew=>?_) (fun m2 S2 w2 a2 q1 q2=>hQ m2 S2 w2 a2 q1 (hX.trans q2))
   ·by_cases hjs:j=s.p
    ·subst hjs
     constructor
     ·intro h; simp [Array.getD_eq_getD_getElem?,hsz,hilt] at h
     ·rintro ⟨u,hu,he⟩; exact absurd he (hnd u hu)
    ·rw [getD_set_ne true (Ne.symm hjs),hL j hj]
     constructor
     ·rintro ⟨u,hu,rfl⟩
      refine ⟨u,?_,rfl⟩
      rcases List.mem_append.1 hu with hu | hu
      ·exact List.mem_append_left _ hu
      ·rcases List.mem_cons.1 hu with rfl | hu
       ·exact absurd rfl hjs
       ·exact List.mem_append_right _ hu
     ·rintro ⟨u,hu,rfl⟩; exact ⟨u,hsub u hu,rfl⟩
   ·have key:∀ y,listed.getD y false=true→(listed.setIfInBounds s.p true).getD y false=true:=by
     intro y hy
     by_cases hys:y=s.p
     ·subst hys; simp [Array.getD_eq_getD_getElem?,hsz,hilt]
     ·rw [getD_set_ne false (Ne.symm hys)]; exact hy
    by_cases hjs:j=s.p
    ·subst hjs; exact key x (hcloL x hx)
    ·rw [getD_set_ne false (Ne.symm hjs)] at hj; exact key x (hcl j hj x hx)
   ·obtain ⟨f1,f2⟩:=hf u (hsub u hu) hnew
    refine ⟨?_,f2⟩
    refine Classical.byContradiction fun hne=>?_
    have hne':m' (c0+u.p)≠m (c0+u.p):=by rw [f1]; exact hne
    have:=(hm _ hne').2
    exact hnd u hu (by omega)
end
theorem xP {x y:aT} (h:tD x y=true):(∀ d,x.d=some d→d∉y.lk)∧(∀ d,y.d=some d→d∉x.lk)∧(∀ d,x.d=some d→y.d≠some d):=by
 simp only [tD,Bool.and_eq_true] at h
 obtain ⟨⟨h1,h2⟩,h3⟩:=h
 refine ⟨fun d hd=>?_,fun d hd=>?_,fun d hd hy=>?_⟩
 ·rw [hd] at h1; simpa [L9] using h1
 ·rw [hd] at h2; simpa [L9] using h2
 ·rw [hd,hy] at h3; simp [UP] at h3
theorem tK:∀ (L:List SR) (i:Nat),L.map (·.p)=List.range' i L.length→vK i (L.map (·.o))=true→L.Pairwise fun s t=>s.p<t.p∧(t.o.af.contains s.p=true∨tD s.o t.o=true)
 | [],_,_,_=>.nil
 | s :: L,i,hp,h=>by
  simp only [List.map_cons,List.length_cons,List.range'_succ,List.cons.injEq] at hp
  simp only [List.map_cons,vK,Bool.and_eq_true,List.all_eq_true,List.mem_map,forall_exists_index,and_imp,forall_apply_eq_imp_iff₂,Bool.or_eq_true] at h
  refine .cons (fun t ht=>⟨?_,by rw [hp.1]; exact h.1 t ht⟩) (tK L (i+1) hp.2 h.2)
  have:t.p∈L.map (·.p):=List.mem_map.2 ⟨t,ht,rfl⟩
  rw [hp.2,List.mem_range'_1] at this
  omega
theorem me {l:List aT}:∀ (os:List Oper) (rs:List aT) (i:Nat),kg l i os rs=true→os.length=rs.length→∀ (j:Nat) (o:Oper) (r:aT),os[j]?=some o→rs[j]?=some r→qx l (i+j) o r=true
 | [],rs,i,h,hl,j,o,r,ho,hr=>by simp at ho
 | o0 :: os,[],i,h,hl,j,o,r,ho,hr=>by simp at hr
 | o0 :: os,r0 :: rs,i,h,hl,0,o,r,ho,hr=>by
  simp only [kg,Bool.and_eq_true] at h
  simp only [List.getElem?_cons_zero,Option.some.injEq] at ho hr
  subst ho; subst hr
  exact h.1
 | o0 :: os,r0 :: rs,i,h,hl,j+1,o,r,ho,hr=>by
  simp only [kg,Bool.and_eq_true] at h
  have:=me os rs (i+1) h.2 (by simpa using hl) j o r (by simpa using ho) (by simpa using hr)
  rw [Nat.add_assoc,Nat.add_comm 1 j] at this
  exact this
theorem Inv.raise {W:World} {O S0:Nat→Prop} {m:Mp} {S:Nat→Prop} {ob:Nat→Option aU} {n c n' c':Nat} {w:World} (h:Inv W O S0 m S ⟨ob,n,c⟩ w) (hc:c≤c'):Inv W O S0 m S ⟨ob,n',c'⟩ w:=
 ⟨⟨fun g v hg=>Nat.lt_of_lt_of_le (h.bu.fresh g v hg) hc,h.bu.obj,h.bu.iB,h.bu.lt⟩,⟨h.fr.os,h.fr.tape,h.fr.output,h.fr.size,h.fr.block,h.fr.own,h.fr.sub⟩⟩
theorem iC {P:Program} {mt:List Nat} {n:Nat} {ops:Array Oper}:∀ {cs:List (List Nat)} {os:List Oper} {rs:List aT},br P mt n ops cs os=some rs→rs.length=os.length
 | _,[],rs,h=>by simp [br] at h; subst h; rfl
 | cs,o :: os,rs,h=>by
  simp only [br] at h
  split at h
  ·rename_i r rs' h1 h2
   simp only [Option.some.injEq] at h
   subst h
   simp [iC h2]
  ·cases h
theorem EW {P:Program} {W:World} {O S0:Nat→Prop} {ops:Array Oper} {Q:Exit→Act→World→Prop} {mt:List Nat} {n k:Nat} {l:List aT} {m:Mp} {S:Nat→Prop} {σ:St} {w:World} {e:Nat→AV} {a:Act} {K:(Nat→AV)→St→Prop}
  (hc:br P mt n ops (closure ops.toList) ops.toList=some l) (hok:GI ops.toList l k=true) (hI:lR W O S0 m S σ w n e a) (h:fY (HC P) σ.n σ.c k l 0 K [] [] e σ)
  (hQ:∀ m' S' σ' w' e' a',lR W O S0 m' S' σ' w' n e' a'→Ext m S w m' S' w'→K e' σ'→Q .normal a' w'):wpAny P .any ops Q ops.size (Array.replicate ops.size false) a { w with drawn:=w.drawn+1 }:=by
 obtain ⟨hInv,hE,hn,hdf⟩:=hI
 have hlen:=iC hc
 simp only [Array.length_toList] at hlen
 simp only [GI,Bool.and_eq_true] at hok
 obtain ⟨⟨⟨hk,hap⟩,hcl⟩,hsmall⟩:=hok
 simp only [decide_eq_true_eq] at hsmall
 obtain ⟨L,ef,obf,a1,a2,a3,a4,a5,a6,a7⟩:=xF (W:=W) (O:=O) (S0:=S0) (Q:=Q) (nn:=σ.n+k) (cc:=σ.c+k) l ops.toList _ 0 [] [] e σ K hc (fun j o ho=>by simpa using ho) h
 have hLl:L.length=l.length:=by rw [←a3]; simp
 have hst:=tK L 0 (by rw [hLl]; exact a4) (by rw [a3]; exact hap)
 have hat:∀ (j:Nat) (s:SR),L[j]?=some s→s.p=j∧l[j]?=some s.o:=by
  intro j s hs
  have h1:(L.map (·.p))[j]?=some s.p:=by simp [hs]
  have h2:(L.map (·.o))[j]?=some s.o:=by simp [hs]
  have hj:j<l.length:=by rw [←hLl]; exact (List.getElem?_eq_some_iff.1 hs).1
  rw [a4,List.getElem?_range' hj] at h1
  rw [a3] at h2
  exact ⟨by simp at h1; omega,h2⟩
 have hmem:∀ s∈L,s.p<l.length∧l[s.p]?=some s.o:=by
  intro s hs
  obtain ⟨j,hj⟩:=List.getElem?_of_mem hs
  obtain ⟨h1,h2⟩:=hat j s hj
  rw [h1]
  exact ⟨(List.getElem?_eq_some_iff.1 h2).1,h2⟩
 have haf:∀ (j:Nat) (q:aT),l[j]?=some q→∀ x∈q.af,x<j:=by
  intro j
  induction j using Nat.strongRecOn with
  | _ j ih=>
   intro q hq x hx
   have hj:j<l.length:=(List.getElem?_eq_some_iff.1 hq).1
   have hj2:j<ops.size:=by omega
   have:=me ops.toList l 0 hcl (by simpa using hlen.symm) j ops[j] q (by simp [Array.getElem?_eq_getElem hj2]) hq
   simp only [qx,Bool.and_eq_true,List.all_eq_true,decide_eq_true_eq,Nat.zero_add,Bool.or_eq_true,List.any_eq_true] at this
   rcases this.2 x hx with h | ⟨u,hu,h⟩
   ·exact this.1 x (by simpa using h)
   ·have h1:=this.1 u hu
    split at h
    ·rename_i q' hq'
     have:=ih u h1 q' hq' x (by simpa using h)
     omega
    ·cases h
 have hP:L.Pairwise Rel:=(List.Pairwise.and hst a7).imp_of_mem fun {s t} hs ht h=>by
  obtain ⟨⟨h1,h2⟩,h3⟩:=h
  refine ⟨h1,?_⟩
  have k1:=hmem s hs
  have k2:=hmem t ht
  rcases h3 with h3 | h3 | h3 | h3
  ·exact .inl h3
  ·have:=haf t.p t.o k2.2 _ h3; omega
  ·omega
  ·rcases h2 with h2 | h2
   ·exact .inl (by simpa using h2)
   ·obtain ⟨b1,b2,b3⟩:=xP h2
    exact .inr ⟨b1,b2,b3,h3.1,h3.2.1,h3.2.2.1,h3.2.2.2,(a6 s hs).2.2.2,(a6 t ht).2.2.2⟩
 refine (JV (nn:=σ.n+k) (cc:=σ.c+k) (c0:=σ.c) (n:=n) (fun i=>match l[i]? with | some q=>q.af | none=>[]) ?_ ops.size _ L m S _ e σ.ob a (by rw [hLl,hlen]; exact Nat.le_refl _) (by simp) (fun i hi=>?_) (fun s hs=>by rw [←hlen]; exact (hmem s hs).1)
  (fun i hi=>?_) hP (fun s hs=>by simp only [(hmem s hs).2]) a5 a1 ⟨(hInv.drew).raise (n:=σ.n) (c:=σ.c) (ob:=σ.ob) (Nat.le_add_right _ _),hE.ext (Ext.drew m S w),hn,hdf.ext (Ext.drew m S w)⟩ (fun s hs hnew=>?_) fun m' S' w' a' q1 q2=>hQ m' S' _ w' ef a' q1 ((Ext.drew m S w).trans q2) a2)
 ·intro i o ho
  have hi:i<l.length:=by rw [hlen]; exact (Array.getElem?_eq_some_iff.1 ho).1
  have:=me ops.toList l 0 hcl (by simpa using hlen.symm) i o l[i] (by simpa using ho) (List.getElem?_eq_getElem hi)
  simp only [qx,Bool.and_eq_true,List.all_eq_true,decide_eq_true_eq,Nat.zero_add,Bool.or_eq_true,List.any_eq_true] at this
  refine ⟨this.1,fun x hx=>?_⟩
  simp only [List.getElem?_eq_getElem hi] at hx
  rcases this.2 x hx with h | ⟨u,hu,h⟩
  ·exact .inl (by simpa using h)
  ·refine .inr ⟨u,hu,?_⟩
   split at h
   ·rename_i q hq; simp only [hq]; simpa using h
   ·cases h
 ·constructor
  ·intro _
   have hi':i<L.length:=by rw [hLl,hlen]; exact hi
   exact ⟨L[i],List.getElem_mem hi',(hat i _ (List.getElem?_eq_getElem hi')).1⟩
  ·intro _; simp [Array.getD_eq_getD_getElem?,hi]
 ·simp only [Array.getD_eq_getD_getElem?] at hi
  by_cases h:i<ops.size <;> simp [h] at hi
 ·refine ⟨?_,?_⟩
  ·cases hv:m (σ.c+s.p) with
   | none=>rfl
   | some v=>have:=hInv.bu.fresh _ _ hv; omega
  ·rcases Bool.or_eq_true _ _ ▸ hk with h | h
   ·have:=(hmem s hs).1; have:k=l.length:=by simpa using h
    omega
   ·have:=List.all_eq_true.1 h s.o (by rw [←a3]; exact List.mem_map.2 ⟨s,hs,rfl⟩)
    rw [hnew] at this; cases this
end Go.Ab
