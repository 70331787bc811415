/- OWN WORK, put together by tools/asm.py, seat.py, mini.py. -/
import Derived.Test.YtcpckngdfjmbgaaGreatBaseL
namespace Go.Ab
open Go.RowKit
theorem aG {e e':Nat→AV} {x:AX} (h:∀ t∈x.lk,e' t=e t):x.ev e'=x.ev e:=by
 cases x with
 | t s=>exact h s (by simp [AX.lk])
 | c v=>rfl
theorem eB {e e':Nat→AV} {l:List AX} (h:∀ t∈KQ l,e' t=e t):qn e' l=qn e l:=by
 unfold qn
 exact List.map_congr_left fun x hx=>aG fun t ht=>h t (List.mem_flatMap.2 ⟨x,hx,ht⟩)
theorem km {e e':Nat→AV} {l:Option AX} (h:∀ t∈OO l,e' t=e t):DS e' l=DS e l:=by
 cases l with
 | none=>rfl
 | some x=>simp [DS,aG (x:=x) h]
theorem Ii {e e':Nat→AV} {l:List (Nat × Nat × AX)} (h:∀ t∈KQ (l.map fun p=>p.2.2),e' t=e t):KS e' l=KS e l:=by
 unfold KS
 exact List.map_congr_left fun x hx=>by rw [aG fun t ht=>h t (List.mem_flatMap.2 ⟨x.2.2,List.mem_map.2 ⟨x,hx,rfl⟩,ht⟩)]
theorem kF {H:eH} {op:aO} {e e':Nat→AV} (h:∀ t∈op.looks,e' t=e t):ar H op e'=ar H op e:=by
 funext σ K
 cases op <;> simp only [aO.looks,List.mem_append,or_imp,forall_and] at h <;> simp only [ar]
 case mv=>rw [aG h]
 case pick=>rw [aG h.1,aG h.2.1,aG h.2.2]
 case box=>rw [aG h]
 case build=>rw [Ii h]
 case lit=>rw [eB h]
 case load=>rw [aG h]
 case store=>rw [aG h.1,aG h.2]
 case bc=>rw [aG h]
 case bin=>rw [aG h.1,aG h.2]
 case Ij=>rw [aG h.1,aG h.2]
 case eqs=>rw [aG h.1,aG h.2]
 case un=>rw [aG h]
 case conv=>rw [aG h]
 case H9=>rw [eB h]
 case fa=>rw [aG h]
 case bG=>rw [aG h.1,aG h.2]
 case ext=>rw [aG h]
 case len=>rw [aG h]
 case lens=>rw [aG h]
 case app=>rw [aG h.1,aG h.2]
 case Fa=>rw [aG h.1,eB h.2]
 case qP=>rw [aG h.1,km h.2.1,km h.2.2]
 case tF=>rw [aG h.1,km h.2.1,km h.2.2]
 case call=>rw [eB h]
 case dI=>rw [aG h.1,eB h.2]
 case pu=>rw [eB h]
 case lf=>rw [aG h]
 case LQ=>rw [aG h]
 case Lr=>rw [aG h.1,aG h.2]
 case F9=>rw [aG h.1,aG h.2]
 case KT=>rw [aG h]
 case Iz=>rw [aG h]
 case LD=>rw [aG h]
 case O2=>rw [aG h]
 case A3=>rw [aG h.1,aG h.2]
 case Eu=>rw [aG h]
 case Ge=>rw [aG h.1,aG h.2.1,aG h.2.2.1,aG h.2.2.2]
 case C6=>rw [aG h.1,km h.2.1,km h.2.2]
 case dm=>rw [aG h.1,aG h.2.1,aG h.2.2]
 case fm=>rw [aG h.1,aG h.2]
 case LR=>rw [eB h]
theorem FM {op:BinOp} {x y:AV} {K:AV→Prop} (h:qK op x y K):∃ v,K v∧∀ K':AV→Prop,K' v→qK op x y K':=by
 unfold qK at h
 split at h
 ·cases op <;> simp only at h <;> (try exact h.elim) <;>
   first
   | exact ⟨_,h.2.2,fun K' hk=>⟨h.1,h.2.1,hk⟩⟩
   | exact ⟨_,h.2,fun K' hk=>⟨h.1,hk⟩⟩
 ·cases op <;> simp only at h <;> (try exact h.elim) <;>
   first
   | exact ⟨_,h.2,fun K' hk=>⟨h.1,hk⟩⟩
   | exact ⟨_,h,fun K' hk=>hk⟩
 ·exact h.elim
theorem qc {mx:Bool}:∀ {l:List AV} {x:AV} {K:AV→Prop},eX mx x l K→∃ v,K v∧∀ K':AV→Prop,K' v→eX mx x l K'
 | [],x,K,h=>by simp only [eX] at h; exact ⟨x,h,fun K' hk=>by simpa only [eX] using hk⟩
 | y :: r,x,K,h=>by
  unfold eX at h
  split at h
  ·rename_i heq; cases heq
  ·rename_i heq
   cases heq
   obtain ⟨hk,h⟩:=h
   obtain ⟨v,h1,h2⟩:=qc h
   exact ⟨v,h1,fun K' hK'=>by unfold eX; exact ⟨hk,h2 K' hK'⟩⟩
  ·exact h.elim
theorem gz {n:Nat} {lo hi:Option AV} {K:Nat→Nat→Prop} (h:oL n lo hi K):∃ p q,p≤q∧K p q∧∀ K':Nat→Nat→Prop,K' p q→oL n lo hi K':=by
 unfold oL at h
 split at h
 ·exact ⟨0,n,Nat.zero_le _,h,fun K' hk=>hk⟩
 ·exact ⟨_,n,by omega,h.2.2,fun K' hk=>⟨h.1,h.2.1,hk⟩⟩
 ·exact ⟨0,_,Nat.zero_le _,h.2.2,fun K' hk=>⟨h.1,h.2.1,hk⟩⟩
 ·exact ⟨_,_,by omega,h.2.2.2,fun K' hk=>⟨h.1,h.2.1,h.2.2.1,hk⟩⟩
 ·exact h.elim
theorem Iy {n:Nat} {lo hi:Option AV} {K:Nat→Nat→Prop} (h:oL n lo hi K):∃ p q,p≤n∧K p q∧∀ K':Nat→Nat→Prop,K' p q→oL n lo hi K':=by
 unfold oL at h
 split at h
 ·exact ⟨0,n,Nat.zero_le _,h,fun K' hk=>hk⟩
 ·exact ⟨_,n,by omega,h.2.2,fun K' hk=>⟨h.1,h.2.1,hk⟩⟩
 ·exact ⟨0,_,Nat.zero_le _,h.2.2,fun K' hk=>⟨h.1,h.2.1,hk⟩⟩
 ·exact ⟨_,_,by omega,h.2.2.2,fun K' hk=>⟨h.1,h.2.1,h.2.2.1,hk⟩⟩
 ·exact h.elim
theorem Kb {n c:Nat} (hn:n≤c) {lo hi:Option AV} {K:Nat→Nat→Prop} (h:wS n c lo hi K):∃ p q,p≤c∧K p q∧∀ K':Nat→Nat→Prop,K' p q→wS n c lo hi K':=by
 unfold wS at h
 split at h
 ·exact ⟨0,n,Nat.zero_le _,h,fun K' hk=>hk⟩
 ·exact ⟨_,n,by omega,h.2.2,fun K' hk=>⟨h.1,h.2.1,hk⟩⟩
 ·exact ⟨0,_,Nat.zero_le _,h.2.2,fun K' hk=>⟨h.1,h.2.1,hk⟩⟩
 ·exact ⟨_,_,by omega,h.2.2.2,fun K' hk=>⟨h.1,h.2.1,h.2.2.1,hk⟩⟩
 ·exact h.elim
structure Pk (H:eH) (op:aO) (e:Nat→AV) (ob:Nat→Option aV) (id g:Nat) (v:AV) (wr:Option (Nat × aV)):Prop where
 lY:∀ i∈dZ wr,i∈op.lY e id
 run:∀ ob' n c,(∀ i∈op.dY e,ob' i=ob i)→(op.new=true→n=id∧c=g)→∀ K':AV→St→Prop,
  (∀ τ:St,τ.ob=eM ob' wr→(op.new=false→τ.n=n∧τ.c=c)→K' v τ)→ar H op e ⟨ob',n,c⟩ K'
section
variable {H : eH} {e : Nat → AV} {ob : Nat → Option aV} {id g : Nat} {K : AV → St → Prop}
theorem aQ {op:aO} {v:AV} (_hn:op.new=false) (h:∀ σ' (K':AV→St→Prop),K' v σ'→ar H op e σ' K'):Pk H op e ob id g v none:=
 ⟨fun i hi=>by simp [dZ] at hi,fun ob' n c _ _ K' hK=>h _ _ (hK _ rfl fun _=>⟨rfl,rfl⟩)⟩
theorem zk {op:aO} (hnd:op.nd=false) (hcall:op.cq e=none) (h:ar H op e ⟨ob,id,g⟩ K):∃ v wr τ,K v τ∧τ.ob=eM ob wr∧Pk H op e ob id g v wr:=by
 cases op with
 | mv x=>exact ⟨_,none,_,h,rfl,aQ rfl fun σ' K' hk=>hk⟩
 | pick c a b=>
  simp only [ar] at h
  generalize hc:c.ev e=cv at h
  unfold pO at h
  split at h
  ·rename_i t
   cases t with
   | true=>exact ⟨_,none,_,h.1 rfl,rfl,aQ rfl fun σ' K' hk=>by simp only [ar,hc,pO]; exact ⟨fun _=>hk,fun h=>by cases h⟩⟩
   | false=>exact ⟨_,none,_,h.2 rfl,rfl,aQ rfl fun σ' K' hk=>by simp only [ar,hc,pO]; exact ⟨fun h=>(by cases h),fun _=>hk⟩⟩
  ·exact h.elim
 | alloc es ty z=>
  refine ⟨_,some (id,_),_,h,rfl,⟨fun i hi=>by simpa [dZ,aO.lY] using hi,fun ob' n c _ hn K' hK=>?_⟩⟩
  obtain ⟨rfl,rfl⟩:=hn rfl
  exact hK _ rfl fun h=>by simp [aO.new] at h
 | fu es ty=>
  refine ⟨_,some (id,_),_,h,rfl,⟨fun i hi=>by simpa [dZ,aO.lY] using hi,fun ob' n c _ hn K' hK=>?_⟩⟩
  obtain ⟨rfl,rfl⟩:=hn rfl
  exact hK _ rfl fun h=>by simp [aO.new] at h
 | box es ty x=>
  obtain ⟨h1,h2,h⟩:=h
  refine ⟨_,some (id,_),_,h,rfl,⟨fun i hi=>by simpa [dZ,aO.lY] using hi,fun ob' n c _ hn K' hK=>?_⟩⟩
  obtain ⟨rfl,rfl⟩:=hn rfl
  exact ⟨h1,h2,hK _ rfl fun h=>by simp [aO.new] at h⟩
 | build zs ps=>exact ⟨_,none,_,h.2,rfl,aQ rfl fun σ' K' hk=>⟨h.1,hk⟩⟩
 | lit mu es ty xs=>
  obtain ⟨h1,h⟩:=h
  cases mu with
  | true=>
   refine ⟨_,some (id,_),_,h,rfl,⟨fun i hi=>by simpa [dZ,aO.lY] using hi,fun ob' n c _ hn K' hK=>?_⟩⟩
   obtain ⟨rfl,rfl⟩:=hn rfl
   exact ⟨h1,hK _ rfl fun h=>by simp [aO.new] at h⟩
  | false=>
   refine ⟨_,none,_,h,rfl,⟨fun i hi=>by simp [dZ] at hi,fun ob' n c _ _ K' hK=>?_⟩⟩
   exact ⟨h1,hK _ rfl fun h=>by simp [aO.new] at h⟩
 | load ag sz x=>
  simp only [ar] at h
  generalize hx:x.ev e=xv at h
  unfold uD at h
  split at h
  ·obtain ⟨o,ho,h1,h2,h3,y,hy,hK⟩:=h
   refine ⟨_,none,_,hK,rfl,⟨fun i hi=>by simp [dZ] at hi,fun ob' n c hr _ K' hk=>?_⟩⟩
   simp only [ar,hx,uD]
   exact ⟨o,by rw [hr _ (by simp [aO.dY,hx,AV.kR])]; exact ho,h1,h2,h3,y,hy,hk _ rfl fun _=>⟨rfl,rfl⟩⟩
  ·obtain ⟨h3,y,hy,hK⟩:=h
   exact ⟨_,none,_,hK,rfl,aQ rfl fun σ' K' hk=>by simp only [ar,hx,uD]; exact ⟨h3,y,hy,hk⟩⟩
  ·exact h.elim
 | store sz x v=>
  simp only [ar] at h
  generalize hx:x.ev e=xv at h
  unfold sM at h
  split at h
  ·obtain ⟨o,ho,h1,h2,h3,h4,h5,h6,y,hy,hK⟩:=h
   refine ⟨_,some (_,_),_,hK,rfl,⟨fun i hi=>by simpa [dZ,aO.lY,hx,AV.kR] using hi,fun ob' n c hr _ K' hk=>?_⟩⟩
   simp only [ar,hx,sM]
   exact ⟨o,by rw [hr _ (by simp [aO.dY,hx,AV.kR])]; exact ho,h1,h2,h3,h4,h5,h6,y,hy,hk _ rfl fun _=>⟨rfl,rfl⟩⟩
  ·exact h.elim
 | bc x=>
  simp only [ar] at h
  generalize hx:x.ev e=xv at h
  unfold iM at h
  split at h
  ·exact ⟨_,none,_,h,rfl,aQ rfl fun σ' K' hk=>by simp only [ar,hx,iM]; exact hk⟩
  ·exact ⟨_,none,_,h,rfl,aQ rfl fun σ' K' hk=>by simp only [ar,hx,iM]; exact hk⟩
  ·exact ⟨_,none,_,h,rfl,aQ rfl fun σ' K' hk=>by simp only [ar,hx,iM]; exact hk⟩
  ·exact ⟨_,none,_,h,rfl,aQ rfl fun σ' K' hk=>by simp only [ar,hx,iM]; exact hk⟩
  ·exact h.elim
 | bin op x y=>
  have h:qK op (x.ev e) (y.ev e) (fun v=>K v ⟨ob,id,g⟩):=h
  obtain ⟨v,hv,hd⟩:=FM h
  exact ⟨v,none,_,hv,rfl,aQ rfl fun σ' K' hk=>hd (fun v=>K' v σ') hk⟩
 | Ij neg x y=>
  simp only [ar] at h
  generalize hx:x.ev e=xv at h
  generalize hy:y.ev e=yv at h
  unfold Fo at h
  split at h
  ·exact ⟨_,none,_,h,rfl,aQ rfl fun σ' K' hk=>by simp only [ar,hx,hy,Fo]; exact hk⟩
  ·exact h.elim
 | eqs neg n x y=>
  simp only [ar] at h
  generalize hx:x.ev e=xv at h
  generalize hy:y.ev e=yv at h
  unfold BK at h
  split at h
  ·obtain ⟨b,hb,hK⟩:=h
   exact ⟨_,none,_,hK,rfl,aQ rfl fun σ' K' hk=>by simp only [ar,hx,hy,BK]; exact ⟨b,hb,hk⟩⟩
  ·exact h.elim
 | un op x=>
  simp only [ar] at h
  generalize hx:x.ev e=xv at h
  unfold M3 at h
  split at h
  ·exact ⟨_,none,_,h,rfl,aQ rfl fun σ' K' hk=>by simp only [ar,hx,M3]; exact hk⟩
  ·exact ⟨_,none,_,h,rfl,aQ rfl fun σ' K' hk=>by simp only [ar,hx,M3]; exact hk⟩
  ·exact h.elim
 | conv k x=>
  simp only [ar] at h
  generalize hx:x.ev e=xv at h
  unfold Az at h
  split at h
  ·exact ⟨_,none,_,h,rfl,aQ rfl fun σ' K' hk=>by simp only [ar,hx,Az]; exact hk⟩
  ·exact h.elim
 | LR f fs=>exact ⟨_,none,_,h.2,rfl,aQ rfl fun σ' K' hk=>⟨h.1,hk⟩⟩
 | H9 f caps=>exact ⟨_,none,_,h,rfl,aQ rfl fun σ' K' hk=>hk⟩
 | fa off x=>
  simp only [ar] at h
  generalize hx:x.ev e=xv at h
  unfold L6 at h
  split at h
  ·exact ⟨_,none,_,h,rfl,aQ rfl fun σ' K' hk=>by simp only [ar,hx,L6]; exact hk⟩
  ·exact ⟨_,none,_,h,rfl,aQ rfl fun σ' K' hk=>by simp only [ar,hx,L6]; exact hk⟩
  ·exact h.elim
 | bG es x i=>
  simp only [ar] at h
  generalize hx:x.ev e=xv at h
  generalize hi:i.ev e=iv at h
  unfold wB at h
  split at h
  ·obtain ⟨h1,⟨o,ho,hg⟩,h2,h3,hK⟩:=h
   refine ⟨_,none,_,hK,rfl,⟨fun i hi=>by simp [dZ] at hi,fun ob' n c hr _ K' hk=>?_⟩⟩
   simp only [ar,hx,hi,wB]
   exact ⟨h1,⟨o,by rw [hr _ (by simp [aO.dY,hx,AV.kR])]; exact ho,hg⟩,h2,h3,hk _ rfl fun _=>⟨rfl,rfl⟩⟩
  ·obtain ⟨h1,h2,h3,hK⟩:=h
   exact ⟨_,none,_,hK,rfl,aQ rfl fun σ' K' hk=>by simp only [ar,hx,hi,wB]; exact ⟨h1,h2,h3,hk⟩⟩
  ·obtain ⟨h1,h2,h3,hK⟩:=h
   exact ⟨_,none,_,hK,rfl,aQ rfl fun σ' K' hk=>by simp only [ar,hx,hi,wB]; exact ⟨h1,h2,h3,hk⟩⟩
  ·obtain ⟨h1,h2,h3,hK⟩:=h
   exact ⟨_,none,_,hK,rfl,aQ rfl fun σ' K' hk=>by simp only [ar,hx,hi,wB]; exact ⟨h1,h2,h3,hk⟩⟩
  ·exact h.elim
 | ext x i=>
  simp only [ar] at h
  generalize hx:x.ev e=xv at h
  unfold uK at h
  split at h
  ·obtain ⟨v,hv,hK⟩:=h
   exact ⟨_,none,_,hK,rfl,aQ rfl fun σ' K' hk=>by simp only [ar,hx,uK]; exact ⟨v,hv,hk⟩⟩
  ·exact h.elim
 | len x=>
  simp only [ar] at h
  generalize hx:x.ev e=xv at h
  unfold im at h
  split at h
  ·exact ⟨_,none,_,h,rfl,aQ rfl fun σ' K' hk=>by simp only [ar,hx,im]; exact hk⟩
  ·exact ⟨_,none,_,h,rfl,aQ rfl fun σ' K' hk=>by simp only [ar,hx,im]; exact hk⟩
  ·exact ⟨_,none,_,h,rfl,aQ rfl fun σ' K' hk=>by simp only [ar,hx,im]; exact hk⟩
  ·exact ⟨_,none,_,h,rfl,aQ rfl fun σ' K' hk=>by simp only [ar,hx,im]; exact hk⟩
  ·exact ⟨_,none,_,h,rfl,aQ rfl fun σ' K' hk=>by simp only [ar,hx,im]; exact hk⟩
  ·exact h.elim
 | lens x=>
  simp only [ar] at h
  generalize hx:x.ev e=xv at h
  unfold zY at h
  split at h
  ·exact ⟨_,none,_,h,rfl,aQ rfl fun σ' K' hk=>by simp only [ar,hx,zY]; exact hk⟩
  ·exact h.elim
 | Fa mx x xs=>
  obtain ⟨v,hv,hd⟩:=qc h
  exact ⟨v,none,_,hv,rfl,aQ rfl fun σ' K' hk=>hd _ hk⟩
 | tF x lo hi=>
  simp only [ar,tE] at h
  generalize hx:x.ev e=xv at h
  unfold tD at h
  split at h
  ·obtain ⟨p,q,_,hK,hd⟩:=gz h
   exact ⟨_,none,_,hK,rfl,aQ rfl fun σ' K' hk=>by simp only [ar,tE,hx,tD]; exact hd _ hk⟩
  ·exact h.elim
 | qP es x lo hi=>
  simp only [ar,ji] at h
  generalize hx:x.ev e=xv at h
  unfold eI at h
  split at h
  ·obtain ⟨p,q,_,hK,hd⟩:=gz h
   exact ⟨_,none,_,hK,rfl,aQ rfl fun σ' K' hk=>by simp only [ar,ji,hx,eI]; exact hd _ hk⟩
  ·obtain ⟨h1,h⟩:=h
   obtain ⟨p,q,_,hK,hd⟩:=gz h
   exact ⟨_,none,_,hK,rfl,aQ rfl fun σ' K' hk=>by simp only [ar,ji,hx,eI]; exact ⟨h1,hd _ hk⟩⟩
  ·obtain ⟨h1,⟨o,ho,hg⟩,h⟩:=h
   obtain ⟨p,q,hpq,hK,hd⟩:=gz h
   by_cases hl:p=q
   ·refine ⟨_,none,_,hK.1 hl,rfl,⟨fun i hi=>by simp [dZ] at hi,fun ob' n c hr _ K' hk=>?_⟩⟩
    simp only [ar,ji,hx,eI]
    exact ⟨h1,⟨o,by rw [hr _ (by simp [aO.dY,hx,AV.kR])]; exact ho,hg⟩,hd _ ⟨fun _=>hk _ rfl fun _=>⟨rfl,rfl⟩,fun h=>by omega⟩⟩
   ·refine ⟨_,none,_,hK.2 (by omega),rfl,⟨fun i hi=>by simp [dZ] at hi,fun ob' n c hr _ K' hk=>?_⟩⟩
    simp only [ar,ji,hx,eI]
    exact ⟨h1,⟨o,by rw [hr _ (by simp [aO.dY,hx,AV.kR])]; exact ho,hg⟩,hd _ ⟨fun h=>absurd h hl,fun _=>hk _ rfl fun _=>⟨rfl,rfl⟩⟩⟩
  ·rename_i id' g' es' off n c
   obtain ⟨h1,h2,h⟩:=h
   obtain ⟨p,q,hpq,hK,hd⟩:=Kb (by omega) h
   by_cases hl:p=c-off
   ·exact ⟨_,none,_,hK.1 hl,rfl,aQ rfl fun σ' K' hk=>by simp only [ar,ji,hx,eI]; exact ⟨h1,h2,hd _ ⟨fun _=>hk,fun h=>by omega⟩⟩⟩
   ·exact ⟨_,none,_,hK.2 (by omega),rfl,aQ rfl fun σ' K' hk=>by simp only [ar,ji,hx,eI]; exact ⟨h1,h2,hd _ ⟨fun h=>absurd h hl,fun _=>hk⟩⟩⟩
  ·exact h.elim
 | C6 es n x lo hi=>
  simp only [ar] at h
  generalize hx:x.ev e=xv at h
  unfold y8 at h
  split at h
  ·obtain ⟨p,q,hpq,hK,hd⟩:=Iy h
   by_cases hl:p=n
   ·exact ⟨_,none,_,hK.1 hl,rfl,aQ rfl fun σ' K' hk=>by simp only [ar,y8,hx]; exact hd _ ⟨fun _=>hk,fun h=>by omega⟩⟩
   ·exact ⟨_,none,_,hK.2 (by omega),rfl,aQ rfl fun σ' K' hk=>by simp only [ar,y8,hx]; exact hd _ ⟨fun h=>absurd h hl,fun _=>hk⟩⟩
  ·exact h.elim
 | app es bytes ty x y=>
  simp only [ar] at h
  obtain ⟨h1,h2,h⟩:=h
  obtain ⟨l,hl,hel⟩:∃ l,(match x.ev e with
   | .nil=>l.length≤maxLen∧l.length * bytes≤140737488355328∧(l=[]→K .nil ⟨ob,id,g⟩)∧(l≠[]→K (.sl id g es 0 l.length) ((St.mk ob id g).push es ty l))
   | .sl id' g' es' off n=>es'=es∧off=0∧∃ o,ob id'=some o∧o.g=g'∧o.es=es∧o.ty=ty∧o.ro=false∧o.ap=true∧o.l.length=n∧
     n+l.length≤maxLen∧(n+l.length) * bytes≤140737488355328∧K (.sl id' g es 0 (n+l.length)) ((St.mk ob id g).renew id' o (o.l++l))
   | .fG id' g' es' off n c=>es'=es∧(l=[]→K (.fG id' g' es off n c) ⟨ob,id,g⟩)∧(l≠[]→∃ o,ob id'=some o∧o.g=g'∧o.es=es∧o.ro=false∧off+(n+l.length)≤o.l.length∧off+(n+l.length)≤c∧
     K (.fG id' g' es off (n+l.length) c) ((St.mk ob id g).put id' o (o.l.take (off+n)++l++o.l.drop (off+n+l.length))))
   | .fl es' l0=>es'=es∧(∀ z∈l0++l,z.cQ=true)∧l0.length+l.length≤maxLen∧(l0.length+l.length) * bytes≤140737488355328∧K (.list es (l0++l)) ⟨ob,id,g⟩
   | _=>False)∧∀ (ob':Nat→Option aV) n c,(∀ i∈(y.ev e).kR,ob' i=ob i)→∀ Kl:List AV→Prop,Kl l→cg ⟨ob',n,c⟩ (y.ev e) Kl:=by
   generalize hy:y.ev e=yv at h
   unfold cg at h
   split at h
   ·exact ⟨_,h,fun ob' n c _ Kl hk=>hk⟩
   ·exact ⟨_,h,fun ob' n c _ Kl hk=>hk⟩
   ·obtain ⟨o,ho,a1,a2,a3,h⟩:=h
    exact ⟨_,h,fun ob' n c hr Kl hk=>⟨o,(hr _ (by simp [AV.kR])).trans ho,a1,a2,a3,hk⟩⟩
   ·obtain ⟨o,ho,a1,a2,a3,h⟩:=h
    exact ⟨_,h,fun ob' n c hr Kl hk=>⟨o,(hr _ (by simp [AV.kR])).trans ho,a1,a2,a3,hk⟩⟩
   ·exact h.elim
  generalize hx:x.ev e=xv at hl
  split at hl
  ·obtain ⟨b1,b2,b3,b4⟩:=hl
   by_cases hl0:l=[]
   ·refine ⟨_,none,_,b3 hl0,rfl,⟨fun i hi=>by simp [dZ] at hi,fun ob' n c hr hn K' hk=>?_⟩⟩
    simp only [ar,hx,m0]
    exact ⟨h1,h2,hel ob' n c (fun i hi=>hr i (by simp [aO.dY,hi])) _ ⟨b1,b2,fun _=>hk _ rfl fun h=>by simp [aO.new] at h,fun h=>absurd hl0 h⟩⟩
   ·refine ⟨_,some (id,_),_,b4 hl0,rfl,⟨fun i hi=>by simpa [dZ,aO.lY,hx,Mk] using hi,fun ob' n c hr hn K' hk=>?_⟩⟩
    obtain ⟨rfl,rfl⟩:=hn rfl
    simp only [ar,hx,m0]
    exact ⟨h1,h2,hel ob' n c (fun i hi=>hr i (by simp [aO.dY,hi])) _ ⟨b1,b2,fun h=>absurd h hl0,fun _=>hk _ rfl fun h=>by simp [aO.new] at h⟩⟩
  ·obtain ⟨rfl,rfl,o,ho,b1,b2,b3,b4,b5,b6,b7,b8,b9⟩:=hl
   refine ⟨_,some (_,_),_,b9,rfl,⟨fun i hi=>by simpa [dZ,aO.lY,hx,Mk,AV.kR] using hi,fun ob' n c hr hn K' hk=>?_⟩⟩
   obtain ⟨rfl,rfl⟩:=hn rfl
   simp only [ar,hx,m0]
   exact ⟨h1,h2,hel ob' n c (fun i hi=>hr i (by simp [aO.dY,hi])) _ ⟨trivial,trivial,o,(hr _ (by simp [aO.dY,hx,AV.kR])).trans ho,b1,b2,b3,b4,b5,b6,b7,b8,hk _ rfl fun h=>by simp [aO.new] at h⟩⟩
  ·obtain ⟨rfl,c0,c1⟩:=hl
   by_cases b0:l=[]
   ·refine ⟨_,none,_,c0 b0,rfl,⟨fun i hi=>by simp [dZ] at hi,fun ob' n c hr hn K' hk=>?_⟩⟩
    simp only [ar,hx,m0]
    exact ⟨h1,h2,hel ob' n c (fun i hi=>hr i (by simp [aO.dY,hi])) _ ⟨trivial,fun _=>hk _ rfl fun h=>by simp [aO.new] at h,fun h=>absurd b0 h⟩⟩
   obtain ⟨o,ho,b1,b2,b3,b4,b5,b9⟩:=c1 b0
   refine ⟨_,some (_,_),_,b9,rfl,⟨fun i hi=>by simpa [dZ,aO.lY,hx,Mk,AV.kR] using hi,fun ob' n c hr hn K' hk=>?_⟩⟩
   obtain ⟨rfl,rfl⟩:=hn rfl
   simp only [ar,hx,m0]
   exact ⟨h1,h2,hel ob' n c (fun i hi=>hr i (by simp [aO.dY,hi])) _ ⟨trivial,fun h=>absurd h b0,fun _=>⟨o,(hr _ (by simp [aO.dY,hx,AV.kR])).trans ho,b1,b2,b3,b4,b5,hk _ rfl fun h=>by simp [aO.new] at h⟩⟩⟩
  ·obtain ⟨rfl,c0,c1,c2,c3⟩:=hl
   refine ⟨_,none,_,c3,rfl,⟨fun i hi=>by simp [dZ] at hi,fun ob' n c hr hn K' hk=>?_⟩⟩
   simp only [ar,hx,m0]
   exact ⟨h1,h2,hel ob' n c (fun i hi=>hr i (by simp [aO.dY,hi])) _ ⟨trivial,c0,c1,c2,hk _ rfl fun h=>by simp [aO.new] at h⟩⟩
  ·exact hl.elim
 | pu p xs=>
  obtain ⟨v,hv,hK⟩:=h
  exact ⟨v,none,_,hK,rfl,aQ rfl fun σ' K' hk=>⟨v,hv,hk⟩⟩
 | O2 x=>
  obtain ⟨v,hv,hK⟩:=h
  exact ⟨_,none,_,hK,rfl,aQ rfl fun σ' K' hk=>⟨v,hv,hk⟩⟩
 | Iz x=>
  simp only [ar,yE] at h
  obtain ⟨h1,h2,h⟩:=h
  generalize hx:x.ev e=xv at h h1 h2
  unfold cg at h
  split at h
  ·obtain ⟨s,hs,hK⟩:=h
   exact ⟨_,none,_,hK,rfl,aQ rfl fun σ' K' hk=>by simp only [ar,yE,hx,cg]; exact ⟨h1,h2,s,hs,hk⟩⟩
  ·obtain ⟨s,hs,hK⟩:=h
   exact ⟨_,none,_,hK,rfl,aQ rfl fun σ' K' hk=>by simp only [ar,yE,hx,cg]; exact ⟨h1,h2,s,hs,hk⟩⟩
  ·obtain ⟨o,ho,a1,a2,a3,s,hs,hK⟩:=h
   refine ⟨_,none,_,hK,rfl,⟨fun i hi=>by simp [dZ] at hi,fun ob' n c hr _ K' hk=>?_⟩⟩
   simp only [ar,yE,hx,cg]
   exact ⟨h1,h2,o,by rw [hr _ (by simp [aO.dY,hx,AV.kR])]; exact ho,a1,a2,a3,s,hs,hk _ rfl fun _=>⟨rfl,rfl⟩⟩
  ·obtain ⟨o,ho,a1,a2,a3,s,hs,hK⟩:=h
   refine ⟨_,none,_,hK,rfl,⟨fun i hi=>by simp [dZ] at hi,fun ob' n c hr _ K' hk=>?_⟩⟩
   simp only [ar,yE,hx,cg]
   exact ⟨h1,h2,o,by rw [hr _ (by simp [aO.dY,hx,AV.kR])]; exact ho,a1,a2,a3,s,hs,hk _ rfl fun _=>⟨rfl,rfl⟩⟩
  ·exact h.elim
 | Ge es x l h' m'=>
  simp only [ar] at h
  generalize hx:x.ev e=xv at h
  generalize hl:l.ev e=lv at h
  generalize hh:h'.ev e=hv at h
  generalize hm:m'.ev e=mv at h
  unfold y9 at h
  split at h
  ·obtain ⟨h1,h2,h3,h4,h5,hK⟩:=h
   exact ⟨_,none,_,hK,rfl,aQ rfl fun σ' K' hk=>by simp only [ar,hx,hl,hh,hm,y9]; exact ⟨h1,h2,h3,h4,h5,hk⟩⟩
  ·obtain ⟨h1,h2,h3,h4,h5,hK⟩:=h
   exact ⟨_,none,_,hK,rfl,aQ rfl fun σ' K' hk=>by simp only [ar,hx,hl,hh,hm,y9]; exact ⟨h1,h2,h3,h4,h5,hk⟩⟩
  ·obtain ⟨h1,h2,h3,h4,h5,hK⟩:=h
   exact ⟨_,none,_,hK,rfl,aQ rfl fun σ' K' hk=>by simp only [ar,hx,hl,hh,hm,y9]; exact ⟨h1,h2,h3,h4,h5,hk⟩⟩
  ·exact h.elim
 | lf neg x=>simp [aO.nd] at hnd
 | A3 es bytes ty z x y=>simp [aO.nd] at hnd
 | Eu es bytes ty y=>simp [aO.nd] at hnd
 | nC=>
  refine ⟨_,some (id,⟨g,2,rW,false,false,[]⟩),_,h,rfl,⟨fun i hi=>by simpa [dZ,aO.lY] using hi,fun ob' n c _ hn K' hK=>?_⟩⟩
  obtain ⟨rfl,rfl⟩:=hn rfl
  exact hK _ rfl fun h=>by simp [aO.new] at h
 | dm x k v=>simp [aO.nd] at hnd
 | fm ok z x k=>simp [aO.nd] at hnd
 | LQ mu es bytes ty z x=>
  simp only [ar] at h
  generalize hx:x.ev e=xv at h
  unfold H8 at h
  split at h
  ·obtain ⟨h1,h2,h3,h⟩:=h
   cases mu with
   | true=>
    rw [if_pos rfl] at h
    refine ⟨_,some (id,_),_,h,rfl,⟨fun i hi=>by simpa [dZ,aO.lY] using hi,fun ob' n c _ hn K' hK=>?_⟩⟩
    obtain ⟨rfl,rfl⟩:=hn rfl
    simp only [ar,hx,H8]
    exact ⟨h1,h2,h3,by rw [if_pos trivial]; exact hK _ rfl fun h=>by simp [aO.new] at h⟩
   | false=>
    rw [if_neg (by simp)] at h
    refine ⟨_,none,_,h,rfl,⟨fun i hi=>by simp [dZ] at hi,fun ob' n c _ _ K' hK=>?_⟩⟩
    simp only [ar,hx,H8]
    exact ⟨h1,h2,h3,by rw [if_neg (by simp)]; exact hK _ rfl fun h=>by simp [aO.new] at h⟩
  ·exact h.elim
 | Lr es x h=>simp [aO.nd] at hnd
 | F9 es x y=>simp [aO.nd] at hnd
 | KT es z x=>simp [aO.nd] at hnd
 | LD mu ty x=>simp [aO.nd] at hnd
 | call f args=>simp [aO.cq] at hcall
 | dI x args=>
  simp only [ar] at h
  simp only [aO.cq] at hcall
  generalize hx:x.ev e=xv at h hcall
  unfold mX at h
  split at h
  ·simp at hcall
  ·simp at hcall
  ·exact h.elim
end
structure SR where
 p:Nat
 o:aU
 dY:List Nat
 v:AV
 wr:Option (Nat × aV)
 e0:Nat→AV
 dL:Nat→Option aV
 md:Option (Nat × IntKind × Int × AV):=none
def gK (ob:Nat→Option aV):Option (Nat × IntKind × Int × AV)→Nat→Option aV
 | none=>ob
 | some (id,kk,n,v)=>bd ob id ((ob id).map fun o=>{ o with l:=et kk n v o.l })
def oW:Option (Nat × IntKind × Int × AV)→List Nat
 | none=>[]
 | some (id,_)=>[id]
def Ae (n:Int) (l:List AV):Bool:=l.any fun y=>decide (n=keyOf y)
def Cf (ob dL:Nat→Option aV):Option (Nat × IntKind × Int × AV)→Prop
 | none=>True
 | some (id,kk,n,_)=>∃ o o0,ob id=some o∧dL id=some o0∧o={ o0 with l:=o.l }∧cS kk o.l=true∧Ae n o.l=false
theorem iq (n:Int) (y:AV) (l:List AV):Ae n (y :: l)=(decide (n=keyOf y)||Ae n l):=(rfl)
theorem qh (k:IntKind) (y:AV) (l:List AV):cS k (y :: l)=(xo k y&&cS k l):=(rfl)
theorem dn (k:IntKind) (n:Int) (v:List AV):keyOf (.agg (.int k n :: v))=n:=(rfl)
theorem CD (k kk:IntKind) (n:Int) (v:AV):xo k (.agg [.int kk n,v])=decide (kk=k):=(rfl)
theorem cL (k:IntKind) (n:Int) (v:AV) (z:AV) (s:List AV):et k n v (z :: s)=if n=keyOf z then .agg [.int k n,v] :: s else if n<keyOf z then .agg [.int k n,v] :: z :: s else z :: et k n v s:=(rfl)
theorem s7 {kk:IntKind} {n q:Int} {v:AV}:∀ {l:List AV},Ae q (et kk n v l)=(decide (q=n)||Ae q l)
 | []=>by simp only [et,iq,dn]
 | y :: r=>by
  have ih:=s7 (kk:=kk) (n:=n) (q:=q) (v:=v) (l:=r)
  rw [cL]
  split
  ·rename_i h; simp only [iq,dn,←h]; cases decide (q=n) <;> rfl
  ·split
   ·simp only [iq,dn]
   ·simp only [iq,ih]
    cases decide (q=keyOf y) <;> cases decide (q=n) <;> rfl
theorem qg {k kk:IntKind} {n:Int} {v:AV}:∀ {l:List AV},Ae n l=false→cS k (et kk n v l)=(decide (kk=k)&&cS k l)
 | [],_=>by simp only [et,qh,CD]
 | y :: r,h=>by
  rw [iq,Bool.or_eq_false_iff,decide_eq_false_iff_not] at h
  have ih:=qg (k:=k) (kk:=kk) (n:=n) (v:=v) (l:=r) h.2
  rw [cL,if_neg h.1]
  split
  ·simp only [qh,CD]
  ·simp only [qh,ih]
   cases xo k y <;> cases decide (kk=k) <;> rfl
theorem Cx {k1 k2:IntKind} {n1 n2:Int} {v1 v2:AV} (h:n1≠n2):∀ {l:List AV},et k2 n2 v2 (et k1 n1 v1 l)=et k1 n1 v1 (et k2 n2 v2 l)
 | []=>by
  simp only [et,dn]
  repeat' split
  all_goals first | (exfalso; omega) | rfl
 | y :: r=>by
  have ih:=Cx (k1:=k1) (k2:=k2) (v1:=v1) (v2:=v2) h (l:=r)
  rw [cL k1 n1 v1 y r,cL k2 n2 v2 y r]
  rcases Int.lt_trichotomy n1 (keyOf y) with h1 | h1 | h1 <;> rcases Int.lt_trichotomy n2 (keyOf y) with h2 | h2 | h2
  ·rw [if_neg (by omega),if_pos h1,if_neg (by omega),if_pos h2]
   simp only [cL,dn]
   repeat' split
   all_goals first | (exfalso; omega) | rfl
  ·rw [if_neg (by omega),if_pos h1,if_pos h2]
   simp only [cL,dn]
   repeat' split
   all_goals first | (exfalso; omega) | rfl
  ·rw [if_neg (by omega),if_pos h1,if_neg (by omega),if_neg (by omega)]
   simp only [cL,dn]
   repeat' split
   all_goals first | (exfalso; omega) | rfl
  ·rw [if_pos h1,if_neg (by omega),if_pos h2]
   simp only [cL,dn]
   repeat' split
   all_goals first | (exfalso; omega) | rfl
  ·exfalso; omega
  ·rw [if_pos h1,if_neg (by omega),if_neg (by omega)]
   simp only [cL,dn]
   repeat' split
   all_goals first | (exfalso; omega) | rfl
  ·rw [if_neg (by omega),if_neg (by omega),if_neg (by omega),if_pos h2]
   simp only [cL,dn]
   repeat' split
   all_goals first | (exfalso; omega) | rfl
  ·rw [if_neg (by omega),if_neg (by omega),if_pos h2]
   simp only [cL,dn]
   repeat' split
   all_goals first | (exfalso; omega) | rfl
  ·rw [if_neg (by omega),if_neg (by omega),if_neg (by omega),if_neg (by omega)]
   rw [cL,cL,if_neg (by omega),if_neg (by omega),if_neg (by omega),if_neg (by omega),ih]
def lG (ef:Nat→AV) (obf:Nat→Option aV):List SR→(Nat→AV)→(Nat→Option aV)→Prop
 | [],e,ob=>e=ef∧ob=obf
 | s :: L,e,ob=>(∀ t∈s.o.lk,e t=s.e0 t)∧(∀ i∈s.dY,ob i=s.dL i)∧Cf ob s.dL s.md∧lG ef obf L (bM e s.o.d s.v) (gK (eM ob s.wr) s.md)
structure HQ (s t:SR):Prop where
 a:∀ d,s.o.d=some d→d∉t.o.lk
 b:∀ d,t.o.d=some d→d∉s.o.lk
 c:∀ d,s.o.d=some d→t.o.d≠some d
 r1:∀ i∈dZ s.wr,i∉t.dY∧i∉dZ t.wr
 r2:∀ i∈dZ t.wr,i∉s.dY
 m1:∀ i∈oW s.md,i∉t.dY∧i∉dZ t.wr
 m2:∀ i∈oW t.md,i∉s.dY∧i∉dZ s.wr
 o1:∀ i∈oW s.md,i∉dZ s.wr
 o2:∀ i∈oW t.md,i∉dZ t.wr
theorem tM {e:Nat→AV} {d:Option Nat} {v:AV} {t:Nat} (h:∀ i,d=some i→i≠t):bM e d v t=e t:=by
 cases d with
 | none=>rfl
 | some i=>exact aa _ _ _ _ (Ne.symm (h i rfl))
theorem JC {ob:Nat→Option aV} {wr:Option (Nat × aV)} {k:Nat} (h:∀ i∈dZ wr,i≠k):eM ob wr k=ob k:=by
 cases wr with
 | none=>rfl
 | some x=>exact aa _ _ _ _ (Ne.symm (h x.1 (by simp [dZ])))
theorem pJ {α:Type} {f:Nat→α} {i j:Nat} {x y:α} (h:i≠j):bd (bd f i x) j y=bd (bd f j y) i x:=by
 funext k
 by_cases h1:k=i
 ·subst h1; rw [aa _ _ _ _ h,az,az]
 ·by_cases h2:k=j
  ·subst h2; rw [az,aa _ _ _ _ h1,az]
  ·rw [aa _ _ _ _ h2,aa _ _ _ _ h1,aa _ _ _ _ h1,aa _ _ _ _ h2]
theorem Cp {e:Nat→AV} {d d':Option Nat} {v v':AV} (h:∀ i,d=some i→d'≠some i):bM (bM e d v) d' v'=bM (bM e d' v') d v:=by
 cases d with
 | none=>rfl
 | some i=>
  cases d' with
  | none=>rfl
  | some j=>exact pJ fun hh=>h i rfl (by rw [hh])
theorem Ia {ob:Nat→Option aV} {x y:Option (Nat × aV)} (h:∀ i∈dZ x,i∉dZ y):eM (eM ob x) y=eM (eM ob y) x:=by
 cases x with
 | none=>rfl
 | some i=>
  cases y with
  | none=>rfl
  | some j=>exact pJ fun hh=>h i.1 (by simp [dZ]) (by rw [hh]; simp [dZ])
section
variable {ef : Nat → AV} {obf : Nat → Option aV}
theorem zZ {ob:Nat→Option aV} {md:Option (Nat × IntKind × Int × AV)} {k:Nat} (h:∀ i∈oW md,i≠k):gK ob md k=ob k:=by
 cases md with
 | none=>rfl
 | some x=>exact aa _ _ _ _ (Ne.symm (h x.1 (by simp [oW])))
theorem sZ {ob:Nat→Option aV} {x:Option (Nat × aV)} {y:Option (Nat × IntKind × Int × AV)} (h:∀ i∈oW y,i∉dZ x):eM (gK ob y) x=gK (eM ob x) y:=by
 cases x with
 | none=>rfl
 | some i=>
  cases y with
  | none=>rfl
  | some j=>
   have hne:i.1≠j.1:=fun hh=>h j.1 (by simp [oW]) (by simp [dZ,hh])
   simp only [eM,gK]
   rw [aa _ _ _ _ (Ne.symm hne)]
   exact pJ (Ne.symm hne)
theorem Cf.off {ob ob' dL:Nat→Option aV} {md:Option (Nat × IntKind × Int × AV)} (h:Cf ob dL md) (hk:∀ i∈oW md,ob' i=ob i):Cf ob' dL md:=by
 cases md with
 | none=>trivial
 | some x=>
  obtain ⟨o,o0,h1,h2⟩:=h
  exact ⟨o,o0,by rw [hk x.1 (by simp [oW])]; exact h1,h2⟩
theorem LV {ob ob1 ob2:Nat→Option aV} {x y:Option (Nat × IntKind × Int × AV)} (h1:Cf ob ob1 x) (h2:Cf (gK ob x) ob2 y) :
  Cf ob ob2 y∧Cf (gK ob y) ob1 x∧gK (gK ob x) y=gK (gK ob y) x:=by
 cases x with
 | none=>exact ⟨h2,trivial,rfl⟩
 | some x=>
  cases y with
  | none=>exact ⟨trivial,h1,rfl⟩
  | some y=>
   obtain ⟨i,k1,n1,v1⟩:=x
   obtain ⟨j,k2,n2,v2⟩:=y
   obtain ⟨o1,o1',a1,a2,a3,a4,a5⟩:=h1
   obtain ⟨o2,o2',b1,b2,b3,b4,b5⟩:=h2
   by_cases hij:j=i
   ·subst hij
    simp only [gK,a1,Option.map_some,az,Option.some.injEq] at b1
    subst b1
    simp only at b3 b4 b5
    rw [qg a5,Bool.and_eq_true,decide_eq_true_eq] at b4
    rw [s7,Bool.or_eq_false_iff,decide_eq_false_iff_not] at b5
    obtain ⟨rfl,b4⟩:=b4
    refine ⟨⟨o1,o2',a1,b2,?_,b4,b5.2⟩,⟨{ o1 with l:=et k1 n2 v2 o1.l },o1',by simp [gK,a1,bd],a2,?_,?_,?_⟩,?_⟩
    ·have:=congrArg (fun o:aV=>{ o with l:=o1.l }) b3
     exact this
    ·have:=congrArg (fun o:aV=>{ o with l:=et k1 n2 v2 o1.l }) a3
     exact this
    ·rw [qg b5.2]; simp [a4]
    ·rw [s7,a5]; simp [Ne.symm b5.1]
    ·simp only [gK,a1,Option.map_some,az]
     funext q
     by_cases hq:q=j
     ·subst hq
      rw [az,az,Cx (Ne.symm b5.1)]
     ·rw [aa _ _ _ _ hq,aa _ _ _ _ hq,aa _ _ _ _ hq,aa _ _ _ _ hq]
   ·refine ⟨⟨o2,o2',by rw [←b1,zZ (by simp [oW]; exact fun h=>hij h.symm)],b2,b3,b4,b5⟩,⟨o1,o1',by rw [zZ (by simp [oW]; exact hij)]; exact a1,a2,a3,a4,a5⟩,?_⟩
    simp only [gK]
    rw [aa _ _ _ _ hij,aa _ _ _ _ (Ne.symm hij)]
    exact pJ (Ne.symm hij)
theorem lG.swap {s t:SR} {L:List SR} {e:Nat→AV} {ob:Nat→Option aV} (hA:HQ s t) (h:lG ef obf (s :: t :: L) e ob):lG ef obf (t :: s :: L) e ob:=by
 obtain ⟨h1,h2,hm,h3,h4,hm',h5⟩:=h
 have hO:=Ia (ob:=ob) (x:=s.wr) (y:=t.wr) fun i hi=>(hA.r1 i hi).2
 have cs:∀ A,eM (gK A s.md) t.wr=gK (eM A t.wr) s.md:=fun A=>sZ fun i hi=>(hA.m1 i hi).2
 have ct:∀ A,eM (gK A t.md) s.wr=gK (eM A s.wr) t.md:=fun A=>sZ fun i hi=>(hA.m2 i hi).2
 have cs':∀ A,eM (gK A s.md) s.wr=gK (eM A s.wr) s.md:=fun A=>sZ hA.o1
 have off:∀ {A:Nat→Option aV} {wr:Option (Nat × aV)} {i:Nat},i∉dZ wr→eM A wr i=A i:=fun h=>JC fun j hj e=>h (e ▸ hj)
 have offM:∀ {A:Nat→Option aV} {md:Option (Nat × IntKind × Int × AV)} {i:Nat},i∉oW md→gK A md i=A i:=fun h=>zZ fun j hj e=>h (e ▸ hj)
 obtain ⟨q1,q2,q3⟩:=LV (ob:=eM (eM ob s.wr) t.wr) (hm.off fun i hi=>by rw [off (hA.m1 i hi).2,off (hA.o1 i hi)]) (hm'.off fun i hi=>by rw [←cs,off (hA.o2 i hi)])
 refine ⟨fun k hk=>?_,fun i hi=>?_,q1.off fun i hi=>by rw [off (hA.o2 i hi),off (hA.m2 i hi).2],fun k hk=>?_,fun i hi=>?_,?_,?_⟩
 ·rw [←h3 k hk,tM fun i hi hik=>hA.a i hi (hik ▸ hk)]
 ·rw [←h4 i hi,offM fun h=>(hA.m1 i h).1 hi,off fun h=>(hA.r1 i h).1 hi]
 ·rw [tM fun i hi hik=>hA.b i hi (hik ▸ hk)]; exact h1 k hk
 ·rw [offM fun h=>(hA.m2 i h).1 hi,off fun h=>hA.r2 i h hi]; exact h2 i hi
 ·refine q2.off fun i hi=>?_
  rw [hO,←ct,off (hA.o1 i hi)]
 ·rw [←Cp hA.c,ct,←hO,←q3,←cs]; exact h5
theorem lG.front {s:SR} {B:List SR}:∀ {A:List SR} {e:Nat→AV} {ob:Nat→Option aV},(∀ u∈A,HQ u s)→lG ef obf (A++s :: B) e ob→lG ef obf (s :: (A++B)) e ob
 | [],e,ob,_,h=>h
 | u :: A,e,ob,hA,h=>by
  obtain ⟨h1,h2,hm,h3⟩:=h
  have h4:=lG.front (fun x hx=>hA x (List.mem_cons_of_mem _ hx)) h3
  exact lG.swap (hA u (List.mem_cons_self ..)) ⟨h1,h2,hm,h4⟩
end
section
variable {P : Program} {W : World} {O S0 : Nat → Prop} {ops : Array Oper} {Q : Exit → Act → World → Prop} {n n0 c0 nn cc : Nat}
def Ey (P:Program) (W:World) (O S0:Nat→Prop) (ops:Array Oper) (Q:Exit→Act→World→Prop) (n c0 nn cc:Nat) (s:SR):Prop:=
 ∀ (m:Mp) (S:Nat→Prop) (w:World) (e:Nat→AV) (ob:Nat→Option aV) (a:Act) (K:Act→World→Prop),(∀ t∈s.o.lk,e t=s.e0 t)→(∀ i∈s.dY,ob i=s.dL i)→Cf ob s.dL s.md→
  lW W O S0 m S ⟨ob,nn,cc⟩ w n e a→(s.o.op.new=true→m (c0+s.p)=none∧c0+s.p<cc)→
  (∀ m' S' w' a',lW W O S0 m' S' ⟨gK (eM ob s.wr) s.md,nn,cc⟩ w' n (bM e s.o.d s.v) a'→Ext m S w m' S' w'→(∀ g,m' g≠m g→s.o.op.new=true∧g=c0+s.p)→K a' w')→wpOp P ops Q s.p K a w
theorem tw {m:Mp} {S:Nat→Prop} {w:World} {e:Nat→AV} {a:Act} {j s:Nat} {b:Bool} (hE:bn m S w e a.tmps) (hn:a.tmps.size=n) (hs:(ops[j]?).bind (·.dst)=some s) (hsn:s<n) (hb:e s=.bool b) :
  yielded ops a.tmps j=some b:=by
 have hv:=hE s
 rw [hb] at hv
 have hv:=hv.of_bool
 have hlt:s<a.tmps.size:=by rw [hn]; exact hsn
 have h3:a.tmps[s]?=some (.bool b):=by
  simp only [Array.getD_eq_getD_getElem?] at hv
  rw [Array.getElem?_eq_getElem hlt] at hv ⊢
  simpa using hv
 simp [yielded,hs,h3]
theorem Ba {m:Mp} {S:Nat→Prop} {w:World} {e:Nat→AV} {a:Act} {j s:Nat} (hE:bn m S w e a.tmps) (hn:a.tmps.size=n) (hs:(ops[j]?).bind (·.dst)=some s) (hsn:s<n) (hb:e s=.tuple []) :
  yielded ops a.tmps j=none:=by
 have hv:=hE s
 rw [hb] at hv
 obtain ⟨vs,hv,_⟩:=hv.pZ
 have hlt:s<a.tmps.size:=by rw [hn]; exact hsn
 have h3:a.tmps[s]?=some (.tuple vs):=by
  simp only [Array.getD_eq_getD_getElem?] at hv
  rw [Array.getElem?_eq_getElem hlt] at hv ⊢
  simpa using hv
 simp [yielded,hs,h3]
def F8 (r:aU) (e:Nat→AV):Prop:=match r.gd with
 | none=>True
 | some (s,w)=>e s=.bool w
theorem m8 {m:Mp} {S:Nat→Prop} {w:World} {mt af:List Nat} {e:Nat→AV} {a:Act} {o:Oper} {r:aU} (hE:bn m S w e a.tmps) (hn:a.tmps.size=n) (hc:cV P mt n ops af o=some r) (hg:F8 r e) :
  Region.wanted o (yielded ops a.tmps)=true:=by
 obtain ⟨_,_,_,hg'⟩:=bY hc
 rcases hg' with ⟨h1,h2⟩ | ⟨j,wnt,s,h1,hs,hsn,h2⟩
 ·simp [Region.wanted,h1]
 ·unfold F8 at hg
  rw [h2] at hg
  simp [Region.wanted,h1,tw hE hn hs hsn hg]
theorem yY {m:Mp} {S:Nat→Prop} {w:World} {mt af:List Nat} {e:Nat→AV} {a:Act} {o:Oper} {r:aU} {s:Nat} {b:Bool} (hE:bn m S w e a.tmps) (hn:a.tmps.size=n) (hc:cV P mt n ops af o=some r) (hg:r.gd=some (s,b)) (he:e s=.bool (!b)∨e s=.tuple []) :
  Region.wanted o (yielded ops a.tmps)=false:=by
 obtain ⟨_,_,_,hg'⟩:=bY hc
 rcases hg' with ⟨h1,h2⟩ | ⟨j,wnt,s',h1,hs,hsn,h2⟩
 ·rw [hg] at h2; cases h2
 ·rw [hg] at h2
  simp only [Option.some.injEq,Prod.mk.injEq] at h2
  obtain ⟨rfl,rfl⟩:=h2
  rcases he with he | he
  ·simp [Region.wanted,h1,tw hE hn hs hsn he]
  ·simp [Region.wanted,h1,Ba hE hn hs hsn he]
theorem FB {mu:Bool} {ty:TypeId} {o:Oper} {op:aO} (hc:da P mu ty o.op=some op) (h:cl o=true):(∃ f as,op=.call f as)∨∃ s as,op=.dI (.t s) as:=by
 unfold cl at h
 split at h
 ·rename_i c ho
  rw [ho] at hc
  simp only [da] at hc
  split at hc
  all_goals (try (rename_i hcal _; rw [hcal] at h; simp at h; done))
  all_goals (try (rename_i hcal; rw [hcal] at h; simp at h; done))
  ·rename_i f as hcal has
   split at hc
   ·cases hc; exact .inl ⟨_,_,rfl⟩
   ·cases hc
  ·rename_i s as hcal has
   cases hc; exact .inr ⟨_,_,rfl⟩
  ·cases hc
 ·cases h
theorem AB {mu:Bool × Bool} {ty:TypeId} {o:Oper} {op:aO} (hc:td P mu ty o.op=some op) (h:cl o=true):(∃ f as,op=.call f as)∨∃ s as,op=.dI (.t s) as:=by
 rcases FB hc h with ⟨f,as,rfl⟩ | ⟨s,as,rfl⟩
 ·exact .inl ⟨f,as,rfl⟩
 ·exact .inr ⟨s,as,rfl⟩
theorem Et {op:aO} {e e':Nat→AV} (h:∀ t∈op.looks,e' t=e t):op.cq e'=op.cq e:=by
 cases op <;> simp only [aO.cq]
 case call=>rw [eB h]
 case dI=>
  simp only [aO.looks,List.mem_append,or_imp,forall_and] at h
  rw [aG h.1,eB h.2]
theorem FZ {H:eH} {op:aO} {e:Nat→AV} {f:Nat} {args:List AV} (h:op.cq e=some (f,args)) (σ:St) (K:AV→St→Prop):ar H op e σ K=H f args σ K:=by
 cases op <;> simp only [aO.cq] at h <;> try cases h
 case call=>rfl
 case dI x as=>
  split at h
  ·rename_i f' caps hx
   cases h
   simp only [ar,hx,mX]
  ·rename_i f' caps hx
   cases h
   simp only [ar,hx,mX]
  ·cases h
theorem qf (r:aU) {t:Nat} (h:t∈r.op.looks):t∈r.lk:=by
 unfold aU.lk
 split
 ·exact List.mem_cons_of_mem _ h
 ·exact h
theorem wE {r:aU} {e e':Nat→AV} (h:∀ t∈r.lk,e' t=e t) (hg:F8 r e):F8 r e':=by
 unfold F8 at hg ⊢
 split
 ·trivial
 ·rename_i s w hgd
  rw [hgd] at hg
  rw [h s (by simp [aU.lk,hgd])]
  exact hg
theorem Fm {mt af:List Nat} {o:Oper} {r:aU} {p:Nat} {e0:Nat→AV} {dL:Nat→Option aV} {s:Nat} {b:Bool} (ho:ops[p]?=some o) (hc:cV P mt n ops af o=some r) (hg:r.gd=some (s,b)) (he:e0 s=.bool (!b)∨e0 s=.tuple []) :
  Ey P W O S0 ops Q n c0 nn cc ⟨p,r,[],.tuple [],none,e0,dL,none⟩:=by
 intro m S w e ob a K h1 _ _ hI _ hK
 obtain ⟨hInv,hE,hn,hdf⟩:=hI
 have hes:e s=.bool (!b)∨e s=.tuple []:=by
  have:e s=e0 s:=h1 s (by simp [aU.lk,hg])
  rw [this]; exact he
 obtain ⟨_,hd,hdn,_⟩:=bY hc
 have hw:=yY hE hn hc hg hes
 unfold wpOp
 simp only [ho,hw,Bool.false_eq_true,if_false]
 obtain ⟨g1,g2,g3⟩:=bn.put hE hn hdn (VR.C2 (m:=m) (S:=S) (w:=w))
 exact hK m S w _ ⟨hInv,by simp only [hd]; exact g1,g2,by rw [g3]; exact hdf⟩ (Ext.refl m S w) fun g hg=>absurd rfl hg
theorem Ig {mt af:List Nat} {o:Oper} {r:aU} {p:Nat} {e0:Nat→AV} {dL:Nat→Option aV} {v:AV} {wr:Option (Nat × aV)} (ho:ops[p]?=some o) (hc:cV P mt n ops af o=some r) (hg:F8 r e0) (hcall:r.op.cq e0=none)
  (hD:Pk (HC P) r.op e0 dL (n0+p) (c0+p) v wr):Ey P W O S0 ops Q n c0 nn cc ⟨p,r,r.op.dY e0,v,wr,e0,dL,none⟩:=by
 intro m S w e ob a K h1 h2 _ hI hf hK
 obtain ⟨hInv,hE,hn,hdf⟩:=hI
 obtain ⟨⟨mu,hop⟩,hd,hdn,_⟩:=bY hc
 have hw:=m8 hE hn hc (wE h1 hg)
 have hcong:=kF (H:=HC P) (op:=r.op) (e:=e0) (e':=e) fun t ht=>h1 t (qf r ht)
 unfold wpOp
 simp only [ho,hw,if_true]
 have fin:∀ g0,(∀ (m':Mp) (S':Nat→Prop) (w':World),Inv W O S0 m' S' ⟨eM ob wr,nn,cc⟩ w'→((∀ g,g≠g0→m' g=m g)∨cl o=true)→∀ g,m' g≠m g→r.op.new=true∧g=c0+p)→
   ∀ a' w',Good W O S0 m S w g0 o a (fun x τ=>x=v∧τ=⟨eM ob wr,nn,cc⟩) a' w'→K a' w':=by
  rintro g0 hm a' w' ⟨x,σ',m',S',u,rfl,⟨rfl,rfl⟩,hI',hX,hV,hcl⟩
  obtain ⟨g1,g2,g3⟩:=bn.put (hE.ext hX) hn hdn hV
  exact hK m' S' w' _ ⟨hI',by simp only [hd]; exact g1,g2,by rw [g3]; exact hdf.ext hX⟩ hX (hm m' S' w' hI' hcl)
 have hncl:cl o=true→False:=fun h=>by
  rcases AB hop h with ⟨f,as,hh⟩ | ⟨s,as,hh⟩
  ·rw [hh] at hcall; simp [aO.cq] at hcall
  ·rw [hh] at hcall
   have hr:=hD.run dL (n0+p) (c0+p) (fun _ _=>rfl) (fun _=>⟨rfl,rfl⟩) (fun _ _=>True) (fun _ _ _=>trivial)
   rw [hh] at hr
   simp only [ar,AX.ev] at hr
   simp only [aO.cq,AX.ev] at hcall
   unfold mX at hr
   split at hr
   ·rename_i hx; simp [hx] at hcall
   ·rename_i hx; simp [hx] at hcall
   ·exact hr
 refine .inl ?_
 by_cases hnew:r.op.new=true
 ·obtain ⟨hf1,hf2⟩:=hf hnew
  refine Oper.wp_mono (fin (c0+p) fun m' S' w' _ hcl g hg=>?_) (Cn (N:=fun _=>nn) (C:=fun _=>cc) (id:=n0+p) (g0:=c0+p) hInv hf1 (fun g v hg=>hInv.bw.fresh g v hg) hf2 hE hop (fun h=>by rw [hnew] at h; cases h) fun _=>?_)
  ·rcases hcl with h | h
   ·exact ⟨hnew,Classical.byContradiction fun hne=>hg (h g hne)⟩
   ·exact (hncl h).elim
  ·rw [hcong]
   exact hD.run ob _ _ h2 (fun _=>⟨rfl,rfl⟩) _ fun τ hτ _=>⟨rfl,by rw [hτ]⟩
 ·have hnew:r.op.new=false:=by simpa using hnew
  refine Oper.wp_mono (fin cc fun m' S' w' hI' hcl g hg=>?_) (kD hInv hE hop ?_)
  ·rcases hcl with h | h
   ·refine absurd ?_ hg
    by_cases hgc:g=cc
    ·subst hgc; rw [de (σ:=⟨eM ob wr,nn,g⟩) hI'.bw.fresh,de (σ:=⟨ob,nn,g⟩) hInv.bw.fresh]
    ·exact h g hgc
   ·exact (hncl h).elim
  ·rw [hcong]
   exact hD.run ob nn cc h2 (fun h=>by rw [hnew] at h; cases h) _ fun τ hτ hnc=>⟨rfl,by obtain ⟨q1,q2⟩:=hnc hnew; cases τ; simp_all⟩
theorem VR.back {m m':Mp} {S S':Nat→Prop} {w w':World} (hle:m.le m') {a:AV} {v v0:Value} (h:VR m' S' w' a v) (h0:VR m S w a v0):VR m S' w' a v:=by
 induction h generalizing v0 with
 | pure h=>exact .pure h
 | sl h hn hs=>
  cases h0 with
  | pure h0=>cases h0
  | sl h1 hn1=>have:=hle _ _ h1; rw [h] at this; obtain rfl:=Option.some.inj this; exact .sl h1 hn hs
 | jr h=>
  cases h0 with
  | pure h0=>cases h0
  | jr h1=>have:=hle _ _ h1; rw [h] at this; cases this; exact .jr h1
 | ptr h=>
  cases h0 with
  | pure h0=>cases h0
  | ptr h1=>have:=hle _ _ h1; rw [h] at this; cases this; exact .ptr h1
 | fG h hn=>
  cases h0 with
  | pure h0=>cases h0
  | fG h1 hn1=>have:=hle _ _ h1; rw [h] at this; cases this; exact .fG h1 hn
 | za h hn=>
  cases h0 with
  | pure h0=>cases h0
  | za h1 hn1=>have:=hle _ _ h1; rw [h] at this; cases this; exact .za h1 hn
 | agg hl _ ih=>
  obtain ⟨vs,rfl,hv⟩:=h0.oz
  exact .agg hl fun j y v hy hv'=>by obtain ⟨u,hu,hr⟩:=hv.get hy; exact ih j y v hy hv' hr
 | tuple hl _ ih=>
  obtain ⟨vs,rfl,hv⟩:=h0.pZ
  exact .tuple hl fun j y v hy hv'=>by obtain ⟨u,hu,hr⟩:=hv.get hy; exact ih j y v hy hv' hr
 | func hl _ ih=>
  obtain ⟨vs,rfl,hv⟩:=h0.yK
  exact .func hl fun j y v hy hv'=>by obtain ⟨u,hu,hr⟩:=hv.get hy; exact ih j y v hy hv' hr
 | bF v=>exact .bF v
theorem Inv.back {m m':Mp} {S S':Nat→Prop} {w w':World} {ob:Nat→Option aV} {wr:Option (Nat × aV)} (h0:Inv W O S0 m S ⟨ob,nn,cc⟩ w) (hX:Ext m S w m' S' w') (h:Inv W O S0 m' S' ⟨eM ob wr,nn,cc⟩ w')
  (hwr:∀ id o',wr=some (id,o')→(∃ o,ob id=some o∧o.g=o'.g)∧∀ x∈o'.l,x.cQ=true):Inv W O S0 m S' ⟨eM ob wr,nn,cc⟩ w':=by
 refine ⟨⟨h0.bw.fresh,fun k o ho=>?_,fun k k' o o' v v' b ho ho' hne hm hm'=>h.bw.iD k k' o o' v v' b ho ho' hne (hX.le _ _ hm) (hX.le _ _ hm'),h.bw.lt⟩,
  ⟨h.fr.os,h.fr.tape,h.fr.output,h.fr.size,h.fr.block,fun k o v b ho hro hm=>h.fr.own k o v b ho hro (hX.le _ _ hm),h.fr.sub⟩⟩
 obtain ⟨v1,h1,⟨hok,hes,xs,hown,hxs⟩,hb⟩:=h.bw.obj k o ho
 have old:ob k=some o→∃ v,m o.g=some v∧qN m S' w' o v∧∀ b,v.ownBlock=some b→(o.ro=true→S' b)∧(o.ro=false→¬S' b):=by
  intro hk
  obtain ⟨v0,g1,⟨_,_,xs0,_,hxs0⟩,_⟩:=h0.bw.obj k o hk
  have:=hX.le _ _ g1
  rw [h1] at this; obtain rfl:=Option.some.inj this
  refine ⟨v1,g1,⟨hok,hes,xs,hown,hxs.1,fun j y u hy hu=>?_⟩,hb⟩
  obtain ⟨u0,hu0,hr0⟩:=hxs0.get hy
  exact (hxs.2 j y u hy hu).back hX.le hr0
 cases wr with
 | none=>exact old ho
 | some x=>
  obtain ⟨id,o'⟩:=x
  obtain ⟨⟨oo,hoo,hgg⟩,hp⟩:=hwr id o' rfl
  by_cases e:k=id
  ·subst e
   simp only [eM,az,Option.some.injEq] at ho
   subst ho
   obtain ⟨v0,g1,_,_⟩:=h0.bw.obj k oo hoo
   rw [hgg] at g1
   have:=hX.le _ _ g1
   rw [h1] at this; obtain rfl:=Option.some.inj this
   refine ⟨v1,g1,⟨hok,hes,xs,hown,hxs.1,fun j y u hy hu=>?_⟩,hb⟩
   obtain ⟨x,hx,hyx⟩:=List.mem_flatMap.1 (List.mem_of_getElem? hy)
   exact .pure ((hxs.2 j y u hy hu).cQ (wN (hp x hx) y hyx))
  ·simp only [eM,aa _ _ _ _ e] at ho
   exact old ho
theorem Ih {mt af:List Nat} {o:Oper} {r:aU} {p f:Nat} {args:List AV} {e0:Nat→AV} {dL:Nat→Option aV} {v:AV} {rd:List Nat} {wr:Option (Nat × aV)} (ho:ops[p]?=some o) (hc:cV P mt n ops af o=some r) (hg:F8 r e0)
  (hcall:r.op.cq e0=some (f,args)) (hD:No (HC P) f args dL v rd wr):Ey P W O S0 ops Q n c0 nn cc ⟨p,r,rd,v,wr,e0,dL,none⟩:=by
 intro m S w e ob a K h1 h2 _ hI _ hK
 obtain ⟨hInv,hE,hn,hdf⟩:=hI
 obtain ⟨⟨mu,hop⟩,hd,hdn,_⟩:=bY hc
 have hw:=m8 hE hn hc (wE h1 hg)
 have hcall':r.op.cq e=some (f,args):=by rw [Et fun t ht=>h1 t (qf r ht)]; exact hcall
 unfold wpOp
 simp only [ho,hw,if_true]
 obtain ⟨hpur,hD⟩:=hD
 have key:ar (HC P) r.op e ⟨ob,nn,cc⟩ (fun x τ=>x=v∧τ=⟨eM ob wr,nn,cc⟩):=by
  rw [FZ hcall']
  cases wr with
  | none=>exact hD ob nn cc h2
  | some x=>exact hD.2.2.2 ob nn cc h2
 refine .inl (Oper.wp_mono ?_ (kD hInv hE hop key))
 rintro a' w' ⟨x,σ',m',S',u,rfl,⟨rfl,rfl⟩,hI',hX,hV,_⟩
 have hwr:∀ id o',wr=some (id,o')→(∃ o,ob id=some o∧o.g=o'.g)∧∀ x∈o'.l,x.cQ=true:=by
  rintro id o' rfl
  obtain ⟨⟨o1,q1,q2,_⟩,q3,q4,_⟩:=hD
  exact ⟨⟨o1,by rw [h2 id q4]; exact q1,q2⟩,q3⟩
 have hI2:=hInv.back hX hI' hwr
 have hX2:Ext m S w m S' w':=⟨Mp.le_refl m,hX.sub,hX.bJ⟩
 have hV2:VR m S' w' x u:=.pure (hV.cQ hpur)
 obtain ⟨g1,g2,g3⟩:=bn.put (hE.ext hX2) hn hdn hV2
 exact hK m S' w' _ ⟨hI2,by simp only [hd]; exact g1,g2,by rw [g3]; exact hdf.ext hX2⟩ hX2 fun g hg=>absurd rfl hg
theorem JU {mt af:List Nat} {o:Oper} {r:aU} {p:Nat} {e0:Nat→AV} {dL:Nat→Option aV} {x k v:AX} {id g:Nat} {kq:IntKind} {q:Int} {o0:aV} (ho:ops[p]?=some o) (hc:cV P mt n ops af o=some r) (hg:F8 r e0)
  (hrop:r.op=.dm x k v) (hx:x.ev e0=.jr id g) (hk:k.ev e0=.int kq q) (bp:(v.ev e0).one=true) (ho0:dL id=some o0) (hg0:o0.g=g) (hro:o0.ro=false) :
  Ey P W O S0 ops Q n c0 nn cc ⟨p,r,[],.bF,none,e0,dL,some (id,kq,q,v.ev e0)⟩:=by
 intro m S w e ob a K h1 _ hmd hI _ hK
 obtain ⟨hInv,hE,hn,hdf⟩:=hI
 obtain ⟨⟨mu,hop⟩,hd,hdn,_⟩:=bY hc
 have hw:=m8 hE hn hc (wE h1 hg)
 have hcong:=kF (H:=HC P) (op:=r.op) (e:=e0) (e':=e) fun t ht=>h1 t (qf r ht)
 obtain ⟨o1,o0',a1,a2,a3,a4,a5⟩:=hmd
 simp only at a2
 rw [ho0] at a2
 obtain rfl:=Option.some.inj a2
 unfold wpOp
 simp only [ho,hw,if_true]
 have key:ar (HC P) r.op e ⟨ob,nn,cc⟩ (fun x τ=>x=.bF∧τ=⟨gK ob (some (id,kq,q,v.ev e0)),nn,cc⟩):=by
  rw [hcong,hrop]
  simp only [ar,hx,hk,qT]
  refine ⟨bp,o1,a1,by rw [a3]; exact hg0,by rw [a3]; exact hro,a4,trivial,?_⟩
  simp only [gK,a1,Option.map_some,St.put]
 refine .inl (Oper.wp_mono ?_ (kD hInv hE hop key))
 rintro a' w' ⟨x',σ',m',S',u,rfl,⟨rfl,rfl⟩,hI',hX,hV,hcl⟩
 obtain ⟨g1,g2,g3⟩:=bn.put (hE.ext hX) hn hdn hV
 refine hK m' S' w' _ ⟨hI',by simp only [hd]; exact g1,g2,by rw [g3]; exact hdf.ext hX⟩ hX fun g hg=>?_
 rcases hcl with h | h
 ·refine absurd ?_ hg
  by_cases hgc:g=cc
  ·subst hgc; rw [de (σ:=⟨gK ob (some (id,kq,q,v.ev e0)),nn,g⟩) hI'.bw.fresh,de (σ:=⟨ob,nn,g⟩) hInv.bw.fresh]
  ·exact h g hgc
 ·rcases AB hop h with ⟨f,as,hh⟩ | ⟨s,as,hh⟩ <;> rw [hrop] at hh <;> cases hh
end
section
variable {P : Program} {W : World} {O S0 : Nat → Prop} {ops : Array Oper} {Q : Exit → Act → World → Prop} {n n0 c0 k0 nn cc : Nat}
def JY (s t:SR):Prop:=s.p∈t.o.af∨yg+s.p∈t.o.af∨yg≤s.p∨((∀ i∈dZ s.wr,i∉t.dY∧i∉dZ t.wr)∧(∀ i∈dZ t.wr,i∉s.dY)∧(∀ i∈oW s.md,i∉t.dY∧i∉dZ t.wr)∧∀ i∈oW t.md,i∉s.dY∧i∉dZ s.wr)
theorem uh {af:List Nat} {xs xs':List (Nat × Nat)} {id:Nat} (hx:∀ x∈xs',x∈xs) (h:cC af xs id):cC af xs' id:=fun x hx'=>h x (hx x hx')
theorem Ad {n:Int}:∀ {l:List AV},mR n l=none→Ae n l=false
 | [],_=>rfl
 | y :: r,h=>by
  unfold mR at h
  split at h
  ·cases h
  ·rename_i hn
   rw [iq,Ad h]
   simp [hn]
theorem me {af:List Nat} {xs xs':List (Nat × Nat)} {ids ids':List Nat} (hx:∀ x∈xs',x∈xs) (hi:∀ i∈ids',i∈ids) (h:bz af xs ids):bz af xs' ids':=fun x hx'=>by
 rcases h x (hx x hx') with h | h
 ·exact .inl h
 ·exact .inr fun i hi'=>h i (hi i hi')
theorem xt {mt:List Nat}:∀ (rs:List aU) (os:List Oper) (cs:List (List Nat)) (p:Nat) (R V:List (Nat × Nat)) (e:Nat→AV) (σ:St) (K:(Nat→AV)→St→Prop),
  bt P mt n ops cs os=some rs→(∀ k o,os[k]?=some o→ops[p+k]?=some o)→gf (HC P) n0 c0 k0 rs p K R V e σ→
  ∃ (L:List SR) (ef:Nat→AV) (obf:Nat→Option aV),lG ef obf L e σ.ob∧K ef ⟨obf,n0+k0,c0+k0⟩∧L.map (·.o)=rs∧L.map (·.p)=List.range' p rs.length∧(∀ s∈L,Ey P W O S0 ops Q n c0 nn cc s)∧
   (∀ s∈L,bz s.o.af V (s.dY++dZ s.wr)∧bz s.o.af R (dZ s.wr)∧(∀ i∈oW s.md,cC s.o.af V i∧cC s.o.af R i)∧∀ i∈oW s.md,i∉dZ s.wr)∧L.Pairwise JY
 | [],os,cs,p,R,V,e,σ,K,hc,ho,h=>⟨[],e,σ.ob,⟨rfl,rfl⟩,h,rfl,rfl,fun s hs=>by simp at hs,fun s hs=>by simp at hs,.nil⟩
 | r :: rs,os,cs,p,R,V,e,σ,K,hc,ho,h=>by
  cases os with
  | nil=>simp [bt] at hc
  | cons o os=>
   simp only [bt] at hc
   split at hc
   ·rename_i r' rs' h1 h2
    simp only [Option.some.injEq,List.cons.injEq] at hc
    obtain ⟨rfl,rfl⟩:=hc
    have hop:ops[p]?=some o:=ho 0 o rfl
    have ho':∀ k o,os[k]?=some o→ops[p+1+k]?=some o:=fun k o hk=>by rw [Nat.add_assoc,Nat.add_comm 1 k]; exact ho (k+1) o hk
    -- one step,and what follows
    have one:∀ (s:SR) (R' V':List (Nat × Nat)) (τ:St),s.p=p→s.o=r'→s.e0=e→s.dL=σ.ob→Ey P W O S0 ops Q n c0 nn cc s→bz r'.af V (s.dY++dZ s.wr)→bz r'.af R (dZ s.wr)→(∀ i∈oW s.md,cC r'.af V i∧cC r'.af R i)→(∀ i∈oW s.md,i∉dZ s.wr)→Cf σ.ob σ.ob s.md→
      (∀ x∈R,x∈R')→(∀ x∈V,x∈V')→(∀ i∈s.dY,(p,i)∈R')→(∀ i∈dZ s.wr,(p,i)∈V')→(∀ i∈oW s.md,(yg+p,i)∈V')→τ.ob=gK (eM σ.ob s.wr) s.md→gf (HC P) n0 c0 k0 rs' (p+1) K R' V' (bM e r'.d s.v) τ→
      ∃ (L:List SR) (ef:Nat→AV) (obf:Nat→Option aV),lG ef obf L e σ.ob∧K ef ⟨obf,n0+k0,c0+k0⟩∧L.map (·.o)=r' :: rs'∧L.map (·.p)=List.range' p (r' :: rs').length∧(∀ s∈L,Ey P W O S0 ops Q n c0 nn cc s)∧
       (∀ s∈L,bz s.o.af V (s.dY++dZ s.wr)∧bz s.o.af R (dZ s.wr)∧(∀ i∈oW s.md,cC s.o.af V i∧cC s.o.af R i)∧∀ i∈oW s.md,i∉dZ s.wr)∧L.Pairwise JY:=by
     intro s R' V' τ hp hso hse hsb hex hm1 hm2 hm3 hm4 hm5 hR hV hR1 hV1 hV2 hτ hd
     obtain ⟨L,ef,obf,a1,a2,a3,a4,a5,a6,a7⟩:=xt rs' os cs.tail (p+1) R' V' _ τ K h2 ho' hd
     refine ⟨s :: L,ef,obf,⟨fun t _=>by rw [hse],fun i _=>by rw [hsb],by rw [hsb]; exact hm5,by rw [hso,←hτ]; exact a1⟩,a2,by simp [hso,a3],by simp [hp,a4,List.range'_succ],?_,?_,?_⟩
     ·intro u hu
      rcases List.mem_cons.1 hu with rfl | hu
      ·exact hex
      ·exact a5 u hu
     ·intro u hu
      rcases List.mem_cons.1 hu with rfl | hu
      ·rw [hso]; exact ⟨hm1,hm2,hm3,hm4⟩
      ·obtain ⟨b1,b2,b3,b4⟩:=a6 u hu
       exact ⟨me hV (fun _ h=>h) b1,me hR (fun _ h=>h) b2,fun i hi=>⟨uh hV (b3 i hi).1,uh hR (b3 i hi).2⟩,b4⟩
     ·refine .cons (fun u hu=>?_) a7
      obtain ⟨b1,b2,b3,b4⟩:=a6 u hu
      by_cases hin:s.p∈u.o.af
      ·exact .inl hin
      by_cases hin2:yg+s.p∈u.o.af
      ·exact .inr (.inl hin2)
      by_cases hin3:yg≤s.p
      ·exact .inr (.inr (.inl hin3))
      ·have hin':¬u.o.af.contains p=true:=by rw [hp] at hin; simpa using hin
       have hin2':¬u.o.af.contains (yg+p)=true:=by rw [hp] at hin2; simpa using hin2
       refine .inr (.inr (.inr ⟨fun i hi=>?_,fun i hi hs=>?_,fun i hi=>?_,fun i hi=>⟨fun hh=>?_,fun hh=>?_⟩⟩))
       ·have:=(b1 _ (hV1 i hi)).resolve_left hin'
        exact ⟨fun hh=>this i (List.mem_append_left _ hh) rfl,fun hh=>this i (List.mem_append_right _ hh) rfl⟩
       ·exact ((b2 _ (hR1 i hs)).resolve_left hin') i hi rfl
       ·have:=(b1 _ (hV2 i hi)).resolve_left hin2'
        exact ⟨fun hh=>this i (List.mem_append_left _ hh) rfl,fun hh=>this i (List.mem_append_right _ hh) rfl⟩
       ·rcases ((b3 i hi).2 _ (hR1 i hh)).resolve_left hin' with h | h
        ·exact h rfl
        ·rw [hp] at hin3; exact hin3 h
       ·rcases ((b3 i hi).1 _ (hV1 i hh)).resolve_left hin' with h | h
        ·exact h rfl
        ·rw [hp] at hin3; exact hin3 h
    have step:F8 r' e→tt (HC P) r'.op r'.af R V p (n0+p) (c0+p) (CZ (gf (HC P) n0 c0 k0 rs' (p+1) K) e r'.d) e σ.ob→
      ∃ (L:List SR) (ef:Nat→AV) (obf:Nat→Option aV),lG ef obf L e σ.ob∧K ef ⟨obf,n0+k0,c0+k0⟩∧L.map (·.o)=r' :: rs'∧L.map (·.p)=List.range' p (r' :: rs').length∧(∀ s∈L,Ey P W O S0 ops Q n c0 nn cc s)∧
       (∀ s∈L,bz s.o.af V (s.dY++dZ s.wr)∧bz s.o.af R (dZ s.wr)∧(∀ i∈oW s.md,cC s.o.af V i∧cC s.o.af R i)∧∀ i∈oW s.md,i∉dZ s.wr)∧L.Pairwise JY:=by
     intro hg hd
     unfold tt at hd
     split at hd
     ·rename_i x k v hmp
      have hrop:r'.op=.dm x k v:=by
       unfold aO.pz at hmp
       split at hmp
       ·rename_i heq; cases hmp; exact heq
       ·cases hmp
      generalize hxv:x.ev e=X at hd
      generalize hkv:k.ev e=Y at hd
      unfold dmap at hd
      split at hd
      ·rename_i id g kq q
       obtain ⟨bp,m1,m2,o0,ho0,hg0,hro,hko,hfr,hk⟩:=hd
       exact one ⟨p,r',[],.bF,none,e,σ.ob,some (id,kq,q,v.ev e)⟩ R (V++[(yg+p,id)]) ⟨bd σ.ob id (some { o0 with l:=et kq q (v.ev e) o0.l }),n0+p,c0+p⟩ rfl rfl rfl rfl (JU hop h1 hg hrop hxv hkv bp ho0 hg0 hro) (fun x _=>.inr fun i hi=>by simp [dZ] at hi) (fun x _=>.inr fun i hi=>by simp [dZ] at hi)
        (fun i hi=>by simp only [oW,List.mem_singleton] at hi; subst hi; exact ⟨m1,m2⟩) (fun i _=>by simp [dZ]) ⟨o0,o0,ho0,ho0,rfl,hko,Ad hfr⟩
        (fun _ h=>h) (fun x hx=>List.mem_append_left _ hx) (fun i hi=>by simp at hi) (fun i hi=>by simp [dZ] at hi) (fun i hi=>by simp only [oW,List.mem_singleton] at hi; subst hi; simp) (by simp only [gK,eM,ho0,Option.map_some]) hk
      ·exact hd.elim
     split at hd
     ·rename_i f args hcall
      obtain ⟨v,rd,wr,hC,m1,m2,hk⟩:=hd
      exact one ⟨p,r',rd,v,wr,e,σ.ob,none⟩ _ _ _ rfl rfl rfl rfl (Ih hop h1 hg hcall hC) m1 m2 (fun i hi=>by simp [oW] at hi) (fun i hi=>by simp [oW] at hi) trivial (fun x hx=>List.mem_append_left _ hx) (fun x hx=>List.mem_append_left _ hx)
       (fun i hi=>List.mem_append_right _ (List.mem_map.2 ⟨i,hi,rfl⟩)) (fun i hi=>List.mem_append_right _ (List.mem_map.2 ⟨i,hi,rfl⟩)) (fun i hi=>by simp [oW] at hi) rfl hk
     ·rename_i hcall
      obtain ⟨hnd,m1,m2,hr⟩:=hd
      obtain ⟨v,wr,τ,hk,hτ,hD⟩:=zk hnd hcall hr
      exact one ⟨p,r',r'.op.dY e,v,wr,e,σ.ob,none⟩ _ _ τ rfl rfl rfl rfl (Ig hop h1 hg hcall hD)
       (me (fun _ h=>h) (fun i hi=>by rcases List.mem_append.1 hi with h | h; exact List.mem_append_left _ h; exact List.mem_append_right _ (hD.lY i h)) m1) (me (fun _ h=>h) hD.lY m2) (fun i hi=>by simp [oW] at hi) (fun i hi=>by simp [oW] at hi) trivial
       (fun x hx=>List.mem_append_left _ hx) (fun x hx=>List.mem_append_left _ hx)
       (fun i hi=>List.mem_append_right _ (List.mem_map.2 ⟨i,hi,rfl⟩)) (fun i hi=>List.mem_append_right _ (List.mem_map.2 ⟨i,hD.lY i hi,rfl⟩)) (fun i hi=>by simp [oW] at hi) hτ hk
    simp only [gf] at h
    split at h
    ·rename_i hgd
     exact step (by simp [F8,hgd]) h
    ·rename_i s w hgd
     generalize hes:e s=g at h
     unfold s8 at h
     split at h
     ·exact one ⟨p,r',[],.tuple [],none,e,σ.ob,none⟩ R V σ rfl rfl rfl rfl (Fm hop h1 hgd (.inr hes)) (fun x _=>.inr fun i hi=>by simp [dZ] at hi) (fun x _=>.inr fun i hi=>by simp [dZ] at hi) (fun i hi=>by simp [oW] at hi) (fun i hi=>by simp [oW] at hi) trivial
        (fun _ h=>h) (fun _ h=>h) (fun i hi=>by simp at hi) (fun i hi=>by simp [dZ] at hi) (fun i hi=>by simp [oW] at hi) rfl h
     ·rename_i b
      have hb:e s=.bool b:=hes
      by_cases hbw:b=w
      ·exact step (by simp [F8,hgd,hb,hbw]) (h.1 hbw)
      ·have hbw':b=!w:=by cases b <;> cases w <;> simp_all
       exact one ⟨p,r',[],.tuple [],none,e,σ.ob,none⟩ R V σ rfl rfl rfl rfl (Fm hop h1 hgd (.inl (by rw [hb,hbw']))) (fun x _=>.inr fun i hi=>by simp [dZ] at hi) (fun x _=>.inr fun i hi=>by simp [dZ] at hi) (fun i hi=>by simp [oW] at hi) (fun i hi=>by simp [oW] at hi) trivial
        (fun _ h=>h) (fun _ h=>h) (fun i hi=>by simp at hi) (fun i hi=>by simp [dZ] at hi) (fun i hi=>by simp [oW] at hi) rfl (h.2 hbw')
     ·exact h.elim
   ·cases hc
theorem il {o:Oper} {u:Nat}:u∈direct o↔∃ e∈o.after,Region.binds .any e=true∧e.on=u:=by
 simp [direct,and_assoc]
def Rel (s t:SR):Prop:=s.p<t.p∧(s.p∈t.o.af∨HQ s t)
theorem J1 {ef:Nat→AV} {obf:Nat→Option aV} (clo:Nat→List Nat) (hclo:∀ i o,ops[i]?=some o→(∀ u∈direct o,u<i)∧∀ x∈clo i,x∈direct o∨∃ u∈direct o,x∈clo u) :
  ∀ (fuel:Nat) (listed:Array Bool) (L:List SR) (m:Mp) (S:Nat→Prop) (w:World) (e:Nat→AV) (ob:Nat→Option aV) (a:Act),L.length≤fuel→listed.size=ops.size→
   (∀ i,i<ops.size→(listed.getD i true=false↔∃ s∈L,s.p=i))→(∀ s∈L,s.p<ops.size)→(∀ i,listed.getD i false=true→∀ x∈clo i,listed.getD x false=true)→
   L.Pairwise Rel→(∀ s∈L,s.o.af=clo s.p)→(∀ s∈L,Ey P W O S0 ops Q n c0 nn cc s)→lG ef obf L e ob→lW W O S0 m S ⟨ob,nn,cc⟩ w n e a→
   (∀ s∈L,s.o.op.new=true→m (c0+s.p)=none∧c0+s.p<cc)→(∀ m' S' w' a',lW W O S0 m' S' ⟨obf,nn,cc⟩ w' n ef a'→Ext m S w m' S' w'→Q .normal a' w')→wpAny P .any ops Q fuel listed a w:=by
 intro fuel
 have done:∀ (listed:Array Bool) (m:Mp) (S:Nat→Prop) (w:World) (e:Nat→AV) (ob:Nat→Option aV) (a:Act),lG ef obf [] e ob→lW W O S0 m S ⟨ob,nn,cc⟩ w n e a→(∀ m' S' w' a',lW W O S0 m' S' ⟨obf,nn,cc⟩ w' n ef a'→Ext m S w m' S' w'→Q .normal a' w')→Q .normal a w:=by
  rintro listed m S w e ob a ⟨rfl,rfl⟩ hI hQ
  exact hQ m S w a hI (Ext.refl m S w)
 have noReady:∀ (listed:Array Bool),(∀ i,i<ops.size→(listed.getD i true=false↔∃ s∈([]:List SR),s.p=i))→Region.ready .any ops listed=[]:=by
  intro listed h
  rw [List.eq_nil_iff_forall_not_mem]
  intro j hj
  obtain ⟨h1,o,ho,_⟩:=mem_ready.1 hj
  obtain ⟨s,hs,_⟩:=(h j (Array.getElem?_eq_some_iff.1 ho).1).1 h1
  simp at hs
 induction fuel with
 | zero=>
  intro listed L m S w e ob a hlen hsz hL hLlt hcl hP haf hex hch hI hf hQ
  obtain rfl:L=[]:=List.eq_nil_of_length_eq_zero (by omega)
  exact ⟨noReady listed hL,done listed m S w e ob a hch hI hQ⟩
 | succ fuel ih=>
  intro listed L m S w e ob a hlen hsz hL hLlt hcl hP haf hex hch hI hf hQ
  refine ⟨fun hnil=>?_,fun i hi=>?_⟩
  ·cases L with
   | nil=>exact done listed m S w e ob a hch hI hQ
   | cons s L=>
    exfalso
    have hs:s.p<ops.size:=hLlt s (List.mem_cons_self ..)
    have:s.p∈Region.ready .any ops listed:=by
     refine mem_ready.2 ⟨(hL s.p hs).2 ⟨s,List.mem_cons_self ..,rfl⟩,ops[s.p],Array.getElem?_eq_getElem hs,fun x hx hb=>?_⟩
     have hlt:=(hclo s.p _ (Array.getElem?_eq_getElem hs)).1 x.on (il.2 ⟨x,hx,hb,rfl⟩)
     have hxs:x.on<ops.size:=by omega
     cases hv:listed.getD x.on true with
     | true=>rw [Array.getD_eq_getD_getElem?,Array.getElem?_eq_getElem (by omega)] at hv ⊢; simpa using hv
     | false=>
      obtain ⟨u,hu,hup⟩:=(hL x.on hxs).1 hv
      rcases List.mem_cons.1 hu with rfl | hu
      ·omega
      ·have:=(List.pairwise_cons.1 hP).1 u hu; have:=this.1; omega
    rw [hnil] at this
    simp at this
  ·obtain ⟨h1,o,ho,hdep⟩:=mem_ready.1 hi
   have hilt:i<ops.size:=(Array.getElem?_eq_some_iff.1 ho).1
   obtain ⟨s,hs,rfl⟩:=(hL i hilt).1 h1
   obtain ⟨A,B,rfl⟩:=List.append_of_mem hs
   have hcloL:∀ x∈clo s.p,listed.getD x false=true:=by
    intro x hx
    rcases (hclo s.p o ho).2 x hx with h | ⟨u,hu,hxu⟩
    ·obtain ⟨y,hy,hb,rfl⟩:=il.1 h
     exact hdep y hy hb
    ·obtain ⟨y,hy,hb,rfl⟩:=il.1 hu
     exact hcl _ (hdep y hy hb) x hxu
   have hA:∀ u∈A,HQ u s:=by
    intro u hu
    have hr:=(List.pairwise_append.1 hP).2.2 u hu s (List.mem_cons_self ..)
    rcases hr.2 with h | h
    ·exfalso
     rw [haf s hs] at h
     have h2:=hcloL _ h
     have hul:u∈A++s :: B:=List.mem_append_left _ hu
     have h3:=(hL u.p (hLlt u hul)).2 ⟨u,hul,rfl⟩
     rw [Array.getD_eq_getD_getElem?,Array.getElem?_eq_getElem (by have:=hLlt u hul; omega)] at h2 h3
     simp at h2 h3
     rw [h2] at h3; cases h3
    ·exact h
   obtain ⟨c1,c2,cm,c3⟩:=lG.front hA hch
   have hnd:∀ u∈A++B,u.p≠s.p:=by
    intro u hu he
    rcases List.mem_append.1 hu with hu | hu
    ·have:=((List.pairwise_append.1 hP).2.2 u hu s (List.mem_cons_self ..)).1; omega
    ·have:=((List.pairwise_cons.1 (List.pairwise_append.1 hP).2.1).1 u hu).1; omega
   have hsub:∀ u∈A++B,u∈A++s :: B:=fun u hu=>by
    rcases List.mem_append.1 hu with hu | hu
    ·exact List.mem_append_left _ hu
    ·exact List.mem_append_right _ (List.mem_cons_of_mem _ hu)
   refine hex s hs m S w e ob a _ c1 c2 cm hI (hf s hs) fun m' S' w' a' hI' hX hm=>?_
   refine ih (listed.setIfInBounds s.p true) (A++B) m' S' w' _ _ a' (by simp at hlen ⊢; omega) (by simpa using hsz) (fun j hj=>?_) (fun u hu=>hLlt u (hsub u hu)) (fun j hj x hx=>?_)
    (hP.sublist (by simp)) (fun u hu=>haf u (hsub u hu)) (fun u hu=>hex u (hsub u hu)) c3 hI' (fun u hu hnew=>?_) (fun m2 S2 w2 a2 q1 q2=>hQ m2 S2 w2 a2 q1 (hX.trans q2))
   ·by_cases hjs:j=s.p
    ·subst hjs
     constructor
     ·intro h; simp [Array.getD_eq_getD_getElem?,hsz,hilt] at h
     ·rintro ⟨u,hu,he⟩; exact absurd he (hnd u hu)
    ·rw [getD_set_ne true (Ne.symm hjs),hL j hj]
     constructor
     ·rintro ⟨u,hu,rfl⟩
      refine ⟨u,?_,rfl⟩
      rcases List.mem_append.1 hu with hu | hu
      ·exact List.mem_append_left _ hu
      ·rcases List.mem_cons.1 hu with rfl | hu
       ·exact absurd rfl hjs
       ·exact List.mem_append_right _ hu
     ·rintro ⟨u,hu,rfl⟩; exact ⟨u,hsub u hu,rfl⟩
   ·have key:∀ y,listed.getD y false=true→(listed.setIfInBounds s.p true).getD y false=true:=by
     intro y hy
     by_cases hys:y=s.p
     ·subst hys; simp [Array.getD_eq_getD_getElem?,hsz,hilt]
     ·rw [getD_set_ne false (Ne.symm hys)]; exact hy
    by_cases hjs:j=s.p
    ·subst hjs; exact key x (hcloL x hx)
    ·rw [getD_set_ne false (Ne.symm hjs)] at hj; exact key x (hcl j hj x hx)
   ·obtain ⟨f1,f2⟩:=hf u (hsub u hu) hnew
    refine ⟨?_,f2⟩
    refine Classical.byContradiction fun hne=>?_
    have hne':m' (c0+u.p)≠m (c0+u.p):=by rw [f1]; exact hne
    have:=(hm _ hne').2
    exact hnd u hu (by omega)
end
theorem xE {x y:aU} (h:tn x y=true):(∀ d,x.d=some d→d∉y.lk)∧(∀ d,y.d=some d→d∉x.lk)∧(∀ d,x.d=some d→y.d≠some d):=by
 simp only [tn,Bool.and_eq_true] at h
 obtain ⟨⟨h1,h2⟩,h3⟩:=h
 refine ⟨fun d hd=>?_,fun d hd=>?_,fun d hd hy=>?_⟩
 ·rw [hd] at h1; simpa [Mc] using h1
 ·rw [hd] at h2; simpa [Mc] using h2
 ·rw [hd,hy] at h3; simp [UK] at h3
theorem tz:∀ (L:List SR) (i:Nat),L.map (·.p)=List.range' i L.length→vD i (L.map (·.o))=true→L.Pairwise fun s t=>s.p<t.p∧(t.o.af.contains s.p=true∨tn s.o t.o=true)
 | [],_,_,_=>.nil
 | s :: L,i,hp,h=>by
  simp only [List.map_cons,List.length_cons,List.range'_succ,List.cons.injEq] at hp
  simp only [List.map_cons,vD,Bool.and_eq_true,List.all_eq_true,List.mem_map,forall_exists_index,and_imp,forall_apply_eq_imp_iff₂,Bool.or_eq_true] at h
  refine .cons (fun t ht=>⟨?_,by rw [hp.1]; exact h.1 t ht⟩) (tz L (i+1) hp.2 h.2)
  have:t.p∈L.map (·.p):=List.mem_map.2 ⟨t,ht,rfl⟩
  rw [hp.2,List.mem_range'_1] at this
  omega
theorem mn {l:List aU}:∀ (os:List Oper) (rs:List aU) (i:Nat),ko l i os rs=true→os.length=rs.length→∀ (j:Nat) (o:Oper) (r:aU),os[j]?=some o→rs[j]?=some r→qt l (i+j) o r=true
 | [],rs,i,h,hl,j,o,r,ho,hr=>by simp at ho
 | o0 :: os,[],i,h,hl,j,o,r,ho,hr=>by simp at hr
 | o0 :: os,r0 :: rs,i,h,hl,0,o,r,ho,hr=>by
  simp only [ko,Bool.and_eq_true] at h
  simp only [List.getElem?_cons_zero,Option.some.injEq] at ho hr
  subst ho; subst hr
  exact h.1
 | o0 :: os,r0 :: rs,i,h,hl,j+1,o,r,ho,hr=>by
  simp only [ko,Bool.and_eq_true] at h
  have:=mn os rs (i+1) h.2 (by simpa using hl) j o r (by simpa using ho) (by simpa using hr)
  rw [Nat.add_assoc,Nat.add_comm 1 j] at this
  exact this
theorem Inv.raise {W:World} {O S0:Nat→Prop} {m:Mp} {S:Nat→Prop} {ob:Nat→Option aV} {n c n' c':Nat} {w:World} (h:Inv W O S0 m S ⟨ob,n,c⟩ w) (hc:c≤c'):Inv W O S0 m S ⟨ob,n',c'⟩ w:=
 ⟨⟨fun g v hg=>Nat.lt_of_lt_of_le (h.bw.fresh g v hg) hc,h.bw.obj,h.bw.iD,h.bw.lt⟩,⟨h.fr.os,h.fr.tape,h.fr.output,h.fr.size,h.fr.block,h.fr.own,h.fr.sub⟩⟩
theorem iE {P:Program} {mt:List Nat} {n:Nat} {ops:Array Oper}:∀ {cs:List (List Nat)} {os:List Oper} {rs:List aU},bt P mt n ops cs os=some rs→rs.length=os.length
 | _,[],rs,h=>by simp [bt] at h; subst h; rfl
 | cs,o :: os,rs,h=>by
  simp only [bt] at h
  split at h
  ·rename_i r rs' h1 h2
   simp only [Option.some.injEq] at h
   subst h
   simp [iE h2]
  ·cases h
theorem EW {P:Program} {W:World} {O S0:Nat→Prop} {ops:Array Oper} {Q:Exit→Act→World→Prop} {mt:List Nat} {n k:Nat} {l:List aU} {m:Mp} {S:Nat→Prop} {σ:St} {w:World} {e:Nat→AV} {a:Act} {K:(Nat→AV)→St→Prop}
  (hc:bt P mt n ops (closure ops.toList) ops.toList=some l) (hok:GG ops.toList l k=true) (hI:lW W O S0 m S σ w n e a) (h:gf (HC P) σ.n σ.c k l 0 K [] [] e σ)
  (hQ:∀ m' S' σ' w' e' a',lW W O S0 m' S' σ' w' n e' a'→Ext m S w m' S' w'→K e' σ'→Q .normal a' w'):wpAny P .any ops Q ops.size (Array.replicate ops.size false) a { w with drawn:=w.drawn+1 }:=by
 obtain ⟨hInv,hE,hn,hdf⟩:=hI
 have hlen:=iE hc
 simp only [Array.length_toList] at hlen
 simp only [GG,Bool.and_eq_true] at hok
 obtain ⟨⟨⟨hk,hap⟩,hcl⟩,hsmall⟩:=hok
 simp only [decide_eq_true_eq] at hsmall
 obtain ⟨L,ef,obf,a1,a2,a3,a4,a5,a6,a7⟩:=xt (W:=W) (O:=O) (S0:=S0) (Q:=Q) (nn:=σ.n+k) (cc:=σ.c+k) l ops.toList _ 0 [] [] e σ K hc (fun j o ho=>by simpa using ho) h
 have hLl:L.length=l.length:=by rw [←a3]; simp
 have hst:=tz L 0 (by rw [hLl]; exact a4) (by rw [a3]; exact hap)
 have hat:∀ (j:Nat) (s:SR),L[j]?=some s→s.p=j∧l[j]?=some s.o:=by
  intro j s hs
  have h1:(L.map (·.p))[j]?=some s.p:=by simp [hs]
  have h2:(L.map (·.o))[j]?=some s.o:=by simp [hs]
  have hj:j<l.length:=by rw [←hLl]; exact (List.getElem?_eq_some_iff.1 hs).1
  rw [a4,List.getElem?_range' hj] at h1
  rw [a3] at h2
  exact ⟨by simp at h1; omega,h2⟩
 have hmem:∀ s∈L,s.p<l.length∧l[s.p]?=some s.o:=by
  intro s hs
  obtain ⟨j,hj⟩:=List.getElem?_of_mem hs
  obtain ⟨h1,h2⟩:=hat j s hj
  rw [h1]
  exact ⟨(List.getElem?_eq_some_iff.1 h2).1,h2⟩
 have haf:∀ (j:Nat) (q:aU),l[j]?=some q→∀ x∈q.af,x<j:=by
  intro j
  induction j using Nat.strongRecOn with
  | _ j ih=>
   intro q hq x hx
   have hj:j<l.length:=(List.getElem?_eq_some_iff.1 hq).1
   have hj2:j<ops.size:=by omega
   have:=mn ops.toList l 0 hcl (by simpa using hlen.symm) j ops[j] q (by simp [Array.getElem?_eq_getElem hj2]) hq
   simp only [qt,Bool.and_eq_true,List.all_eq_true,decide_eq_true_eq,Nat.zero_add,Bool.or_eq_true,List.any_eq_true] at this
   rcases this.2 x hx with h | ⟨u,hu,h⟩
   ·exact this.1 x (by simpa using h)
   ·have h1:=this.1 u hu
    split at h
    ·rename_i q' hq'
     have:=ih u h1 q' hq' x (by simpa using h)
     omega
    ·cases h
 have hP:L.Pairwise Rel:=(List.Pairwise.and hst a7).imp_of_mem fun {s t} hs ht h=>by
  obtain ⟨⟨h1,h2⟩,h3⟩:=h
  refine ⟨h1,?_⟩
  have k1:=hmem s hs
  have k2:=hmem t ht
  rcases h3 with h3 | h3 | h3 | h3
  ·exact .inl h3
  ·have:=haf t.p t.o k2.2 _ h3; omega
  ·omega
  ·rcases h2 with h2 | h2
   ·exact .inl (by simpa using h2)
   ·obtain ⟨b1,b2,b3⟩:=xE h2
    exact .inr ⟨b1,b2,b3,h3.1,h3.2.1,h3.2.2.1,h3.2.2.2,(a6 s hs).2.2.2,(a6 t ht).2.2.2⟩
 refine (J1 (nn:=σ.n+k) (cc:=σ.c+k) (c0:=σ.c) (n:=n) (fun i=>match l[i]? with | some q=>q.af | none=>[]) ?_ ops.size _ L m S _ e σ.ob a (by rw [hLl,hlen]; exact Nat.le_refl _) (by simp) (fun i hi=>?_) (fun s hs=>by rw [←hlen]; exact (hmem s hs).1)
  (fun i hi=>?_) hP (fun s hs=>by simp only [(hmem s hs).2]) a5 a1 ⟨(hInv.drew).raise (n:=σ.n) (c:=σ.c) (ob:=σ.ob) (Nat.le_add_right _ _),hE.ext (Ext.drew m S w),hn,hdf.ext (Ext.drew m S w)⟩ (fun s hs hnew=>?_) fun m' S' w' a' q1 q2=>hQ m' S' _ w' ef a' q1 ((Ext.drew m S w).trans q2) a2)
 ·intro i o ho
  have hi:i<l.length:=by rw [hlen]; exact (Array.getElem?_eq_some_iff.1 ho).1
  have:=mn ops.toList l 0 hcl (by simpa using hlen.symm) i o l[i] (by simpa using ho) (List.getElem?_eq_getElem hi)
  simp only [qt,Bool.and_eq_true,List.all_eq_true,decide_eq_true_eq,Nat.zero_add,Bool.or_eq_true,List.any_eq_true] at this
  refine ⟨this.1,fun x hx=>?_⟩
  simp only [List.getElem?_eq_getElem hi] at hx
  rcases this.2 x hx with h | ⟨u,hu,h⟩
  ·exact .inl (by simpa using h)
  ·refine .inr ⟨u,hu,?_⟩
   split at h
   ·rename_i q hq; simp only [hq]; simpa using h
   ·cases h
 ·constructor
  ·intro _
   have hi':i<L.length:=by rw [hLl,hlen]; exact hi
   exact ⟨L[i],List.getElem_mem hi',(hat i _ (List.getElem?_eq_getElem hi')).1⟩
  ·intro _; simp [Array.getD_eq_getD_getElem?,hi]
 ·simp only [Array.getD_eq_getD_getElem?] at hi
  by_cases h:i<ops.size <;> simp [h] at hi
 ·refine ⟨?_,?_⟩
  ·cases hv:m (σ.c+s.p) with
   | none=>rfl
   | some v=>have:=hInv.bw.fresh _ _ hv; omega
  ·rcases Bool.or_eq_true _ _ ▸ hk with h | h
   ·have:=(hmem s hs).1; have:k=l.length:=by simpa using h
    omega
   ·have:=List.all_eq_true.1 h s.o (by rw [←a3]; exact List.mem_map.2 ⟨s,hs,rfl⟩)
    rw [hnew] at this; cases this
end Go.Ab
