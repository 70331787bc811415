/- OWN WORK, put together by tools/asm.py, seat.py, mini.py. -/
import Derived.Test.YtcpckngdfjmbgaaGreatBaseO
namespace Go.Ab
open Go.RowKit
section
variable {P : Program} {σ : St}
theorem HC.mono {f:Nat} {args:List AV} {R R':AV→St→Prop} (h:HC P f args σ R) (k:∀ r σ',R r σ'→R' r σ'):HC P f args σ R':=
 ⟨h.1,fun m S w vs hS hv=>(h.2 m S w vs hS hv).mono fun _ _ ⟨r,σ',m',S',v,h1,h2,h3⟩=>⟨r,σ',m',S',v,h1,k _ _ h2,h3⟩⟩
end
theorem mb {σ:St} {x:AV} {K K':List AV→Prop} (k:∀ l,K l→K' l) (h:bY σ x K):bY σ x K':=by
 unfold bY at h ⊢
 split at h
 ·exact k _ h
 ·exact k _ h
 ·obtain ⟨o,a1,a2,a3,a4,h⟩:=h
  exact ⟨o,a1,a2,a3,a4,k _ h⟩
 ·obtain ⟨o,a1,a2,a3,a4,h⟩:=h
  exact ⟨o,a1,a2,a3,a4,k _ h⟩
 ·exact h.elim
theorem Iq {n c:Nat} {lo hi:Option AV} {K K':Nat→Nat→Prop} (k:∀ l h,K l h→K' l h) (h:w7 n c lo hi K):w7 n c lo hi K':=by
 unfold w7 at h ⊢
 split at h
 ·exact k _ _ h
 ·exact ⟨h.1,h.2.1,k _ _ h.2.2⟩
 ·exact ⟨h.1,h.2.1,k _ _ h.2.2⟩
 ·exact ⟨h.1,h.2.1,h.2.2.1,k _ _ h.2.2.2⟩
 ·exact h.elim
theorem gX {P:Program} {e:Nat→AV} {op:aO} {σ:St} {K K':AV→St→Prop} (k:∀ v τ,K v τ→K' v τ) (h:ar (HC P) op e σ K):ar (HC P) op e σ K':=by
 cases op with
 | mv x=>exact k _ _ h
 | pick c a b=>
  simp only [ar] at h ⊢
  generalize c.ev e=cv at h ⊢
  unfold pS at h ⊢
  split at h
  ·exact ⟨fun t=>k _ _ (h.1 t),fun t=>k _ _ (h.2 t)⟩
  ·exact h.elim
 | alloc es ty z=>exact k _ _ h
 | box es ty x=>exact ⟨h.1,h.2.1,k _ _ h.2.2⟩
 | build zs ps=>exact ⟨h.1,k _ _ h.2⟩
 | lit mu es ty xs=>
  obtain ⟨h1,h⟩:=h
  refine ⟨h1,?_⟩
  cases mu <;> exact k _ _ h
 | load ag sz x=>
  simp only [ar] at h ⊢
  generalize x.ev e=xv at h ⊢
  unfold uM at h ⊢
  split at h
  ·obtain ⟨o,a1,a2,a3,a4,y,a5,h⟩:=h
   exact ⟨o,a1,a2,a3,a4,y,a5,k _ _ h⟩
  ·obtain ⟨a4,y,a5,h⟩:=h
   exact ⟨a4,y,a5,k _ _ h⟩
  ·exact h.elim
 | store sz x v=>
  simp only [ar] at h ⊢
  generalize x.ev e=xv at h ⊢
  unfold sQ at h ⊢
  split at h
  ·obtain ⟨o,a1,a2,a3,a4,a5,a6,a7,y,a8,h⟩:=h
   exact ⟨o,a1,a2,a3,a4,a5,a6,a7,y,a8,k _ _ h⟩
  ·exact h.elim
 | ba x=>
  simp only [ar] at h ⊢
  generalize x.ev e=xv at h ⊢
  unfold iL at h ⊢
  split at h
  ·exact k _ _ h
  ·exact k _ _ h
  ·exact k _ _ h
  ·exact k _ _ h
  ·exact h.elim
 | bin op x y=>
  obtain ⟨v,hv,hd⟩:=FL (K:=fun v=>K v σ) h
  exact hd (fun v=>K' v σ) (k _ _ hv)
 | F9 neg x y=>
  simp only [ar] at h ⊢
  generalize x.ev e=xv at h ⊢
  generalize y.ev e=yv at h ⊢
  unfold Fp at h ⊢
  split at h
  ·exact k _ _ h
  ·exact h.elim
 | eqs neg n x y=>
  simp only [ar] at h ⊢
  generalize x.ev e=xv at h ⊢
  generalize y.ev e=yv at h ⊢
  unfold BO at h ⊢
  split at h
  ·obtain ⟨b,hb,h⟩:=h
   exact ⟨b,hb,k _ _ h⟩
  ·exact h.elim
 | un op x=>
  simp only [ar] at h ⊢
  generalize x.ev e=xv at h ⊢
  unfold MX at h ⊢
  split at h
  ·exact k _ _ h
  ·exact k _ _ h
  ·exact h.elim
 | conv K2 x=>
  simp only [ar] at h ⊢
  generalize x.ev e=xv at h ⊢
  unfold AI at h ⊢
  split at h
  ·exact k _ _ h
  ·exact h.elim
 | LM f fs=>exact ⟨h.1,k _ _ h.2⟩
 | H9 f caps=>exact k _ _ h
 | fa off x=>
  simp only [ar] at h ⊢
  generalize x.ev e=xv at h ⊢
  unfold L4 at h ⊢
  split at h
  ·exact k _ _ h
  ·exact k _ _ h
  ·exact h.elim
 | bE es x i=>
  simp only [ar] at h ⊢
  generalize x.ev e=xv at h ⊢
  generalize i.ev e=iv at h ⊢
  unfold wJ at h ⊢
  split at h
  ·obtain ⟨a1,a2,a3,a4,h⟩:=h
   exact ⟨a1,a2,a3,a4,k _ _ h⟩
  ·obtain ⟨a1,a2,a3,h⟩:=h
   exact ⟨a1,a2,a3,k _ _ h⟩
  ·obtain ⟨a1,a2,a3,h⟩:=h
   exact ⟨a1,a2,a3,k _ _ h⟩
  ·obtain ⟨a1,a2,a3,h⟩:=h
   exact ⟨a1,a2,a3,k _ _ h⟩
  ·exact h.elim
 | ext x i=>
  simp only [ar] at h ⊢
  generalize x.ev e=xv at h ⊢
  unfold uS at h ⊢
  split at h
  ·obtain ⟨v,hv,h⟩:=h
   exact ⟨v,hv,k _ _ h⟩
  ·exact h.elim
 | len x=>
  simp only [ar] at h ⊢
  generalize x.ev e=xv at h ⊢
  unfold ik at h ⊢
  split at h
  ·exact k _ _ h
  ·exact k _ _ h
  ·exact k _ _ h
  ·exact k _ _ h
  ·exact k _ _ h
  ·exact h.elim
 | lens x=>
  simp only [ar] at h ⊢
  generalize x.ev e=xv at h ⊢
  unfold Ai at h ⊢
  split at h
  ·exact k _ _ h
  ·exact h.elim
 | app es bytes ty x y=>
  obtain ⟨h1,h2,h⟩:=h
  refine ⟨h1,h2,mb (fun l h=>?_) h⟩
  generalize x.ev e=xv at h ⊢
  split at h
  ·obtain ⟨a1,a2,a3,a4⟩:=h
   exact ⟨a1,a2,fun t=>k _ _ (a3 t),fun t=>k _ _ (a4 t)⟩
  ·obtain ⟨a1,a2,o,a3,a4,a5,a6,a7,a8,a9,b1,b2,h⟩:=h
   exact ⟨a1,a2,o,a3,a4,a5,a6,a7,a8,a9,b1,b2,k _ _ h⟩
  ·obtain ⟨a1,a2,h⟩:=h
   exact ⟨a1,fun t=>k _ _ (a2 t),fun t=>by obtain ⟨o,a3,a4,a5,a6,a7,a8,h⟩:=h t; exact ⟨o,a3,a4,a5,a6,a7,a8,k _ _ h⟩⟩
  ·obtain ⟨a1,a2,a3,a4,h⟩:=h
   exact ⟨a1,a2,a3,a4,k _ _ h⟩
  ·exact h.elim
 | Fa mx x xs=>
  obtain ⟨v,hv,hd⟩:=qd (K:=fun v=>K v σ) h
  exact hd (fun v=>K' v σ) (k _ _ hv)
 | rm es x lo hi=>
  simp only [ar,ji] at h ⊢
  generalize x.ev e=xv at h ⊢
  unfold eK at h ⊢
  split at h
  ·obtain ⟨p,q,_,hK,hd⟩:=gu h
   exact hd _ (k _ _ hK)
  ·obtain ⟨h1,h⟩:=h
   obtain ⟨p,q,_,hK,hd⟩:=gu h
   exact ⟨h1,hd _ (k _ _ hK)⟩
  ·obtain ⟨h1,h2,h⟩:=h
   obtain ⟨p,q,_,hK,hd⟩:=gu h
   exact ⟨h1,h2,hd _ ⟨fun t=>k _ _ (hK.1 t),fun t=>k _ _ (hK.2 t)⟩⟩
  ·obtain ⟨h1,h2,h⟩:=h
   exact ⟨h1,h2,Iq (fun l h hK=>⟨fun t=>k _ _ (hK.1 t),fun t=>k _ _ (hK.2 t)⟩) h⟩
  ·exact h.elim
 | vQ x lo hi=>
  simp only [ar,tN] at h ⊢
  generalize x.ev e=xv at h ⊢
  unfold tM at h ⊢
  split at h
  ·obtain ⟨p,q,_,hK,hd⟩:=gu h
   exact hd _ (k _ _ hK)
  ·exact h.elim
 | call f args=>exact HC.mono h k
 | dF x args=>
  simp only [ar] at h ⊢
  generalize x.ev e=xv at h ⊢
  unfold mQ at h ⊢
  split at h
  ·exact HC.mono h k
  ·exact HC.mono h k
  ·exact h.elim
 | fA es ty=>exact k _ _ h
 | pu p xs=>
  obtain ⟨v,hv,h⟩:=h
  exact ⟨v,hv,k _ _ h⟩
 | kW neg x=>
  simp only [ar] at h ⊢
  generalize x.ev e=xv at h ⊢
  unfold Ao at h ⊢
  split at h
  ·exact k _ _ h
  ·exact ⟨k _ _ h.1,k _ _ h.2⟩
  ·exact k _ _ h
  ·exact ⟨fun t=>⟨k _ _ (h.1 t).1,k _ _ (h.1 t).2⟩,fun t=>k _ _ (h.2 t)⟩
  ·exact h.elim
 | LL mu es bytes ty z x=>
  simp only [ar] at h ⊢
  generalize x.ev e=xv at h ⊢
  unfold H8 at h ⊢
  split at h
  ·obtain ⟨a1,a2,a3,h⟩:=h
   refine ⟨a1,a2,a3,?_⟩
   cases mu <;> exact k _ _ h
  ·exact h.elim
 | Lj es x hh=>
  simp only [ar] at h ⊢
  generalize x.ev e=xv at h ⊢
  generalize hh.ev e=hv at h ⊢
  unfold Of at h ⊢
  split at h
  ·obtain ⟨a1,a2,a3,a4,o,a5,a6,a7,a8,a9,h⟩:=h
   exact ⟨a1,a2,a3,a4,o,a5,a6,a7,a8,a9,k _ _ h⟩
  ·exact h.elim
 | Ga es x y=>
  rcases h with h | ⟨h1,h2,h⟩
  ·refine .inl ?_
   generalize x.ev e=xv at h ⊢
   generalize y.ev e=yv at h ⊢
   unfold JY at h ⊢
   split at h
   ·obtain ⟨a1,a2,a3,o2,b1,b2,b3,b4,o,c1,c2,c3,c4,c5,h⟩:=h
    exact ⟨a1,a2,a3,o2,b1,b2,b3,b4,o,c1,c2,c3,c4,c5,k _ _ h⟩
   ·exact h.elim
  ·refine .inr ⟨h1,h2,mb (fun l h=>?_) h⟩
   generalize x.ev e=xv at h ⊢
   split at h
   ·exact k _ _ h
   ·exact k _ _ h
   ·obtain ⟨a1,o,a2,a3,a4,a5,a6,h⟩:=h
    exact ⟨a1,o,a2,a3,a4,a5,a6,k _ _ h⟩
   ·obtain ⟨a1,a0,o,a2,a3,a4,a5,a6,h⟩:=h
    exact ⟨a1,a0,o,a2,a3,a4,a5,a6,k _ _ h⟩
   ·exact h.elim
 | KM es z x=>
  simp only [ar] at h ⊢
  generalize x.ev e=xv at h ⊢
  unfold Im at h ⊢
  split at h
  ·exact k _ _ h
  ·exact k _ _ h
  ·obtain ⟨a1,o,a2,a3,a4,a5,a6,h⟩:=h
   exact ⟨a1,o,a2,a3,a4,a5,a6,k _ _ h⟩
  ·obtain ⟨a1,o,a2,a3,a4,a5,a6,h⟩:=h
   exact ⟨a1,o,a2,a3,a4,a5,a6,k _ _ h⟩
  ·exact h.elim
 | Iu x=>
  obtain ⟨h1,h2,h⟩:=h
  exact ⟨h1,h2,mb (fun l ⟨s,hs,h⟩=>⟨s,hs,k _ _ h⟩) h⟩
 | Lw mu ty x=>
  simp only [ar] at h ⊢
  generalize x.ev e=xv at h ⊢
  unfold Oy at h ⊢
  split at h
  ·refine ⟨h.1,?_⟩
   cases mu <;> exact k _ _ h.2
  ·exact h.elim
 | O2 x=>
  obtain ⟨s,hs,h⟩:=h
  exact ⟨s,hs,k _ _ h⟩
 | Ba es bytes ty z x y=>
  simp only [ar] at h ⊢
  generalize x.ev e=xv at h ⊢
  generalize y.ev e=yv at h ⊢
  unfold FZ at h ⊢
  split at h
  ·obtain ⟨a1,a2,a3,a4⟩:=h
   exact ⟨a1,a2,a3,k _ _ a4⟩
  ·obtain ⟨a1,a2,a3,a4,a5,o,b1,b2,b3,b4,h⟩:=h
   exact ⟨a1,a2,a3,a4,a5,o,b1,b2,b3,b4,k _ _ h⟩
  ·exact h.elim
 | Ev es bytes ty y=>
  obtain ⟨h1,h2,h⟩:=h
  exact ⟨h1,h2,mb (fun l ⟨a1,a2,h⟩=>⟨a1,a2,k _ _ h⟩) h⟩
 | nq=>exact k _ _ h
 | dd x q v=>
  simp only [ar] at h ⊢
  generalize x.ev e=xv at h ⊢
  generalize q.ev e=qv at h ⊢
  unfold qW at h ⊢
  split at h
  ·obtain ⟨a1,o,a2,a3,a4,a5,h⟩:=h
   exact ⟨a1,o,a2,a3,a4,a5,k _ _ h⟩
  ·exact h.elim
 | ft ok z x q=>
  simp only [ar] at h ⊢
  generalize x.ev e=xv at h ⊢
  generalize q.ev e=qv at h ⊢
  unfold uL at h ⊢
  split at h
  ·obtain ⟨o,a2,a3,a4,h⟩:=h
   exact ⟨o,a2,a3,a4,k _ _ h⟩
  ·exact k _ _ h
  ·exact h.elim
 | Ge es x l h2 m=>
  simp only [ar] at h ⊢
  generalize x.ev e=xv at h ⊢
  generalize l.ev e=lv at h ⊢
  generalize h2.ev e=hv at h ⊢
  generalize m.ev e=mv at h ⊢
  unfold zn at h ⊢
  split at h
  ·obtain ⟨a1,a2,a3,a4,a5,h⟩:=h
   exact ⟨a1,a2,a3,a4,a5,k _ _ h⟩
  ·obtain ⟨a1,a2,a3,a4,a5,h⟩:=h
   exact ⟨a1,a2,a3,a4,a5,k _ _ h⟩
  ·obtain ⟨a1,a2,a3,a4,a5,h⟩:=h
   exact ⟨a1,a2,a3,a4,a5,k _ _ h⟩
  ·exact h.elim
 | Da es n x lo hi=>
  simp only [ar] at h ⊢
  generalize x.ev e=xv at h ⊢
  unfold zk at h ⊢
  split at h
  ·obtain ⟨p,q,_,hK,hd⟩:=gu h
   exact hd _ ⟨fun t=>k _ _ (hK.1 t),fun t=>k _ _ (hK.2 t)⟩
  ·exact h.elim
theorem Aw {s:Nat} {w:Bool} {A B A' B':(Nat→AV)→St→Prop} {g:AV} {e:Nat→AV} {σ:St} (hA:A e σ→A' e σ) (hB:B e σ→B' e σ) (h:tg s w A B g e σ):tg s w A' B' g e σ:=by
 unfold tg at h ⊢
 split at h
 ·exact hB h
 ·exact ⟨fun t=>hA (h.1 t),fun t=>hB (h.2 t)⟩
 ·exact h.elim
theorem Ju {op:aO} (hl:op.lt=true) (e:Nat→AV):(∃ es ty xs,op=.lit false es ty xs)∨(op.nd=false∧op.cg e=none∧op.new=false∧∀ id,op.lU e id=[]):=by
 cases op with
 | lit mu es ty xs=>cases mu with
  | true=>simp [aO.lt,aO.new] at hl
  | false=>exact .inl ⟨_,_,_,rfl⟩
 | _=>exact .inr (by simp_all [aO.lt,aO.nd,aO.cg,aO.new,aO.lU])
theorem CG {H:eJ} {op:aO} (hl:op.lt=true) {e:Nat→AV} {σ:St} {K:AV→Prop} (h:ar H op e σ fun v _=>K v) :
  ∃ v,K v∧(∀ (τ:St) (K':AV→Prop),(∀ i∈op.dM e,τ.ob i=σ.ob i)→K' v→ar H op e τ fun v _=>K' v)∧ar H op e σ fun x τ=>x=v∧τ=σ:=by
 rcases Ju hl e with ⟨es,ty,xs,rfl⟩ | ⟨h1,h2,h3,h4⟩
 ·exact ⟨_,h.2,fun τ K' _ hk=>⟨h.1,hk⟩,h.1,rfl,rfl⟩
 obtain ⟨ob,n,c⟩:=σ
 obtain ⟨v,wr,τ,hK,_,hD⟩:=zB h1 h2 h
 have hwr:wr=none:=by
  cases wr with
  | none=>rfl
  | some x=>have:=hD.lU x.1 (by simp [dW]); rw [h4] at this; simp at this
 subst hwr
 refine ⟨v,hK,fun τ' K' hr hk=>?_,?_⟩
 ·obtain ⟨ob',n',c'⟩:=τ'
  exact hD.run ob' n' c' hr (fun h=>by rw [h3] at h; cases h) _ fun _ _ _=>hk
 ·refine hD.run ob n c (fun _ _=>rfl) (fun h=>by rw [h3] at h; cases h) _ fun τ hτ hn=>⟨rfl,?_⟩
  obtain ⟨q1,q2⟩:=hn h3
  cases τ
  simp only [eO] at hτ q1 q2
  subst hτ; subst q1; subst q2; rfl
structure HA (s t:HS):Prop where
 a:∀ d,s.o.d=some d→d∉t.o.lk
 b:∀ d,t.o.d=some d→d∉s.o.lk
 c:∀ d,s.o.d=some d→t.o.d≠some d
theorem Ct {op:aO} {e e':Nat→AV} (h:∀ t∈op.looks,e' t=e t):op.dM e'=op.dM e:=by
 cases op <;> simp only [aO.looks,List.mem_append,or_imp,forall_and] at h <;> simp only [aO.dM]
 case load=>rw [aF h]
 case store=>rw [aF h.1]
 case bE=>rw [aF h.1]
 case rm=>rw [aF h.1]
 case app=>rw [aF h.1,aF h.2]
 case Iu=>rw [aF h]
section
variable {P : Program}
theorem Gz {a:HS} (hl:a.o.op.lt=true) {R:List (Nat × Nat)} {k:List (Nat × Nat)→(Nat→AV)→St→Prop} {e:Nat→AV} {σ:St} (h:eH (HC P) a R k e σ) :
  ∃ v ra,k (R++cD a.p ra) (bL e a.o.d v) σ∧∀ (R':List (Nat × Nat)) (e':Nat→AV) (τ:St) (k':List (Nat × Nat)→(Nat→AV)→St→Prop),(∀ t∈a.o.lk,e' t=e t)→(∀ i∈ra,τ.ob i=σ.ob i)→
   k' (R'++cD a.p ra) (bL e' a.o.d v) τ→eH (HC P) a R' k' e' τ:=by
 have on:bm (HC P) a.p a.o.op a.o.d a.o.af k R e σ→∃ v ra,k (R++cD a.p ra) (bL e a.o.d v) σ∧∀ (R':List (Nat × Nat)) (e':Nat→AV) (τ:St) (k':List (Nat × Nat)→(Nat→AV)→St→Prop),(∀ t∈a.o.lk,e' t=e t)→(∀ i∈ra,τ.ob i=σ.ob i)→
   k' (R'++cD a.p ra) (bL e' a.o.d v) τ→bm (HC P) a.p a.o.op a.o.d a.o.af k' R' e' τ:=by
  intro h
  unfold bm at h
  rw [if_pos hl] at h
  obtain ⟨v,hk,hv,_⟩:=CG hl (K:=fun v=>k (R++cD a.p (a.o.op.dM e)) (bL e a.o.d v) σ) h
  refine ⟨v,a.o.op.dM e,hk,fun R' e' τ k' he hr hk'=>?_⟩
  unfold bm
  have hlk:∀ t∈a.o.op.looks,e' t=e t:=fun t ht=>he t (qh a.o ht)
  rw [if_pos hl,kr (H:=HC P) hlk,Ct hlk]
  exact hv τ (fun v=>k' (R'++cD a.p (a.o.op.dM e)) (bL e' a.o.d v) τ) hr hk'
 unfold eH at h
 cases hg:a.o.gd with
 | none=>
  rw [hg] at h
  obtain ⟨v,ra,h1,h2⟩:=on h
  exact ⟨v,ra,h1,fun R' e' τ k' he hr hk'=>by unfold eH; rw [hg]; exact h2 R' e' τ k' he hr hk'⟩
 | some x=>
  obtain ⟨g,w⟩:=x
  rw [hg] at h
  have hgl:g∈a.o.lk:=by unfold aT.lk; rw [hg]; exact List.mem_cons_self ..
  simp only at h
  have off:(∀ (A B:(Nat→AV)→St→Prop) (e':Nat→AV) (τ:St),e' g=e g→B e' τ→tg g w A B (e' g) e' τ)→k R (bL e a.o.d (.tuple [])) σ→
    ∃ v ra,k (R++cD a.p ra) (bL e a.o.d v) σ∧∀ (R':List (Nat × Nat)) (e':Nat→AV) (τ:St) (k':List (Nat × Nat)→(Nat→AV)→St→Prop),(∀ t∈a.o.lk,e' t=e t)→(∀ i∈ra,τ.ob i=σ.ob i)→
     k' (R'++cD a.p ra) (bL e' a.o.d v) τ→eH (HC P) a R' k' e' τ:=by
   intro hB hk
   refine ⟨.tuple [],[],by simpa [cD] using hk,fun R' e' τ k' he _ hk'=>?_⟩
   unfold eH
   rw [hg]
   simp only [cD,List.map_nil,List.append_nil] at hk'
   exact hB _ _ e' τ (he g hgl) hk'
  unfold tg at h
  split at h
  ·rename_i heg
   exact off (fun A B e' τ he hB=>by rw [he,heg]; exact hB) h
  ·rename_i b heg
   by_cases hbw:b=w
   ·obtain ⟨v,ra,h1,h2⟩:=on (h.1 hbw)
    refine ⟨v,ra,h1,fun R' e' τ k' he hr hk'=>?_⟩
    unfold eH
    rw [hg]
    simp only
    rw [he g hgl,heg]
    exact ⟨fun _=>h2 R' e' τ k' he hr hk',fun hb=>by subst hbw; cases b <;> cases hb⟩
   ·have hb:b=!w:=by cases b <;> cases w <;> simp_all
    exact off (fun A B e' τ he hB=>by rw [he,heg]; exact ⟨fun h=>absurd h hbw,fun _=>hB⟩) (h.2 hb)
  ·exact h.elim
theorem oC {s:HS} {R1 R2:List (Nat × Nat)} {k1 k2:List (Nat × Nat)→(Nat→AV)→St→Prop} {e1 e2:Nat→AV} {σ:St} (hR:∀ x∈R2,x∈R1) (he:∀ t∈s.o.lk,e2 t=e1 t)
  (hk:∀ (rs:List Nat) (w:AV) (τ:St),nB s.o.af R1 σ.ob τ.ob→k1 (R1++cD s.p rs) (bL e1 s.o.d w) τ→k2 (R2++cD s.p rs) (bL e2 s.o.d w) τ)
  (h:eH (HC P) s R1 k1 e1 σ):eH (HC P) s R2 k2 e2 σ:=by
 have hlk:∀ t∈s.o.op.looks,e2 t=e1 t:=fun t ht=>he t (qh s.o ht)
 have on:bm (HC P) s.p s.o.op s.o.d s.o.af k1 R1 e1 σ→bm (HC P) s.p s.o.op s.o.d s.o.af k2 R2 e2 σ:=by
  intro h
  unfold bm at h ⊢
  split at h
  ·rename_i hl
   rw [if_pos hl,kr (H:=HC P) hlk,Ct hlk]
   exact gX (fun v τ h=>hk _ v σ (fun x _=>.inr rfl) h) h
  ·rename_i hl
   rw [if_neg hl,kr (H:=HC P) hlk]
   refine gX (fun v τ h=>⟨fun x hx=>h.1 x (hR x hx),?_⟩) h
   have:=hk [] v τ h.1 (by simpa [cD] using h.2)
   simpa [cD] using this
 unfold eH at h ⊢
 cases hg:s.o.gd with
 | none=>rw [hg] at h; exact on h
 | some x=>
  obtain ⟨g,w⟩:=x
  rw [hg] at h
  have hgl:g∈s.o.lk:=by unfold aT.lk; rw [hg]; exact List.mem_cons_self ..
  simp only at h ⊢
  rw [he g hgl]
  have off:k1 R1 (bL e1 s.o.d (.tuple [])) σ→k2 R2 (bL e2 s.o.d (.tuple [])) σ:=fun h=>by
   have:=hk [] (.tuple []) σ (fun x _=>.inr rfl) (by simpa [cD] using h)
   simpa [cD] using this
  unfold tg at h ⊢
  split at h
  ·exact off h
  ·exact ⟨fun hb=>on (h.1 hb),fun hb=>off (h.2 hb)⟩
  ·exact h.elim
theorem Rz {a s:HS} (hl:a.o.op.lt=true) (hA:HA a s) (haf:a.p∉s.o.af) {R:List (Nat × Nat)} {k:List (Nat × Nat)→(Nat→AV)→St→Prop} {e:Nat→AV} {σ:St}
  (hk:∀ R R' e σ,(∀ x∈R',x∈R)→k R e σ→k R' e σ) (h:eH (HC P) a R (fun R e σ=>eH (HC P) s R k e σ) e σ):eH (HC P) s R (fun R e σ=>eH (HC P) a R k e σ) e σ:=by
 obtain ⟨v,ra,h1,h2⟩:=Gz hl h
 refine oC (fun x hx=>List.mem_append_left _ hx) (fun t ht=>(tY fun i hi hit=>hA.a i hi (hit ▸ ht)).symm) (fun rs w τ hkp hh=>?_) h1
 refine h2 _ _ τ k (fun t ht=>tY fun i hi hit=>hA.b i hi (hit ▸ ht)) (fun i hi=>?_) ?_
 ·rcases hkp (a.p,i) (List.mem_append_right _ (List.mem_map.2 ⟨i,hi,rfl⟩)) with h | h
  ·exact absurd h haf
  ·exact h
 ·rw [←Cu hA.c]
  refine hk _ _ _ _ (fun x hx=>?_) hh
  simp only [List.mem_append] at hx ⊢
  rcases hx with (h | h) | h
  ·exact .inl (.inl h)
  ·exact .inr h
  ·exact .inl (.inr h)
theorem Ap {K:(Nat→AV)→St→Prop}:∀ (L:List HS) (R R':List (Nat × Nat)) (e:Nat→AV) (σ:St),(∀ x∈R',x∈R)→dR (HC P) L K R e σ→dR (HC P) L K R' e σ
 | [],R,R',e,σ,_,h=>h
 | s :: L,R,R',e,σ,hR,h=>oC hR (fun _ _=>rfl) (fun rs w τ _ h=>Ap L _ _ _ _ (fun x hx=>by
   rcases List.mem_append.1 hx with hx | hx
   ·exact List.mem_append_left _ (hR x hx)
   ·exact List.mem_append_right _ hx) h) h
theorem GG {s:HS} {B:List HS} {K:(Nat→AV)→St→Prop}:∀ (A:List HS) (R:List (Nat × Nat)) (e:Nat→AV) (σ:St),(∀ a∈A,a.o.op.lt=true∧HA a s∧a.p∉s.o.af)→dR (HC P) (A++s :: B) K R e σ→dR (HC P) (s :: (A++B)) K R e σ
 | [],R,e,σ,_,h=>h
 | a :: A,R,e,σ,hA,h=>by
  obtain ⟨h1,h2,h3⟩:=hA a (List.mem_cons_self ..)
  refine Rz (k:=fun R e σ=>dR (HC P) (A++B) K R e σ) h1 h2 h3 (fun R R' e σ hR h=>Ap _ _ _ _ _ hR h) ?_
  exact oC (fun _ h=>h) (fun _ _=>rfl) (fun rs w τ _ h=>GG A _ _ _ (fun x hx=>hA x (List.mem_cons_of_mem _ hx)) h) h
theorem M9 {s:HS} {d es:Nat} {ty:TypeId} {z:AV} (hs:s.o=⟨some d,.alloc es ty z,none,s.o.af⟩) {B:List HS} {K:(Nat→AV)→St→Prop}:∀ (A:List HS) (R:List (Nat × Nat)) (e:Nat→AV) (σ:St),
  (∀ a∈A,d∉a.o.lk∧a.o.d≠some d)→dR (HC P) (A++s :: B) K R e σ→dR (HC P) (A++s :: B) K R (bd e d .bC) σ
 | [],R,e,σ,_,h=>by
  obtain ⟨p,o⟩:=s
  simp only at hs
  rw [hs] at h ⊢
  have e1:∀ v,bd (bd e d .bC) d v=bd e d v:=fun v=>by
   funext j; by_cases hj:j=d
   ·subst hj; rw [az,az]
   ·rw [aa _ _ _ _ hj,aa _ _ _ _ hj,aa _ _ _ _ hj]
  simp only [List.nil_append,dR,eH,bm,aO.lt,aO.new,aO.nd,Bool.not_true,Bool.false_and,Bool.false_eq_true,if_false,ar,Ku,bL] at h ⊢
  rw [e1]
  exact h
 | a :: A,R,e,σ,hA,h=>by
  obtain ⟨h1,h2⟩:=hA a (List.mem_cons_self ..)
  refine oC (fun _ h=>h) (fun t ht=>aa _ _ _ _ (fun he=>h1 (he ▸ ht))) (fun rs w τ _ hh=>?_) h
  have:bL (bd e d .bC) a.o.d w=bd (bL e a.o.d w) d .bC:=by
   cases hd:a.o.d with
   | none=>rfl
   | some i=>simp only [bL]; exact pO (fun he=>h2 (by rw [hd,he]))
  rw [this]
  exact M9 hs A _ _ _ (fun x hx=>hA x (List.mem_cons_of_mem _ hx)) hh
theorem Fz {mu:Bool} {ty t:TypeId} {o:Op} {es:Nat} {z:AV} (hc:cU P mu ty o=some (.alloc es t z)) :
  o=.alloc t∧∃ i zv,P.info? t=some i∧i.zero=some zv∧av zv=some z∧z.flat=true∧z.cells.length=i.size∧0<i.size∧es=i.size:=by
 cases o with
 | alloc t'=>
  simp only [cU] at hc
  split at hc
  ·rename_i i hi
   split at hc
   ·rename_i zz hz
    split at hc
    ·rename_i hok
     cases hc
     simp only [Bool.and_eq_true,beq_iff_eq,decide_eq_true_eq] at hok
     obtain ⟨zv,h1,h2⟩:=Option.bind_eq_some_iff.1 hz
     exact ⟨rfl,i,zv,hi,h1,h2,hok.1.1,hok.1.2,hok.2,rfl⟩
    ·cases hc
   ·cases hc
  ·cases hc
 | move x=>
  simp only [cU] at hc
  rcases fC hc with h | h <;> simp_all
 | assign x=>
  simp only [cU] at hc
  rcases fC hc with h | h <;> simp_all
 | slice t x lo hi mx=>
  cases lo <;> cases hi <;> cases mx <;> simp only [cU] at hc <;> (repeat' split at hc) <;> simp_all
 | _=>simp only [cU] at hc <;> (repeat' split at hc) <;> simp_all
theorem GP {mu:Bool × Bool} {ty t:TypeId} {o:Op} {es:Nat} {z:AV} (hc:tl P mu ty o=some (.alloc es t z)) :
  o=.alloc t∧∃ i zv,P.info? t=some i∧i.zero=some zv∧av zv=some z∧z.flat=true∧z.cells.length=i.size∧0<i.size∧es=i.size:=by
 exact Fz hc
variable {W : World} {O S0 : Nat → Prop} {ops : Array Oper} {Q : Exit → Act → World → Prop} {n : Nat}
theorem Inv.start {m:Mp} {S:Nat→Prop} {σ:St} {w:World} (hS:Be m S σ w):Inv w (xW m σ) S m S σ w:=
 ⟨hS,⟨rfl,rfl,rfl,Nat.le_refl _,fun _ _ _=>rfl,fun k o v b ho hro hm hb=>.inl ⟨k,o,v,ho,hro,hm,hb⟩,fun _ hb=>.inl hb⟩⟩
theorem RA {mt:List Nat} {s:HS} {o:Oper} {k:List (Nat × Nat)→(Nat→AV)→St→Prop} {m:Mp} {S:Nat→Prop} {w:World} {σ:St} {e:Nat→AV} {a:Act} {R:List (Nat × Nat)} {KK:Act→World→Prop}
  (ho:ops[s.p]?=some o) (hc:cS P mt n ops s.o.af o=some s.o) (hI:lR W O S0 m S σ w n e a) (h:eH (HC P) s R k e σ)
  (hK:∀ m' S' w' a' e' σ' R' u,lR W O S0 m' S' σ' w' n e' a'→Inv w (xW m σ) S m' S' σ' w'→a'=a.put s.o.d u→Ext m S w m' S' w'→k R' e' σ'→KK a' w'):wpOp P ops Q s.p KK a w:=by
 obtain ⟨hInv,hE,hn,hdf⟩:=hI
 obtain ⟨⟨mu,hop⟩,hd,hdn,_⟩:=bV hc
 have on:F8 s.o e→bm (HC P) s.p s.o.op s.o.d s.o.af k R e σ→wpOp P ops Q s.p KK a w:=by
  intro hg h
  have hw:=mV hE hn hc hg
  unfold wpOp
  simp only [ho,hw,if_true]
  have fin:∀ (Kp:AV→St→Prop),(∀ x τ,Kp x τ→∃ R',k R' (bL e s.o.d x) τ)→ar (HC P) s.o.op e σ Kp→o.wp P a w KK Q:=by
   intro Kp hKp hr
   refine Oper.wp_mono ?_ (ko (Inv.start hInv.bu) hE hop hr)
   rintro a' w' ⟨x,σ',m',S',u,rfl,hx,hI',hX,hV,_⟩
   obtain ⟨R',hk⟩:=hKp x σ' hx
   obtain ⟨g1,g2,g3⟩:=bq.put (hE.ext hX) hn hdn hV
   exact hK m' S' w' _ (bL e s.o.d x) σ' R' u ⟨hInv.call hI',by rw [hd]; exact g1,g2,by rw [g3]; exact hdf.ext hX⟩ hI' (by rw [hd]) hX hk
  unfold bm at h
  split at h
  ·rename_i hl
   obtain ⟨v,hk,_,hv⟩:=CG hl h
   exact .inl (fin _ (fun x τ hx=>by obtain ⟨rfl,rfl⟩:=hx; exact ⟨_,hk⟩) hv)
  ·exact .inl (fin _ (fun x τ hx=>⟨R,hx.2⟩) h)
 have off:∀ {g:Nat} {b:Bool},s.o.gd=some (g,b)→(e g=.bool (!b)∨e g=.tuple [])→k R (bL e s.o.d (.tuple [])) σ→wpOp P ops Q s.p KK a w:=by
  intro g b hg hes hk
  have hw:=zi hE hn hc hg hes
  unfold wpOp
  simp only [ho,hw,Bool.false_eq_true,if_false]
  obtain ⟨g1,g2,g3⟩:=bq.put hE hn hdn (VR.C6 (m:=m) (S:=S) (w:=w))
  exact hK m S w _ (bL e s.o.d (.tuple [])) σ R undef ⟨hInv,by rw [hd]; exact g1,g2,by rw [g3]; exact hdf⟩ (Inv.start hInv.bu) (by rw [hd]) (Ext.refl m S w) hk
 unfold eH at h
 cases hg:s.o.gd with
 | none=>rw [hg] at h; exact on (by simp [F8,hg]) h
 | some x=>
  obtain ⟨g,b⟩:=x
  rw [hg] at h
  simp only at h
  generalize hes:e g=gv at h
  unfold tg at h
  split at h
  ·exact off hg (.inr hes) h
  ·rename_i c
   by_cases hcb:c=b
   ·exact on (by simp [F8,hg,hes,hcb]) (h.1 hcb)
   ·have hcb':c=!b:=by cases c <;> cases b <;> simp_all
    exact off hg (.inl (by rw [hes,hcb'])) (h.2 hcb')
  ·exact h.elim
def Pj (a s:HS):Prop:=a.p≠s.p∧(a.p∈s.o.af∨(a.o.op.lt=true∧HA a s)∨s.o.op.al=true)∧(s.o.op.al=true→HA a s)
def Pm (s:HS):Prop:=s.o.op.al=true→s.o.gd=none∧∃ d,s.o.d=some d
theorem Pm.shape {s:HS} (h:Pm s) (ha:s.o.op.al=true):∃ d es ty z,s.o=⟨some d,.alloc es ty z,none,s.o.af⟩:=by
 obtain ⟨h1,d,h2⟩:=h ha
 obtain ⟨p,d',op,gd,af⟩:=s
 simp only at h1 h2 ha ⊢
 subst h1; subst h2
 cases op with
 | alloc es ty z=>exact ⟨d,es,ty,z,rfl⟩
 | _=>simp [aO.al] at ha
structure TX (W:World) (m:Mp) (S:Nat→Prop) (σ:St) (w:World) (a:Act) (s:HS) (b:Nat):Prop where
 ex:∃ d es ty z cur,s.o=⟨some d,.alloc es ty z,none,s.o.af⟩∧0<es∧mF es z∧w.heap[b]?=some (.cells cur ty (0,0))∧bR m S w z.cells cur.toList∧a.tmps.getD d undef=.pointer (some ⟨b,0,none⟩)
 U7:¬S b
 out:W.heap.size≤b
 own:∀ k o v,σ.ob k=some o→m o.g=some v→v.ownBlock≠some b
structure yO (P:Program) (W:World) (O S0:Nat→Prop) (ops:Array Oper) (n:Nat) (mt:List Nat) (clo:Nat→List Nat) (K:(Nat→AV)→St→Prop)
  (listed:Array Bool) (L:List HS) (pb:Nat→Option Nat) (R:List (Nat × Nat)) (m:Mp) (S:Nat→Prop) (w:World) (e:Nat→AV) (σ:St) (a:Act):Prop where
 size:listed.size=ops.size
 lst:∀ i,i<ops.size→(listed.getD i true=false↔(∃ s∈L,s.p=i)∧pb i=none)
 lt:∀ s∈L,s.p<ops.size
 cl:∀ i,listed.getD i false=true→∀ x∈clo i,listed.getD x false=true
 rel:L.Pairwise Pj
 al:∀ s∈L,Pm s
 af:∀ s∈L,s.o.af=clo s.p
 ex:∀ s∈L,∃ o,ops[s.p]?=some o∧cS P mt n ops s.o.af o=some s.o
 pend:∀ s∈L,∀ b,pb s.p=some b→s.o.op.al=true∧TX W m S σ w a s b
 inj:∀ s∈L,∀ t∈L,∀ b,pb s.p=some b→pb t.p=some b→s.p=t.p
 run:dR (HC P) L K R e σ
 env:lR W O S0 m S σ w n e a
section
variable {mt : List Nat} {clo : Nat → List Nat} {K : (Nat → AV) → St → Prop} {listed : Array Bool} {pb : Nat → Option Nat} {R : List (Nat × Nat)} {m : Mp} {S : Nat → Prop} {w : World} {e : Nat → AV} {σ : St} {a : Act}
theorem yO.SI {L:List HS} (h:yO P W O S0 ops n mt clo K listed L pb R m S w e σ a) {u:HS} (hu:u∈L) (hp:pb u.p=none):listed.getD u.p false=false:=by
 have h1:=(h.lst u.p (h.lt u hu)).2 ⟨⟨u,hu,rfl⟩,hp⟩
 have h2:=h.lt u hu
 have h3:=h.size
 rw [Array.getD_eq_getD_getElem?,Array.getElem?_eq_getElem (by omega)] at h1 ⊢
 simpa using h1
theorem yO.U8 {L:List HS} (h:yO P W O S0 ops n mt clo K listed L pb R m S w e σ a) {u:HS} {b:Nat} (hu:u∈L) (hp:pb u.p=some b):listed.getD u.p false=true:=by
 have h2:=h.lt u hu
 have h3:=h.size
 cases hv:listed.getD u.p true with
 | false=>have:=((h.lst u.p h2).1 hv).2; rw [hp] at this; cases this
 | true=>
  rw [Array.getD_eq_getD_getElem?,Array.getElem?_eq_getElem (by omega)] at hv ⊢
  simpa using hv
theorem yO.Nh {A B:List HS} {s:HS} {b:Nat} (h:yO P W O S0 ops n mt clo K listed (A++s :: B) pb R m S w e σ a) (hA:∀ u∈A,u.o.op.lt=true∧pb u.p=none) (hb:pb s.p=some b) :
  ∃ m' e' σ',yO P W O S0 ops n mt clo K listed (A++B) pb R m' S w e' σ' a∧Ext m S w m' S w:=by
 have hs:s∈A++s :: B:=List.mem_append_right _ (List.mem_cons_self ..)
 have hsub:∀ u∈A++B,u∈A++s :: B:=fun u hu=>by
  rcases List.mem_append.1 hu with hu | hu
  ·exact List.mem_append_left _ hu
  ·exact List.mem_append_right _ (List.mem_cons_of_mem _ hu)
 obtain ⟨hal,⟨d,es,ty,z,cur,hso,hes,hz,hheap,hvs,htmp⟩,hnS,hout,hown⟩:=h.pend s hs b hb
 have hfr:=GG A R e σ (fun u hu=>by
  have hr:=(List.pairwise_append.1 h.rel).2.2 u hu s (List.mem_cons_self ..)
  refine ⟨(hA u hu).1,hr.2.2 hal,fun haf=>?_⟩
  rw [h.af s hs] at haf
  have h1:=h.cl s.p (h.U8 hs hb) _ haf
  rw [h.SI (List.mem_append_left _ hu) (hA u hu).2] at h1
  cases h1) h.run
 have hne:∀ u∈A++B,u.p≠s.p:=by
  intro u hu he
  rcases List.mem_append.1 hu with hu | hu
  ·exact ((List.pairwise_append.1 h.rel).2.2 u hu s (List.mem_cons_self ..)).1 he
  ·exact ((List.pairwise_cons.1 (List.pairwise_append.1 h.rel).2.1).1 u hu).1 he.symm
 obtain ⟨hInv,hE,hn,hdf⟩:=h.env
 have hrun:dR (HC P) (A++B) K R (bd e d (.ptr σ.n σ.c es 0 0)) (σ.push es ty [z]):=by
  simp only [dR] at hfr
  unfold eH at hfr
  rw [hso] at hfr
  simp only [bm,aO.lt,aO.new,aO.nd,Bool.not_true,Bool.false_and,Bool.false_eq_true,if_false,ar,Ku,bL] at hfr
  exact hfr.2
 have hbs:b<w.heap.size:=(Array.getElem?_eq_some_iff.1 hheap).1
 have hcl:cur.toList.length=es:=by rw [hvs.1]; exact hz.2
 have hX:Ext m S w (bd m σ.c (some (.slice (some ⟨b,0,none⟩) 1 1))) S w:=⟨OO hInv.bu.fresh _,fun _ h=>h,fun _ _=>rfl⟩
 have hI':=hInv.fresh (row:=some b) (w':=w) σ.n es ty true [z] (.slice (some ⟨b,0,none⟩) 1 1) (σ.n+1) ⟨rfl,rfl,rfl,Nat.le_refl _,fun _ _ _=>rfl⟩ hes (Ay hz) (xs:=cur.toList)
  ⟨by rw [hcl]; simp,.inr ⟨b,1,1,cur,(0,0),rfl,hheap,by simp,by simp [maxLen],by simpa using hcl,by rw [List.take_of_length_le (by rw [hcl]; simp)],fun i _ h=>by simp at h,fun _=>rfl⟩⟩ (by rw [wN]; exact hvs.ext hX)
  (fun b' hb'=>by obtain rfl:=Option.some.inj hb'; exact ⟨hnS,.inr hout,fun k o u _ ho hm=>hown k o u ho hm⟩) (fun b' hb'=>.inl (by simpa [Value.ownBlock] using hb'))
 refine ⟨_,bd e d (.ptr σ.n σ.c es 0 0),σ.push es ty [z],⟨h.size,fun i hi=>?_,fun u hu=>h.lt u (hsub u hu),h.cl,h.rel.sublist (by simp),fun u hu=>h.al u (hsub u hu),fun u hu=>h.af u (hsub u hu),fun u hu=>h.ex u (hsub u hu),fun u hu b' hb'=>?_,
  fun u hu t ht=>h.inj u (hsub u hu) t (hsub t ht),hrun,⟨hI',fun i=>?_,hn,hdf.ext hX⟩⟩,hX⟩
 ·rw [h.lst i hi]
  constructor
  ·rintro ⟨⟨u,hu,rfl⟩,hp⟩
   refine ⟨⟨u,?_,rfl⟩,hp⟩
   rcases List.mem_append.1 hu with hu | hu
   ·exact List.mem_append_left _ hu
   ·rcases List.mem_cons.1 hu with rfl | hu
    ·rw [hb] at hp; cases hp
    ·exact List.mem_append_right _ hu
  ·rintro ⟨⟨u,hu,rfl⟩,hp⟩; exact ⟨⟨u,hsub u hu,rfl⟩,hp⟩
 ·obtain ⟨q1,⟨d2,es2,ty2,z2,cur2,r1,r2,r3,r4,r5,r6⟩,q3,q4,q5⟩:=h.pend u (hsub u hu) b' hb'
  refine ⟨q1,⟨d2,es2,ty2,z2,cur2,r1,r2,r3,r4,r5.ext hX,r6⟩,q3,q4,fun k o v hk hm=>?_⟩
  by_cases e1:k=σ.n
  ·subst e1
   simp only [St.push,az,Option.some.injEq] at hk
   subst hk
   simp only [az,Option.some.injEq] at hm
   subst hm
   simp only [Value.ownBlock]
   intro he
   have he:b=b':=by simpa using he
   subst he
   exact hne u hu (h.inj u (hsub u hu) s hs _ hb' hb)
  ·simp only [St.push,aa _ _ _ _ e1] at hk
   obtain ⟨v2,g1,_⟩:=hInv.bu.obj k o hk
   have:=hInv.bu.fresh _ _ g1
   rw [aa _ _ _ _ (by omega)] at hm
   exact q5 k o v hk hm
 ·by_cases hi:i=d
  ·subst hi
   rw [az,htmp]
   exact VR.Du σ.n
  ·rw [aa _ _ _ _ hi]
   exact (hE i).ext hX
theorem yO.Km {s:HS} {B:List HS} (hs:pb s.p=none) (hna:s.o.op.al=false) (hrdy:∀ x∈clo s.p,listed.getD x false=true):∀ (k:Nat) (A:List HS) (m:Mp) (e:Nat→AV) (σ:St),A.length≤k→yO P W O S0 ops n mt clo K listed (A++s :: B) pb R m S w e σ a→
  ∃ A' m' e' σ',yO P W O S0 ops n mt clo K listed (A'++s :: B) pb R m' S w e' σ' a∧Ext m S w m' S w∧(∀ u∈A',u.o.op.lt=true∧pb u.p=none)∧(A'++B).countP (fun u=>(pb u.p).isNone)=(A++B).countP (fun u=>(pb u.p).isNone)
 | 0,A,m,e,σ,hk,h=>by
  obtain rfl:A=[]:=List.eq_nil_of_length_eq_zero (by omega)
  exact ⟨[],m,e,σ,h,Ext.refl m S w,by simp,rfl⟩
 | k+1,A,m,e,σ,hk,h=>by
  by_cases hall:∀ u∈A,pb u.p=none
  ·refine ⟨A,m,e,σ,h,Ext.refl m S w,fun u hu=>⟨?_,hall u hu⟩,rfl⟩
   have hr:=(List.pairwise_append.1 h.rel).2.2 u hu s (List.mem_cons_self ..)
   rcases hr.2.1 with haf | hl | hal
   ·rw [h.af s (List.mem_append_right _ (List.mem_cons_self ..))] at haf
    have h1:=hrdy _ haf
    rw [h.SI (List.mem_append_left _ hu) (hall u hu)] at h1
    cases h1
   ·exact hl.1
   ·rw [hna] at hal; cases hal
  ·-- the first of them
   have key:∀ (A:List HS),(¬ ∀ u∈A,pb u.p=none)→∃ A1 t A2 b,A=A1++t :: A2∧pb t.p=some b∧∀ u∈A1,pb u.p=none:=by
    intro A
    induction A with
    | nil=>intro h; exact absurd (fun u hu=>by simp at hu) h
    | cons u A ih=>
     intro h
     cases hu:pb u.p with
     | some b=>exact ⟨[],u,A,b,rfl,hu,by simp⟩
     | none=>
      obtain ⟨A1,t,A2,b,rfl,h1,h2⟩:=ih (fun h'=>h (fun x hx=>by rcases List.mem_cons.1 hx with rfl | hx; exact hu; exact h' x hx))
      exact ⟨u :: A1,t,A2,b,rfl,h1,fun x hx=>by rcases List.mem_cons.1 hx with rfl | hx; exact hu; exact h2 x hx⟩
   obtain ⟨A1,t,A2,b,rfl,ht,hA1⟩:=key A hall
   have hlt:∀ u∈A1,u.o.op.lt=true∧pb u.p=none:=by
    intro u hu
    refine ⟨?_,hA1 u hu⟩
    have hr:=(List.pairwise_append.1 h.rel).2.2 u (List.mem_append_left _ hu) s (List.mem_cons_self ..)
    rcases hr.2.1 with haf | hl | hal
    ·rw [h.af s (List.mem_append_right _ (List.mem_cons_self ..))] at haf
     have h1:=hrdy _ haf
     rw [h.SI (List.mem_append_left _ (List.mem_append_left _ hu)) (hA1 u hu)] at h1
     cases h1
    ·exact hl.1
    ·rw [hna] at hal; cases hal
   rw [List.append_assoc,List.cons_append] at h
   obtain ⟨m1,e1,σ1,h1,x1⟩:=h.Nh hlt ht
   rw [←List.append_assoc] at h1
   obtain ⟨A',m',e',σ',h2,x2,h3,h4⟩:=yO.Km hs hna hrdy k (A1++A2) m1 e1 σ1 (by simp at hk ⊢; omega) h1
   exact ⟨A',m',e',σ',h2,x1.trans x2,h3,by rw [h4]; simp [List.countP_append,ht]⟩
theorem yO.finish:∀ (L:List HS) (m:Mp) (e:Nat→AV) (σ:St),(∀ s∈L,pb s.p≠none)→yO P W O S0 ops n mt clo K listed L pb R m S w e σ a→∃ m' e' σ',lR W O S0 m' S σ' w n e' a∧Ext m S w m' S w∧K e' σ'
 | [],m,e,σ,_,h=>⟨m,e,σ,h.env,Ext.refl m S w,h.run⟩
 | s :: L,m,e,σ,hall,h=>by
  cases hb:pb s.p with
  | none=>exact absurd hb (hall s (List.mem_cons_self ..))
  | some b=>
   obtain ⟨m1,e1,σ1,h1,x1⟩:=yO.Nh (A:=[]) (B:=L) h (by simp) hb
   obtain ⟨m',e',σ',h2,x2,h3⟩:=yO.finish L m1 e1 σ1 (fun u hu=>hall u (List.mem_cons_of_mem _ hu)) h1
   exact ⟨m',e',σ',h2,x1.trans x2,h3⟩
theorem xt {a:Act} {d:Option Nat} {u:Value} {i:Nat} (h:d≠some i):(a.put d u).tmps.getD i undef=a.tmps.getD i undef:=by
 cases d with
 | none=>rfl
 | some j=>
  have hj:j≠i:=fun he=>h (by rw [he])
  simp only [Act.put,Array.getD_eq_getD_getElem?,Array.getElem?_setIfInBounds_ne hj]
theorem xA {s:HS} (hsz:listed.size=ops.size) (hlt:s.p<ops.size) (hcl:∀ i,listed.getD i false=true→∀ x∈clo i,listed.getD x false=true) (hrdy:∀ x∈clo s.p,listed.getD x false=true) :
  ∀ i,(listed.setIfInBounds s.p true).getD i false=true→∀ x∈clo i,(listed.setIfInBounds s.p true).getD x false=true:=by
 have key:∀ y,listed.getD y false=true→(listed.setIfInBounds s.p true).getD y false=true:=by
  intro y hy
  by_cases hys:y=s.p
  ·subst hys; simp [Array.getD_eq_getD_getElem?,hsz,hlt]
  ·rw [getD_set_ne false (Ne.symm hys)]; exact hy
 intro i hi x hx
 by_cases his:i=s.p
 ·subst his; exact key x (hrdy x hx)
 ·rw [getD_set_ne false (Ne.symm his)] at hi; exact key x (hcl i hi x hx)
theorem yO.exec {A B:List HS} {s:HS} {KK:Act→World→Prop} (h:yO P W O S0 ops n mt clo K listed (A++s :: B) pb R m S w e σ a) (hA:∀ u∈A,u.o.op.lt=true∧pb u.p=none) (hs:pb s.p=none) (hna:s.o.op.al=false)
  (hrdy:∀ x∈clo s.p,listed.getD x false=true)
  (hK:∀ R' m' S' w' e' σ' a',yO P W O S0 ops n mt clo K (listed.setIfInBounds s.p true) (A++B) pb R' m' S' w' e' σ' a'→Ext m S w m' S' w'→KK a' w'):wpOp P ops Q s.p KK a w:=by
 have hsL:s∈A++s :: B:=List.mem_append_right _ (List.mem_cons_self ..)
 have hsub:∀ u∈A++B,u∈A++s :: B:=fun u hu=>by
  rcases List.mem_append.1 hu with hu | hu
  ·exact List.mem_append_left _ hu
  ·exact List.mem_append_right _ (List.mem_cons_of_mem _ hu)
 have hne:∀ u∈A++B,u.p≠s.p:=by
  intro u hu he
  rcases List.mem_append.1 hu with hu | hu
  ·exact ((List.pairwise_append.1 h.rel).2.2 u hu s (List.mem_cons_self ..)).1 he
  ·exact ((List.pairwise_cons.1 (List.pairwise_append.1 h.rel).2.1).1 u hu).1 he.symm
 have hfr:=GG A R e σ (fun u hu=>by
  have hr:=(List.pairwise_append.1 h.rel).2.2 u hu s (List.mem_cons_self ..)
  have hno:u.p∉s.o.af:=fun haf=>by
   rw [h.af s hsL] at haf
   have h1:=hrdy _ haf
   rw [h.SI (List.mem_append_left _ hu) (hA u hu).2] at h1
   cases h1
  rcases hr.2.1 with haf | hl | hal
  ·exact absurd haf hno
  ·exact ⟨hl.1,hl.2,hno⟩
  ·rw [hna] at hal; cases hal) h.run
 obtain ⟨o,ho,hco⟩:=h.ex s hsL
 refine RA ho hco h.env hfr fun m' S' w' a' e' σ' R' u hI' hF ha' hX hk=>?_
 refine hK R' m' S' w' e' σ' a' ⟨by simpa using h.size,fun i hi=>?_,fun t ht=>h.lt t (hsub t ht),xA h.size (h.lt s hsL) h.cl hrdy,h.rel.sublist (by simp),fun t ht=>h.al t (hsub t ht),fun t ht=>h.af t (hsub t ht),fun t ht=>h.ex t (hsub t ht),fun t ht b hb=>?_,
  fun u hu t ht=>h.inj u (hsub u hu) t (hsub t ht),hk,hI'⟩ hX
 ·by_cases his:i=s.p
  ·subst his
   constructor
   ·intro h1; simp [Array.getD_eq_getD_getElem?,h.size,hi] at h1
   ·rintro ⟨⟨u,hu,he⟩,_⟩; exact absurd he (hne u hu)
  ·rw [getD_set_ne true (Ne.symm his),h.lst i hi]
   constructor
   ·rintro ⟨⟨u,hu,rfl⟩,hp⟩
    refine ⟨⟨u,?_,rfl⟩,hp⟩
    rcases List.mem_append.1 hu with hu | hu
    ·exact List.mem_append_left _ hu
    ·rcases List.mem_cons.1 hu with rfl | hu
     ·exact absurd rfl his
     ·exact List.mem_append_right _ hu
   ·rintro ⟨⟨u,hu,rfl⟩,hp⟩; exact ⟨⟨u,hsub u hu,rfl⟩,hp⟩
 ·obtain ⟨q1,⟨d2,es2,ty2,z2,cur2,r1,r2,r3,r4,r5,r6⟩,q3,q4,q5⟩:=h.pend t (hsub t ht) b hb
  have htB:t∈B:=by
   rcases List.mem_append.1 ht with ht | ht
   ·have:=(hA t ht).2; rw [hb] at this; cases this
   ·exact ht
  have hHA:=((List.pairwise_cons.1 (List.pairwise_append.1 h.rel).2.1).1 t htB).2.2 q1
  have hbs:b<w.heap.size:=(Array.getElem?_eq_some_iff.1 r4).1
  have hno:¬xW m σ b:=by
   rintro ⟨k,o,v,g1,_,g2,g3⟩; exact q5 k o v g1 g2 g3
  have hS':¬S' b:=fun hb'=>by
   rcases hF.fr.sub b hb' with x | x | x
   ·exact q3 x
   ·exact hno x
   ·omega
  refine ⟨q1,⟨d2,es2,ty2,z2,cur2,r1,r2,r3,by rw [hF.fr.block b hbs hno]; exact r4,r5.ext hX,?_⟩,hS',q4,fun k o v hk hm hv=>?_⟩
  ·rw [ha',xt (by have:=hHA.c; intro hd; exact this d2 hd (by rw [r1]))]; exact r6
  ·cases hro:o.ro with
   | true=>
    obtain ⟨v2,g1,_,g3⟩:=hF.bu.obj k o hk
    rw [hm] at g1; obtain rfl:=Option.some.inj g1
    exact hS' ((g3 b hv).1 hro)
   | false=>
    rcases hF.fr.own k o v b hk hro hm hv with x | x
    ·exact hno x
    ·omega
theorem yO.lay {L:List HS} {s:HS} {KK:Act→World→Prop} (h:yO P W O S0 ops n mt clo K listed L pb R m S w e σ a) (hsL:s∈L) (hs:pb s.p=none) (hal:s.o.op.al=true)
  (hrdy:∀ x∈clo s.p,listed.getD x false=true)
  (hK:∀ w' e' a',yO P W O S0 ops n mt clo K (listed.setIfInBounds s.p true) L (bd pb s.p (some w.heap.size)) R m S w' e' σ a'→Ext m S w m S w'→KK a' w'):wpOp P ops Q s.p KK a w:=by
 obtain ⟨d,es,ty,z,hso⟩:=(h.al s hsL).shape hal
 obtain ⟨o,ho,hco⟩:=h.ex s hsL
 obtain ⟨⟨mu,hop⟩,hd,hdn,_⟩:=bV hco
 rw [hso] at hop hd
 simp only at hd
 obtain ⟨hoa,i,zv,hi,hz,hzv,hf,hl,hp,hes⟩:=GP hop
 subst hes
 obtain ⟨hInv,hE,hn,hdf⟩:=h.env
 have hg:F8 s.o e:=by rw [hso]; simp [F8]
 have hw:=mV hE hn hco hg
 obtain ⟨hv,_⟩:=(VR.pure (m:=m) (eh (S:=S) (w:=w) hzv)).cells hf
 have hX:Ext m S w m S (w.alloc (.cells zv.cells ty)):=nH hInv.bu.lt _
 have hrun:(execOp a.eval o).run P w=.ok (.value (.pointer (some ⟨w.heap.size,0,none⟩))) (w.alloc (.cells zv.cells ty)):=by
  simp [execOp,hoa,Instr.alloc,zeroValue,typeInfo,hi,hz,newVar,newRow]
 obtain ⟨g1,g2,g3⟩:=bq.put (hE.ext hX) hn hdn (VR.bC (m:=m) (S:=S) (w:=w.alloc (.cells zv.cells ty)) (.pointer (some ⟨w.heap.size,0,none⟩)))
 have hdlt:d<n:=hdn d hd.symm
 unfold wpOp
 simp only [ho,hw,if_true]
 refine .inl ?_
 unfold Oper.wp
 rw [hrun]
 show KK (a.put o.dst (.pointer (some ⟨w.heap.size,0,none⟩))) _
 rw [←hd] at g1 g2 g3
 obtain ⟨A,B,rfl⟩:=List.append_of_mem hsL
 have hHA:∀ t∈A++s :: B,t.o.op.al=true→t.p≠s.p→t.o.d≠some d:=by
  intro t ht htal hts
  rcases List.mem_append.1 ht with ht | ht
  ·have:=((List.pairwise_append.1 h.rel).2.2 t ht s (List.mem_cons_self ..)).2.2 hal
   intro htd; exact this.c d htd (by rw [hso])
  ·rcases List.mem_cons.1 ht with rfl | ht
   ·exact absurd rfl hts
   ·have:=((List.pairwise_cons.1 (List.pairwise_append.1 h.rel).2.1).1 t ht).2.2 htal
    intro htd; exact this.c d (by rw [hso]) htd
 refine hK (w.alloc (.cells zv.cells ty)) (bd e d .bC) _ ⟨by simpa using h.size,fun j hj=>?_,h.lt,xA h.size (h.lt s hsL) h.cl hrdy,h.rel,h.al,h.af,h.ex,fun t ht b hb=>?_,fun u hu t ht b hbu hbt=>?_,
  M9 hso A R e σ (fun u hu=>?_) h.run,⟨hInv.alloc _,by rw [←hd]; exact g1,by rw [←hd]; exact g2,by rw [←hd]; rw [g3]; exact hdf.ext hX⟩⟩ hX
 ·by_cases hjs:j=s.p
  ·subst hjs
   constructor
   ·intro h1; simp [Array.getD_eq_getD_getElem?,h.size,hj] at h1
   ·rintro ⟨_,h1⟩; rw [az] at h1; cases h1
  ·rw [getD_set_ne true (Ne.symm hjs),aa _ _ _ _ hjs]; exact h.lst j hj
 ·by_cases hts:t.p=s.p
  ·have hte:t=s:=by
    rcases List.mem_append.1 ht with ht | ht
    ·exact absurd hts ((List.pairwise_append.1 h.rel).2.2 t ht s (List.mem_cons_self ..)).1
    ·rcases List.mem_cons.1 ht with rfl | ht
     ·rfl
     ·exact absurd hts.symm ((List.pairwise_cons.1 (List.pairwise_append.1 h.rel).2.1).1 t ht).1
   subst hte
   rw [az] at hb
   obtain rfl:=Option.some.inj hb
   refine ⟨hal,⟨d,i.size,ty,z,zv.cells,hso,hp,⟨hf,hl⟩,by show (w.heap.push _)[w.heap.size]?=_; simp,hv.ext hX,?_⟩,fun hb'=>?_,hInv.fr.size,fun k o2 v hk hm hvb=>?_⟩
   ·rw [←hd]; simp only [Act.put]
    rw [Array.getD_eq_getD_getElem?,Array.getElem?_setIfInBounds_self_of_lt (by rw [hn]; exact hdlt)]
    rfl
   ·have:=hInv.bu.lt _ hb'; omega
   ·obtain ⟨v2,q1,q2,_⟩:=hInv.bu.obj k o2 hk
    rw [hm] at q1; obtain rfl:=Option.some.inj q1
    have:=bt q2 hvb; omega
  ·rw [aa _ _ _ _ hts] at hb
   obtain ⟨q1,⟨d2,es2,ty2,z2,cur2,r1,r2,r3,r4,r5,r6⟩,q3,q4,q5⟩:=h.pend t ht b hb
   have hbs:b<w.heap.size:=(Array.getElem?_eq_some_iff.1 r4).1
   refine ⟨q1,⟨d2,es2,ty2,z2,cur2,r1,r2,r3,by rw [Below.heap_alloc w _ b hbs]; exact r4,r5.ext hX,?_⟩,q3,q4,q5⟩
   rw [xt]
   ·exact r6
   ·rw [←hd]
    intro h2
    exact hHA t ht q1 hts (by rw [r1]; exact h2.symm)
 ·by_cases hus:u.p=s.p <;> by_cases hts:t.p=s.p
  ·rw [hus,hts]
  ·exfalso
   rw [hus,az] at hbu
   obtain rfl:=Option.some.inj hbu
   rw [aa _ _ _ _ hts] at hbt
   obtain ⟨_,⟨d2,es2,ty2,z2,cur2,r1,r2,r3,r4,r5,r6⟩,_⟩:=h.pend t ht _ hbt
   have:=(Array.getElem?_eq_some_iff.1 r4).1
   omega
  ·exfalso
   rw [hts,az] at hbt
   obtain rfl:=Option.some.inj hbt
   rw [aa _ _ _ _ hus] at hbu
   obtain ⟨_,⟨d2,es2,ty2,z2,cur2,r1,r2,r3,r4,r5,r6⟩,_⟩:=h.pend u hu _ hbu
   have:=(Array.getElem?_eq_some_iff.1 r4).1
   omega
  ·rw [aa _ _ _ _ hus] at hbu
   rw [aa _ _ _ _ hts] at hbt
   exact h.inj u hu t ht b hbu hbt
 ·have:=((List.pairwise_append.1 h.rel).2.2 u hu s (List.mem_cons_self ..)).2.2 hal
  exact ⟨this.b d (by rw [hso]),fun htd=>this.c d htd (by rw [hso])⟩
theorem RB (hclo:∀ i o,ops[i]?=some o→(∀ u∈direct o,u<i)∧∀ x∈clo i,x∈direct o∨∃ u∈direct o,x∈clo u) :
  ∀ (fuel:Nat) (listed:Array Bool) (L:List HS) (pb:Nat→Option Nat) (R:List (Nat × Nat)) (m:Mp) (S:Nat→Prop) (w:World) (e:Nat→AV) (σ:St) (a:Act),L.countP (fun u=>(pb u.p).isNone)≤fuel→
   yO P W O S0 ops n mt clo K listed L pb R m S w e σ a→
   (∀ m' S' w' a' e' σ',lR W O S0 m' S' σ' w' n e' a'→Ext m S w m' S' w'→K e' σ'→Q .normal a' w')→wpAny P .any ops Q fuel listed a w:=by
 intro fuel
 induction fuel with
 | zero=>
  intro listed L pb R m S w e σ a hlen h hQ
  have hall:∀ s∈L,pb s.p≠none:=by
   intro s hs hn
   have:=(List.countP_pos_iff (p:=fun u:HS=>(pb u.p).isNone)).2 ⟨s,hs,by simp only [hn]; rfl⟩
   omega
  obtain ⟨m',e',σ',q1,q2,q3⟩:=yO.finish L m e σ hall h
  refine ⟨?_,hQ m' S w a e' σ' q1 q2 q3⟩
  rw [List.eq_nil_iff_forall_not_mem]
  intro j hj
  obtain ⟨h1,o,ho,_⟩:=mem_ready.1 hj
  obtain ⟨⟨s,hs,rfl⟩,hp⟩:=(h.lst j (Array.getElem?_eq_some_iff.1 ho).1).1 h1
  exact hall s hs hp
 | succ fuel ih=>
  intro listed L pb R m S w e σ a hlen h hQ
  refine ⟨fun hnil=>?_,fun i hi=>?_⟩
  ·have hall:∀ p,∀ s∈L,s.p=p→pb s.p≠none:=by
    intro p
    induction p using Nat.strongRecOn with
    | _ p ihp=>
     intro s hs hsp hn
     have hlt:=h.lt s hs
     have:s.p∈Region.ready .any ops listed:=by
      refine mem_ready.2 ⟨(h.lst s.p hlt).2 ⟨⟨s,hs,rfl⟩,hn⟩,ops[s.p],Array.getElem?_eq_getElem hlt,fun x hx hb=>?_⟩
      have hxl:=(hclo s.p _ (Array.getElem?_eq_getElem hlt)).1 x.on (ij.2 ⟨x,hx,hb,rfl⟩)
      have hxs:x.on<ops.size:=by omega
      have hsz:=h.size
      cases hv:listed.getD x.on true with
      | true=>rw [Array.getD_eq_getD_getElem?,Array.getElem?_eq_getElem (by omega)] at hv ⊢; simpa using hv
      | false=>
       obtain ⟨⟨u,hu,hup⟩,hun⟩:=(h.lst x.on hxs).1 hv
       exact absurd (by rw [hup]; exact hun) (ihp x.on (by omega) u hu hup)
     rw [hnil] at this
     simp at this
   obtain ⟨m',e',σ',q1,q2,q3⟩:=yO.finish L m e σ (fun s hs=>hall s.p s hs rfl) h
   exact hQ m' S w a e' σ' q1 q2 q3
  ·obtain ⟨h1,o,ho,hdep⟩:=mem_ready.1 hi
   have hilt:i<ops.size:=(Array.getElem?_eq_some_iff.1 ho).1
   obtain ⟨⟨s,hs,rfl⟩,hn⟩:=(h.lst i hilt).1 h1
   have hcloL:∀ x∈clo s.p,listed.getD x false=true:=by
    intro x hx
    rcases (hclo s.p o ho).2 x hx with hh | ⟨u,hu,hxu⟩
    ·obtain ⟨y,hy,hb,rfl⟩:=ij.1 hh
     exact hdep y hy hb
    ·obtain ⟨y,hy,hb,rfl⟩:=ij.1 hu
     exact h.cl _ (hdep y hy hb) x hxu
   obtain ⟨A,B,rfl⟩:=List.append_of_mem hs
   cases hal:s.o.op.al with
   | true=>
    refine h.lay hs hn hal hcloL fun w' e' a' h' hX=>?_
    refine ih _ (A++s :: B) _ R m S w' e' σ a' ?_ h' fun m2 S2 w2 a2 e2 σ2 q1 q2 q3=>hQ m2 S2 w2 a2 e2 σ2 q1 (hX.trans q2) q3
    have hA:A.countP (fun u=>((bd pb s.p (some w.heap.size)) u.p).isNone)=A.countP (fun u=>(pb u.p).isNone):=List.countP_congr fun u hu=>by
     rw [aa _ _ _ _ ((List.pairwise_append.1 h.rel).2.2 u hu s (List.mem_cons_self ..)).1]
    have hB:B.countP (fun u=>((bd pb s.p (some w.heap.size)) u.p).isNone)=B.countP (fun u=>(pb u.p).isNone):=List.countP_congr fun u hu=>by
     rw [aa _ _ _ _ (Ne.symm ((List.pairwise_cons.1 (List.pairwise_append.1 h.rel).2.1).1 u hu).1)]
    simp only [List.countP_append,List.countP_cons,hA,hB,az,hn] at hlen ⊢
    simp at hlen ⊢
    omega
   | false=>
    obtain ⟨A',m1,e1,σ1,h1,x1,hA',hcnt⟩:=yO.Km hn hal hcloL A.length A m e σ (Nat.le_refl _) h
    refine h1.exec hA' hn hal hcloL fun R' m' S' w' e' σ' a' h' hX=>?_
    refine ih _ (A'++B) pb R' m' S' w' e' σ' a' ?_ h' fun m2 S2 w2 a2 e2 σ2 q1 q2 q3=>hQ m2 S2 w2 a2 e2 σ2 q1 ((x1.trans hX).trans q2) q3
    rw [hcnt]
    simp only [List.countP_append,List.countP_cons,hn] at hlen ⊢
    simp at hlen
    omega
end
end
theorem GD {ops:List Oper} {a s:HS} (h:JD ops a s=true):Pj a s:=by
 simp only [JD,Bool.and_eq_true,Bool.or_eq_true,decide_eq_true_eq,List.contains_iff_mem,Bool.not_eq_true'] at h
 obtain ⟨⟨⟨h1,_⟩,h3⟩,h4⟩:=h
 have key:tD a.o s.o=true→HA a s:=fun k=>by
  obtain ⟨k1,k2,k3⟩:=xP k
  exact ⟨k1,k2,k3⟩
 refine ⟨h1,?_,fun hal=>?_⟩
 ·rcases h3 with (h | ⟨h,k⟩) | h
  ·exact .inl h
  ·exact .inr (.inl ⟨h,key k⟩)
  ·exact .inr (.inr h)
 ·rcases h4 with h | h
  ·rw [hal] at h; cases h
  ·exact key h.2
theorem uP {ops:List Oper}:∀ {L:List HS},yW ops L=true→L.Pairwise Pj
 | [],_=>.nil
 | a :: L,h=>by
  simp only [yW,Bool.and_eq_true,List.all_eq_true] at h
  exact .cons (fun s hs=>GD (h.1 s hs)) (uP h.2)
theorem Fb {s x:HS}:∀ {L:List HS},x∈yt s L↔x=s∨x∈L
 | []=>by simp [yt]
 | a :: L=>by
  simp only [yt]
  split
  ·simp only [List.mem_cons,Fb (L:=L)]
   constructor
   ·rintro (h | h | h)
    ·exact .inr (.inl h)
    ·exact .inl h
    ·exact .inr (.inr h)
   ·rintro (h | h | h)
    ·exact .inr (.inl h)
    ·exact .inl h
    ·exact .inr (.inr h)
  ·simp
theorem xD {s:HS}:∀ {L:List HS},(yt s L).length=L.length+1
 | []=>by simp [yt]
 | a :: L=>by
  simp only [yt]
  split
  ·simp [xD (L:=L)]
  ·simp
theorem CE {x:HS}:∀ {L acc:List HS},x∈hoist acc L↔x∈acc∨x∈L
 | [],acc=>by simp [hoist]
 | s :: L,acc=>by
  simp only [hoist]
  rw [CE (L:=L)]
  split
  ·rw [Fb]; simp only [List.mem_cons]
   constructor
   ·rintro ((h | h) | h)
    ·exact .inr (.inl h)
    ·exact .inl h
    ·exact .inr (.inr h)
   ·rintro (h | h | h)
    ·exact .inl (.inr h)
    ·exact .inl (.inl h)
    ·exact .inr h
  ·simp only [List.mem_append,List.mem_cons,List.not_mem_nil,or_false]
   constructor
   ·rintro ((h | h) | h)
    ·exact .inl h
    ·exact .inr (.inl h)
    ·exact .inr (.inr h)
   ·rintro (h | h | h)
    ·exact .inl (.inl h)
    ·exact .inl (.inr h)
    ·exact .inr h
theorem uQ:∀ {L acc:List HS},(hoist acc L).length=acc.length+L.length
 | [],acc=>by simp [hoist]
 | s :: L,acc=>by
  simp only [hoist]
  rw [uQ (L:=L)]
  split
  ·rw [xD]; simp; omega
  ·simp; omega
theorem CD {s x:HS}:∀ {L:List HS},x∈xC s L↔x=s∨x∈L
 | []=>by simp [xC]
 | a :: L=>by
  simp only [xC]
  split
  ·simp
  ·simp only [List.mem_cons,CD (L:=L)]
   constructor
   ·rintro (h | h | h)
    ·exact .inr (.inl h)
    ·exact .inl h
    ·exact .inr (.inr h)
   ·rintro (h | h | h)
    ·exact .inr (.inl h)
    ·exact .inl h
    ·exact .inr (.inr h)
theorem uO {s:HS}:∀ {L:List HS},(xC s L).length=L.length+1
 | []=>by simp [xC]
 | a :: L=>by
  simp only [xC]
  split
  ·simp
  ·simp [uO (L:=L)]
theorem qf {x:HS}:∀ {L:List HS},x∈jY L↔x∈L
 | []=>by simp [jY]
 | s :: L=>by
  simp only [jY]
  split
  ·rw [CD,qf]; simp
  ·simp [qf (L:=L)]
theorem kl:∀ {L:List HS},(jY L).length=L.length
 | []=>by simp [jY]
 | s :: L=>by
  simp only [jY]
  split
  ·rw [uO,kl]; simp
  ·simp [kl (L:=L)]
theorem DN {l:List aT} {s:HS}:s∈qa l↔l[s.p]?=some s.o:=by
 unfold qa
 simp only [List.mem_map,Prod.exists]
 constructor
 ·rintro ⟨o,i,h,rfl⟩
  have:=List.mk_mem_zipIdx_iff_getElem?.1 h
  simpa using this
 ·intro h
  exact ⟨s.o,s.p,List.mk_mem_zipIdx_iff_getElem?.2 h,rfl⟩
theorem yc {l:List aT}:(qa l).length=l.length:=by simp [qa]
theorem sj {P:Program} {mt:List Nat} {n:Nat} {ops:Array Oper}:∀ {os:List Oper} {cs:List (List Nat)} {rs:List aT},br P mt n ops cs os=some rs→
  ∀ (j:Nat) (r:aT),rs[j]?=some r→∃ o,os[j]?=some o∧cS P mt n ops r.af o=some r
 | [],cs,rs,h,j,r,hr=>by simp [br] at h; subst h; simp at hr
 | o :: os,cs,rs,h,j,r,hr=>by
  simp only [br] at h
  split at h
  ·rename_i r0 rs' h1 h2
   simp only [Option.some.injEq] at h
   subst h
   cases j with
   | zero=>
    simp only [List.getElem?_cons_zero,Option.some.injEq] at hr
    subst hr
    refine ⟨o,rfl,?_⟩
    have haf:r0.af=cs.headD []:=by
     have h3:=h1
     unfold cS at h3
     split at h3
     ·cases h3
     ·split at h3
      ·split at h3
       ·simp only [Option.some.injEq] at h3; rw [←h3]
       ·split at h3
        ·split at h3
         ·simp only [Option.some.injEq] at h3; rw [←h3]
         ·cases h3
        ·cases h3
      ·cases h3
    rw [haf]; exact h1
   | succ j=>exact sj h2 j r (by simpa using hr)
  ·cases h
theorem Df {P:Program} {W:World} {O S0:Nat→Prop} {ops:Array Oper} {Q:Exit→Act→World→Prop} {mt:List Nat} {n:Nat} {l:List aT} {m:Mp} {S:Nat→Prop} {σ:St} {w:World} {e:Nat→AV} {a:Act} {K:(Nat→AV)→St→Prop}
  (hc:br P mt n ops (closure ops.toList) ops.toList=some l) (hok:DR ops.toList l=true) (hI:lR W O S0 m S σ w n e a) (h:dR (HC P) (uR l) K [] e σ)
  (hQ:∀ m' S' σ' w' e' a',lR W O S0 m' S' σ' w' n e' a'→Ext m S w m' S' w'→K e' σ'→Q .normal a' w'):wpAny P .any ops Q ops.size (Array.replicate ops.size false) a { w with drawn:=w.drawn+1 }:=by
 obtain ⟨hInv,hE,hn,hdf⟩:=hI
 have hlen:=iC hc
 simp only [Array.length_toList] at hlen
 simp only [DR,Bool.and_eq_true] at hok
 obtain ⟨⟨hrel,hall⟩,hcl⟩:=hok
 have hmem:∀ s,s∈uR l↔l[s.p]?=some s.o:=fun s=>by unfold uR; rw [qf,CE]; simp [DN]
 have hll:(uR l).length=ops.size:=by unfold uR; rw [kl,uQ,yc,hlen]; simp
 refine (RB (W:=W) (O:=O) (S0:=S0) (mt:=mt) (n:=n) (clo:=fun i=>match l[i]? with | some q=>q.af | none=>[]) (K:=K) ?_ ops.size _ (uR l) (fun _=>none) [] m S _ e σ a (by rw [←hll]; exact List.countP_le_length)
  ⟨by simp,fun i hi=>?_,fun s hs=>?_,fun i hi=>?_,uP hrel,fun s hs hal=>?_,fun s hs=>?_,fun s hs=>?_,fun s hs b hb=>(by cases hb),fun s hs t ht b hb=>(by cases hb),h,⟨hInv.drew,hE.ext (Ext.drew m S w),hn,hdf.ext (Ext.drew m S w)⟩⟩ fun m' S' w' a' e' σ' q1 q2 q3=>hQ m' S' σ' w' e' a' q1 ((Ext.drew m S w).trans q2) q3)
 ·intro i o ho
  have hi:i<l.length:=by rw [hlen]; exact (Array.getElem?_eq_some_iff.1 ho).1
  have:=me ops.toList l 0 hcl (by simpa using hlen.symm) i o l[i] (by simpa using ho) (List.getElem?_eq_getElem hi)
  simp only [qx,Bool.and_eq_true,List.all_eq_true,decide_eq_true_eq,Nat.zero_add,Bool.or_eq_true,List.any_eq_true] at this
  refine ⟨this.1,fun x hx=>?_⟩
  simp only [List.getElem?_eq_getElem hi] at hx
  rcases this.2 x hx with h | ⟨u,hu,h⟩
  ·exact .inl (by simpa using h)
  ·refine .inr ⟨u,hu,?_⟩
   split at h
   ·rename_i q hq; simp only [hq]; simpa using h
   ·cases h
 ·constructor
  ·intro _
   have hi':i<l.length:=by rw [hlen]; exact hi
   exact ⟨⟨⟨i,l[i]⟩,(hmem _).2 (List.getElem?_eq_getElem hi'),rfl⟩,rfl⟩
  ·intro _; simp [Array.getD_eq_getD_getElem?,hi]
 ·have:=(List.getElem?_eq_some_iff.1 ((hmem s).1 hs)).1
  omega
 ·simp only [Array.getD_eq_getD_getElem?] at hi
  by_cases h:i<ops.size <;> simp [h] at hi
 ·have:=List.all_eq_true.1 hall s hs
  rw [hal] at this
  simp only [Bool.not_true,Bool.false_or,Bool.and_eq_true,Option.isNone_iff_eq_none,Option.isSome_iff_exists] at this
  exact this
 ·simp only [(hmem s).1 hs]
 ·obtain ⟨o,ho,h⟩:=sj hc _ _ ((hmem s).1 hs)
  exact ⟨o,by simpa using ho,h⟩
end Go.Ab
