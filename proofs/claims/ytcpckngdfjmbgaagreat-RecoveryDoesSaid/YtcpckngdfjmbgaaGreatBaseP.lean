/- OWN WORK, put together by tools/asm.py, seat.py, mini.py. -/
import Derived.Test.YtcpckngdfjmbgaaGreatBaseU
namespace Go.Ab
open Go.RowKit
section
variable {P : Program} {W : World} {O S0 : Nat → Prop} {m : Mp} {S : Nat → Prop} {σ : St} {w : World} {e : Nat → AV} {a : Act} {K : AV → St → Prop} {Q : Exit → Act → World → Prop}
theorem C4 {F:Fence} {n:Nat} {P:Program} {Q:Exit→Act→World→Prop} {a:Act} {w:World} {c:Code} (R:Nat→Act→World→Prop) (k0:Nat) (h₀:R k0 a w)
  (round:∀ k a w,R k a w→c.wpIn F n P (Exit.then (fun a' w'=>∃ k',k' < k∧R k' a' w') Q) a w):(Code.loop c).wpIn F n P Q a w:=by
 intro b k cs hro hb hr
 have key:∀ j a w,R j a w→∃ e a' w',Q e a' w'∧ArrivesIn (Machine.fenced P F) P (lone (b.atR a (.code c :: .inLoop c :: k)) cs w) b k cs e a' w':=by
  intro j
  induction j using Nat.strongRecOn with
  | _ j ih=>
   intro a w hR
   obtain ⟨e,a₁,w₁,hq,harr⟩:=round j a w hR b (.inLoop c :: k) cs hro hb hr
   cases e with
   | normal=>
    obtain ⟨k',hlt,hR₁⟩:=hq
    obtain ⟨e₂,a₂,w₂,hq₂,harr₂⟩:=ih k' hlt a₁ w₁ hR₁
    exact ⟨e₂,a₂,w₂,hq₂,.of_steps (StepsIn.trans harr (.one (fenced_calm hb hr rfl) stepR_inLoop)) harr₂⟩
   | exit id=>exact ⟨_,a₁,w₁,hq,.pass (x:=.inLoop c) rfl (fun _ _=>.inl (by simp)) harr⟩
   | goto l=>exact ⟨_,a₁,w₁,hq,.pass (x:=.inLoop c) rfl (fun _ _=>.inl (by simp)) harr⟩
   | ret=>exact ⟨_,a₁,w₁,hq,.pass (x:=.inLoop c) rfl (fun _ _=>.inl (by simp)) harr⟩
   | panic ch=>exact ⟨_,a₁,w₁,hq,.pass (x:=.inLoop c) rfl (fun _ _=>.inl (by simp)) harr⟩
   | outgrown=>exact ⟨_,a₁,w₁,hq,.pass (x:=.inLoop c) rfl (fun _ _=>.inl (by simp)) harr⟩
 obtain ⟨e,a',w',hq,harr⟩:=key _ a w h₀
 exact ⟨e,a',w',hq,.of_steps (.one (fenced_calm hb hr rfl) stepR_loop) harr⟩
def JN:EX→Exit
 | .lJ=>.normal
 | .ret=>.ret
 | .exit id=>.exit id
theorem lZ {x y:Code} (h:(fM x&&fM y)=true):fM x=true∧fM y=true:=by simpa using h
theorem Hs {w:World} {b:Nat} {o:Obj} (h:w.heap[b]?=some o) (ho:o.isCells=false):¬nv w b:=by
 rintro ⟨c,t,f,h'⟩
 rw [h] at h'
 obtain rfl:=Option.some.inj h'
 cases ho
theorem nv.lt {w:World} {b:Nat} (h:nv w b):b<w.heap.size:=by
 obtain ⟨c,t,f,h⟩:=h
 exact (Array.getElem?_eq_some_iff.1 h).1
theorem qP.nv {m:Mp} {S:Nat→Prop} {w:World} {o:aU} {v:Value} (h:qP m S w o v) {b:Nat} (hb:v.ownBlock=some b):nv w b∨(o.ty=rZ∧∃ ents clock,w.heap[b]?=some (.map ents clock)):=by
 obtain ⟨_,_,xs,h3,_⟩:=h
 rcases h3 with h3 | ⟨h1,_,_,g,ents,clock,rfl,hg,_⟩
 ·rcases h3.2 with ⟨rfl,_⟩ | ⟨g,len,cap,cur,fr,rfl,hg,_⟩
  ·cases hb
  ·cases hb
   exact .inl ⟨_,_,_,hg⟩
 ·cases hb
  exact .inr ⟨h1,ents,clock,hg⟩
section
variable {P : Program} {W : World} {O S0 : Nat → Prop} {m : Mp} {S : Nat → Prop} {σ : St} {w : World}
theorem Inv.Lf (h:Inv W O S0 m S σ w) {w':World} {S':Nat→Prop} (h1:w'.os=w.os) (h2:w'.tape=w.tape) (h3:w'.output=w.output) (hsz:w.heap.size≤w'.heap.size) (hcell:∀ b,nv w b→w'.heap[b]?=w.heap[b]?)
  (hold:∀ b,b<W.heap.size→w'.heap[b]?=w.heap[b]?) (hin:∀ b,S b→nv w b→S' b) (hout:∀ b,S' b→S b∨(W.heap.size≤b∧b<w'.heap.size∧¬nv w b))
  (hmap:∀ k o v b,σ.ob k=some o→m o.g=some v→v.ownBlock=some b→¬nv w b→w'.heap[b]?=w.heap[b]?∧(S b→S' b)∧(S' b→S b)):Inv W O S0 m S' σ w':=by
 refine ⟨⟨h.bu.fresh,fun k o ho=>?_,h.bu.iB,fun b hb=>?_⟩,⟨h1.trans h.fr.os,h2.trans h.fr.tape,h3.trans h.fr.output,Nat.le_trans h.fr.size hsz,fun b hb hO=>(hold b hb).trans (h.fr.block b hb hO),h.fr.own,fun b hb=>?_⟩⟩
 ·obtain ⟨v,hm,hob,hr⟩:=h.bu.obj k o ho
  have hk:∀ b,v.ownBlock=some b→w'.heap[b]?=w.heap[b]?∧(S b→S' b)∧(o.ro=false→¬S' b):=fun b hb=>by
   by_cases hc:nv w b
   ·refine ⟨hcell b hc,fun h=>hin b h hc,fun hro hS=>?_⟩
    rcases hout b hS with q | ⟨_,_,q⟩
    ·exact (hr b hb).2 hro q
    ·exact q hc
   ·obtain ⟨p1,p2,p3⟩:=hmap k o v b ho hm hb hc
    exact ⟨p1,p2,fun hro hS=>(hr b hb).2 hro (p3 hS)⟩
  refine ⟨v,hm,?_,fun b hb=>⟨fun hro=>(hk b hb).2.1 ((hr b hb).1 hro),(hk b hb).2.2⟩⟩
  obtain ⟨a1,a2,xs,a3,a4⟩:=hob
  exact ⟨a1,a2,xs,a3.bG fun b hb=>(hk b hb).1,a4.1,fun j y u hy hu=>(a4.2 j y u hy hu).Ht (Mp.le_refl m) fun b hb hc=>⟨hin b hb hc,hcell b hc⟩⟩
 ·rcases hout b hb with q | ⟨_,q,_⟩
  ·have:=h.bu.lt b q; omega
  ·exact q
 ·rcases hout b hb with q | ⟨q,_,_⟩
  ·exact h.fr.sub b q
  ·exact .inr (.inr q)
def MC (B:Nat) (m:Mp) (σ:St) (V:World):Prop:=∀ k o v b,σ.ob k=some o→m o.g=some v→v.ownBlock=some b→b<B∨nv V b
theorem MC.of {m1:Mp} {S1:Nat→Prop} {σ1:St} {V:World} (h:xQ σ σ1) (hI:Be m S σ w) (hle:m.le m1) (h1:Be m1 S1 σ1 V):MC w.heap.size m1 σ1 V:=by
 intro k o v b ho hm hb
 obtain ⟨v',hm',hob,_⟩:=h1.obj k o ho
 rw [hm] at hm'; obtain rfl:=Option.some.inj hm'
 rcases hob.nv hb with hc | ⟨hty,_⟩
 ·exact .inr hc
 ·obtain ⟨k',o',ho',hg⟩:=h k o ho hty
  obtain ⟨v0,hm0,hob0,_⟩:=hI.obj k' o' ho'
  have h2:=hle _ _ hm0
  rw [hg,hm] at h2
  obtain rfl:=Option.some.inj h2
  exact .inl (bt hob0 hb)
theorem xQ.refl (σ:St):xQ σ σ:=fun k o ho _=>⟨k,o,ho,rfl⟩
def F1 (W:World) (O S0:Nat→Prop) (m:Mp) (S:Nat→Prop) (w:World) (J:Mp→(Nat→Prop)→St→World→Prop) (V:World):Prop:=
 ∃ m1 S1 σ1,Inv W O S0 m1 S1 σ1 V∧Ext m S w m1 S1 V∧(∀ b,S1 b→w.heap.size≤b→nv V b)∧J m1 S1 σ1 V∧MC w.heap.size m1 σ1 V
def RO (W:World) (O S0:Nat→Prop) (m:Mp) (S:Nat→Prop) (w:World) (J:St→Prop) (V:World):Prop:=F1 W O S0 m S w (fun _ _ σ1 _=>J σ1) V
theorem F1.own {β:Type} (hS:∀ b,S b→b<w.heap.size) (hW:W.heap.size≤w.heap.size) (J:β→Mp→(Nat→Prop)→St→World→Prop)
  (hst:∀ s m1 S1 σ1 V V',(∀ b,S1 b→nv V b→V'.heap[b]?=V.heap[b]?)→J s m1 S1 σ1 V→J s m1 S1 σ1 V'):OwnFrom w.heap.size (fun s V=>F1 W O S0 m S w (J s) V):=by
 rintro s V V' row ⟨m1,S1,σ1,hI,hX,hC,hJ,hM⟩ hg hr
 have hne:∀ b,some b=row→w.heap.size≤b∧¬nv V b:=fun b e=>by
  obtain ⟨h1,o,h2,h3⟩:=hr b e.symm
  exact ⟨h1,Hs h2 h3⟩
 have hcell:∀ b,nv V b→V'.heap[b]?=V.heap[b]?:=fun b hb=>hg.block b hb.lt fun e=>(hne b e).2 hb
 have hVs:w.heap.size≤V.heap.size∨True:=.inr trivial
 have hold:∀ b,b<W.heap.size→V'.heap[b]?=V.heap[b]?:=fun b hb=>hg.block b (by have:=hI.fr.size; omega) fun e=>by have:=(hne b e).1; omega
 refine ⟨m1,S1,σ1,hI.Lf hg.os hg.tape hg.output hg.size hcell hold (fun b h _=>h) (fun b h=>.inl h) (fun k o v b ho hm hb hn=>⟨?_,id,id⟩),⟨hX.le,hX.sub,fun b hb=>?_⟩,fun b hb hw=>(hC b hb hw).same (hcell b (hC b hb hw)),hst s m1 S1 σ1 V V' (fun b _ hc=>hcell b hc) hJ,fun k o v b ho hm hb=>?_⟩
 ·rcases hM k o v b ho hm hb with h | h
  ·obtain ⟨v',hm',hob,_⟩:=hI.bu.obj k o ho
   rw [hm] at hm'; obtain rfl:=Option.some.inj hm'
   exact hg.block b (bt hob hb) fun e=>by have:=(hne b e).1; omega
  ·exact absurd h hn
 rotate_left
 ·rcases hM k o v b ho hm hb with h | h
  ·exact .inl h
  ·exact .inr (h.same (hcell b h))
 have h1:=hS b hb
 have h2:=hI.bu.lt b (hX.sub b hb)
 exact (hg.block b h2 fun e=>by have:=(hne b e).1; omega).trans (hX.bG b hb)
theorem RO.own {β:Type} (hS:∀ b,S b→b<w.heap.size) (hW:W.heap.size≤w.heap.size) (J:β→St→Prop):OwnFrom w.heap.size (fun s V=>RO W O S0 m S w (J s) V):=
 F1.own hS hW (fun s _ _ σ1 _=>J s σ1) fun _ _ _ _ _ _ _ h=>h
def addrOf:Value→Addr
 | .pointer (some p)=>p
 | _=>default
theorem O6 {caps xs:List AV} {us:List Value} (hS:Be m S σ w) (hc:RR σ caps xs) (hv:bR m S w caps us):us=(us.map addrOf).map (fun p=>Value.pointer (some p))∧zh (us.map addrOf) xs w:=by
 have key:∀ (i:Nat) (u:Value),us[i]?=some u→∃ p x v,u=.pointer (some p)∧xs[i]?=some x∧p.spot=none∧EO x=some v∧w.cell? p=some v:=by
  intro i u hu
  have hl:=hv.1
  have hi:=(List.getElem?_eq_some_iff.1 hu).1
  have hlc:=hc.1
  have hci:caps[i]?=some (caps[i]'(by omega)):=List.getElem?_eq_getElem _
  have hxi:xs[i]?=some (xs[i]'(by omega)):=List.getElem?_eq_getElem _
  obtain ⟨⟨v,hsv⟩,id,g,o,he,ho,hg,hes,hol⟩:=hc.2 i _ _ hci hxi
  have h1:=hv.2 i _ u hci hu
  rw [he] at h1
  obtain ⟨b,e1,hlen,ws,hws,hvs,hcs⟩:=Di hS h1 ho hg hes (y:=xs[i]'(by omega)) (by rw [hol]; rfl)
  refine ⟨_,_,v,e1,hxi,rfl,hsv,?_⟩
  obtain ⟨w0,rfl⟩:=List.length_eq_one_iff.1 hws
  have h2:=hcs 0 w0 rfl
  have hcx:(xs[i]'(by omega)).cells=[xs[i]'(by omega)]:=by
   generalize xs[i]'(by omega)=x at *
   cases x <;> simp [EO] at hsv <;> rfl
  rw [hcx] at hvs
  have h3:=hvs.2 0 _ w0 rfl rfl
  have h4:w0=v:=by
   generalize xs[i]'(by omega)=x at *
   cases x <;> simp [EO] at hsv
   ·subst hsv; exact h3.of_bool
   ·subst hsv; exact h3.of_int
   ·subst hsv; exact h3.mH
  rw [←h4]
  simpa using h2
 refine ⟨?_,by simp [hv.1,hc.1],fun i p x hp hx=>?_⟩
 ·refine List.ext_getElem? fun i=>?_
  rw [List.map_map,List.getElem?_map]
  cases hu:us[i]? with
  | none=>rfl
  | some u=>
   obtain ⟨p,x,v,rfl,_⟩:=key i u hu
   rfl
 ·rw [List.getElem?_map] at hp
  obtain ⟨u,hu,rfl⟩:=Option.map_eq_some_iff.1 hp
  obtain ⟨p,x',v,rfl,hx',hsp,hsv,hcell⟩:=key i u hu
  rw [hx] at hx'
  obtain rfl:=Option.some.inj hx'
  exact ⟨hsp,v,hsv,hcell⟩
end
def H7 (B:Nat) (V:World) (b:Nat):Prop:=B≤b∧b<V.heap.size∧¬nv V b
theorem P0 {c:Code} {t d:Nat} (h:RJ c=some (t,d)):∃ id ops o,c=.region id ops false∧ops=#[o]∧o.dst=some d∧o.op=.assign (.tmp t)∧o.guard=none:=by
 unfold RJ at h
 split at h
 ·rename_i id ops
  split at h
  ·rename_i o ho
   split at h
   ·rename_i d' t' h1 h2 h3
    simp only [Option.some.injEq,Prod.mk.injEq] at h
    obtain ⟨rfl,rfl⟩:=h
    exact ⟨id,ops,o,rfl,by rw [←ho],h1,h2,h3⟩
   ·cases h
  ·cases h
 ·cases h
theorem SO {F:Fence} {n id t d:Nat} {P:Program} {ao:Oper} {K:Act→World→Prop} {Q:Exit→Act→World→Prop} {a:Act} {w:World} {v:Value} (h1:ao.dst=some d) (h2:ao.op=.assign (.tmp t)) (h3:ao.guard=none) (hv:a.eval (.tmp t)=v)
  (h:K { tmps:=a.tmps.setIfInBounds d v,defers:=a.defers } w):(Code.region id #[ao] false).wpIn F n P (Exit.then K Q) a w:=by
 refine wpIn_region ?_
 have hw:Region.wanted ao (yielded #[ao] a.tmps)=true:=by simp [Region.wanted,h3]
 have hl:List.range (#[ao]:Array Oper).size=[0]:=rfl
 rw [hl]
 simp only [wpOpsIn,List.getElem?_toArray,List.getElem?_cons_zero,hw,if_true]
 refine ⟨fun f hf=>?_,?_⟩
 ·simp [Oper.about,h2] at hf
 ·rw [Oper.semAt_eq _ _ _ (fun c hc=>by rw [h2] at hc; cases hc)]
  simp only [execOp,h2,Sem.run_pure,hv,Oper.uponIn,Act.put,h1,Exit.then]
  exact h
theorem EU {W:World} {O S0:Nat→Prop} {m1:Mp} {S1:Nat→Prop} {σ1:St} {V w:World} (hWw:W.heap.size≤w.heap.size) (q1:Inv W O S0 m1 S1 σ1 V) (q5:MC w.heap.size m1 σ1 V) :
  Inv V (xW m1 σ1) (fun b=>S1 b∨H7 w.heap.size V b) m1 (fun b=>S1 b∨H7 w.heap.size V b) σ1 V:=by
 refine ⟨(q1.Lf (S':=fun b=>S1 b∨H7 w.heap.size V b) rfl rfl rfl (Nat.le_refl _) (fun _ _=>rfl) (fun _ _=>rfl) (fun b h _=>.inl h) (fun b h=>?_) fun k o v b ho hm hb hn=>⟨rfl,.inl,fun h=>h.resolve_right fun h=>by rcases q5 k o v b ho hm hb with h2 | h2; exact absurd h.1 (by omega); exact hn h2⟩).bu,⟨rfl,rfl,rfl,Nat.le_refl _,fun _ _ _=>rfl,fun k o v b ho hro hm hb=>.inl ⟨k,o,v,ho,hro,hm,hb⟩,fun b hb=>.inl hb⟩⟩
 rcases h with h | h
 ·exact .inl h
 ·exact .inr ⟨Nat.le_trans hWw h.1,h.2.1,h.2.2⟩
theorem PW {W:World} {O S0:Nat→Prop} {m m1 m':Mp} {S S1 S':Nat→Prop} {σ1 τ:St} {V w w':World} (hlt0:∀ b,S b→b<w.heap.size) (hWw:W.heap.size≤w.heap.size) (q1:Inv W O S0 m1 S1 σ1 V) (q2:Ext m S w m1 S1 V) (q5:MC w.heap.size m1 σ1 V)
  (r1:Inv V (xW m1 σ1) (fun b=>S1 b∨H7 w.heap.size V b) m' S' τ w') (r5:Ext m1 (fun b=>S1 b∨H7 w.heap.size V b) V m' S' w') (hmc:MC w.heap.size m' τ w') (J:Mp→(Nat→Prop)→St→World→Prop)
  (hJ:J m' (fun b=>S' b∧(b<w.heap.size∨nv w' b)) τ w'):F1 W O S0 m S w J w':=by
 have i1:=EU hWw q1 q5
 refine ⟨m',fun b=>S' b∧(b<w.heap.size∨nv w' b),τ,?_,⟨Mp.le_trans q2.le r5.le,fun b hb=>⟨r5.sub b (.inl (q2.sub b hb)),.inl (hlt0 b hb)⟩,fun b hb=>(r5.bG b (.inl (q2.sub b hb))).trans (q2.bG b hb)⟩,fun b hb hw=>hb.2.resolve_left (by omega),hJ,hmc⟩
 have r7:Inv W O (fun b=>S0 b∨W.heap.size≤b) m' S' τ w':=by
  have k1:Inv W O (fun b=>S0 b∨W.heap.size≤b) m1 (fun b=>S1 b∨H7 w.heap.size V b) σ1 V:=⟨i1.bu,⟨q1.fr.os,q1.fr.tape,q1.fr.output,q1.fr.size,q1.fr.block,q1.fr.own,fun b hb=>by
   rcases hb with hb | hb
   ·rcases q1.fr.sub b hb with h | h | h
    ·exact .inl (.inl h)
    ·exact .inr (.inl h)
    ·exact .inr (.inr h)
   ·exact .inr (.inr (Nat.le_trans hWw hb.1))⟩⟩
  exact k1.call r1
 have r8:=r7.Lf (S':=fun b=>S' b∧(b<w.heap.size∨nv w' b)) rfl rfl rfl (Nat.le_refl _) (fun _ _=>rfl) (fun _ _=>rfl) (fun b h hc=>⟨h,.inr hc⟩) (fun b h=>.inl h.1) (fun k o v b ho hm hb hn=>⟨rfl,fun h=>⟨h,.inl ((hmc k o v b ho hm hb).resolve_right hn)⟩,fun h=>h.1⟩)
 exact ⟨r8.bu,⟨r8.fr.os,r8.fr.tape,r8.fr.output,r8.fr.size,r8.fr.block,r8.fr.own,fun b hb=>by
  rcases r8.fr.sub b hb with (h | h) | h | h
  ·exact .inl h
  ·exact .inr (.inr h)
  ·exact .inr (.inl h)
  ·exact .inr (.inr h)⟩⟩
theorem IK {m:Mp} {S:Nat→Prop} {w:World} {n:Nat}:∀ (ts:List Nat) (vs:List AV) (us:List Value) (tmps:Array Value) (e:Nat→AV),(∀ t∈ts,t<n)→tmps.size=n→bq m S w e tmps→bR m S w vs us→vs.length=ts.length→
  bq m S w (Oc e ts vs) ((ts.zip us).foldl (fun t (x:Nat × Value)=>t.setIfInBounds x.1 x.2) tmps)∧((ts.zip us).foldl (fun t (x:Nat × Value)=>t.setIfInBounds x.1 x.2) tmps).size=n
 | [],vs,us,tmps,e,_,hn,hE,_,_=>by cases vs <;> exact ⟨hE,hn⟩
 | t :: ts,[],us,tmps,e,_,_,_,_,hl=>by simp at hl
 | t :: ts,v :: vs,[],tmps,e,_,_,_,hv,_=>by have:=hv.1; simp at this
 | t :: ts,v :: vs,u :: us,tmps,e,ht,hn,hE,hv,hl=>by
  have h1:=bq.put (a:={ tmps:=tmps,defers:=[] }) hE hn (d:=some t) (fun i hi=>by cases hi; exact ht t (by simp)) (hv.2 0 v u rfl rfl)
  exact IK ts vs us _ _ (fun x hx=>ht x (by simp [hx])) h1.2.1 h1.1 ⟨by have:=hv.1; simpa using this,fun j y z hy hz=>hv.2 (j+1) y z hy hz⟩ (by simpa using hl)
theorem Iv {mt:List Nat} {n:Nat}:∀ (c:Code) (ac:ay),comp P mt n c=some ac→
  ∀ {ro:Option Nat},(ro=none∨fM c=true)→∀ {k:Nat},1≤k∨ro≠none→∀ {W:World} {O S0:Nat→Prop} {m:Mp} {S:Nat→Prop} {σ:St} {w:World} {e:Nat→AV} {a:Act} {Qa:lQ} {Q:Exit→Act→World→Prop},lR W O S0 m S σ w n e a→n6 (HC P) ac Qa e σ→
  (∀ x m' S' σ' w' e' a',lR W O S0 m' S' σ' w' n e' a'→Ext m S w m' S' w'→Qa x e' σ'→Q (JN x) a' w')→c.wpIn (Fw ro) k P Q a w:=by
 intro c
 induction c with
 | skip=>
  intro ac hc ro hro k hk W O S0 m S σ w e a Qa Q hI h hQ
  simp only [comp,Option.some.injEq] at hc; subst hc
  exact wpIn_skip (hQ .lJ m S σ w e a hI (Ext.refl m S w) h)
 | ret=>
  intro ac hc ro hro k hk W O S0 m S σ w e a Qa Q hI h hQ
  simp only [comp,Option.some.injEq] at hc; subst hc
  exact wpIn_ret (hQ .ret m S σ w e a hI (Ext.refl m S w) h)
 | exit id=>
  intro ac hc ro hro k hk W O S0 m S σ w e a Qa Q hI h hQ
  simp only [comp,Option.some.injEq] at hc; subst hc
  exact wpIn_exit (hQ (.exit id) m S σ w e a hI (Ext.refl m S w) h)
 | region id ops draw=>
  intro ac hc ro hro k hk W O S0 m S σ w e a Qa Q hI h hQ
  simp only [comp,HF] at hc
  cases draw with
  | true=>
   simp only [if_true] at hc
   split at hc
   ·rename_i l hl
    split at hc
    ·rename_i hok
     simp only [Option.some.injEq] at hc; subst hc
     simp only [Bool.and_eq_true] at hok
     refine wpIn_mono (Q:=Nj (fun a' w'=>Q .normal a' w')) (wpIn_region_any hok.1.2 (Bc (sY hl) Nj.lets _ _ _ _ (Df hl hok.2 hI h fun m' S' σ' w' e' a' q1 q2 q3=>hQ .lJ m' S' σ' w' e' a' q1 q2 q3))) (fun e a w h=>by cases e <;> first | exact h | exact h.elim)
    split at hc
    ·rename_i hok
     simp only [Option.some.injEq] at hc; subst hc
     simp only [Bool.and_eq_true] at hok
     refine wpIn_mono (Q:=Nj (fun a' w'=>Q .normal a' w')) (wpIn_region_any hok.1 (Bc (sY hl) Nj.lets _ _ _ _ (EW hl hok.2 hI (h.2 _ rfl) fun m' S' σ' w' e' a' q1 q2 q3=>hQ .lJ m' S' σ' w' e' a' q1 q2 q3))) (fun e a w h=>by cases e <;> first | exact h | exact h.elim)
    ·cases hc
   ·cases hc
  | false=>
   simp only [Bool.false_eq_true,if_false] at hc
   obtain ⟨l,hl,rfl⟩:=Option.map_eq_some_iff.1 hc
   refine wpIn_mono (Q:=Nj (fun a' w'=>Q .normal a' w')) (wpIn_region (ue (sY hl) Nj.lets _ _ _ (Gf ops (List.range ops.size) [] ops.toList l ?_ (by simp) hl _ _ _ _ _ _ _ hI (h.1 rfl) fun m' S' σ' w' e' a' q1 q2 q3=>hQ .lJ m' S' σ' w' e' a' q1 q2 q3))) (fun e a w h=>by cases e <;> first | exact h | exact h.elim)
   intro k i hk
   obtain ⟨h1,h2⟩:=List.getElem?_eq_some_iff.1 hk
   simp at h1 h2
   subst h2
   simp
 | seq x y ihx ihy=>
  intro ac hc ro hro k hk W O S0 m S σ w e a Qa Q hI h hQ
  simp only [comp] at hc
  split at hc
  ·rename_i a1 b1 h1 h2
   simp only [Option.some.injEq] at hc; subst hc
   refine wpIn_seq (ihx _ h1 (hro.imp id fun h=>(lZ h).1) hk hI h ?_)
   intro z m' S' σ' w' e' a' q1 q2 q3
   cases z with
   | lJ=>exact ihy _ h2 (hro.imp id fun h=>(lZ h).2) hk q1 q3 fun z2 m2 S2 σ2 w2 e2 a2 p1 p2 p3=>hQ z2 m2 S2 σ2 w2 e2 a2 p1 (q2.trans p2) p3
   | ret=>exact hQ .ret m' S' σ' w' e' a' q1 q2 q3
   | exit id=>exact hQ (.exit id) m' S' σ' w' e' a' q1 q2 q3
  ·cases hc
 | cond x y z ihy ihz=>
  intro ac hc ro hro k hk W O S0 m S σ w e a Qa Q hI h hQ
  simp only [comp] at hc
  split at hc
  ·rename_i c1 a1 b1 h0 h1 h2
   simp only [Option.some.injEq] at hc; subst hc
   simp only [n6] at h
   generalize ht:c1.ev e=g at h
   unfold qu at h
   split at h
   ·rename_i t
    have hv:=aC hI.2.1 h0
    rw [ht] at hv
    refine wpIn_cond hv.of_bool ?_
    cases t with
    | true=>exact ihy _ h1 (hro.imp id fun h=>(lZ h).1) hk hI (h.1 rfl) hQ
    | false=>exact ihz _ h2 (hro.imp id fun h=>(lZ h).2) hk hI (h.2 rfl) hQ
   ·exact h.elim
  ·cases hc
 | block id x ih=>
  intro ac hc ro hro k hk W O S0 m S σ w e a Qa Q hI h hQ
  simp only [comp] at hc
  obtain ⟨a1,h1,rfl⟩:=Option.map_eq_some_iff.1 hc
  refine wpIn_block (ih _ h1 hro hk hI h ?_)
  intro z m' S' σ' w' e' a' q1 q2 q3
  cases z with
  | lJ=>exact hQ .lJ m' S' σ' w' e' a' q1 q2 q3
  | ret=>exact hQ .ret m' S' σ' w' e' a' q1 q2 q3
  | exit i=>
   simp only [JN,Exit.inBlock]
   simp only [jx] at q3
   split
   ·rename_i hi
    simp only [hi,if_true] at q3
    exact hQ .lJ m' S' σ' w' e' a' q1 q2 q3
   ·rename_i hi
    simp only [hi,if_false] at q3
    exact hQ (.exit i) m' S' σ' w' e' a' q1 q2 q3
 | loop x ih=>
  intro ac hc ro hro k hk W O S0 m S σ w e a Qa Q hI h hQ
  simp only [comp] at hc
  obtain ⟨a1,h1,rfl⟩:=Option.map_eq_some_iff.1 hc
  obtain ⟨I,⟨k0,h0⟩,hr⟩:=h
  refine C4 (fun k a2 w1=>∃ m1 S1 σ1 e1,lR W O S0 m1 S1 σ1 w1 n e1 a2∧Ext m S w m1 S1 w1∧I k e1 σ1) k0 ⟨m,S,σ,e,hI,Ext.refl m S w,h0⟩ ?_
  rintro kk a2 w1 ⟨m1,S1,σ1,e1,hI1,hX1,hi1⟩
  refine ih _ h1 hro hk hI1 (hr kk e1 σ1 hi1) ?_
  intro z m' S' σ' w' e' a' q1 q2 q3
  cases z with
  | lJ=>
   obtain ⟨k',hk',nt,_,hI'⟩:=q3
   exact ⟨k',hk',m',S',σ'.aD nt,e',⟨q1.1.aD nt,q1.2⟩,hX1.trans q2,hI'⟩
  | ret=>exact hQ .ret m' S' σ' w' e' a' q1 (hX1.trans q2) q3
  | exit i=>exact hQ (.exit i) m' S' σ' w' e' a' q1 (hX1.trans q2) q3
 | rangeFunc=>intro ac hc; simp [comp] at hc
 | scope=>intro ac hc; simp [comp] at hc
 | label=>intro ac hc; simp [comp] at hc
 | goto=>intro ac hc; simp [comp] at hc
 | refuse=>intro ac hc; simp [comp] at hc
end
end Go.Ab
