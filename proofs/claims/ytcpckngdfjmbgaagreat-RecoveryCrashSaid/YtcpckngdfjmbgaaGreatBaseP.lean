/- OWN WORK, put together by tools/asm.py, seat.py, mini.py. -/
import Derived.Test.YtcpckngdfjmbgaaGreatBaseU
namespace Go.Ab
open Go.RowKit
section
variable {P : Program} {W : World} {O S0 : Nat → Prop} {m : Mp} {S : Nat → Prop} {σ : St} {w : World} {e : Nat → AV} {a : Act} {K : AV → St → Prop} {Q : Exit → Act → World → Prop}
theorem Ce {F:Fence} {n:Nat} {P:Program} {Q:Exit→Act→World→Prop} {a:Act} {w:World} {c:Code} (R:Nat→Act→World→Prop) (k0:Nat) (h₀:R k0 a w)
  (round:∀ k a w,R k a w→c.wpIn F n P (Exit.then (fun a' w'=>∃ k',k' < k∧R k' a' w') Q) a w):(Code.loop c).wpIn F n P Q a w:=by
 intro b k cs hro hb hr
 have key:∀ j a w,R j a w→∃ e a' w',Q e a' w'∧ArrivesIn (Machine.fenced P F) P (lone (b.atR a (.code c :: .inLoop c :: k)) cs w) b k cs e a' w':=by
  intro j
  induction j using Nat.strongRecOn with
  | _ j ih=>
   intro a w hR
   obtain ⟨e,a₁,w₁,hq,harr⟩:=round j a w hR b (.inLoop c :: k) cs hro hb hr
   cases e with
   | normal=>
    obtain ⟨k',hlt,hR₁⟩:=hq
    obtain ⟨e₂,a₂,w₂,hq₂,harr₂⟩:=ih k' hlt a₁ w₁ hR₁
    exact ⟨e₂,a₂,w₂,hq₂,.of_steps (StepsIn.trans harr (.one (fenced_calm hb hr rfl) stepR_inLoop)) harr₂⟩
   | exit id=>exact ⟨_,a₁,w₁,hq,.pass (x:=.inLoop c) rfl (fun _ _=>.inl (by simp)) harr⟩
   | goto l=>exact ⟨_,a₁,w₁,hq,.pass (x:=.inLoop c) rfl (fun _ _=>.inl (by simp)) harr⟩
   | ret=>exact ⟨_,a₁,w₁,hq,.pass (x:=.inLoop c) rfl (fun _ _=>.inl (by simp)) harr⟩
   | panic ch=>exact ⟨_,a₁,w₁,hq,.pass (x:=.inLoop c) rfl (fun _ _=>.inl (by simp)) harr⟩
   | outgrown=>exact ⟨_,a₁,w₁,hq,.pass (x:=.inLoop c) rfl (fun _ _=>.inl (by simp)) harr⟩
 obtain ⟨e,a',w',hq,harr⟩:=key _ a w h₀
 exact ⟨e,a',w',hq,.of_steps (.one (fenced_calm hb hr rfl) stepR_loop) harr⟩
def vT:EX→Exit
 | .iK=>.normal
 | .ret=>.ret
 | .exit id=>.exit id
theorem lK {x y:Code} (h:(dw x&&dw y)=true):dw x=true∧dw y=true:=by simpa using h
theorem nV {w:World} {b:Nat} {o:Obj} (h:w.heap[b]?=some o) (ho:o.isCells=false):¬jV w b:=by
 rintro ⟨c,t,f,h'⟩
 rw [h] at h'
 obtain rfl:=Option.some.inj h'
 cases ho
theorem jV.lt {w:World} {b:Nat} (h:jV w b):b<w.heap.size:=by
 obtain ⟨c,t,f,h⟩:=h
 exact (Array.getElem?_eq_some_iff.1 h).1
theorem qs.jV {m:Mp} {S:Nat→Prop} {w:World} {o:aS} {v:Value} (h:qs m S w o v) {b:Nat} (hb:v.ownBlock=some b):jV w b∨(o.ty=rA∧∃ ents clock,w.heap[b]?=some (.map ents clock)):=by
 obtain ⟨_,_,xs,h3,_⟩:=h
 rcases h3 with h3 | ⟨h1,_,_,g,ents,clock,rfl,hg,_⟩
 ·rcases h3.2 with ⟨rfl,_⟩ | ⟨g,len,cap,cur,fr,rfl,hg,_⟩
  ·cases hb
  ·cases hb
   exact .inl ⟨_,_,_,hg⟩
 ·cases hb
  exact .inr ⟨h1,ents,clock,hg⟩
section
variable {P : Program} {W : World} {O S0 : Nat → Prop} {m : Mp} {S : Nat → Prop} {σ : St} {w : World}
theorem Inv.DP (h:Inv W O S0 m S σ w) {w':World} {S':Nat→Prop} (h1:w'.os=w.os) (h2:w'.tape=w.tape) (h3:w'.output=w.output) (hsz:w.heap.size≤w'.heap.size) (hcell:∀ b,jV w b→w'.heap[b]?=w.heap[b]?)
  (hold:∀ b,b<W.heap.size→w'.heap[b]?=w.heap[b]?) (hin:∀ b,S b→jV w b→S' b) (hout:∀ b,S' b→S b∨(W.heap.size≤b∧b<w'.heap.size∧¬jV w b))
  (hmap:∀ k o v b,σ.ob k=some o→m o.g=some v→v.ownBlock=some b→¬jV w b→w'.heap[b]?=w.heap[b]?∧(S b→S' b)∧(S' b→S b)):Inv W O S0 m S' σ w':=by
 refine ⟨⟨h.bh.fresh,fun k o ho=>?_,h.bh.fF,fun b hb=>?_⟩,⟨h1.trans h.fr.os,h2.trans h.fr.tape,h3.trans h.fr.output,Nat.le_trans h.fr.size hsz,fun b hb hO=>(hold b hb).trans (h.fr.block b hb hO),h.fr.own,fun b hb=>?_⟩⟩
 ·obtain ⟨v,hm,hob,hr⟩:=h.bh.obj k o ho
  have hk:∀ b,v.ownBlock=some b→w'.heap[b]?=w.heap[b]?∧(S b→S' b)∧(o.ro=false→¬S' b):=fun b hb=>by
   by_cases hc:jV w b
   ·refine ⟨hcell b hc,fun h=>hin b h hc,fun hro hS=>?_⟩
    rcases hout b hS with q | ⟨_,_,q⟩
    ·exact (hr b hb).2 hro q
    ·exact q hc
   ·obtain ⟨p1,p2,p3⟩:=hmap k o v b ho hm hb hc
    exact ⟨p1,p2,fun hro hS=>(hr b hb).2 hro (p3 hS)⟩
  refine ⟨v,hm,?_,fun b hb=>⟨fun hro=>(hk b hb).2.1 ((hr b hb).1 hro),(hk b hb).2.2⟩⟩
  obtain ⟨a1,a2,xs,a3,a4⟩:=hob
  exact ⟨a1,a2,xs,a3.br fun b hb=>(hk b hb).1,a4.1,fun j y u hy hu=>(a4.2 j y u hy hu).BM (Mp.le_refl m) fun b hb hc=>⟨hin b hb hc,hcell b hc⟩⟩
 ·rcases hout b hb with q | ⟨_,q,_⟩
  ·have:=h.bh.lt b q; omega
  ·exact q
 ·rcases hout b hb with q | ⟨q,_,_⟩
  ·exact h.fr.sub b q
  ·exact .inr (.inr q)
def MC (B:Nat) (m:Mp) (σ:St) (V:World):Prop:=∀ k o v b,σ.ob k=some o→m o.g=some v→v.ownBlock=some b→b<B∨jV V b
theorem MC.of {m1:Mp} {S1:Nat→Prop} {σ1:St} {V:World} (h:nH σ σ1) (hI:ye m S σ w) (hle:m.le m1) (h1:ye m1 S1 σ1 V):MC w.heap.size m1 σ1 V:=by
 intro k o v b ho hm hb
 obtain ⟨v',hm',hob,_⟩:=h1.obj k o ho
 rw [hm] at hm'; obtain rfl:=Option.some.inj hm'
 rcases hob.jV hb with hc | ⟨hty,_⟩
 ·exact .inr hc
 ·obtain ⟨k',o',ho',hg⟩:=h k o ho hty
  obtain ⟨v0,hm0,hob0,_⟩:=hI.obj k' o' ho'
  have h2:=hle _ _ hm0
  rw [hg,hm] at h2
  obtain rfl:=Option.some.inj h2
  exact .inl (bq hob0 hb)
theorem nH.refl (σ:St):nH σ σ:=fun k o ho _=>⟨k,o,ho,rfl⟩
def Am (W:World) (O S0:Nat→Prop) (m:Mp) (S:Nat→Prop) (w:World) (J:Mp→(Nat→Prop)→St→World→Prop) (V:World):Prop:=
 ∃ m1 S1 σ1,Inv W O S0 m1 S1 σ1 V∧Ext m S w m1 S1 V∧(∀ b,S1 b→w.heap.size≤b→jV V b)∧J m1 S1 σ1 V∧MC w.heap.size m1 σ1 V
def xO (W:World) (O S0:Nat→Prop) (m:Mp) (S:Nat→Prop) (w:World) (J:St→Prop) (V:World):Prop:=Am W O S0 m S w (fun _ _ σ1 _=>J σ1) V
theorem Am.own {β:Type} (hS:∀ b,S b→b<w.heap.size) (hW:W.heap.size≤w.heap.size) (J:β→Mp→(Nat→Prop)→St→World→Prop)
  (hst:∀ s m1 S1 σ1 V V',(∀ b,S1 b→jV V b→V'.heap[b]?=V.heap[b]?)→J s m1 S1 σ1 V→J s m1 S1 σ1 V'):OwnFrom w.heap.size (fun s V=>Am W O S0 m S w (J s) V):=by
 rintro s V V' row ⟨m1,S1,σ1,hI,hX,hC,hJ,hM⟩ hg hr
 have hne:∀ b,some b=row→w.heap.size≤b∧¬jV V b:=fun b e=>by
  obtain ⟨h1,o,h2,h3⟩:=hr b e.symm
  exact ⟨h1,nV h2 h3⟩
 have hcell:∀ b,jV V b→V'.heap[b]?=V.heap[b]?:=fun b hb=>hg.block b hb.lt fun e=>(hne b e).2 hb
 have hVs:w.heap.size≤V.heap.size∨True:=.inr trivial
 have hold:∀ b,b<W.heap.size→V'.heap[b]?=V.heap[b]?:=fun b hb=>hg.block b (by have:=hI.fr.size; omega) fun e=>by have:=(hne b e).1; omega
 refine ⟨m1,S1,σ1,hI.DP hg.os hg.tape hg.output hg.size hcell hold (fun b h _=>h) (fun b h=>.inl h) (fun k o v b ho hm hb hn=>⟨?_,id,id⟩),⟨hX.le,hX.sub,fun b hb=>?_⟩,fun b hb hw=>(hC b hb hw).same (hcell b (hC b hb hw)),hst s m1 S1 σ1 V V' (fun b _ hc=>hcell b hc) hJ,fun k o v b ho hm hb=>?_⟩
 ·rcases hM k o v b ho hm hb with h | h
  ·obtain ⟨v',hm',hob,_⟩:=hI.bh.obj k o ho
   rw [hm] at hm'; obtain rfl:=Option.some.inj hm'
   exact hg.block b (bq hob hb) fun e=>by have:=(hne b e).1; omega
  ·exact absurd h hn
 rotate_left
 ·rcases hM k o v b ho hm hb with h | h
  ·exact .inl h
  ·exact .inr (h.same (hcell b h))
 have h1:=hS b hb
 have h2:=hI.bh.lt b (hX.sub b hb)
 exact (hg.block b h2 fun e=>by have:=(hne b e).1; omega).trans (hX.br b hb)
theorem xO.own {β:Type} (hS:∀ b,S b→b<w.heap.size) (hW:W.heap.size≤w.heap.size) (J:β→St→Prop):OwnFrom w.heap.size (fun s V=>xO W O S0 m S w (J s) V):=
 Am.own hS hW (fun s _ _ σ1 _=>J s σ1) fun _ _ _ _ _ _ _ h=>h
def addrOf:Value→Addr
 | .pointer (some p)=>p
 | _=>default
theorem zP {caps xs:List AV} {us:List Value} (hS:ye m S σ w) (hc:Ox σ caps xs) (hv:bP m S w caps us):us=(us.map addrOf).map (fun p=>Value.pointer (some p))∧uX (us.map addrOf) xs w:=by
 have key:∀ (i:Nat) (u:Value),us[i]?=some u→∃ p x v,u=.pointer (some p)∧xs[i]?=some x∧p.spot=none∧DW x=some v∧w.cell? p=some v:=by
  intro i u hu
  have hl:=hv.1
  have hi:=(List.getElem?_eq_some_iff.1 hu).1
  have hlc:=hc.1
  have hci:caps[i]?=some (caps[i]'(by omega)):=List.getElem?_eq_getElem _
  have hxi:xs[i]?=some (xs[i]'(by omega)):=List.getElem?_eq_getElem _
  obtain ⟨⟨v,hsv⟩,id,g,o,he,ho,hg,hes,hol⟩:=hc.2 i _ _ hci hxi
  have h1:=hv.2 i _ u hci hu
  rw [he] at h1
  obtain ⟨b,e1,hlen,ws,hws,hvs,hcs⟩:=Cy hS h1 ho hg hes (y:=xs[i]'(by omega)) (by rw [hol]; rfl)
  refine ⟨_,_,v,e1,hxi,rfl,hsv,?_⟩
  obtain ⟨w0,rfl⟩:=List.length_eq_one_iff.1 hws
  have h2:=hcs 0 w0 rfl
  have hcx:(xs[i]'(by omega)).cells=[xs[i]'(by omega)]:=by
   generalize xs[i]'(by omega)=x at *
   cases x <;> simp [DW] at hsv <;> rfl
  rw [hcx] at hvs
  have h3:=hvs.2 0 _ w0 rfl rfl
  have h4:w0=v:=by
   generalize xs[i]'(by omega)=x at *
   cases x <;> simp [DW] at hsv
   ·subst hsv; exact h3.of_bool
   ·subst hsv; exact h3.of_int
   ·subst hsv; exact h3.ml
  rw [←h4]
  simpa using h2
 refine ⟨?_,by simp [hv.1,hc.1],fun i p x hp hx=>?_⟩
 ·refine List.ext_getElem? fun i=>?_
  rw [List.map_map,List.getElem?_map]
  cases hu:us[i]? with
  | none=>rfl
  | some u=>
   obtain ⟨p,x,v,rfl,_⟩:=key i u hu
   rfl
 ·rw [List.getElem?_map] at hp
  obtain ⟨u,hu,rfl⟩:=Option.map_eq_some_iff.1 hp
  obtain ⟨p,x',v,rfl,hx',hsp,hsv,hcell⟩:=key i u hu
  rw [hx] at hx'
  obtain rfl:=Option.some.inj hx'
  exact ⟨hsp,v,hsv,hcell⟩
end
def qN (B:Nat) (V:World) (b:Nat):Prop:=B≤b∧b<V.heap.size∧¬jV V b
theorem Hq {c:Code} {t d:Nat} (h:Lt c=some (t,d)):∃ id ops o,c=.region id ops false∧ops=#[o]∧o.dst=some d∧o.op=.assign (.tmp t)∧o.guard=none:=by
 unfold Lt at h
 split at h
 ·rename_i id ops
  split at h
  ·rename_i o ho
   split at h
   ·rename_i d' t' h1 h2 h3
    simp only [Option.some.injEq,Prod.mk.injEq] at h
    obtain ⟨rfl,rfl⟩:=h
    exact ⟨id,ops,o,rfl,by rw [←ho],h1,h2,h3⟩
   ·cases h
  ·cases h
 ·cases h
theorem Lr {F:Fence} {n id t d:Nat} {P:Program} {ao:Oper} {K:Act→World→Prop} {Q:Exit→Act→World→Prop} {a:Act} {w:World} {v:Value} (h1:ao.dst=some d) (h2:ao.op=.assign (.tmp t)) (h3:ao.guard=none) (hv:a.eval (.tmp t)=v)
  (h:K { tmps:=a.tmps.setIfInBounds d v,defers:=a.defers } w):(Code.region id #[ao] false).wpIn F n P (Exit.then K Q) a w:=by
 refine wpIn_region ?_
 have hw:Region.wanted ao (yielded #[ao] a.tmps)=true:=by simp [Region.wanted,h3]
 have hl:List.range (#[ao]:Array Oper).size=[0]:=rfl
 rw [hl]
 simp only [wpOpsIn,List.getElem?_toArray,List.getElem?_cons_zero,hw,if_true]
 refine ⟨fun f hf=>?_,?_⟩
 ·simp [Oper.about,h2] at hf
 ·rw [Oper.semAt_eq _ _ _ (fun c hc=>by rw [h2] at hc; cases hc)]
  simp only [execOp,h2,Sem.run_pure,hv,Oper.uponIn,Act.put,h1,Exit.then]
  exact h
theorem D2 {P:Program} {n k:Nat} {g:Operand} {pt:Array Tmp} {assign body:Code} {x:AX} {t d:Nat} {b:az} (hx:ax g=some x) (hpt:pt.toList=[t]) (has:Lt assign=some (t,d)) (ht:t<n) (hd:d<n) (hk:1≤k)
  (hbody:∀ {l k:Nat} {W:World} {O S0:Nat→Prop} {m:Mp} {S:Nat→Prop} {σ:St} {w:World} {e:Nat→AV} {a:Act} {Qa:iR} {Q:Exit→Act→World→Prop},ep W O S0 m S σ w n e a→jh (HC P) b Qa e σ→
   (∀ x m' S' σ' w' e' a',ep W O S0 m' S' σ' w' n e' a'→Ext m S w m' S' w'→Qa x e' σ'→Q (vT x) a' w')→body.wpIn (Fw (some l)) k P Q a w)
  {W:World} {O S0:Nat→Prop} {m:Mp} {S:Nat→Prop} {σ:St} {w:World} {e:Nat→AV} {a:Act} {Qa:iR} {Q:Exit→Act→World→Prop} (hI:ep W O S0 m S σ w n e a) (h:Cr (TM P) (x.ev e) (jh (HC P) b) t d Qa e σ)
  (hQ:∀ x m' S' σ' w' e' a',ep W O S0 m' S' σ' w' n e' a'→Ext m S w m' S' w'→Qa x e' σ'→Q (vT x) a' w'):(Code.rangeFunc g pt assign body).wpIn (Fw none) k P Q a w:=by
 obtain ⟨hInv,hE,hsz,hdf⟩:=hI
 generalize hgv:x.ev e=G at h
 unfold Cr at h
 split at h
 case h_2=>exact h.elim
 rename_i f caps
 obtain ⟨xs,vs,⟨henter,hit⟩,I,Ix,h0,hcap0,hnx,hb,hn,hx'⟩:=h
 have hcap:∀ pre σ1,I pre σ1→Ox σ1 caps xs:=fun pre σ1 h=>(hcap0 pre σ1 h).1
 have hnm:∀ pre σ1,I pre σ1→nH σ σ1:=fun pre σ1 h=>(hcap0 pre σ1 h).2
 have hv:VR m S w (.func f caps) (a.eval g):=hgv ▸ aB hE hx
 obtain ⟨lb,hlb,hlv⟩:=hv.tK
 obtain ⟨hps0,hcells⟩:=zP hInv.bh (hcap [] σ h0) hlv
 obtain ⟨pl,hpl⟩:∃ pl,lb.toList.map addrOf=pl:=⟨_,rfl⟩
 have hlb':lb=(pl.map fun p=>Value.pointer (some p)).toArray:=by rw [←hpl,←hps0]
 rw [hpl] at hcells
 have hlt0:∀ b,S b→b<w.heap.size:=hInv.bh.lt
 have hWw:W.heap.size≤w.heap.size:=hInv.fr.size
 -- the captured boxes lie ahead of the loop
 have hplt:∀ (i:Nat) (p:Addr),pl[i]?=some p→p.block<w.heap.size∧p.spot=none:=fun i p hp=>by
  have hi:=(List.getElem?_eq_some_iff.1 hp).1
  obtain ⟨h1,v,_,h2⟩:=hcells.2 i p _ hp (List.getElem?_eq_getElem (by rw [←hcells.1]; exact hi))
  obtain ⟨pb,po,ps⟩:=p
  simp only at h1; subst h1
  exact ⟨(jV.CE h2).lt,rfl⟩
 have hcellsV:∀ {m1:Mp} {S1:Nat→Prop} {σ1:St} {V:World} (pre:List Int),ye m1 S1 σ1 V→Ext m S w m1 S1 V→I pre σ1→uX pl xs V:=fun pre hS hX hi=>by
  have:=(zP hS (hcap pre _ hi) (hlv.ext hX)).2
  rwa [hpl] at this
 have hseq:=hit (k-1) w pl hcells
 rw [←hlb'] at hseq
 have hpt':pt=#[t]:=by rw [←hpt]
 obtain ⟨aid,aops,ao,rfl,rfl,hao1,hao2,hao3⟩:=Hq has
 have hro:(Fw none).round=none:=rfl
 have mark:∀ {D:Nat} {V:World} {m1:Mp} {S1:Nat→Prop} {σ1:St},w.heap.size≤D→Inv W O S0 m1 S1 σ1 V→Ext m S w m1 S1 V→V.heap[D]?=some (.deferred (some []))→
   ep W O S0 m1 (fun b=>S1 b∨b=D) σ1 V n e { a with defers:={ target:=.collected D,args:=#[] } :: a.defers }∧Ext m S w m1 (fun b=>S1 b∨b=D) V:=by
  intro D V m1 S1 σ1 hD q1 q2 hDh
  have hDV:=(Array.getElem?_eq_some_iff.1 hDh).1
  have x1:Ext m S w m1 (fun b=>S1 b∨b=D) V:=⟨q2.le,fun b h=>.inl (q2.sub b h),q2.br⟩
  refine ⟨⟨q1.DP rfl rfl rfl (Nat.le_refl _) (fun _ _=>rfl) (fun _ _=>rfl) (fun b h _=>.inl h) (fun b h=>?_) (fun k o v b ho hm hb hn=>⟨rfl,.inl,fun h=>?_⟩),fun j=>(hE j).ext x1,hsz,?_⟩,x1⟩
  ·rcases h with h | rfl
   ·exact .inl h
   ·exact .inr ⟨Nat.le_trans hWw hD,hDV,nV hDh rfl⟩
  ·rcases h with h | rfl
   ·exact h
   ·obtain ⟨v',hm',hob,_⟩:=q1.bh.obj k o ho
    rw [hm] at hm'; obtain rfl:=Option.some.inj hm'
    rcases hob.jV hb with h | ⟨_,_,_,h⟩
    ·exact absurd h hn
    ·rw [hDh] at h; cases h
  ·have h2:=hdf.ext x1
   refine ⟨List.pairwise_cons.2 ⟨fun d hd he=>?_,h2.1⟩,fun d hd=>?_⟩
   ·obtain ⟨D',e1,_,h3,_⟩:=hdf.2 d hd
    subst e1
    have:=hlt0 _ h3
    simp only [Target.collected.injEq] at he
    omega
   ·rcases List.mem_cons.1 hd with rfl | hd
    ·exact ⟨D,rfl,Nat.le_trans hWw hD,.inr rfl,hDh⟩
    ·exact h2.2 d hd
 refine wpIn_rangeFunc_ownH (F:=Fw none) hro hk (gf:=f) (lb:=lb) hlb trivial henter hseq (fun h k=>fun q=>k (h q)) ?_ (Below.refl _ _) (fun _=>by rw [hpt']; rfl)
  (fun pre V=>xO W O S0 m S w (I (pre.map (·.1))) V) (fun c pre V=>∃ xx,xx≠.iK∧((c=.ret∧xx=.ret)∨∃ i,c=.exit i∧xx=.exit i)∧xO W O S0 m S w (Ix xx (pre.map (·.1))) V)
  (xO.own hlt0 hWw _) (fun c=>?_) ⟨m,S,σ,hInv,Ext.refl m S w,fun b h1 h2=>by have:=hlt0 b h1; omega,h0,MC.of (nH.refl σ) hInv.bh (Mp.le_refl m) hInv.bh⟩
  (fun y a' _=>a'={ tmps:=(a.tmps.setIfInBounds t (.int .i64 y.1)).setIfInBounds d (.int .i64 y.1),defers:=[] }) (fun y a' _ _ _ _ hs _ _=>hs) ?_ ?_ ?_ ?_
 ·intro V l o o' hl ho h1 h2 hc
  refine ⟨hc.1,fun i p z hp hz=>?_⟩
  obtain ⟨q1,v,q2,q3⟩:=hc.2 i p z hp hz
  refine ⟨q1,v,q2,?_⟩
  have:=(hplt i p hp).1
  rw [World.cell?_of_block (w:=V)]
  ·exact q3
  ·exact World.putObj_heap_other (by omega)
 ·rintro pre V V' row ⟨xx,h1,h2,h3⟩ hg hr
  exact ⟨xx,h1,h2,xO.own hlt0 hWw (fun pre:List {x:Int // x∈vs}=>Ix xx (pre.map (·.1))) pre V V' row h3 hg hr⟩
 ·intro l pre y V K hi hK
  have hi2:=hi
  obtain ⟨m1,S1,σ1,q1,q2,q3,q4,q5⟩:=hi2
  have hz:(pt.zip #[Value.int .i64 y.1]).foldl (fun t (p,v)=>t.setIfInBounds p v) a.tmps=a.tmps.setIfInBounds t (.int .i64 y.1):=by rw [hpt']; simp
  rw [hz]
  refine Lr hao1 hao2 hao3 (v:=.int .i64 y.1) ?_ (hK _ V (KeepsFrom.refl _ _) (fun h=>h) hi rfl)
  simp [Act.eval,Array.getD_eq_getD_getElem?,hsz,ht]
 ·rintro l pre y a' V _ _ ⟨m1,S1,σ1,q1,q2,q3,q4,q5⟩ rfl hlen
  have hVw:∀ b,jV V b→¬qN w.heap.size V b:=fun b h1 h2=>h2.2.2 h1
  have hWV:W.heap.size≤V.heap.size:=q1.fr.size
  -- the round begins: what is no cells is looked after,too
  have i1:Inv V (vk m1 σ1) (fun b=>S1 b∨qN w.heap.size V b) m1 (fun b=>S1 b∨qN w.heap.size V b) σ1 V:=by
   refine ⟨(q1.DP (S':=fun b=>S1 b∨qN w.heap.size V b) rfl rfl rfl (Nat.le_refl _) (fun _ _=>rfl) (fun _ _=>rfl) (fun b h _=>.inl h) (fun b h=>?_) fun k o v b ho hm hb hn=>⟨rfl,.inl,fun h=>h.resolve_right fun h=>by rcases q5 k o v b ho hm hb with h2 | h2; exact absurd h.1 (by omega); exact hn h2⟩).bh,⟨rfl,rfl,rfl,Nat.le_refl _,fun _ _ _=>rfl,fun k o v b ho hro hm hb=>.inl ⟨k,o,v,ho,hro,hm,hb⟩,fun b hb=>.inl hb⟩⟩
   rcases h with h | h
   ·exact .inl h
   ·exact .inr ⟨Nat.le_trans hWw h.1,h.2.1,h.2.2⟩
  have x1:Ext m S w m1 (fun b=>S1 b∨qN w.heap.size V b) V:=⟨q2.le,fun b h=>.inl (q2.sub b h),q2.br⟩
  have hE1:bg m1 (fun b=>S1 b∨qN w.heap.size V b) V (aZ (aZ e t (.int .i64 y.1)) d (.int .i64 y.1)) ((a.tmps.setIfInBounds t (.int .i64 y.1)).setIfInBounds d (.int .i64 y.1)):=by
   intro j
   have h1:=(hE j).ext x1
   by_cases hj:j=d
   ·subst hj
    rw [ay]
    have:((a.tmps.setIfInBounds t (Value.int .i64 y.1)).setIfInBounds j (.int .i64 y.1)).getD j undef=.int .i64 y.1:=by simp [Array.getD_eq_getD_getElem?,hsz,hd]
    rw [this]; exact .pure (.int _ _)
   ·rw [aa _ _ _ _ hj]
    by_cases hj2:j=t
    ·subst hj2
     rw [ay]
     have:((a.tmps.setIfInBounds j (Value.int .i64 y.1)).setIfInBounds d (.int .i64 y.1)).getD j undef=.int .i64 y.1:=by simp [Array.getD_eq_getD_getElem?,hsz,ht,Ne.symm hj]
     rw [this]; exact .pure (.int _ _)
    ·rw [aa _ _ _ _ hj2]
     have:((a.tmps.setIfInBounds t (Value.int .i64 y.1)).setIfInBounds d (.int .i64 y.1)).getD j undef=a.tmps.getD j undef:=by simp [Array.getD_eq_getD_getElem?,Ne.symm hj,Ne.symm hj2]
     rw [this]; exact h1
  refine hbody (l:=l) ⟨i1,hE1,by simpa using hsz,Marks.nil _ _ _⟩ (hb _ y.1 σ1 y.2 (by simpa using hlen) q4) ?_
  rintro z m' S' σ' w' e' a' ⟨r1,r2,r3,r4⟩ r5 r6
  have dS:KeepsFrom w.heap.size V w':=⟨r1.fr.size,fun b o h1 h2 h3=>(r5.br b (.inr ⟨h1,(Array.getElem?_eq_some_iff.1 h2).1,nV h2 h3⟩)).trans h2⟩
  -- the round ends: it is looked after no more
  have fin:∀ (nt:Nat) (J:St→Prop),nH σ (σ'.aC nt)→J (σ'.aC nt)→xO W O S0 m S w J w':=by
   intro nt J hnmt hJ
   have hmc:MC w.heap.size m' (σ'.aC nt) w':=MC.of hnmt hInv.bh (Mp.le_trans q2.le r5.le) (r1.aC nt).bh
   refine ⟨m',fun b=>S' b∧(b<w.heap.size∨jV w' b),σ'.aC nt,?_,⟨Mp.le_trans q2.le r5.le,fun b hb=>⟨r5.sub b (.inl (q2.sub b hb)),.inl (hlt0 b hb)⟩,fun b hb=>(r5.br b (.inl (q2.sub b hb))).trans (q2.br b hb)⟩,fun b hb hw=>hb.2.resolve_left (by omega),hJ,hmc⟩
   have r7:Inv W O (fun b=>S0 b∨W.heap.size≤b) m' S' (σ'.aC nt) w':=by
    have k1:Inv W O (fun b=>S0 b∨W.heap.size≤b) m1 (fun b=>S1 b∨qN w.heap.size V b) σ1 V:=⟨i1.bh,⟨q1.fr.os,q1.fr.tape,q1.fr.output,q1.fr.size,q1.fr.block,q1.fr.own,fun b hb=>by
     rcases hb with hb | hb
     ·rcases q1.fr.sub b hb with h | h | h
      ·exact .inl (.inl h)
      ·exact .inr (.inl h)
      ·exact .inr (.inr h)
     ·exact .inr (.inr (Nat.le_trans hWw hb.1))⟩⟩
    exact k1.call (r1.aC nt)
   have r8:=r7.DP (S':=fun b=>S' b∧(b<w.heap.size∨jV w' b)) rfl rfl rfl (Nat.le_refl _) (fun _ _=>rfl) (fun _ _=>rfl) (fun b h hc=>⟨h,.inr hc⟩) (fun b h=>.inl h.1) (fun k o v b ho hm hb hn=>⟨rfl,fun h=>⟨h,.inl ((hmc k o v b ho hm hb).resolve_right hn)⟩,fun h=>h.1⟩)
   exact ⟨r8.bh,⟨r8.fr.os,r8.fr.tape,r8.fr.output,r8.fr.size,r8.fr.block,r8.fr.own,fun b hb=>by
    rcases r8.fr.sub b hb with (h | h) | h | h
    ·exact .inl h
    ·exact .inr (.inr h)
    ·exact .inr (.inl h)
    ·exact .inr (.inr h)⟩⟩
  have hmap:(pre++[y]).map (·.1)=pre.map (·.1)++[y.1]:=by simp
  cases z with
  | iK=>
   obtain ⟨nt,hnt,hJ⟩:=r6
   obtain ⟨m2,S2,σ2,p1,p2,p3,rfl,p4⟩:=fin nt (·=σ'.aC nt) (hnm _ _ hJ) rfl
   refine ⟨dS,fun _=>hcellsV _ p1.bh p2 hJ,m2,S2,_,p1,p2,p3,?_,p4⟩
   rw [hmap]; exact hJ
  | ret=>obtain ⟨nt,hnt,hJ⟩:=r6; exact ⟨dS,.ret,by simp,.inl ⟨rfl,rfl⟩,by rw [hmap]; exact fin nt _ (hnx _ _ _ (by simp) hJ) hJ⟩
  | exit i=>obtain ⟨nt,hnt,hJ⟩:=r6; exact ⟨dS,.exit i,by simp,.inr ⟨i,rfl,rfl⟩,by rw [hmap]; exact fin nt _ (hnx _ _ _ (by simp) hJ) hJ⟩
 ·rintro D ys V hD hys ⟨m1,S1,σ1,q1,q2,q3,q4,q5⟩ hDh
  obtain ⟨k1,k2⟩:=mark hD q1 q2 hDh
  exact hQ .iK m1 _ σ1 V e _ k1 k2 (hn σ1 (by rw [←hys]; exact q4))
 ·rintro D c pre V hD hpre ⟨xx,hne,hxx,m1,S1,σ1,q1,q2,q3,q4,q5⟩ hDh
  obtain ⟨k1,k2⟩:=mark hD q1 q2 hDh
  rcases hxx with ⟨rfl,rfl⟩ | ⟨i,rfl,rfl⟩
  ·exact wpIn_ret (hQ .ret m1 _ σ1 V e _ k1 k2 (hx' .ret _ σ1 hne hpre q4))
  ·exact wpIn_exit (hQ (.exit i) m1 _ σ1 V e _ k1 k2 (hx' (.exit i) _ σ1 hne hpre q4))
theorem pq {W:World} {O S0:Nat→Prop} {m1:Mp} {S1:Nat→Prop} {σ1:St} {V w:World} (hWw:W.heap.size≤w.heap.size) (q1:Inv W O S0 m1 S1 σ1 V) (q5:MC w.heap.size m1 σ1 V) :
  Inv V (vk m1 σ1) (fun b=>S1 b∨qN w.heap.size V b) m1 (fun b=>S1 b∨qN w.heap.size V b) σ1 V:=by
 refine ⟨(q1.DP (S':=fun b=>S1 b∨qN w.heap.size V b) rfl rfl rfl (Nat.le_refl _) (fun _ _=>rfl) (fun _ _=>rfl) (fun b h _=>.inl h) (fun b h=>?_) fun k o v b ho hm hb hn=>⟨rfl,.inl,fun h=>h.resolve_right fun h=>by rcases q5 k o v b ho hm hb with h2 | h2; exact absurd h.1 (by omega); exact hn h2⟩).bh,⟨rfl,rfl,rfl,Nat.le_refl _,fun _ _ _=>rfl,fun k o v b ho hro hm hb=>.inl ⟨k,o,v,ho,hro,hm,hb⟩,fun b hb=>.inl hb⟩⟩
 rcases h with h | h
 ·exact .inl h
 ·exact .inr ⟨Nat.le_trans hWw h.1,h.2.1,h.2.2⟩
theorem vf {W:World} {O S0:Nat→Prop} {m m1 m':Mp} {S S1 S':Nat→Prop} {σ1 τ:St} {V w w':World} (hlt0:∀ b,S b→b<w.heap.size) (hWw:W.heap.size≤w.heap.size) (q1:Inv W O S0 m1 S1 σ1 V) (q2:Ext m S w m1 S1 V) (q5:MC w.heap.size m1 σ1 V)
  (r1:Inv V (vk m1 σ1) (fun b=>S1 b∨qN w.heap.size V b) m' S' τ w') (r5:Ext m1 (fun b=>S1 b∨qN w.heap.size V b) V m' S' w') (hmc:MC w.heap.size m' τ w') (J:Mp→(Nat→Prop)→St→World→Prop)
  (hJ:J m' (fun b=>S' b∧(b<w.heap.size∨jV w' b)) τ w'):Am W O S0 m S w J w':=by
 have i1:=pq hWw q1 q5
 refine ⟨m',fun b=>S' b∧(b<w.heap.size∨jV w' b),τ,?_,⟨Mp.le_trans q2.le r5.le,fun b hb=>⟨r5.sub b (.inl (q2.sub b hb)),.inl (hlt0 b hb)⟩,fun b hb=>(r5.br b (.inl (q2.sub b hb))).trans (q2.br b hb)⟩,fun b hb hw=>hb.2.resolve_left (by omega),hJ,hmc⟩
 have r7:Inv W O (fun b=>S0 b∨W.heap.size≤b) m' S' τ w':=by
  have k1:Inv W O (fun b=>S0 b∨W.heap.size≤b) m1 (fun b=>S1 b∨qN w.heap.size V b) σ1 V:=⟨i1.bh,⟨q1.fr.os,q1.fr.tape,q1.fr.output,q1.fr.size,q1.fr.block,q1.fr.own,fun b hb=>by
   rcases hb with hb | hb
   ·rcases q1.fr.sub b hb with h | h | h
    ·exact .inl (.inl h)
    ·exact .inr (.inl h)
    ·exact .inr (.inr h)
   ·exact .inr (.inr (Nat.le_trans hWw hb.1))⟩⟩
  exact k1.call r1
 have r8:=r7.DP (S':=fun b=>S' b∧(b<w.heap.size∨jV w' b)) rfl rfl rfl (Nat.le_refl _) (fun _ _=>rfl) (fun _ _=>rfl) (fun b h hc=>⟨h,.inr hc⟩) (fun b h=>.inl h.1) (fun k o v b ho hm hb hn=>⟨rfl,fun h=>⟨h,.inl ((hmc k o v b ho hm hb).resolve_right hn)⟩,fun h=>h.1⟩)
 exact ⟨r8.bh,⟨r8.fr.os,r8.fr.tape,r8.fr.output,r8.fr.size,r8.fr.block,r8.fr.own,fun b hb=>by
  rcases r8.fr.sub b hb with (h | h) | h | h
  ·exact .inl h
  ·exact .inr (.inr h)
  ·exact .inr (.inl h)
  ·exact .inr (.inr h)⟩⟩
theorem DO {m:Mp} {S:Nat→Prop} {w:World} {n:Nat}:∀ (ts:List Nat) (vs:List AV) (us:List Value) (tmps:Array Value) (e:Nat→AV),(∀ t∈ts,t<n)→tmps.size=n→bg m S w e tmps→bP m S w vs us→vs.length=ts.length→
  bg m S w (Np e ts vs) ((ts.zip us).foldl (fun t (x:Nat × Value)=>t.setIfInBounds x.1 x.2) tmps)∧((ts.zip us).foldl (fun t (x:Nat × Value)=>t.setIfInBounds x.1 x.2) tmps).size=n
 | [],vs,us,tmps,e,_,hn,hE,_,_=>by cases vs <;> exact ⟨hE,hn⟩
 | t :: ts,[],us,tmps,e,_,_,_,_,hl=>by simp at hl
 | t :: ts,v :: vs,[],tmps,e,_,_,_,hv,_=>by have:=hv.1; simp at this
 | t :: ts,v :: vs,u :: us,tmps,e,ht,hn,hE,hv,hl=>by
  have h1:=bg.put (a:={ tmps:=tmps,defers:=[] }) hE hn (d:=some t) (fun i hi=>by cases hi; exact ht t (by simp)) (hv.2 0 v u rfl rfl)
  exact DO ts vs us _ _ (fun x hx=>ht x (by simp [hx])) h1.2.1 h1.1 ⟨by have:=hv.1; simpa using this,fun j y z hy hz=>hv.2 (j+1) y z hy hz⟩ (by simpa using hl)
theorem Ct {P:Program} {n k:Nat} {g:Operand} {pt:Array Tmp} {assign body:Code} {aops:Array Oper} {x:AX} {ts mt:List Nat} {la:List aR} {b:az} (hx:ax g=some x) (hpt:pt.toList=ts) (has:Jv assign=some aops) (hl:bp P mt n aops [] aops.toList=some la) (hts:∀ t∈ts,t<n) (hk:1≤k)
  (hbody:∀ {l k:Nat} {W:World} {O S0:Nat→Prop} {m:Mp} {S:Nat→Prop} {σ:St} {w:World} {e:Nat→AV} {a:Act} {Qa:iR} {Q:Exit→Act→World→Prop},ep W O S0 m S σ w n e a→jh (HC P) b Qa e σ→
   (∀ x m' S' σ' w' e' a',ep W O S0 m' S' σ' w' n e' a'→Ext m S w m' S' w'→Qa x e' σ'→Q (vT x) a' w')→body.wpIn (Fw (some l)) k P Q a w)
  {W:World} {O S0:Nat→Prop} {m:Mp} {S:Nat→Prop} {σ:St} {w:World} {e:Nat→AV} {a:Act} {Qa:iR} {Q:Exit→Act→World→Prop} (hI:ep W O S0 m S σ w n e a) (h:xU (TL P) (x.ev e) (runs (HC P) la) (jh (HC P) b) ts Qa e σ)
  (hQ:∀ x m' S' σ' w' e' a',ep W O S0 m' S' σ' w' n e' a'→Ext m S w m' S' w'→Qa x e' σ'→Q (vT x) a' w'):(Code.rangeFunc g pt assign body).wpIn (Fw none) k P Q a w:=by
 obtain ⟨aid,rfl⟩:∃ aid,assign=.region aid aops false:=by
  unfold Jv at has
  split at has
  ·cases has; exact ⟨_,rfl⟩
  ·cases has
 have hasn:∀ {l k:Nat} {W:World} {O S0:Nat→Prop} {m:Mp} {S:Nat→Prop} {σ:St} {w:World} {e:Nat→AV} {a:Act} {Kr:(Nat→AV)→St→Prop} {K:Act→World→Prop},ep W O S0 m S σ w n e a→runs (HC P) la Kr e σ→
   (∀ m' S' σ' w' e' a',ep W O S0 m' S' σ' w' n e' a'→Ext m S w m' S' w'→Kr e' σ'→a'.defers=a.defers→K a' w')→(Code.region aid aops false).wpIn (Fw (some l)) k P (Exit.then K (fun _ _ _=>False)) a w:=by
  intro l k W O S0 m S σ w e a Kr K hI h hK
  refine wpIn_mono (Q:=JY K) (wpIn_region (px (nW hl) JY.lets _ _ _ (pj aops (List.range aops.size) [] aops.toList la ?_ (by simp) hl _ _ _ _ _ _ _ hI h fun m' S' σ' w' e' a' q1 q2 q3 q4=>hK m' S' σ' w' e' a' q1 q2 q3 q4))) (fun e a w h=>by cases e <;> first | exact h | exact h.elim)
  intro k i hk
  obtain ⟨h1,h2⟩:=List.getElem?_eq_some_iff.1 hk
  simp at h1 h2
  subst h2
  simp
 obtain ⟨hInv,hE,hsz,hdf⟩:=hI
 generalize hgv:x.ev e=G at h
 unfold xU at h
 split at h
 case h_2=>exact h.elim
 rename_i f caps
 obtain ⟨hpur,vs,⟨henter,hit⟩,hvl,Ip,Is,Ix,hp0,hs0,hnm,hnx,hb,hn,hx'⟩:=h
 have hv:VR m S w (.func f caps) (a.eval g):=hgv ▸ aB hE hx
 obtain ⟨lb,hlb,hlv⟩:∃ lb:Array Value,a.eval g=.func (.func f) #[] lb∧SJ S w caps lb:=by
  have hvp:=hv.cG hpur
  generalize a.eval g=z at hvp
  cases hvp with
  | func hl h=>exact ⟨_,rfl,hl,h⟩
 have hlt0:∀ b,S b→b<w.heap.size:=hInv.bh.lt
 have hWw:W.heap.size≤w.heap.size:=hInv.fr.size
 obtain ⟨us,hus,hseq⟩:=hit (k-1) S w lb hlt0 hlv
 have hro:(Fw none).round=none:=rfl
 have mark:∀ {D:Nat} {V:World} {m1:Mp} {S1:Nat→Prop} {σ1:St},w.heap.size≤D→Inv W O S0 m1 S1 σ1 V→Ext m S w m1 S1 V→V.heap[D]?=some (.deferred (some []))→
   ep W O S0 m1 (fun b=>S1 b∨b=D) σ1 V n e { a with defers:={ target:=.collected D,args:=#[] } :: a.defers }∧Ext m S w m1 (fun b=>S1 b∨b=D) V:=by
  intro D V m1 S1 σ1 hD q1 q2 hDh
  have hDV:=(Array.getElem?_eq_some_iff.1 hDh).1
  have x1:Ext m S w m1 (fun b=>S1 b∨b=D) V:=⟨q2.le,fun b h=>.inl (q2.sub b h),q2.br⟩
  refine ⟨⟨q1.DP rfl rfl rfl (Nat.le_refl _) (fun _ _=>rfl) (fun _ _=>rfl) (fun b h _=>.inl h) (fun b h=>?_) (fun k o v b ho hm hb hn=>⟨rfl,.inl,fun h=>?_⟩),fun j=>(hE j).ext x1,hsz,?_⟩,x1⟩
  ·rcases h with h | rfl
   ·exact .inl h
   ·exact .inr ⟨Nat.le_trans hWw hD,hDV,nV hDh rfl⟩
  ·rcases h with h | rfl
   ·exact h
   ·obtain ⟨v',hm',hob,_⟩:=q1.bh.obj k o ho
    rw [hm] at hm'; obtain rfl:=Option.some.inj hm'
    rcases hob.jV hb with h | ⟨_,_,_,h⟩
    ·exact absurd h hn
    ·rw [hDh] at h; cases h
  ·have h2:=hdf.ext x1
   refine ⟨List.pairwise_cons.2 ⟨fun d hd he=>?_,h2.1⟩,fun d hd=>?_⟩
   ·obtain ⟨D',e1,_,h3,_⟩:=hdf.2 d hd
    subst e1
    have:=hlt0 _ h3
    simp only [Target.collected.injEq] at he
    omega
   ·rcases List.mem_cons.1 hd with rfl | hd
    ·exact ⟨D,rfl,Nat.le_trans hWw hD,.inr rfl,hDh⟩
    ·exact h2.2 d hd
 have hvget:∀ y:{i:Nat // i<vs.length},vs[y.1]?=some (vs[y.1]'y.2):=fun y=>List.getElem?_eq_getElem y.2
 have hmem:∀ y:{i:Nat // i<vs.length},(vs[y.1]'y.2).length=ts.length:=fun y=>hvl _ (List.getElem_mem _)
 refine wpIn_rangeFunc_ownH (F:=Fw none) hro hk (gf:=f) (lb:=lb) hlb trivial henter hseq (fun h k b hb=>(k b hb).trans (h b hb)) (fun V l o o' hl ho h1 h2 b hb=>World.putObj_heap_other (by have:=hlt0 b hb; omega)) (Below.refl _ _)
  (fun y=>by rw [(hus y.1 _ (hvget y)).1,hmem y,←hpt,Array.length_toList])
  (fun pre V=>Ip (pre.map (·.1))∧xO W O S0 m S w Is V) (fun c pre V=>∃ xx,xx≠.iK∧((c=.ret∧xx=.ret)∨∃ i,c=.exit i∧xx=.exit i)∧xO W O S0 m S w (Ix xx (pre.map (·.1))) V)
  ?_ (fun c=>?_) ⟨hp0,m,S,σ,hInv,Ext.refl m S w,fun b h1 h2=>by have:=hlt0 b h1; omega,hs0,MC.of (nH.refl σ) hInv.bh (Mp.le_refl m) hInv.bh⟩
  (fun y a' V=>Am W O S0 m S w (fun m2 S2 σ2 V=>∃ e2,bg m2 S2 V e2 a'.tmps∧a'.tmps.size=n∧a'.defers=[]∧∀ pre,Ip pre→pre.length<vs.length→jh (HC P) b (yf σ.n Ip Is Ix (pre++[y.1])) e2 σ2) V)
  (fun y a'=>Am.own hlt0 hWw (fun (_:Unit) m2 S2 σ2 V=>∃ e2,bg m2 S2 V e2 a'.tmps∧a'.tmps.size=n∧a'.defers=[]∧∀ pre,Ip pre→pre.length<vs.length→jh (HC P) b (yf σ.n Ip Is Ix (pre++[y.1])) e2 σ2)
   fun _ m1 S1 σ1 V V' hkp ⟨e2,h1,h2⟩=>⟨e2,fun j=>(h1 j).BM (Mp.le_refl _) fun b hb hc=>⟨hb,hkp b hb hc⟩,h2⟩) ?_ ?_ ?_ ?_
 ·rintro pre V V' row ⟨h1,h2⟩ hg hr
  exact ⟨h1,xO.own hlt0 hWw (fun _:Unit=>Is) () V V' row h2 hg hr⟩
 ·rintro pre V V' row ⟨xx,h1,h2,h3⟩ hg hr
  exact ⟨xx,h1,h2,xO.own hlt0 hWw (fun pre:List {i:Nat // i<vs.length}=>Ix xx (pre.map (·.1))) pre V V' row h3 hg hr⟩
 ·rintro l pre y V K ⟨hip,m1,S1,σ1,q1,q2,q3,q4,q5⟩ hK
  have i1:=pq hWw q1 q5
  have x1:Ext m S w m1 (fun b=>S1 b∨qN w.heap.size V b) V:=⟨q2.le,fun b h=>.inl (q2.sub b h),q2.br⟩
  have hvals:=hus y.1 _ (hvget y)
  have hvr:bP m1 (fun b=>S1 b∨qN w.heap.size V b) V (vs[y.1]'y.2) (us y.1).toList:=⟨by simpa using hvals.1,fun j z u hz hu=>.pure ((hvals.2 j z u hz (by simpa using hu)).br x1.sub x1.br)⟩
  obtain ⟨e1,e2⟩:=DO ts _ _ a.tmps e hts hsz (fun j=>(hE j).ext x1) hvr (hmem y)
  have hfold:(pt.zip (us y.1)).foldl (fun t (p,v)=>t.setIfInBounds p v) a.tmps=(ts.zip (us y.1).toList).foldl (fun t (x:Nat × Value)=>t.setIfInBounds x.1 x.2) a.tmps:=by
   rw [←hpt,←Array.foldl_toList,Array.toList_zip]
  rw [hfold]
  refine hasn (l:=l) (Kr:=GN σ Ip Is vs.length fun pre=>jh (HC P) b (yf σ.n Ip Is Ix (pre++[y.1]))) ⟨i1,e1,e2,Marks.nil _ _ _⟩ (hb y.1 _ σ1 (hvget y) q4) ?_
  rintro m' S' σ' w' e' a' ⟨r1,r2,r3,r4⟩ r5 ⟨⟨nt,hnt,hIs⟩,hnm2,hbd⟩ r7
  have dS:KeepsFrom w.heap.size V w':=⟨r1.fr.size,fun b o h1 h2 h3=>(r5.br b (.inr ⟨h1,(Array.getElem?_eq_some_iff.1 h2).1,nV h2 h3⟩)).trans h2⟩
  refine hK a' w' dS (fun b hb=>r5.br b (.inl (q2.sub b hb))) ⟨hip,?_⟩ ?_
  ·exact vf hlt0 hWw q1 q2 q5 (r1.aC nt) r5 (MC.of (hnm _ hIs) hInv.bh (Mp.le_trans q2.le r5.le) (r1.aC nt).bh) _ hIs
  ·exact vf hlt0 hWw q1 q2 q5 r1 r5 (MC.of hnm2 hInv.bh (Mp.le_trans q2.le r5.le) r1.bh) _ ⟨e',fun j=>(r2 j).BM (Mp.le_refl _) fun b hb hc=>⟨⟨hb,.inr hc⟩,rfl⟩,r3,r7,hbd⟩
 ·rintro l pre y a' V _ _ ⟨hip,_⟩ ⟨m1,S1,σ1,q1,q2,q3,⟨e2,hE2,hsz2,hd2,hb2⟩,q5⟩ hlen
  have i1:=pq hWw q1 q5
  have x2:Ext m1 S1 V m1 (fun b=>S1 b∨qN w.heap.size V b) V:=⟨Mp.le_refl _,fun b h=>.inl h,fun _ _=>rfl⟩
  refine hbody (l:=l) ⟨i1,fun j=>(hE2 j).ext x2,hsz2,by rw [hd2]; exact Marks.nil _ _ _⟩ (hb2 _ hip (by simpa using hlen)) ?_
  rintro z m' S' σ' w' e' a' ⟨r1,r2,r3,r4⟩ r5 r6
  have dS:KeepsFrom w.heap.size V w':=⟨r1.fr.size,fun b o h1 h2 h3=>(r5.br b (.inr ⟨h1,(Array.getElem?_eq_some_iff.1 h2).1,nV h2 h3⟩)).trans h2⟩
  have fin:∀ (nt:Nat) (J:St→Prop),nH σ (σ'.aC nt)→J (σ'.aC nt)→xO W O S0 m S w J w':=fun nt J h1 h2=>
   vf hlt0 hWw q1 q2 q5 (r1.aC nt) r5 (MC.of h1 hInv.bh (Mp.le_trans q2.le r5.le) (r1.aC nt).bh) _ h2
  have hmap:(pre++[y]).map (·.1)=pre.map (·.1)++[y.1]:=by simp
  cases z with
  | iK=>
   obtain ⟨hip2,nt,hnt,hJ⟩:=r6
   exact ⟨dS,fun b hb=>r5.br b (.inl (q2.sub b hb)),by rw [hmap]; exact hip2,fin nt _ (hnm _ hJ) hJ⟩
  | ret=>obtain ⟨nt,hnt,hJ⟩:=r6; exact ⟨dS,.ret,by simp,.inl ⟨rfl,rfl⟩,by rw [hmap]; exact fin nt _ (hnx _ _ _ (by simp) hJ) hJ⟩
  | exit i=>obtain ⟨nt,hnt,hJ⟩:=r6; exact ⟨dS,.exit i,by simp,.inr ⟨i,rfl,rfl⟩,by rw [hmap]; exact fin nt _ (hnx _ _ _ (by simp) hJ) hJ⟩
 ·rintro D ys V hD hys ⟨hip,m1,S1,σ1,q1,q2,q3,q4,q5⟩ hDh
  obtain ⟨k1,k2⟩:=mark hD q1 q2 hDh
  exact hQ .iK m1 _ σ1 V e _ k1 k2 (hn (by rw [←hys]; exact hip) σ1 q4)
 ·rintro D c pre V hD hpre ⟨xx,hne,hxx,m1,S1,σ1,q1,q2,q3,q4,q5⟩ hDh
  obtain ⟨k1,k2⟩:=mark hD q1 q2 hDh
  rcases hxx with ⟨rfl,rfl⟩ | ⟨i,rfl,rfl⟩
  ·exact wpIn_ret (hQ .ret m1 _ σ1 V e _ k1 k2 (hx' .ret _ σ1 hne hpre q4))
  ·exact wpIn_exit (hQ (.exit i) m1 _ σ1 V e _ k1 k2 (hx' (.exit i) _ σ1 hne hpre q4))
theorem Hp {mt:List Nat} {n:Nat}:∀ (c:Code) (ac:az),comp P mt n c=some ac→
  ∀ {ro:Option Nat},(ro=none∨dw c=true)→∀ {k:Nat},1≤k∨ro≠none→∀ {W:World} {O S0:Nat→Prop} {m:Mp} {S:Nat→Prop} {σ:St} {w:World} {e:Nat→AV} {a:Act} {Qa:iR} {Q:Exit→Act→World→Prop},ep W O S0 m S σ w n e a→jh (HC P) ac Qa e σ→
  (∀ x m' S' σ' w' e' a',ep W O S0 m' S' σ' w' n e' a'→Ext m S w m' S' w'→Qa x e' σ'→Q (vT x) a' w')→c.wpIn (Fw ro) k P Q a w:=by
 intro c
 induction c with
 | skip=>
  intro ac hc ro hro k hk W O S0 m S σ w e a Qa Q hI h hQ
  simp only [comp,Option.some.injEq] at hc; subst hc
  exact wpIn_skip (hQ .iK m S σ w e a hI (Ext.refl m S w) h)
 | ret=>
  intro ac hc ro hro k hk W O S0 m S σ w e a Qa Q hI h hQ
  simp only [comp,Option.some.injEq] at hc; subst hc
  exact wpIn_ret (hQ .ret m S σ w e a hI (Ext.refl m S w) h)
 | exit id=>
  intro ac hc ro hro k hk W O S0 m S σ w e a Qa Q hI h hQ
  simp only [comp,Option.some.injEq] at hc; subst hc
  exact wpIn_exit (hQ (.exit id) m S σ w e a hI (Ext.refl m S w) h)
 | region id ops draw=>
  intro ac hc ro hro k hk W O S0 m S σ w e a Qa Q hI h hQ
  simp only [comp,GD] at hc
  cases draw with
  | true=>
   simp only [if_true] at hc
   split at hc
   ·rename_i l hl
    split at hc
    ·rename_i hok
     simp only [Option.some.injEq] at hc; subst hc
     simp only [Bool.and_eq_true] at hok
     refine wpIn_mono (Q:=JY (fun a' w'=>Q .normal a' w')) (wpIn_region_any hok.1.2 (Al (nW hl) JY.lets _ _ _ _ (Cp hl hok.2 hI h fun m' S' σ' w' e' a' q1 q2 q3=>hQ .iK m' S' σ' w' e' a' q1 q2 q3))) (fun e a w h=>by cases e <;> first | exact h | exact h.elim)
    split at hc
    ·rename_i hok
     simp only [Option.some.injEq] at hc; subst hc
     simp only [Bool.and_eq_true] at hok
     refine wpIn_mono (Q:=JY (fun a' w'=>Q .normal a' w')) (wpIn_region_any hok.1 (Al (nW hl) JY.lets _ _ _ _ (D1 hl hok.2 hI (h.2 _ rfl) fun m' S' σ' w' e' a' q1 q2 q3=>hQ .iK m' S' σ' w' e' a' q1 q2 q3))) (fun e a w h=>by cases e <;> first | exact h | exact h.elim)
    ·cases hc
   ·cases hc
  | false=>
   simp only [Bool.false_eq_true,if_false] at hc
   obtain ⟨l,hl,rfl⟩:=Option.map_eq_some_iff.1 hc
   refine wpIn_mono (Q:=JY (fun a' w'=>Q .normal a' w')) (wpIn_region (px (nW hl) JY.lets _ _ _ (Fc ops (List.range ops.size) [] ops.toList l ?_ (by simp) hl _ _ _ _ _ _ _ hI (h.1 rfl) fun m' S' σ' w' e' a' q1 q2 q3=>hQ .iK m' S' σ' w' e' a' q1 q2 q3))) (fun e a w h=>by cases e <;> first | exact h | exact h.elim)
   intro k i hk
   obtain ⟨h1,h2⟩:=List.getElem?_eq_some_iff.1 hk
   simp at h1 h2
   subst h2
   simp
 | seq x y ihx ihy=>
  intro ac hc ro hro k hk W O S0 m S σ w e a Qa Q hI h hQ
  simp only [comp] at hc
  split at hc
  ·rename_i a1 b1 h1 h2
   simp only [Option.some.injEq] at hc; subst hc
   refine wpIn_seq (ihx _ h1 (hro.imp id fun h=>(lK h).1) hk hI h ?_)
   intro z m' S' σ' w' e' a' q1 q2 q3
   cases z with
   | iK=>exact ihy _ h2 (hro.imp id fun h=>(lK h).2) hk q1 q3 fun z2 m2 S2 σ2 w2 e2 a2 p1 p2 p3=>hQ z2 m2 S2 σ2 w2 e2 a2 p1 (q2.trans p2) p3
   | ret=>exact hQ .ret m' S' σ' w' e' a' q1 q2 q3
   | exit id=>exact hQ (.exit id) m' S' σ' w' e' a' q1 q2 q3
  ·cases hc
 | cond x y z ihy ihz=>
  intro ac hc ro hro k hk W O S0 m S σ w e a Qa Q hI h hQ
  simp only [comp] at hc
  split at hc
  ·rename_i c1 a1 b1 h0 h1 h2
   simp only [Option.some.injEq] at hc; subst hc
   simp only [jh] at h
   generalize ht:c1.ev e=g at h
   unfold pZ at h
   split at h
   ·rename_i t
    have hv:=aB hI.2.1 h0
    rw [ht] at hv
    refine wpIn_cond hv.of_bool ?_
    cases t with
    | true=>exact ihy _ h1 (hro.imp id fun h=>(lK h).1) hk hI (h.1 rfl) hQ
    | false=>exact ihz _ h2 (hro.imp id fun h=>(lK h).2) hk hI (h.2 rfl) hQ
   ·exact h.elim
  ·cases hc
 | block id x ih=>
  intro ac hc ro hro k hk W O S0 m S σ w e a Qa Q hI h hQ
  simp only [comp] at hc
  obtain ⟨a1,h1,rfl⟩:=Option.map_eq_some_iff.1 hc
  refine wpIn_block (ih _ h1 hro hk hI h ?_)
  intro z m' S' σ' w' e' a' q1 q2 q3
  cases z with
  | iK=>exact hQ .iK m' S' σ' w' e' a' q1 q2 q3
  | ret=>exact hQ .ret m' S' σ' w' e' a' q1 q2 q3
  | exit i=>
   simp only [vT,Exit.inBlock]
   simp only [jj] at q3
   split
   ·rename_i hi
    simp only [hi,if_true] at q3
    exact hQ .iK m' S' σ' w' e' a' q1 q2 q3
   ·rename_i hi
    simp only [hi,if_false] at q3
    exact hQ (.exit i) m' S' σ' w' e' a' q1 q2 q3
 | loop x ih=>
  intro ac hc ro hro k hk W O S0 m S σ w e a Qa Q hI h hQ
  simp only [comp] at hc
  obtain ⟨a1,h1,rfl⟩:=Option.map_eq_some_iff.1 hc
  obtain ⟨I,⟨k0,h0⟩,hr⟩:=h
  refine Ce (fun k a2 w1=>∃ m1 S1 σ1 e1,ep W O S0 m1 S1 σ1 w1 n e1 a2∧Ext m S w m1 S1 w1∧I k e1 σ1) k0 ⟨m,S,σ,e,hI,Ext.refl m S w,h0⟩ ?_
  rintro kk a2 w1 ⟨m1,S1,σ1,e1,hI1,hX1,hi1⟩
  refine ih _ h1 hro hk hI1 (hr kk e1 σ1 hi1) ?_
  intro z m' S' σ' w' e' a' q1 q2 q3
  cases z with
  | iK=>
   obtain ⟨k',hk',nt,_,hI'⟩:=q3
   exact ⟨k',hk',m',S',σ'.aC nt,e',⟨q1.1.aC nt,q1.2⟩,hX1.trans q2,hI'⟩
  | ret=>exact hQ .ret m' S' σ' w' e' a' q1 (hX1.trans q2) q3
  | exit i=>exact hQ (.exit i) m' S' σ' w' e' a' q1 (hX1.trans q2) q3
 | rangeFunc g pt assign body _ ih=>
  intro ac hc ro hro k hk W O S0 m S σ w e a Qa Q hI h hQ
  simp only [comp] at hc
  split at hc
  ·rename_i x t t' d b hx hpt has hb
   split at hc
   ·rename_i hcs
    obtain ⟨rfl,ht,hd,hnr⟩:=hcs
    simp only [Option.some.injEq] at hc; subst hc
    have hro':ro=none:=hro.resolve_right (by simp [dw])
    subst hro'
    exact D2 hx hpt has ht hd (hk.resolve_right (by simp)) (fun {l k} {W O S0 m S σ w e a Qa Q} hI h hQ=>ih _ hb (ro:=some l) (.inr hnr) (k:=k) (.inr (by simp)) hI h hQ) hI h hQ
   ·cases hc
  ·rename_i x t1 t2 ts b hx hpt hb
   split at hc
   ·rename_i aops has
    split at hc
    ·rename_i la hla
     split at hc
     ·rename_i hcs
      obtain ⟨hts,hnr⟩:=hcs
      simp only [Option.some.injEq] at hc; subst hc
      have hro':ro=none:=hro.resolve_right (by simp [dw])
      subst hro'
      exact Ct hx hpt has hla (fun t ht=>by simpa using List.all_eq_true.1 hts t ht) (hk.resolve_right (by simp)) (fun {l k} {W O S0 m S σ w e a Qa Q} hI h hQ=>ih _ hb (ro:=some l) (.inr hnr) (k:=k) (.inr (by simp)) hI h hQ) hI h hQ
     ·cases hc
    ·cases hc
   ·cases hc
  ·cases hc
 | scope=>intro ac hc; simp [comp] at hc
 | label=>intro ac hc; simp [comp] at hc
 | goto=>intro ac hc; simp [comp] at hc
 | refuse=>intro ac hc; simp [comp] at hc
end
end Go.Ab
