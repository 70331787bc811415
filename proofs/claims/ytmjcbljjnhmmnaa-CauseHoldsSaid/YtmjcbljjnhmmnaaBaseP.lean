/- OWN WORK, put together by tools/asm.py, seat.py, mini.py. -/
import Derived.Test.YtmjcbljjnhmmnaaBaseU
namespace Go.Ab
open Go.RowKit
section
variable {P : Program} {W : World} {O S0 : Nat → Prop} {m : Mp} {S : Nat → Prop} {σ : St} {w : World} {e : Nat → AV} {a : Act} {K : AV → St → Prop} {Q : Exit → Act → World → Prop}
theorem wpIn_loop_wf {F : Fence} {n : Nat} {P : Program} {Q : Exit → Act → World → Prop} {a : Act} {w : World} {c : Code} (R : Nat → Act → World → Prop) (k0 : Nat) (h₀ : R k0 a w)
  (round : ∀ k a w, R k a w → c.wpIn F n P (Exit.then (fun a' w' => ∃ k', k' < k ∧ R k' a' w') Q) a w) : (Code.loop c).wpIn F n P Q a w := by
 intro b k cs hro hb hr
 have key : ∀ j a w, R j a w → ∃ e a' w', Q e a' w' ∧ ArrivesIn (Machine.fenced P F) P (lone (b.atR a (.code c :: .inLoop c :: k)) cs w) b k cs e a' w' := by
  intro j
  induction j using Nat.strongRecOn with
  | _ j ih =>
   intro a w hR
   obtain ⟨e, a₁, w₁, hq, harr⟩ := round j a w hR b (.inLoop c :: k) cs hro hb hr
   cases e with
   | normal =>
    obtain ⟨k', hlt, hR₁⟩ := hq
    obtain ⟨e₂, a₂, w₂, hq₂, harr₂⟩ := ih k' hlt a₁ w₁ hR₁
    exact ⟨e₂, a₂, w₂, hq₂, .of_steps (StepsIn.trans harr (.one (fenced_calm hb hr rfl) stepR_inLoop)) harr₂⟩
   | exit id => exact ⟨_, a₁, w₁, hq, .pass (x := .inLoop c) rfl (fun _ _ => .inl (by simp)) harr⟩
   | goto l => exact ⟨_, a₁, w₁, hq, .pass (x := .inLoop c) rfl (fun _ _ => .inl (by simp)) harr⟩
   | ret => exact ⟨_, a₁, w₁, hq, .pass (x := .inLoop c) rfl (fun _ _ => .inl (by simp)) harr⟩
   | panic ch => exact ⟨_, a₁, w₁, hq, .pass (x := .inLoop c) rfl (fun _ _ => .inl (by simp)) harr⟩
   | outgrown => exact ⟨_, a₁, w₁, hq, .pass (x := .inLoop c) rfl (fun _ _ => .inl (by simp)) harr⟩
 obtain ⟨e, a', w', hq, harr⟩ := key _ a w h₀
 exact ⟨e, a', w', hq, .of_steps (.one (fenced_calm hb hr rfl) stepR_loop) harr⟩
def exitOf : EX → Exit
 | .nrm => .normal
 | .ret => .ret
 | .exit id => .exit id
theorem noRange_seq {x y : Code} (h : (noRange x && noRange y) = true) : noRange x = true ∧ noRange y = true := by simpa using h
theorem not_isC {w : World} {b : Nat} {o : Obj} (h : w.heap[b]? = some o) (ho : o.isCells = false) : ¬ isC w b := by
 rintro ⟨c, t, f, h'⟩
 rw [h] at h'
 obtain rfl := Option.some.inj h'
 cases ho
theorem isC.lt {w : World} {b : Nat} (h : isC w b) : b < w.heap.size := by
 obtain ⟨c, t, f, h⟩ := h
 exact (Array.getElem?_eq_some_iff.1 h).1
theorem ObjR.isC {m : Mp} {S : Nat → Prop} {w : World} {o : AObj} {v : Value} (h : ObjR m S w o v) {b : Nat} (hb : v.ownBlock = some b) : isC w b ∨ (o.ty = mapTy ∧ ∃ ents clock, w.heap[b]? = some (.map ents clock)) := by
 obtain ⟨_, _, xs, h3, _⟩ := h
 rcases h3 with h3 | ⟨h1, _, _, g, ents, clock, rfl, hg, _⟩
 ·rcases h3.2 with ⟨rfl, _⟩ | ⟨g, len, cap, cur, fr, rfl, hg, _⟩
  ·cases hb
  ·cases hb
   exact .inl ⟨_, _, _, hg⟩
 ·cases hb
  exact .inr ⟨h1, ents, clock, hg⟩
section
variable {P : Program} {W : World} {O S0 : Nat → Prop} {m : Mp} {S : Nat → Prop} {σ : St} {w : World}
theorem Inv.turn (h : Inv W O S0 m S σ w) {w' : World} {S' : Nat → Prop} (h1 : w'.os = w.os) (h2 : w'.tape = w.tape) (h3 : w'.output = w.output) (hsz : w.heap.size ≤ w'.heap.size) (hcell : ∀ b, isC w b → w'.heap[b]? = w.heap[b]?)
  (hold : ∀ b, b < W.heap.size → w'.heap[b]? = w.heap[b]?) (hin : ∀ b, S b → isC w b → S' b) (hout : ∀ b, S' b → S b ∨ (W.heap.size ≤ b ∧ b < w'.heap.size ∧ ¬ isC w b))
  (hmap : ∀ k o v b, σ.ob k = some o → m o.g = some v → v.ownBlock = some b → ¬ isC w b → w'.heap[b]? = w.heap[b]? ∧ (S b → S' b) ∧ (S' b → S b)) : Inv W O S0 m S' σ w' := by
 refine ⟨⟨h.sim.fresh, fun k o ho => ?_, h.sim.dist, fun b hb => ?_⟩, ⟨h1.trans h.fr.os, h2.trans h.fr.tape, h3.trans h.fr.output, Nat.le_trans h.fr.size hsz, fun b hb hO => (hold b hb).trans (h.fr.block b hb hO), h.fr.own, fun b hb => ?_⟩⟩
 ·obtain ⟨v, hm, hob, hr⟩ := h.sim.obj k o ho
  have hk : ∀ b, v.ownBlock = some b → w'.heap[b]? = w.heap[b]? ∧ (S b → S' b) ∧ (o.ro = false → ¬ S' b) := fun b hb => by
   by_cases hc : isC w b
   ·refine ⟨hcell b hc, fun h => hin b h hc, fun hro hS => ?_⟩
    rcases hout b hS with q | ⟨_, _, q⟩
    ·exact (hr b hb).2 hro q
    ·exact q hc
   ·obtain ⟨p1, p2, p3⟩ := hmap k o v b ho hm hb hc
    exact ⟨p1, p2, fun hro hS => (hr b hb).2 hro (p3 hS)⟩
  refine ⟨v, hm, ?_, fun b hb => ⟨fun hro => (hk b hb).2.1 ((hr b hb).1 hro), (hk b hb).2.2⟩⟩
  obtain ⟨a1, a2, xs, a3, a4⟩ := hob
  exact ⟨a1, a2, xs, a3.keep fun b hb => (hk b hb).1, a4.1, fun j y u hy hu => (a4.2 j y u hy hu).keepC (Mp.le_refl m) fun b hb hc => ⟨hin b hb hc, hcell b hc⟩⟩
 ·rcases hout b hb with q | ⟨_, q, _⟩
  ·have := h.sim.lt b q; omega
  ·exact q
 ·rcases hout b hb with q | ⟨q, _, _⟩
  ·exact h.fr.sub b q
  ·exact .inr (.inr q)
def MC (B : Nat) (m : Mp) (σ : St) (V : World) : Prop := ∀ k o v b, σ.ob k = some o → m o.g = some v → v.ownBlock = some b → b < B ∨ isC V b
theorem MC.of {m1 : Mp} {S1 : Nat → Prop} {σ1 : St} {V : World} (h : NoMap σ σ1) (hI : Sim m S σ w) (hle : m.le m1) (h1 : Sim m1 S1 σ1 V) : MC w.heap.size m1 σ1 V := by
 intro k o v b ho hm hb
 obtain ⟨v', hm', hob, _⟩ := h1.obj k o ho
 rw [hm] at hm'; obtain rfl := Option.some.inj hm'
 rcases hob.isC hb with hc | ⟨hty, _⟩
 ·exact .inr hc
 ·obtain ⟨k', o', ho', hg⟩ := h k o ho hty
  obtain ⟨v0, hm0, hob0, _⟩ := hI.obj k' o' ho'
  have h2 := hle _ _ hm0
  rw [hg, hm] at h2
  obtain rfl := Option.some.inj h2
  exact .inl (ownBlock_lt hob0 hb)
theorem NoMap.refl (σ : St) : NoMap σ σ := fun k o ho _ => ⟨k, o, ho, rfl⟩
def RInvG (W : World) (O S0 : Nat → Prop) (m : Mp) (S : Nat → Prop) (w : World) (J : Mp → (Nat → Prop) → St → World → Prop) (V : World) : Prop :=
 ∃ m1 S1 σ1, Inv W O S0 m1 S1 σ1 V ∧ Ext m S w m1 S1 V ∧ (∀ b, S1 b → w.heap.size ≤ b → isC V b) ∧ J m1 S1 σ1 V ∧ MC w.heap.size m1 σ1 V
def RInv (W : World) (O S0 : Nat → Prop) (m : Mp) (S : Nat → Prop) (w : World) (J : St → Prop) (V : World) : Prop := RInvG W O S0 m S w (fun _ _ σ1 _ => J σ1) V
theorem RInvG.own {β : Type} (hS : ∀ b, S b → b < w.heap.size) (hW : W.heap.size ≤ w.heap.size) (J : β → Mp → (Nat → Prop) → St → World → Prop)
  (hst : ∀ s m1 S1 σ1 V V', (∀ b, S1 b → isC V b → V'.heap[b]? = V.heap[b]?) → J s m1 S1 σ1 V → J s m1 S1 σ1 V') : OwnFrom w.heap.size (fun s V => RInvG W O S0 m S w (J s) V) := by
 rintro s V V' row ⟨m1, S1, σ1, hI, hX, hC, hJ, hM⟩ hg hr
 have hne : ∀ b, some b = row → w.heap.size ≤ b ∧ ¬ isC V b := fun b e => by
  obtain ⟨h1, o, h2, h3⟩ := hr b e.symm
  exact ⟨h1, not_isC h2 h3⟩
 have hcell : ∀ b, isC V b → V'.heap[b]? = V.heap[b]? := fun b hb => hg.block b hb.lt fun e => (hne b e).2 hb
 have hVs : w.heap.size ≤ V.heap.size ∨ True := .inr trivial
 have hold : ∀ b, b < W.heap.size → V'.heap[b]? = V.heap[b]? := fun b hb => hg.block b (by have := hI.fr.size; omega) fun e => by have := (hne b e).1; omega
 refine ⟨m1, S1, σ1, hI.turn hg.os hg.tape hg.output hg.size hcell hold (fun b h _ => h) (fun b h => .inl h) (fun k o v b ho hm hb hn => ⟨?_, id, id⟩), ⟨hX.le, hX.sub, fun b hb => ?_⟩, fun b hb hw => (hC b hb hw).same (hcell b (hC b hb hw)), hst s m1 S1 σ1 V V' (fun b _ hc => hcell b hc) hJ, fun k o v b ho hm hb => ?_⟩
 ·rcases hM k o v b ho hm hb with h | h
  ·obtain ⟨v', hm', hob, _⟩ := hI.sim.obj k o ho
   rw [hm] at hm'; obtain rfl := Option.some.inj hm'
   exact hg.block b (ownBlock_lt hob hb) fun e => by have := (hne b e).1; omega
  ·exact absurd h hn
 rotate_left
 ·rcases hM k o v b ho hm hb with h | h
  ·exact .inl h
  ·exact .inr (h.same (hcell b h))
 have h1 := hS b hb
 have h2 := hI.sim.lt b (hX.sub b hb)
 exact (hg.block b h2 fun e => by have := (hne b e).1; omega).trans (hX.keep b hb)
theorem RInv.own {β : Type} (hS : ∀ b, S b → b < w.heap.size) (hW : W.heap.size ≤ w.heap.size) (J : β → St → Prop) : OwnFrom w.heap.size (fun s V => RInv W O S0 m S w (J s) V) :=
 RInvG.own hS hW (fun s _ _ σ1 _ => J s σ1) fun _ _ _ _ _ _ _ h => h
def addrOf : Value → Addr
 | .pointer (some p) => p
 | _ => default
theorem caps_cells {caps xs : List AV} {us : List Value} (hS : Sim m S σ w) (hc : Caps σ caps xs) (hv : VRs m S w caps us) : us = (us.map addrOf).map (fun p => Value.pointer (some p)) ∧ CellsAt (us.map addrOf) xs w := by
 have key : ∀ (i : Nat) (u : Value), us[i]? = some u → ∃ p x v, u = .pointer (some p) ∧ xs[i]? = some x ∧ p.spot = none ∧ scalV x = some v ∧ w.cell? p = some v := by
  intro i u hu
  have hl := hv.1
  have hi := (List.getElem?_eq_some_iff.1 hu).1
  have hlc := hc.1
  have hci : caps[i]? = some (caps[i]'(by omega)) := List.getElem?_eq_getElem _
  have hxi : xs[i]? = some (xs[i]'(by omega)) := List.getElem?_eq_getElem _
  obtain ⟨⟨v, hsv⟩, id, g, o, he, ho, hg, hes, hol⟩ := hc.2 i _ _ hci hxi
  have h1 := hv.2 i _ u hci hu
  rw [he] at h1
  obtain ⟨b, e1, hlen, ws, hws, hvs, hcs⟩ := ptr_at hS h1 ho hg hes (y := xs[i]'(by omega)) (by rw [hol]; rfl)
  refine ⟨_, _, v, e1, hxi, rfl, hsv, ?_⟩
  obtain ⟨w0, rfl⟩ := List.length_eq_one_iff.1 hws
  have h2 := hcs 0 w0 rfl
  have hcx : (xs[i]'(by omega)).cells = [xs[i]'(by omega)] := by
   generalize xs[i]'(by omega) = x at *
   cases x <;> simp [scalV] at hsv <;> rfl
  rw [hcx] at hvs
  have h3 := hvs.2 0 _ w0 rfl rfl
  have h4 : w0 = v := by
   generalize xs[i]'(by omega) = x at *
   cases x <;> simp [scalV] at hsv
   ·subst hsv; exact h3.of_bool
   ·subst hsv; exact h3.of_int
   ·subst hsv; exact h3.of_str
  rw [← h4]
  simpa using h2
 refine ⟨?_, by simp [hv.1, hc.1], fun i p x hp hx => ?_⟩
 ·refine List.ext_getElem? fun i => ?_
  rw [List.map_map, List.getElem?_map]
  cases hu : us[i]? with
  | none => rfl
  | some u =>
   obtain ⟨p, x, v, rfl, _⟩ := key i u hu
   rfl
 ·rw [List.getElem?_map] at hp
  obtain ⟨u, hu, rfl⟩ := Option.map_eq_some_iff.1 hp
  obtain ⟨p, x', v, rfl, hx', hsp, hsv, hcell⟩ := key i u hu
  rw [hx] at hx'
  obtain rfl := Option.some.inj hx'
  exact ⟨hsp, v, hsv, hcell⟩
end
def nonC (B : Nat) (V : World) (b : Nat) : Prop := B ≤ b ∧ b < V.heap.size ∧ ¬ isC V b
theorem asgn_spec {c : Code} {t d : Nat} (h : asgn c = some (t, d)) : ∃ id ops o, c = .region id ops false ∧ ops = #[o] ∧ o.dst = some d ∧ o.op = .assign (.tmp t) ∧ o.guard = none := by
 unfold asgn at h
 split at h
 ·rename_i id ops
  split at h
  ·rename_i o ho
   split at h
   ·rename_i d' t' h1 h2 h3
    simp only [Option.some.injEq, Prod.mk.injEq] at h
    obtain ⟨rfl, rfl⟩ := h
    exact ⟨id, ops, o, rfl, by rw [← ho], h1, h2, h3⟩
   ·cases h
  ·cases h
 ·cases h
theorem asgn_wp {F : Fence} {n id t d : Nat} {P : Program} {ao : Oper} {K : Act → World → Prop} {Q : Exit → Act → World → Prop} {a : Act} {w : World} {v : Value} (h1 : ao.dst = some d) (h2 : ao.op = .assign (.tmp t)) (h3 : ao.guard = none) (hv : a.eval (.tmp t) = v)
  (h : K { tmps := a.tmps.setIfInBounds d v, defers := a.defers } w) : (Code.region id #[ao] false).wpIn F n P (Exit.then K Q) a w := by
 refine wpIn_region ?_
 have hw : Region.wanted ao (yielded #[ao] a.tmps) = true := by simp [Region.wanted, h3]
 have hl : List.range (#[ao] : Array Oper).size = [0] := rfl
 rw [hl]
 simp only [wpOpsIn, List.getElem?_toArray, List.getElem?_cons_zero, hw, if_true]
 refine ⟨fun f hf => ?_, ?_⟩
 ·simp [Oper.about, h2] at hf
 ·rw [Oper.semAt_eq _ _ _ (fun c hc => by rw [h2] at hc; cases hc)]
  simp only [execOp, h2, Sem.run_pure, hv, Oper.uponIn, Act.put, h1, Exit.then]
  exact h
theorem range_sound {P : Program} {n k : Nat} {g : Operand} {pt : Array Tmp} {assign body : Code} {x : AX} {t d : Nat} {b : ACode} (hx : ax g = some x) (hpt : pt.toList = [t]) (has : asgn assign = some (t, d)) (ht : t < n) (hd : d < n) (hk : 1 ≤ k)
  (hbody : ∀ {l k : Nat} {W : World} {O S0 : Nat → Prop} {m : Mp} {S : Nat → Prop} {σ : St} {w : World} {e : Nat → AV} {a : Act} {Qa : awpK} {Q : Exit → Act → World → Prop}, EnvI W O S0 m S σ w n e a → awp (HC P) b Qa e σ →
   (∀ x m' S' σ' w' e' a', EnvI W O S0 m' S' σ' w' n e' a' → Ext m S w m' S' w' → Qa x e' σ' → Q (exitOf x) a' w') → body.wpIn (Fw (some l)) k P Q a w)
  {W : World} {O S0 : Nat → Prop} {m : Mp} {S : Nat → Prop} {σ : St} {w : World} {e : Nat → AV} {a : Act} {Qa : awpK} {Q : Exit → Act → World → Prop} (hI : EnvI W O S0 m S σ w n e a) (h : rangeK (ItC P) (x.ev e) (awp (HC P) b) t d Qa e σ)
  (hQ : ∀ x m' S' σ' w' e' a', EnvI W O S0 m' S' σ' w' n e' a' → Ext m S w m' S' w' → Qa x e' σ' → Q (exitOf x) a' w') : (Code.rangeFunc g pt assign body).wpIn (Fw none) k P Q a w := by
 obtain ⟨hInv, hE, hsz, hdf⟩ := hI
 generalize hgv : x.ev e = G at h
 unfold rangeK at h
 split at h
 case h_2 => exact h.elim
 rename_i f caps
 obtain ⟨xs, vs, ⟨henter, hit⟩, I, Ix, h0, hcap0, hnx, hb, hn, hx'⟩ := h
 have hcap : ∀ pre σ1, I pre σ1 → Caps σ1 caps xs := fun pre σ1 h => (hcap0 pre σ1 h).1
 have hnm : ∀ pre σ1, I pre σ1 → NoMap σ σ1 := fun pre σ1 h => (hcap0 pre σ1 h).2
 have hv : VR m S w (.func f caps) (a.eval g) := hgv ▸ ax_sound hE hx
 obtain ⟨lb, hlb, hlv⟩ := hv.of_func
 obtain ⟨hps0, hcells⟩ := caps_cells hInv.sim (hcap [] σ h0) hlv
 obtain ⟨pl, hpl⟩ : ∃ pl, lb.toList.map addrOf = pl := ⟨_, rfl⟩
 have hlb' : lb = (pl.map fun p => Value.pointer (some p)).toArray := by rw [← hpl, ← hps0]
 rw [hpl] at hcells
 have hlt0 : ∀ b, S b → b < w.heap.size := hInv.sim.lt
 have hWw : W.heap.size ≤ w.heap.size := hInv.fr.size
 -- the captured boxes lie ahead of the loop
 have hplt : ∀ (i : Nat) (p : Addr), pl[i]? = some p → p.block < w.heap.size ∧ p.spot = none := fun i p hp => by
  have hi := (List.getElem?_eq_some_iff.1 hp).1
  obtain ⟨h1, v, _, h2⟩ := hcells.2 i p _ hp (List.getElem?_eq_getElem (by rw [← hcells.1]; exact hi))
  obtain ⟨pb, po, ps⟩ := p
  simp only at h1; subst h1
  exact ⟨(isC.of_cell h2).lt, rfl⟩
 have hcellsV : ∀ {m1 : Mp} {S1 : Nat → Prop} {σ1 : St} {V : World} (pre : List Int), Sim m1 S1 σ1 V → Ext m S w m1 S1 V → I pre σ1 → CellsAt pl xs V := fun pre hS hX hi => by
  have := (caps_cells hS (hcap pre _ hi) (hlv.ext hX)).2
  rwa [hpl] at this
 have hseq := hit (k - 1) w pl hcells
 rw [← hlb'] at hseq
 have hpt' : pt = #[t] := by rw [← hpt]
 obtain ⟨aid, aops, ao, rfl, rfl, hao1, hao2, hao3⟩ := asgn_spec has
 have hro : (Fw none).round = none := rfl
 have mark : ∀ {D : Nat} {V : World} {m1 : Mp} {S1 : Nat → Prop} {σ1 : St}, w.heap.size ≤ D → Inv W O S0 m1 S1 σ1 V → Ext m S w m1 S1 V → V.heap[D]? = some (.deferred (some [])) →
   EnvI W O S0 m1 (fun b => S1 b ∨ b = D) σ1 V n e { a with defers := { target := .collected D, args := #[] } :: a.defers } ∧ Ext m S w m1 (fun b => S1 b ∨ b = D) V := by
  intro D V m1 S1 σ1 hD q1 q2 hDh
  have hDV := (Array.getElem?_eq_some_iff.1 hDh).1
  have x1 : Ext m S w m1 (fun b => S1 b ∨ b = D) V := ⟨q2.le, fun b h => .inl (q2.sub b h), q2.keep⟩
  refine ⟨⟨q1.turn rfl rfl rfl (Nat.le_refl _) (fun _ _ => rfl) (fun _ _ => rfl) (fun b h _ => .inl h) (fun b h => ?_) (fun k o v b ho hm hb hn => ⟨rfl, .inl, fun h => ?_⟩), fun j => (hE j).ext x1, hsz, ?_⟩, x1⟩
  ·rcases h with h | rfl
   ·exact .inl h
   ·exact .inr ⟨Nat.le_trans hWw hD, hDV, not_isC hDh rfl⟩
  ·rcases h with h | rfl
   ·exact h
   ·obtain ⟨v', hm', hob, _⟩ := q1.sim.obj k o ho
    rw [hm] at hm'; obtain rfl := Option.some.inj hm'
    rcases hob.isC hb with h | ⟨_, _, _, h⟩
    ·exact absurd h hn
    ·rw [hDh] at h; cases h
  ·have h2 := hdf.ext x1
   refine ⟨List.pairwise_cons.2 ⟨fun d hd he => ?_, h2.1⟩, fun d hd => ?_⟩
   ·obtain ⟨D', e1, _, h3, _⟩ := hdf.2 d hd
    subst e1
    have := hlt0 _ h3
    simp only [Target.collected.injEq] at he
    omega
   ·rcases List.mem_cons.1 hd with rfl | hd
    ·exact ⟨D, rfl, Nat.le_trans hWw hD, .inr rfl, hDh⟩
    ·exact h2.2 d hd
 refine wpIn_rangeFunc_ownH (F := Fw none) hro hk (gf := f) (lb := lb) hlb trivial henter hseq (fun h k => fun q => k (h q)) ?_ (Below.refl _ _) (fun _ => by rw [hpt']; rfl)
  (fun pre V => RInv W O S0 m S w (I (pre.map (·.1))) V) (fun c pre V => ∃ xx, xx ≠ .nrm ∧ ((c = .ret ∧ xx = .ret) ∨ ∃ i, c = .exit i ∧ xx = .exit i) ∧ RInv W O S0 m S w (Ix xx (pre.map (·.1))) V)
  (RInv.own hlt0 hWw _) (fun c => ?_) ⟨m, S, σ, hInv, Ext.refl m S w, fun b h1 h2 => by have := hlt0 b h1; omega, h0, MC.of (NoMap.refl σ) hInv.sim (Mp.le_refl m) hInv.sim⟩
  (fun y a' _ => a' = { tmps := (a.tmps.setIfInBounds t (.int .i64 y.1)).setIfInBounds d (.int .i64 y.1), defers := [] }) (fun y a' _ _ _ _ hs _ _ => hs) ?_ ?_ ?_ ?_
 ·intro V l o o' hl ho h1 h2 hc
  refine ⟨hc.1, fun i p z hp hz => ?_⟩
  obtain ⟨q1, v, q2, q3⟩ := hc.2 i p z hp hz
  refine ⟨q1, v, q2, ?_⟩
  have := (hplt i p hp).1
  rw [World.cell?_of_block (w := V)]
  ·exact q3
  ·exact World.putObj_heap_other (by omega)
 ·rintro pre V V' row ⟨xx, h1, h2, h3⟩ hg hr
  exact ⟨xx, h1, h2, RInv.own hlt0 hWw (fun pre : List {x : Int // x ∈ vs} => Ix xx (pre.map (·.1))) pre V V' row h3 hg hr⟩
 ·intro l pre y V K hi hK
  have hi2 := hi
  obtain ⟨m1, S1, σ1, q1, q2, q3, q4, q5⟩ := hi2
  have hz : (pt.zip #[Value.int .i64 y.1]).foldl (fun t (p, v) => t.setIfInBounds p v) a.tmps = a.tmps.setIfInBounds t (.int .i64 y.1) := by rw [hpt']; simp
  rw [hz]
  refine asgn_wp hao1 hao2 hao3 (v := .int .i64 y.1) ?_ (hK _ V (KeepsFrom.refl _ _) (fun h => h) hi rfl)
  simp [Act.eval, Array.getD_eq_getD_getElem?, hsz, ht]
 ·rintro l pre y a' V _ _ ⟨m1, S1, σ1, q1, q2, q3, q4, q5⟩ rfl hlen
  have hVw : ∀ b, isC V b → ¬ nonC w.heap.size V b := fun b h1 h2 => h2.2.2 h1
  have hWV : W.heap.size ≤ V.heap.size := q1.fr.size
  -- the round begins: what is no cells is looked after, too
  have i1 : Inv V (own0 m1 σ1) (fun b => S1 b ∨ nonC w.heap.size V b) m1 (fun b => S1 b ∨ nonC w.heap.size V b) σ1 V := by
   refine ⟨(q1.turn (S' := fun b => S1 b ∨ nonC w.heap.size V b) rfl rfl rfl (Nat.le_refl _) (fun _ _ => rfl) (fun _ _ => rfl) (fun b h _ => .inl h) (fun b h => ?_) fun k o v b ho hm hb hn => ⟨rfl, .inl, fun h => h.resolve_right fun h => by rcases q5 k o v b ho hm hb with h2 | h2; exact absurd h.1 (by omega); exact hn h2⟩).sim, ⟨rfl, rfl, rfl, Nat.le_refl _, fun _ _ _ => rfl, fun k o v b ho hro hm hb => .inl ⟨k, o, v, ho, hro, hm, hb⟩, fun b hb => .inl hb⟩⟩
   rcases h with h | h
   ·exact .inl h
   ·exact .inr ⟨Nat.le_trans hWw h.1, h.2.1, h.2.2⟩
  have x1 : Ext m S w m1 (fun b => S1 b ∨ nonC w.heap.size V b) V := ⟨q2.le, fun b h => .inl (q2.sub b h), q2.keep⟩
  have hE1 : EnvR m1 (fun b => S1 b ∨ nonC w.heap.size V b) V (upd (upd e t (.int .i64 y.1)) d (.int .i64 y.1)) ((a.tmps.setIfInBounds t (.int .i64 y.1)).setIfInBounds d (.int .i64 y.1)) := by
   intro j
   have h1 := (hE j).ext x1
   by_cases hj : j = d
   ·subst hj
    rw [upd_same]
    have : ((a.tmps.setIfInBounds t (Value.int .i64 y.1)).setIfInBounds j (.int .i64 y.1)).getD j undef = .int .i64 y.1 := by simp [Array.getD_eq_getD_getElem?, hsz, hd]
    rw [this]; exact .pure (.int _ _)
   ·rw [upd_ne _ _ _ _ hj]
    by_cases hj2 : j = t
    ·subst hj2
     rw [upd_same]
     have : ((a.tmps.setIfInBounds j (Value.int .i64 y.1)).setIfInBounds d (.int .i64 y.1)).getD j undef = .int .i64 y.1 := by simp [Array.getD_eq_getD_getElem?, hsz, ht, Ne.symm hj]
     rw [this]; exact .pure (.int _ _)
    ·rw [upd_ne _ _ _ _ hj2]
     have : ((a.tmps.setIfInBounds t (Value.int .i64 y.1)).setIfInBounds d (.int .i64 y.1)).getD j undef = a.tmps.getD j undef := by simp [Array.getD_eq_getD_getElem?, Ne.symm hj, Ne.symm hj2]
     rw [this]; exact h1
  refine hbody (l := l) ⟨i1, hE1, by simpa using hsz, Marks.nil _ _ _⟩ (hb _ y.1 σ1 y.2 (by simpa using hlen) q4) ?_
  rintro z m' S' σ' w' e' a' ⟨r1, r2, r3, r4⟩ r5 r6
  have hkeep : KeepsFrom w.heap.size V w' := ⟨r1.fr.size, fun b o h1 h2 h3 => (r5.keep b (.inr ⟨h1, (Array.getElem?_eq_some_iff.1 h2).1, not_isC h2 h3⟩)).trans h2⟩
  -- the round ends: it is looked after no more
  have fin : ∀ (nt : Nat) (J : St → Prop), NoMap σ (σ'.trunc nt) → J (σ'.trunc nt) → RInv W O S0 m S w J w' := by
   intro nt J hnmt hJ
   have hmc : MC w.heap.size m' (σ'.trunc nt) w' := MC.of hnmt hInv.sim (Mp.le_trans q2.le r5.le) (r1.trunc nt).sim
   refine ⟨m', fun b => S' b ∧ (b < w.heap.size ∨ isC w' b), σ'.trunc nt, ?_, ⟨Mp.le_trans q2.le r5.le, fun b hb => ⟨r5.sub b (.inl (q2.sub b hb)), .inl (hlt0 b hb)⟩, fun b hb => (r5.keep b (.inl (q2.sub b hb))).trans (q2.keep b hb)⟩, fun b hb hw => hb.2.resolve_left (by omega), hJ, hmc⟩
   have r7 : Inv W O (fun b => S0 b ∨ W.heap.size ≤ b) m' S' (σ'.trunc nt) w' := by
    have k1 : Inv W O (fun b => S0 b ∨ W.heap.size ≤ b) m1 (fun b => S1 b ∨ nonC w.heap.size V b) σ1 V := ⟨i1.sim, ⟨q1.fr.os, q1.fr.tape, q1.fr.output, q1.fr.size, q1.fr.block, q1.fr.own, fun b hb => by
     rcases hb with hb | hb
     ·rcases q1.fr.sub b hb with h | h | h
      ·exact .inl (.inl h)
      ·exact .inr (.inl h)
      ·exact .inr (.inr h)
     ·exact .inr (.inr (Nat.le_trans hWw hb.1))⟩⟩
    exact k1.call (r1.trunc nt)
   have r8 := r7.turn (S' := fun b => S' b ∧ (b < w.heap.size ∨ isC w' b)) rfl rfl rfl (Nat.le_refl _) (fun _ _ => rfl) (fun _ _ => rfl) (fun b h hc => ⟨h, .inr hc⟩) (fun b h => .inl h.1) (fun k o v b ho hm hb hn => ⟨rfl, fun h => ⟨h, .inl ((hmc k o v b ho hm hb).resolve_right hn)⟩, fun h => h.1⟩)
   exact ⟨r8.sim, ⟨r8.fr.os, r8.fr.tape, r8.fr.output, r8.fr.size, r8.fr.block, r8.fr.own, fun b hb => by
    rcases r8.fr.sub b hb with (h | h) | h | h
    ·exact .inl h
    ·exact .inr (.inr h)
    ·exact .inr (.inl h)
    ·exact .inr (.inr h)⟩⟩
  have hmap : (pre ++ [y]).map (·.1) = pre.map (·.1) ++ [y.1] := by simp
  cases z with
  | nrm =>
   obtain ⟨nt, hnt, hJ⟩ := r6
   obtain ⟨m2, S2, σ2, p1, p2, p3, rfl, p4⟩ := fin nt (· = σ'.trunc nt) (hnm _ _ hJ) rfl
   refine ⟨hkeep, fun _ => hcellsV _ p1.sim p2 hJ, m2, S2, _, p1, p2, p3, ?_, p4⟩
   rw [hmap]; exact hJ
  | ret => obtain ⟨nt, hnt, hJ⟩ := r6; exact ⟨hkeep, .ret, by simp, .inl ⟨rfl, rfl⟩, by rw [hmap]; exact fin nt _ (hnx _ _ _ (by simp) hJ) hJ⟩
  | exit i => obtain ⟨nt, hnt, hJ⟩ := r6; exact ⟨hkeep, .exit i, by simp, .inr ⟨i, rfl, rfl⟩, by rw [hmap]; exact fin nt _ (hnx _ _ _ (by simp) hJ) hJ⟩
 ·rintro D ys V hD hys ⟨m1, S1, σ1, q1, q2, q3, q4, q5⟩ hDh
  obtain ⟨k1, k2⟩ := mark hD q1 q2 hDh
  exact hQ .nrm m1 _ σ1 V e _ k1 k2 (hn σ1 (by rw [← hys]; exact q4))
 ·rintro D c pre V hD hpre ⟨xx, hne, hxx, m1, S1, σ1, q1, q2, q3, q4, q5⟩ hDh
  obtain ⟨k1, k2⟩ := mark hD q1 q2 hDh
  rcases hxx with ⟨rfl, rfl⟩ | ⟨i, rfl, rfl⟩
  ·exact wpIn_ret (hQ .ret m1 _ σ1 V e _ k1 k2 (hx' .ret _ σ1 hne hpre q4))
  ·exact wpIn_exit (hQ (.exit i) m1 _ σ1 V e _ k1 k2 (hx' (.exit i) _ σ1 hne hpre q4))
theorem round_begin {W : World} {O S0 : Nat → Prop} {m1 : Mp} {S1 : Nat → Prop} {σ1 : St} {V w : World} (hWw : W.heap.size ≤ w.heap.size) (q1 : Inv W O S0 m1 S1 σ1 V) (q5 : MC w.heap.size m1 σ1 V) :
  Inv V (own0 m1 σ1) (fun b => S1 b ∨ nonC w.heap.size V b) m1 (fun b => S1 b ∨ nonC w.heap.size V b) σ1 V := by
 refine ⟨(q1.turn (S' := fun b => S1 b ∨ nonC w.heap.size V b) rfl rfl rfl (Nat.le_refl _) (fun _ _ => rfl) (fun _ _ => rfl) (fun b h _ => .inl h) (fun b h => ?_) fun k o v b ho hm hb hn => ⟨rfl, .inl, fun h => h.resolve_right fun h => by rcases q5 k o v b ho hm hb with h2 | h2; exact absurd h.1 (by omega); exact hn h2⟩).sim, ⟨rfl, rfl, rfl, Nat.le_refl _, fun _ _ _ => rfl, fun k o v b ho hro hm hb => .inl ⟨k, o, v, ho, hro, hm, hb⟩, fun b hb => .inl hb⟩⟩
 rcases h with h | h
 ·exact .inl h
 ·exact .inr ⟨Nat.le_trans hWw h.1, h.2.1, h.2.2⟩
theorem round_end {W : World} {O S0 : Nat → Prop} {m m1 m' : Mp} {S S1 S' : Nat → Prop} {σ1 τ : St} {V w w' : World} (hlt0 : ∀ b, S b → b < w.heap.size) (hWw : W.heap.size ≤ w.heap.size) (q1 : Inv W O S0 m1 S1 σ1 V) (q2 : Ext m S w m1 S1 V) (q5 : MC w.heap.size m1 σ1 V)
  (r1 : Inv V (own0 m1 σ1) (fun b => S1 b ∨ nonC w.heap.size V b) m' S' τ w') (r5 : Ext m1 (fun b => S1 b ∨ nonC w.heap.size V b) V m' S' w') (hmc : MC w.heap.size m' τ w') (J : Mp → (Nat → Prop) → St → World → Prop)
  (hJ : J m' (fun b => S' b ∧ (b < w.heap.size ∨ isC w' b)) τ w') : RInvG W O S0 m S w J w' := by
 have i1 := round_begin hWw q1 q5
 refine ⟨m', fun b => S' b ∧ (b < w.heap.size ∨ isC w' b), τ, ?_, ⟨Mp.le_trans q2.le r5.le, fun b hb => ⟨r5.sub b (.inl (q2.sub b hb)), .inl (hlt0 b hb)⟩, fun b hb => (r5.keep b (.inl (q2.sub b hb))).trans (q2.keep b hb)⟩, fun b hb hw => hb.2.resolve_left (by omega), hJ, hmc⟩
 have r7 : Inv W O (fun b => S0 b ∨ W.heap.size ≤ b) m' S' τ w' := by
  have k1 : Inv W O (fun b => S0 b ∨ W.heap.size ≤ b) m1 (fun b => S1 b ∨ nonC w.heap.size V b) σ1 V := ⟨i1.sim, ⟨q1.fr.os, q1.fr.tape, q1.fr.output, q1.fr.size, q1.fr.block, q1.fr.own, fun b hb => by
   rcases hb with hb | hb
   ·rcases q1.fr.sub b hb with h | h | h
    ·exact .inl (.inl h)
    ·exact .inr (.inl h)
    ·exact .inr (.inr h)
   ·exact .inr (.inr (Nat.le_trans hWw hb.1))⟩⟩
  exact k1.call r1
 have r8 := r7.turn (S' := fun b => S' b ∧ (b < w.heap.size ∨ isC w' b)) rfl rfl rfl (Nat.le_refl _) (fun _ _ => rfl) (fun _ _ => rfl) (fun b h hc => ⟨h, .inr hc⟩) (fun b h => .inl h.1) (fun k o v b ho hm hb hn => ⟨rfl, fun h => ⟨h, .inl ((hmc k o v b ho hm hb).resolve_right hn)⟩, fun h => h.1⟩)
 exact ⟨r8.sim, ⟨r8.fr.os, r8.fr.tape, r8.fr.output, r8.fr.size, r8.fr.block, r8.fr.own, fun b hb => by
  rcases r8.fr.sub b hb with (h | h) | h | h
  ·exact .inl h
  ·exact .inr (.inr h)
  ·exact .inr (.inl h)
  ·exact .inr (.inr h)⟩⟩
theorem updl_env {m : Mp} {S : Nat → Prop} {w : World} {n : Nat} : ∀ (ts : List Nat) (vs : List AV) (us : List Value) (tmps : Array Value) (e : Nat → AV), (∀ t ∈ ts, t < n) → tmps.size = n → EnvR m S w e tmps → VRs m S w vs us → vs.length = ts.length →
  EnvR m S w (updl e ts vs) ((ts.zip us).foldl (fun t (x : Nat × Value) => t.setIfInBounds x.1 x.2) tmps) ∧ ((ts.zip us).foldl (fun t (x : Nat × Value) => t.setIfInBounds x.1 x.2) tmps).size = n
 | [], vs, us, tmps, e, _, hn, hE, _, _ => by cases vs <;> exact ⟨hE, hn⟩
 | t :: ts, [], us, tmps, e, _, _, _, _, hl => by simp at hl
 | t :: ts, v :: vs, [], tmps, e, _, _, _, hv, _ => by have := hv.1; simp at this
 | t :: ts, v :: vs, u :: us, tmps, e, ht, hn, hE, hv, hl => by
  have h1 := EnvR.put (a := { tmps := tmps, defers := [] }) hE hn (d := some t) (fun i hi => by cases hi; exact ht t (by simp)) (hv.2 0 v u rfl rfl)
  exact updl_env ts vs us _ _ (fun x hx => ht x (by simp [hx])) h1.2.1 h1.1 ⟨by have := hv.1; simpa using this, fun j y z hy hz => hv.2 (j + 1) y z hy hz⟩ (by simpa using hl)
theorem rangeG_sound {P : Program} {n k : Nat} {g : Operand} {pt : Array Tmp} {assign body : Code} {aops : Array Oper} {x : AX} {ts mt : List Nat} {la : List AOper} {b : ACode} (hx : ax g = some x) (hpt : pt.toList = ts) (has : asgnG assign = some aops) (hl : compOpers P mt n aops [] aops.toList = some la) (hts : ∀ t ∈ ts, t < n) (hk : 1 ≤ k)
  (hbody : ∀ {l k : Nat} {W : World} {O S0 : Nat → Prop} {m : Mp} {S : Nat → Prop} {σ : St} {w : World} {e : Nat → AV} {a : Act} {Qa : awpK} {Q : Exit → Act → World → Prop}, EnvI W O S0 m S σ w n e a → awp (HC P) b Qa e σ →
   (∀ x m' S' σ' w' e' a', EnvI W O S0 m' S' σ' w' n e' a' → Ext m S w m' S' w' → Qa x e' σ' → Q (exitOf x) a' w') → body.wpIn (Fw (some l)) k P Q a w)
  {W : World} {O S0 : Nat → Prop} {m : Mp} {S : Nat → Prop} {σ : St} {w : World} {e : Nat → AV} {a : Act} {Qa : awpK} {Q : Exit → Act → World → Prop} (hI : EnvI W O S0 m S σ w n e a) (h : rangeGK (ItG P) (x.ev e) (runs (HC P) la) (awp (HC P) b) ts Qa e σ)
  (hQ : ∀ x m' S' σ' w' e' a', EnvI W O S0 m' S' σ' w' n e' a' → Ext m S w m' S' w' → Qa x e' σ' → Q (exitOf x) a' w') : (Code.rangeFunc g pt assign body).wpIn (Fw none) k P Q a w := by
 obtain ⟨aid, rfl⟩ : ∃ aid, assign = .region aid aops false := by
  unfold asgnG at has
  split at has
  ·cases has; exact ⟨_, rfl⟩
  ·cases has
 have hasn : ∀ {l k : Nat} {W : World} {O S0 : Nat → Prop} {m : Mp} {S : Nat → Prop} {σ : St} {w : World} {e : Nat → AV} {a : Act} {Kr : (Nat → AV) → St → Prop} {K : Act → World → Prop}, EnvI W O S0 m S σ w n e a → runs (HC P) la Kr e σ →
   (∀ m' S' σ' w' e' a', EnvI W O S0 m' S' σ' w' n e' a' → Ext m S w m' S' w' → Kr e' σ' → a'.defers = a.defers → K a' w') → (Code.region aid aops false).wpIn (Fw (some l)) k P (Exit.then K (fun _ _ _ => False)) a w := by
  intro l k W O S0 m S σ w e a Kr K hI h hK
  refine wpIn_mono (Q := OnN K) (wpIn_region (opsIn_fw (noDefer_of hl) OnN.lets _ _ _ (runs_soundD aops (List.range aops.size) [] aops.toList la ?_ (by simp) hl _ _ _ _ _ _ _ hI h fun m' S' σ' w' e' a' q1 q2 q3 q4 => hK m' S' σ' w' e' a' q1 q2 q3 q4))) (fun e a w h => by cases e <;> first | exact h | exact h.elim)
  intro k i hk
  obtain ⟨h1, h2⟩ := List.getElem?_eq_some_iff.1 hk
  simp at h1 h2
  subst h2
  simp
 obtain ⟨hInv, hE, hsz, hdf⟩ := hI
 generalize hgv : x.ev e = G at h
 unfold rangeGK at h
 split at h
 case h_2 => exact h.elim
 rename_i f caps
 obtain ⟨hpur, vs, ⟨henter, hit⟩, hvl, Ip, Is, Ix, hp0, hs0, hnm, hnx, hb, hn, hx'⟩ := h
 have hv : VR m S w (.func f caps) (a.eval g) := hgv ▸ ax_sound hE hx
 obtain ⟨lb, hlb, hlv⟩ : ∃ lb : Array Value, a.eval g = .func (.func f) #[] lb ∧ VPL S w caps lb := by
  have hvp := hv.pur hpur
  generalize a.eval g = z at hvp
  cases hvp with
  | func hl h => exact ⟨_, rfl, hl, h⟩
 have hlt0 : ∀ b, S b → b < w.heap.size := hInv.sim.lt
 have hWw : W.heap.size ≤ w.heap.size := hInv.fr.size
 obtain ⟨us, hus, hseq⟩ := hit (k - 1) S w lb hlt0 hlv
 have hro : (Fw none).round = none := rfl
 have mark : ∀ {D : Nat} {V : World} {m1 : Mp} {S1 : Nat → Prop} {σ1 : St}, w.heap.size ≤ D → Inv W O S0 m1 S1 σ1 V → Ext m S w m1 S1 V → V.heap[D]? = some (.deferred (some [])) →
   EnvI W O S0 m1 (fun b => S1 b ∨ b = D) σ1 V n e { a with defers := { target := .collected D, args := #[] } :: a.defers } ∧ Ext m S w m1 (fun b => S1 b ∨ b = D) V := by
  intro D V m1 S1 σ1 hD q1 q2 hDh
  have hDV := (Array.getElem?_eq_some_iff.1 hDh).1
  have x1 : Ext m S w m1 (fun b => S1 b ∨ b = D) V := ⟨q2.le, fun b h => .inl (q2.sub b h), q2.keep⟩
  refine ⟨⟨q1.turn rfl rfl rfl (Nat.le_refl _) (fun _ _ => rfl) (fun _ _ => rfl) (fun b h _ => .inl h) (fun b h => ?_) (fun k o v b ho hm hb hn => ⟨rfl, .inl, fun h => ?_⟩), fun j => (hE j).ext x1, hsz, ?_⟩, x1⟩
  ·rcases h with h | rfl
   ·exact .inl h
   ·exact .inr ⟨Nat.le_trans hWw hD, hDV, not_isC hDh rfl⟩
  ·rcases h with h | rfl
   ·exact h
   ·obtain ⟨v', hm', hob, _⟩ := q1.sim.obj k o ho
    rw [hm] at hm'; obtain rfl := Option.some.inj hm'
    rcases hob.isC hb with h | ⟨_, _, _, h⟩
    ·exact absurd h hn
    ·rw [hDh] at h; cases h
  ·have h2 := hdf.ext x1
   refine ⟨List.pairwise_cons.2 ⟨fun d hd he => ?_, h2.1⟩, fun d hd => ?_⟩
   ·obtain ⟨D', e1, _, h3, _⟩ := hdf.2 d hd
    subst e1
    have := hlt0 _ h3
    simp only [Target.collected.injEq] at he
    omega
   ·rcases List.mem_cons.1 hd with rfl | hd
    ·exact ⟨D, rfl, Nat.le_trans hWw hD, .inr rfl, hDh⟩
    ·exact h2.2 d hd
 have hvget : ∀ y : {i : Nat // i < vs.length}, vs[y.1]? = some (vs[y.1]'y.2) := fun y => List.getElem?_eq_getElem y.2
 have hmem : ∀ y : {i : Nat // i < vs.length}, (vs[y.1]'y.2).length = ts.length := fun y => hvl _ (List.getElem_mem _)
 refine wpIn_rangeFunc_ownH (F := Fw none) hro hk (gf := f) (lb := lb) hlb trivial henter hseq (fun h k b hb => (k b hb).trans (h b hb)) (fun V l o o' hl ho h1 h2 b hb => World.putObj_heap_other (by have := hlt0 b hb; omega)) (Below.refl _ _)
  (fun y => by rw [(hus y.1 _ (hvget y)).1, hmem y, ← hpt, Array.length_toList])
  (fun pre V => Ip (pre.map (·.1)) ∧ RInv W O S0 m S w Is V) (fun c pre V => ∃ xx, xx ≠ .nrm ∧ ((c = .ret ∧ xx = .ret) ∨ ∃ i, c = .exit i ∧ xx = .exit i) ∧ RInv W O S0 m S w (Ix xx (pre.map (·.1))) V)
  ?_ (fun c => ?_) ⟨hp0, m, S, σ, hInv, Ext.refl m S w, fun b h1 h2 => by have := hlt0 b h1; omega, hs0, MC.of (NoMap.refl σ) hInv.sim (Mp.le_refl m) hInv.sim⟩
  (fun y a' V => RInvG W O S0 m S w (fun m2 S2 σ2 V => ∃ e2, EnvR m2 S2 V e2 a'.tmps ∧ a'.tmps.size = n ∧ a'.defers = [] ∧ ∀ pre, Ip pre → pre.length < vs.length → awp (HC P) b (RangeGQ σ.n Ip Is Ix (pre ++ [y.1])) e2 σ2) V)
  (fun y a' => RInvG.own hlt0 hWw (fun (_ : Unit) m2 S2 σ2 V => ∃ e2, EnvR m2 S2 V e2 a'.tmps ∧ a'.tmps.size = n ∧ a'.defers = [] ∧ ∀ pre, Ip pre → pre.length < vs.length → awp (HC P) b (RangeGQ σ.n Ip Is Ix (pre ++ [y.1])) e2 σ2)
   fun _ m1 S1 σ1 V V' hkp ⟨e2, h1, h2⟩ => ⟨e2, fun j => (h1 j).keepC (Mp.le_refl _) fun b hb hc => ⟨hb, hkp b hb hc⟩, h2⟩) ?_ ?_ ?_ ?_
 ·rintro pre V V' row ⟨h1, h2⟩ hg hr
  exact ⟨h1, RInv.own hlt0 hWw (fun _ : Unit => Is) () V V' row h2 hg hr⟩
 ·rintro pre V V' row ⟨xx, h1, h2, h3⟩ hg hr
  exact ⟨xx, h1, h2, RInv.own hlt0 hWw (fun pre : List {i : Nat // i < vs.length} => Ix xx (pre.map (·.1))) pre V V' row h3 hg hr⟩
 ·rintro l pre y V K ⟨hip, m1, S1, σ1, q1, q2, q3, q4, q5⟩ hK
  have i1 := round_begin hWw q1 q5
  have x1 : Ext m S w m1 (fun b => S1 b ∨ nonC w.heap.size V b) V := ⟨q2.le, fun b h => .inl (q2.sub b h), q2.keep⟩
  have hvals := hus y.1 _ (hvget y)
  have hvr : VRs m1 (fun b => S1 b ∨ nonC w.heap.size V b) V (vs[y.1]'y.2) (us y.1).toList := ⟨by simpa using hvals.1, fun j z u hz hu => .pure ((hvals.2 j z u hz (by simpa using hu)).keep x1.sub x1.keep)⟩
  obtain ⟨e1, e2⟩ := updl_env ts _ _ a.tmps e hts hsz (fun j => (hE j).ext x1) hvr (hmem y)
  have hfold : (pt.zip (us y.1)).foldl (fun t (p, v) => t.setIfInBounds p v) a.tmps = (ts.zip (us y.1).toList).foldl (fun t (x : Nat × Value) => t.setIfInBounds x.1 x.2) a.tmps := by
   rw [← hpt, ← Array.foldl_toList, Array.toList_zip]
  rw [hfold]
  refine hasn (l := l) (Kr := RangeGA σ Ip Is vs.length fun pre => awp (HC P) b (RangeGQ σ.n Ip Is Ix (pre ++ [y.1]))) ⟨i1, e1, e2, Marks.nil _ _ _⟩ (hb y.1 _ σ1 (hvget y) q4) ?_
  rintro m' S' σ' w' e' a' ⟨r1, r2, r3, r4⟩ r5 ⟨⟨nt, hnt, hIs⟩, hnm2, hbd⟩ r7
  have hkeep : KeepsFrom w.heap.size V w' := ⟨r1.fr.size, fun b o h1 h2 h3 => (r5.keep b (.inr ⟨h1, (Array.getElem?_eq_some_iff.1 h2).1, not_isC h2 h3⟩)).trans h2⟩
  refine hK a' w' hkeep (fun b hb => r5.keep b (.inl (q2.sub b hb))) ⟨hip, ?_⟩ ?_
  ·exact round_end hlt0 hWw q1 q2 q5 (r1.trunc nt) r5 (MC.of (hnm _ hIs) hInv.sim (Mp.le_trans q2.le r5.le) (r1.trunc nt).sim) _ hIs
  ·exact round_end hlt0 hWw q1 q2 q5 r1 r5 (MC.of hnm2 hInv.sim (Mp.le_trans q2.le r5.le) r1.sim) _ ⟨e', fun j => (r2 j).keepC (Mp.le_refl _) fun b hb hc => ⟨⟨hb, .inr hc⟩, rfl⟩, r3, r7, hbd⟩
 ·rintro l pre y a' V _ _ ⟨hip, _⟩ ⟨m1, S1, σ1, q1, q2, q3, ⟨e2, hE2, hsz2, hd2, hb2⟩, q5⟩ hlen
  have i1 := round_begin hWw q1 q5
  have x2 : Ext m1 S1 V m1 (fun b => S1 b ∨ nonC w.heap.size V b) V := ⟨Mp.le_refl _, fun b h => .inl h, fun _ _ => rfl⟩
  refine hbody (l := l) ⟨i1, fun j => (hE2 j).ext x2, hsz2, by rw [hd2]; exact Marks.nil _ _ _⟩ (hb2 _ hip (by simpa using hlen)) ?_
  rintro z m' S' σ' w' e' a' ⟨r1, r2, r3, r4⟩ r5 r6
  have hkeep : KeepsFrom w.heap.size V w' := ⟨r1.fr.size, fun b o h1 h2 h3 => (r5.keep b (.inr ⟨h1, (Array.getElem?_eq_some_iff.1 h2).1, not_isC h2 h3⟩)).trans h2⟩
  have fin : ∀ (nt : Nat) (J : St → Prop), NoMap σ (σ'.trunc nt) → J (σ'.trunc nt) → RInv W O S0 m S w J w' := fun nt J h1 h2 =>
   round_end hlt0 hWw q1 q2 q5 (r1.trunc nt) r5 (MC.of h1 hInv.sim (Mp.le_trans q2.le r5.le) (r1.trunc nt).sim) _ h2
  have hmap : (pre ++ [y]).map (·.1) = pre.map (·.1) ++ [y.1] := by simp
  cases z with
  | nrm =>
   obtain ⟨hip2, nt, hnt, hJ⟩ := r6
   exact ⟨hkeep, fun b hb => r5.keep b (.inl (q2.sub b hb)), by rw [hmap]; exact hip2, fin nt _ (hnm _ hJ) hJ⟩
  | ret => obtain ⟨nt, hnt, hJ⟩ := r6; exact ⟨hkeep, .ret, by simp, .inl ⟨rfl, rfl⟩, by rw [hmap]; exact fin nt _ (hnx _ _ _ (by simp) hJ) hJ⟩
  | exit i => obtain ⟨nt, hnt, hJ⟩ := r6; exact ⟨hkeep, .exit i, by simp, .inr ⟨i, rfl, rfl⟩, by rw [hmap]; exact fin nt _ (hnx _ _ _ (by simp) hJ) hJ⟩
 ·rintro D ys V hD hys ⟨hip, m1, S1, σ1, q1, q2, q3, q4, q5⟩ hDh
  obtain ⟨k1, k2⟩ := mark hD q1 q2 hDh
  exact hQ .nrm m1 _ σ1 V e _ k1 k2 (hn (by rw [← hys]; exact hip) σ1 q4)
 ·rintro D c pre V hD hpre ⟨xx, hne, hxx, m1, S1, σ1, q1, q2, q3, q4, q5⟩ hDh
  obtain ⟨k1, k2⟩ := mark hD q1 q2 hDh
  rcases hxx with ⟨rfl, rfl⟩ | ⟨i, rfl, rfl⟩
  ·exact wpIn_ret (hQ .ret m1 _ σ1 V e _ k1 k2 (hx' .ret _ σ1 hne hpre q4))
  ·exact wpIn_exit (hQ (.exit i) m1 _ σ1 V e _ k1 k2 (hx' (.exit i) _ σ1 hne hpre q4))
theorem awp_sound {mt : List Nat} {n : Nat} : ∀ (c : Code) (ac : ACode), comp P mt n c = some ac →
  ∀ {ro : Option Nat}, (ro = none ∨ noRange c = true) → ∀ {k : Nat}, 1 ≤ k ∨ ro ≠ none → ∀ {W : World} {O S0 : Nat → Prop} {m : Mp} {S : Nat → Prop} {σ : St} {w : World} {e : Nat → AV} {a : Act} {Qa : awpK} {Q : Exit → Act → World → Prop}, EnvI W O S0 m S σ w n e a → awp (HC P) ac Qa e σ →
  (∀ x m' S' σ' w' e' a', EnvI W O S0 m' S' σ' w' n e' a' → Ext m S w m' S' w' → Qa x e' σ' → Q (exitOf x) a' w') → c.wpIn (Fw ro) k P Q a w := by
 intro c
 induction c with
 | skip =>
  intro ac hc ro hro k hk W O S0 m S σ w e a Qa Q hI h hQ
  simp only [comp, Option.some.injEq] at hc; subst hc
  exact wpIn_skip (hQ .nrm m S σ w e a hI (Ext.refl m S w) h)
 | ret =>
  intro ac hc ro hro k hk W O S0 m S σ w e a Qa Q hI h hQ
  simp only [comp, Option.some.injEq] at hc; subst hc
  exact wpIn_ret (hQ .ret m S σ w e a hI (Ext.refl m S w) h)
 | exit id =>
  intro ac hc ro hro k hk W O S0 m S σ w e a Qa Q hI h hQ
  simp only [comp, Option.some.injEq] at hc; subst hc
  exact wpIn_exit (hQ (.exit id) m S σ w e a hI (Ext.refl m S w) h)
 | region id ops draw =>
  intro ac hc ro hro k hk W O S0 m S σ w e a Qa Q hI h hQ
  simp only [comp, compReg] at hc
  cases draw with
  | true =>
   simp only [if_true] at hc
   split at hc
   ·rename_i l hl
    split at hc
    ·rename_i hok
     simp only [Option.some.injEq] at hc; subst hc
     simp only [Bool.and_eq_true] at hok
     refine wpIn_mono (Q := OnN (fun a' w' => Q .normal a' w')) (wpIn_region_any hok.1.2 (anyIn_fw (noDefer_of hl) OnN.lets _ _ _ _ (region_heavy hl hok.2 hI h fun m' S' σ' w' e' a' q1 q2 q3 => hQ .nrm m' S' σ' w' e' a' q1 q2 q3))) (fun e a w h => by cases e <;> first | exact h | exact h.elim)
    split at hc
    ·rename_i hok
     simp only [Option.some.injEq] at hc; subst hc
     simp only [Bool.and_eq_true] at hok
     refine wpIn_mono (Q := OnN (fun a' w' => Q .normal a' w')) (wpIn_region_any hok.1 (anyIn_fw (noDefer_of hl) OnN.lets _ _ _ _ (region_draw hl hok.2 hI (h.2 _ rfl) fun m' S' σ' w' e' a' q1 q2 q3 => hQ .nrm m' S' σ' w' e' a' q1 q2 q3))) (fun e a w h => by cases e <;> first | exact h | exact h.elim)
    ·cases hc
   ·cases hc
  | false =>
   simp only [Bool.false_eq_true, if_false] at hc
   obtain ⟨l, hl, rfl⟩ := Option.map_eq_some_iff.1 hc
   refine wpIn_mono (Q := OnN (fun a' w' => Q .normal a' w')) (wpIn_region (opsIn_fw (noDefer_of hl) OnN.lets _ _ _ (runs_sound ops (List.range ops.size) [] ops.toList l ?_ (by simp) hl _ _ _ _ _ _ _ hI (h.1 rfl) fun m' S' σ' w' e' a' q1 q2 q3 => hQ .nrm m' S' σ' w' e' a' q1 q2 q3))) (fun e a w h => by cases e <;> first | exact h | exact h.elim)
   intro k i hk
   obtain ⟨h1, h2⟩ := List.getElem?_eq_some_iff.1 hk
   simp at h1 h2
   subst h2
   simp
 | seq x y ihx ihy =>
  intro ac hc ro hro k hk W O S0 m S σ w e a Qa Q hI h hQ
  simp only [comp] at hc
  split at hc
  ·rename_i a1 b1 h1 h2
   simp only [Option.some.injEq] at hc; subst hc
   refine wpIn_seq (ihx _ h1 (hro.imp id fun h => (noRange_seq h).1) hk hI h ?_)
   intro z m' S' σ' w' e' a' q1 q2 q3
   cases z with
   | nrm => exact ihy _ h2 (hro.imp id fun h => (noRange_seq h).2) hk q1 q3 fun z2 m2 S2 σ2 w2 e2 a2 p1 p2 p3 => hQ z2 m2 S2 σ2 w2 e2 a2 p1 (q2.trans p2) p3
   | ret => exact hQ .ret m' S' σ' w' e' a' q1 q2 q3
   | exit id => exact hQ (.exit id) m' S' σ' w' e' a' q1 q2 q3
  ·cases hc
 | cond x y z ihy ihz =>
  intro ac hc ro hro k hk W O S0 m S σ w e a Qa Q hI h hQ
  simp only [comp] at hc
  split at hc
  ·rename_i c1 a1 b1 h0 h1 h2
   simp only [Option.some.injEq] at hc; subst hc
   simp only [awp] at h
   generalize ht : c1.ev e = g at h
   unfold condK at h
   split at h
   ·rename_i t
    have hv := ax_sound hI.2.1 h0
    rw [ht] at hv
    refine wpIn_cond hv.of_bool ?_
    cases t with
    | true => exact ihy _ h1 (hro.imp id fun h => (noRange_seq h).1) hk hI (h.1 rfl) hQ
    | false => exact ihz _ h2 (hro.imp id fun h => (noRange_seq h).2) hk hI (h.2 rfl) hQ
   ·exact h.elim
  ·cases hc
 | block id x ih =>
  intro ac hc ro hro k hk W O S0 m S σ w e a Qa Q hI h hQ
  simp only [comp] at hc
  obtain ⟨a1, h1, rfl⟩ := Option.map_eq_some_iff.1 hc
  refine wpIn_block (ih _ h1 hro hk hI h ?_)
  intro z m' S' σ' w' e' a' q1 q2 q3
  cases z with
  | nrm => exact hQ .nrm m' S' σ' w' e' a' q1 q2 q3
  | ret => exact hQ .ret m' S' σ' w' e' a' q1 q2 q3
  | exit i =>
   simp only [exitOf, Exit.inBlock]
   simp only [BlockQ] at q3
   split
   ·rename_i hi
    simp only [hi, if_true] at q3
    exact hQ .nrm m' S' σ' w' e' a' q1 q2 q3
   ·rename_i hi
    simp only [hi, if_false] at q3
    exact hQ (.exit i) m' S' σ' w' e' a' q1 q2 q3
 | loop x ih =>
  intro ac hc ro hro k hk W O S0 m S σ w e a Qa Q hI h hQ
  simp only [comp] at hc
  obtain ⟨a1, h1, rfl⟩ := Option.map_eq_some_iff.1 hc
  obtain ⟨I, ⟨k0, h0⟩, hr⟩ := h
  refine wpIn_loop_wf (fun k a2 w1 => ∃ m1 S1 σ1 e1, EnvI W O S0 m1 S1 σ1 w1 n e1 a2 ∧ Ext m S w m1 S1 w1 ∧ I k e1 σ1) k0 ⟨m, S, σ, e, hI, Ext.refl m S w, h0⟩ ?_
  rintro kk a2 w1 ⟨m1, S1, σ1, e1, hI1, hX1, hi1⟩
  refine ih _ h1 hro hk hI1 (hr kk e1 σ1 hi1) ?_
  intro z m' S' σ' w' e' a' q1 q2 q3
  cases z with
  | nrm =>
   obtain ⟨k', hk', nt, _, hI'⟩ := q3
   exact ⟨k', hk', m', S', σ'.trunc nt, e', ⟨q1.1.trunc nt, q1.2⟩, hX1.trans q2, hI'⟩
  | ret => exact hQ .ret m' S' σ' w' e' a' q1 (hX1.trans q2) q3
  | exit i => exact hQ (.exit i) m' S' σ' w' e' a' q1 (hX1.trans q2) q3
 | rangeFunc g pt assign body _ ih =>
  intro ac hc ro hro k hk W O S0 m S σ w e a Qa Q hI h hQ
  simp only [comp] at hc
  split at hc
  ·rename_i x t t' d b hx hpt has hb
   split at hc
   ·rename_i hcs
    obtain ⟨rfl, ht, hd, hnr⟩ := hcs
    simp only [Option.some.injEq] at hc; subst hc
    have hro' : ro = none := hro.resolve_right (by simp [noRange])
    subst hro'
    exact range_sound hx hpt has ht hd (hk.resolve_right (by simp)) (fun {l k} {W O S0 m S σ w e a Qa Q} hI h hQ => ih _ hb (ro := some l) (.inr hnr) (k := k) (.inr (by simp)) hI h hQ) hI h hQ
   ·cases hc
  ·rename_i x t1 t2 ts b hx hpt hb
   split at hc
   ·rename_i aops has
    split at hc
    ·rename_i la hla
     split at hc
     ·rename_i hcs
      obtain ⟨hts, hnr⟩ := hcs
      simp only [Option.some.injEq] at hc; subst hc
      have hro' : ro = none := hro.resolve_right (by simp [noRange])
      subst hro'
      exact rangeG_sound hx hpt has hla (fun t ht => by simpa using List.all_eq_true.1 hts t ht) (hk.resolve_right (by simp)) (fun {l k} {W O S0 m S σ w e a Qa Q} hI h hQ => ih _ hb (ro := some l) (.inr hnr) (k := k) (.inr (by simp)) hI h hQ) hI h hQ
     ·cases hc
    ·cases hc
   ·cases hc
  ·cases hc
 | scope => intro ac hc; simp [comp] at hc
 | label => intro ac hc; simp [comp] at hc
 | goto => intro ac hc; simp [comp] at hc
 | refuse => intro ac hc; simp [comp] at hc
end
end Go.Ab
