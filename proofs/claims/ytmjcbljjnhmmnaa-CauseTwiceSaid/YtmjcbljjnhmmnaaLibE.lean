/- OWN WORK, put together by tools/asm.py, seat.py, mini.py. -/
import Derived.Test.YtmjcbljjnhmmnaaLibD
import Derived.Lib.Overlaps
set_option linter.unusedSimpArgs false
set_option linter.unusedVariables false
set_option maxRecDepth 100000
set_option maxHeartbeats 1000000
namespace Go.Proofs.Try
open Go.Ab Go
open Int renaming reduceEq → jA, reduceLT → jB, reduceLE → jC, reduceToNat → jD
open Go.Ab renaming w_ite_ne → jM, w_ite_lt → jN, wrap_id → jO, w_app_nl → jP
open Nat renaming reduceLT → jE, reduceEqDiff → jF, reduceAdd → jG, reduceLeDiff → jH, reduceSub → jI, reduceMul → jJ, sub_zero → jK, sub_self → jL
theorem chB_iff {α : Type} {R : α → α → Bool} {P : α → Prop} {L : α → α → Prop} (hR : ∀ a b, R a b = true ↔ L a b ∧ P b) (ht : ∀ a b c, L a b → L b c → L a c) :
  ∀ (l : List α) (s : α), chB R s l = true ↔ (∀ x ∈ l, L s x ∧ P x) ∧ l.Pairwise L
 | [], s => by simp [chB]
 | o :: r, s => by
  rw [chB, Bool.and_eq_true, hR, chB_iff hR ht r o, List.pairwise_cons]
  constructor
  ·rintro ⟨⟨h1, h2⟩, h3, h4⟩
   refine ⟨fun x hx => ?_, fun x hx => (h3 x hx).1, h4⟩
   rcases List.mem_cons.1 hx with rfl | hx
   ·exact ⟨h1, h2⟩
   ·exact ⟨ht _ _ _ h1 (h3 x hx).1, (h3 x hx).2⟩
  ·rintro ⟨h1, h2, h3⟩
   exact ⟨h1 o (List.mem_cons_self ..), fun x hx => ⟨h2 x hx, (h1 x (List.mem_cons_of_mem _ hx)).2⟩, h3⟩
theorem csL_iff {a b : Cs} : csL a b = true ↔ a.k < b.k ∨ (a.k = b.k ∧ a.s < b.s) := by simp [csL]
theorem csL_tr (a b c : Cs) (h : csL a b = true) (k : csL b c = true) : csL a c = true := by rw [csL_iff] at *; omega
theorem csL_tot {a b : Cs} (h : csL a b = false) (hn : a ≠ b) : csL b a = true := by
 rw [← Bool.not_eq_true, csL_iff] at h
 rw [csL_iff]
 rw [ne_eq, cs_eq] at hn
 omega
theorem cau_iff {l : List Cs} : cauB l = true ↔ (∀ c ∈ l, csB c = true) ∧ l.Pairwise fun a b => csL a b = true := by
 rw [cauB, chB_iff (P := fun c => csB c = true) (L := fun a b => csL a b = true) (fun a b => by rw [csR, Bool.and_eq_true, And.comm]) csL_tr]
 constructor
 ·rintro ⟨h1, h2⟩
  exact ⟨fun c hc => (h1 c hc).2, h2⟩
 ·rintro ⟨h1, h2⟩
  refine ⟨fun c hc => ⟨?_, h1 c hc⟩, h2⟩
  have := h1 c hc
  simp only [csB, inW, Bool.and_eq_true, decide_eq_true_eq] at this
  rw [csL_iff]
  simp only
  omega
theorem ac_iff {n : Nat} {l : List Wn} : chB (wnR n) wn0 l = true ↔ (∀ w ∈ l, 0 ≤ w.p ∧ w.p < (n : Int) ∧ wnB w = true) ∧ l.Pairwise fun a b => a.p < b.p := by
 rw [chB_iff (P := fun w => w.p < (n : Int) ∧ wnB w = true) (L := fun a b => a.p < b.p) (fun a b => by simp [wnR, and_assoc]) fun a b c h k => by omega]
 constructor
 ·rintro ⟨h1, h2⟩
  exact ⟨fun w hw => by have := h1 w hw; simp only [wn0] at this; exact ⟨by omega, this.2⟩, h2⟩
 ·rintro ⟨h1, h2⟩
  exact ⟨fun w hw => by have := h1 w hw; simp only [wn0]; exact ⟨by omega, this.2⟩, h2⟩
theorem idx_lt {α : Type} {q : α → Bool} {l : List α} : ∀ a ∈ l.take (l.findIdx q), q a = false := fun a ha => by
 obtain ⟨i, hi⟩ := List.getElem?_of_mem ha
 have h1 := (List.getElem?_eq_some_iff.1 hi).1
 rw [List.length_take] at h1
 rw [List.getElem?_take, if_pos (by omega)] at hi
 obtain ⟨h2, rfl⟩ := List.getElem?_eq_some_iff.1 hi
 simpa using List.not_of_lt_findIdx (p := q) (xs := l) (i := i) (by omega)
theorem pw_get {α : Type} {L : α → α → Prop} {l : List α} (h : l.Pairwise L) {i j : Nat} {x y : α} (hx : l[i]? = some x) (hy : l[j]? = some y) (hij : i < j) : L x y := by
 obtain ⟨hi, rfl⟩ := List.getElem?_eq_some_iff.1 hx
 obtain ⟨hj, rfl⟩ := List.getElem?_eq_some_iff.1 hy
 exact List.pairwise_iff_getElem.1 h i j hi hj hij
theorem idx_ge {α : Type} {q : α → Bool} {L : α → α → Prop} {l : List α} (h : l.Pairwise L) : ∀ b ∈ l.drop (l.findIdx q), ∃ y, l[l.findIdx q]? = some y ∧ q y = true ∧ (b = y ∨ L y b) := fun b hb => by
 obtain ⟨i, hi⟩ := List.getElem?_of_mem hb
 rw [List.getElem?_drop] at hi
 have h1 := (List.getElem?_eq_some_iff.1 hi).1
 have h2 : l.findIdx q < l.length := by omega
 have h3 : l[l.findIdx q]? = some l[l.findIdx q] := List.getElem?_eq_getElem h2
 refine ⟨_, h3, List.findIdx_getElem, ?_⟩
 cases i with
 | zero => rw [Nat.add_zero, h3] at hi; exact .inl (Option.some.inj hi).symm
 | succ i => exact .inr (pw_get h h3 hi (by omega))
theorem idx_gt {α : Type} {k : Nat} {L : α → α → Prop} {l : List α} {y : α} (h : l.Pairwise L) (hy : l[k]? = some y) : ∀ b ∈ l.drop (k + 1), L y b := fun b hb => by
 obtain ⟨i, hi⟩ := List.getElem?_of_mem hb
 rw [List.getElem?_drop] at hi
 exact pw_get h hy hi (by omega)
theorem pw_ins {α : Type} {L : α → α → Prop} {l : List α} {i j : Nat} {x : α} (h : l.Pairwise L) (hij : i ≤ j) (h1 : ∀ a ∈ l.take i, L a x) (h2 : ∀ b ∈ l.drop j, L x b) : (l.take i ++ x :: l.drop j).Pairwise L := by
 rw [List.pairwise_append, List.pairwise_cons]
 refine ⟨h.sublist (List.take_sublist ..), ⟨h2, h.sublist (List.drop_sublist ..)⟩, fun a ha b hb => ?_⟩
 rcases List.mem_cons.1 hb with rfl | hb
 ·exact h1 a ha
 ·have h3 : (l.take i ++ l.drop j).Pairwise L := by
   refine h.sublist ?_
   conv => rhs; rw [← List.take_append_drop i l]
   refine List.Sublist.append (List.Sublist.refl _) ?_
   rw [show j = i + (j - i) by omega, ← List.drop_drop]
   exact List.drop_sublist ..
  exact (List.pairwise_append.1 h3).2.2 a ha b hb
theorem addC_ok {l : List Cs} {c : Cs} (h : cauB l = true) (hc : csB c = true) : cauB (addC l c) = true := by
 rw [addC]
 cases hb : hsB l c
 ·rw [if_neg (by simp)]
  rw [cau_iff] at h ⊢
  refine ⟨fun x hx => ?_, pw_ins h.2 (Nat.le_refl _) (fun a ha => ?_) fun b hbm => ?_⟩
  ·rcases List.mem_append.1 hx with hx | hx
   ·exact h.1 x (List.mem_of_mem_take hx)
   ·rcases List.mem_cons.1 hx with rfl | hx
    ·exact hc
    ·exact h.1 x (List.mem_of_mem_drop hx)
  ·have := idx_lt a ha; simpa using this
  ·obtain ⟨y, hy, hq, hr⟩ := idx_ge h.2 b hbm
   have hyc : y ≠ c := fun e => by
    rw [hsB, hsI, hy] at hb
    simp [e] at hb
   have h3 : csL c y = true := csL_tot (by simpa using hq) hyc
   rcases hr with rfl | hr
   ·exact h3
   ·exact csL_tr _ _ _ h3 hr
 ·rw [if_pos rfl]; exact h
theorem cauE_csB {c : Cs} : cauE c = 0 ↔ csB c = true := by
 rw [cauE, csB]
 cases inW c.k 1 4 <;> cases inW c.s 0 5 <;> simp
theorem Vb.ac_pw {b : Bo} (h : Vb b) : b.ac.Pairwise fun a b => a.p < b.p := (ac_iff.1 h.c).2
theorem Vb.mk_ac {b : Bo} (h : Vb b) {l : List Wn} (h1 : ∀ w ∈ l, 0 ≤ w.p ∧ w.p < b.ps.length ∧ wnB w = true) (h2 : l.Pairwise fun a b => a.p < b.p) : Vb ⟨b.ps, b.pa, l⟩ :=
 ⟨h.p, h.q, h.w, h.l, ac_iff.2 ⟨h1, h2⟩⟩
theorem plI_ins {l : List Wn} {p : Int} (h : l.Pairwise fun a b => a.p < b.p) : (∀ a ∈ l.take (plI l p), a.p < p) ∧ ∀ b ∈ l.drop (jAt l p), p < b.p := by
 refine ⟨fun a ha => by have := idx_lt a ha; simpa using this, fun b hb => ?_⟩
 rw [jAt] at hb
 cases e : plB l p
 ·rw [e, if_neg (by simp)] at hb
  obtain ⟨y, hy, hq, hr⟩ := idx_ge h b hb
  have hyp : y.p ≠ p := fun e2 => by rw [plB, plI, hy] at e; simp [e2] at e
  have : p ≤ y.p := by simpa using hq
  rcases hr with rfl | hr <;> omega
 ·rw [e, if_pos rfl] at hb
  obtain ⟨h1, h2, h3⟩ := plB_get e
  have := idx_gt h h2 b hb
  omega
theorem wAt_p (l : List Wn) (p t : Int) : (wAt l p t).p = p := by
 rw [wAt]
 cases e : plB l p
 ·rfl
 ·exact (plB_get e).2.2
theorem Vb.iss {b : Bo} {p t : Int} {c : Cs} (h : Vb b) (hp : 0 ≤ p ∧ p < b.ps.length) (ht : 0 ≤ t ∧ t ≤ 16777216) (hc : csB c = true) : Vb (issB b p t c) := by
 have hpw := h.ac_pw
 have hal := (ac_iff.1 h.c).1
 obtain ⟨h1, h2⟩ := plI_ins (p := p) hpw
 refine h.mk_ac (fun w hw => ?_) ?_
 ·rcases List.mem_append.1 hw with hw | hw
  ·exact hal w (List.mem_of_mem_take hw)
  ·rcases List.mem_cons.1 hw with rfl | hw
   ·have hcs : cauB (wAt b.ac p t).cs = true ∧ 0 ≤ (wAt b.ac p t).t ∧ (wAt b.ac p t).t ≤ 16777216 := by
     rw [wAt]
     cases e : plB b.ac p
     ·exact ⟨rfl, ht.1, ht.2⟩
     ·have h5 := wnB_bd (h.wn _ (List.mem_of_getElem? (plB_get e).2.1))
      exact ⟨h5.2.2.2.2.1, h5.1, h5.2.1⟩
    refine ⟨by simp only [wAt_p]; omega, by simp only [wAt_p]; omega, ?_⟩
    simp [wnB, inW, addC_ok hcs.1 hc, hcs.2.1, hcs.2.2]
   ·exact hal w (List.mem_of_mem_drop hw)
 ·refine pw_ins hpw (by rw [jAt]; split <;> omega) (fun a ha => ?_) fun x hx => ?_
  ·simp only [wAt_p]; exact h1 a ha
  ·simp only [wAt_p]; exact h2 x hx
theorem Vb.keep {b : Bo} {p : Int} {ks : List Cs} (h : Vb b) : Vb (keepB b p ks) := by
 have hpw := h.ac_pw
 have hal := (ac_iff.1 h.c).1
 rw [keepB, keepL]
 cases e : plB b.ac p
 ·exact h
 ·obtain ⟨h1, h2, h3⟩ := plB_get e
  have hw := hal _ (List.mem_of_getElem? h2)
  have hb := wnB_bd hw.2.2
  rw [if_pos rfl, putC]
  generalize gA b.ac (plI b.ac p) = x at *
  refine h.mk_ac (fun w hw2 => ?_) ?_
  ·rcases List.mem_append.1 hw2 with hw2 | hw2
   ·exact hal w (List.mem_of_mem_take hw2)
   ·rcases List.mem_cons.1 hw2 with rfl | hw2
    ·refine ⟨hw.1, hw.2.1, ?_⟩
     have h7 : cauB (x.cs.filter (inK ks)) = true := by
      have := cau_iff.1 hb.2.2.2.2.1
      exact cau_iff.2 ⟨fun c hc => this.1 c (List.mem_filter.1 hc).1, this.2.filter _⟩
     simp only [wnB, inW, Bool.and_eq_true, decide_eq_true_eq, Bool.or_eq_true]
     refine ⟨⟨⟨⟨hb.1, hb.2.1⟩, h7⟩, hb.2.2.1, hb.2.2.2.1⟩, ?_⟩
     rcases hb.2.2.2.2.2 with h8 | h8
     ·left; rw [h8]; rfl
     ·exact .inr h8
    ·exact hal w (List.mem_of_mem_drop hw2)
  ·refine pw_ins hpw (by omega) (fun a ha => ?_) fun y hy => ?_
   ·have h8 := take_mid h2
    rw [← h8] at hpw
    exact (List.pairwise_append.1 hpw).2.2 a ha x (List.mem_cons_self ..)
   ·exact idx_gt hpw h2 y hy
theorem Vb.tick {b : Bo} {q : List Bool} {hd : Int} (h : Vb b) (hh : 1 ≤ hd ∧ hd ≤ 96) : Vb (tickB b q hd) := by
 have hpw := h.ac_pw
 have hal := (ac_iff.1 h.c).1
 refine h.mk_ac (fun w hw => ?_) ?_
 ·obtain ⟨x, hx, rfl⟩ := List.mem_map.1 hw
  obtain ⟨hx, hg⟩ := List.mem_filter.1 hx
  have hw := hal x hx
  have hb := wnB_bd hw.2.2
  refine ⟨hw.1, hw.2.1, ?_⟩
  simp only [wnB, inW, Bool.and_eq_true, decide_eq_true_eq, Bool.or_eq_true]
  simp only [goneS, Bool.not_eq_true', Bool.and_eq_false_imp, Bool.and_eq_true, decide_eq_true_eq, decide_eq_false_iff_not] at hg
  rw [calmS]
  split
  ·rename_i hc
   exact ⟨⟨⟨⟨hb.1, hb.2.1⟩, hb.2.2.2.2.1⟩, by omega, by omega⟩, .inr rfl⟩
  ·rename_i hc
   have hc1 : x.cs = [] := Classical.byContradiction fun e => hc (.inl e)
   have hc2 : q.getD x.p.toNat false = true := by cases e : q.getD x.p.toNat false; exact absurd (.inr e) hc; rfl
   have := hg ⟨hc1, hc2⟩
   exact ⟨⟨⟨⟨hb.1, hb.2.1⟩, hb.2.2.2.2.1⟩, by omega, by omega⟩, .inl hc1⟩
 ·exact List.pairwise_map.2 (hpw.filter _)
theorem Vb.see {b : Bo} {now : List Int} (h : Vb b) (hn : now.length = b.ps.length) (hf : flsB now = true) : Vb (seeB b now) := by
 refine ⟨h.p, by simp [seeB], h.w, fun i x y hx hy => ?_, h.c⟩
 have hi : i < b.ps.length := (List.getElem?_eq_some_iff.1 hx).1
 have e : gW b i = x := Option.some.inj ((gW_get hi).symm.trans hx)
 have hw := wtB_bd (h.w _ (List.mem_of_getElem? hx))
 simp only [seeB, List.getElem?_map, List.getElem?_range hi, Option.map_some, Option.some.injEq] at hy
 subst hy
 rw [pastI, e, lastW]
 have hl := gL_get (b := b) (i := i) (by rw [h.q]; exact hi)
 refine ⟨by simp only [List.length_drop]; omega, ?_⟩
 have h5 := (h.l i x _ hx hl).2
 have h6 := List.all_eq_true.1 hf _ (List.mem_of_getElem? (gN_get (l := now) (i := i) (by omega)))
 rw [flsB, List.all_eq_true] at h5 ⊢
 intro z hz
 rcases List.mem_append.1 (List.mem_of_mem_drop hz) with hz | hz
 ·exact h5 z hz
 ·rw [List.mem_singleton] at hz; rw [hz]; exact h6
theorem Vb.open {l : List Wt} (h : watE l = 0) : Vb ⟨l, List.replicate l.length [], []⟩ := by
 obtain ⟨h1, h2⟩ := watE_ok.1 h
 refine ⟨h1, by simp, List.all_eq_true.1 h2, fun i x y hx hy => ?_, rfl⟩
 have := wtB_bd (List.all_eq_true.1 h2 _ (List.mem_of_getElem? hx))
 simp only [List.getElem?_replicate] at hy
 split at hy
 ·obtain rfl := Option.some.inj hy
  exact ⟨by simp; omega, rfl⟩
 ·cases hy
def FlwG (σ : St) (id g : Nat) (t : List Int) (n : Nat) (most : Int) (r : AV) (σ' : St) : Prop := ∃ g2 L at2, r = .sl σ.n g2 1 0 L.length ∧ L.length = n ∧ (∀ x ∈ L, 0 ≤ x ∧ x < most) ∧ σ'.n = σ.n + 1 ∧ σ'.ob σ.n = some ⟨g2, 1, 3, false, true, ints L⟩ ∧ σ'.ob id = some ⟨g, 2, ty_Deck, false, true, [deckV t at2]⟩ ∧ ∀ i, i < σ.n → i ≠ id → σ'.ob i = σ.ob i
theorem hcG_mk_Flows (σ : St) (id g : Nat) (l : List Int) (at' : Nat) (n most : Int) (hn : n ≤ 1000000) (h1 : 1 ≤ most) (hm : most ≤ 4611686018427387904) (hl : l.length ≤ 9223372036854775807) (hid : id < σ.n) (hob : σ.ob id = some ⟨g, 2, ty_Deck, false, true, [deckV l at']⟩) :
  HC prog n_mk_Flows [.ptr id g 2 0 0, .int .i64 n, .int .i64 most] σ (FlwG σ id g l n.toNat most) := by
 refine HC_of_body b_mk_Flows (by simp) ?_
 obtain ⟨ob0, n0, c0⟩ := σ
 simp only at hid hob
 have hne : ¬ id = n0 := by omega
 have hne' : ¬ n0 = id := by omega
 simp only [c_mk_Flows, go_sem, jA, jB, jC, jD, jE, jF, jG, jH, jI, jJ, ↓reduceIte, reduceCtorEq, jP]
 refine awp_upF [7, 9, 10, 11, 12, 13, 14, 15, 16, 17] (by kernel_rfl) n.toNat (fun r e σ => ∃ g2 L at2, e 7 = .sl n0 g2 1 0 r ∧ e 9 = .int .i64 r ∧ L.length = r ∧ (∀ x ∈ L, 0 ≤ x ∧ x < most) ∧ σ.ob n0 = some ⟨g2, 1, 3, false, true, ints L⟩ ∧ σ.ob id = some ⟨g, 2, ty_Deck, false, true, [deckV l at2]⟩ ∧ ∀ i, i < n0 → i ≠ id → σ.ob i = ob0 i) ?_ ?_
 ·refine ⟨_, [], at', (by first | rfl | (simp (disch := omega) only [go_sem, jA, jB, jC, jD, jE, jF, jG, jH, jI, jJ, ↓reduceIte, reduceCtorEq, jP, jO, jM, jN]; try rfl)), by simp [go_sem], rfl, by simp, by simp [go_sem, ints], ?_, ?_⟩
  ·simp (maxSteps := 1000000) only [go_sem, jA, jB, jC, jD, jE, jF, jG, jH, jI, jJ, ↓reduceIte, reduceCtorEq, jP, hne]; exact hob
  ·intro i hi hi2
   have : ¬ i = n0 := by omega
   simp (maxSteps := 1000000) only [go_sem, jA, jB, jC, jD, jE, jF, jG, jH, jI, jJ, ↓reduceIte, reduceCtorEq, jP, this]
 ·rintro r fe ob c hr ⟨g2, L, at3, h7, h9, hL, hLb, hon, hoid, holt⟩
  simp (maxSteps := 1000000) only [go_sem, jA, jB, jC, jD, jE, jF, jG, jH, jI, jJ, ↓reduceIte, reduceCtorEq, jP] at h7 h9 hon hoid holt
  simp (maxSteps := 1000000) only [go_sem, jA, jB, jC, jD, jE, jF, jG, jH, jI, jJ, ↓reduceIte, reduceCtorEq, jP, h9]
  refine cond_d (fun hlt => ?_) (fun hge => ?_)
  ·simp (maxSteps := 1000000) only [go_sem, jA, jB, jC, jD, jE, jF, jG, jH, jI, jJ, ↓reduceIte, reduceCtorEq, jP, h7]
   refine call_hc (ok_mk_Deck_Next _ id g ty_Deck true l at3 most (by simp (maxSteps := 1000000) only [go_sem, jA, jB, jC, jD, jE, jF, jG, jH, jI, jJ, ↓reduceIte, reduceCtorEq, jP, hne]; exact hoid) hm hl) ?_
   have hbd := deckR_bd l at3 most
   generalize deckR l at3 most = dr at *
   obtain ⟨a, at4⟩ := dr
   simp only at hbd
   simp (maxSteps := 1000000) (disch := omega) only [go_sem, jA, jB, jC, jD, jE, jF, jG, jH, jI, jJ, ↓reduceIte, reduceCtorEq, jP, jO, h7, h9, hon, hne, hne', upd_upd]
   repeat (refine And.intro (by first | omega | (rw [mxL]; omega) | (simp [maxLen]; done) | (simp [maxLen]; omega)) ?_)
   refine ⟨by simp [ints_length, hL], by simp [maxLen]; omega, by omega, ?_⟩
   try repeat (refine And.intro (by first | omega | (rw [mxL]; omega) | (simp [maxLen]; done) | (simp [maxLen]; omega)) ?_)
   refine up_next (by omega) ⟨_, L ++ [a], at4, (by first | rfl | (simp (disch := omega) only [go_sem, jA, jB, jC, jD, jE, jF, jG, jH, jI, jJ, ↓reduceIte, reduceCtorEq, jP, jO, jM, jN]; try rfl)), (by first | rfl | (simp (disch := omega) only [go_sem, jA, jB, jC, jD, jE, jF, jG, jH, jI, jJ, ↓reduceIte, reduceCtorEq, jP, jO, jM, jN]; try rfl)), by simp [hL], fun x hx => ?_, ?_, ?_, ?_⟩
   ·rcases List.mem_append.1 hx with hx | hx
    ·exact hLb x hx
    ·rw [List.mem_singleton] at hx; subst hx; omega
   ·simp (maxSteps := 1000000) only [go_sem, jA, jB, jC, jD, jE, jF, jG, jH, jI, jJ, ↓reduceIte, reduceCtorEq, jP, hne']
    rw [if_pos (by omega)]
    simp [ints]
   ·simp (maxSteps := 1000000) only [go_sem, jA, jB, jC, jD, jE, jF, jG, jH, jI, jJ, ↓reduceIte, reduceCtorEq, jP, hne]
    rw [if_pos (by omega)]
   ·intro i hi hi2
    have : ¬ i = n0 := by omega
    simp (maxSteps := 1000000) only [go_sem, jA, jB, jC, jD, jE, jF, jG, jH, jI, jJ, ↓reduceIte, reduceCtorEq, jP, hi2, this]
    rw [if_pos (by omega)]
    exact holt i hi hi2
  ·simp (maxSteps := 1000000) only [go_sem, jA, jB, jC, jD, jE, jF, jG, jH, jI, jJ, ↓reduceIte, reduceCtorEq, jP, h7]
   exact ⟨g2, L, at3, by rw [hL], by omega, hLb, rfl, hon, hoid, holt⟩
theorem hcD_mk_Flows (σ : St) (id g : Nat) (l : List Int) (at' : Nat) (n most : Int) (hn : n ≤ 1000000) (h1 : 1 ≤ most) (hm : most ≤ 4611686018427387904) (hl : l.length ≤ 9223372036854775807) (hid : id < σ.n) (hob : σ.ob id = some ⟨g, 2, ty_Deck, false, true, [deckV l at']⟩) :
  HC prog n_mk_Flows [.ptr id g 2 0 0, .int .i64 n, .int .i64 most] σ (DeckR σ id g l fun r => ∃ L, r = .list 1 (ints L) ∧ L.length = n.toNat ∧ ∀ x ∈ L, 0 ≤ x ∧ x < most) := by
 refine HC.deck hid ((hcG_mk_Flows σ id g l at' n most hn h1 hm hl hid hob).mono ?_)
 rintro r τ ⟨g2, L, at2, rfl, hL, hLb, hn2, ho, hd, hf⟩
 exact ⟨.list 1 (ints L), at2, Pub.of_sl (ty := 3) (ro := false) (ap := true) (by simp [ho]) (by simp [ints_length]) (ints_pur _) (ints_ok _), ⟨L, rfl, hL, hLb⟩, hd, hf⟩
theorem hc_flow_Cause (σ : St) (id g : Nat) (t : List Int) (at' : Nat) (hl : t.length ≤ 9223372036854775807) (hid : id < σ.n) (hob : σ.ob id = some ⟨g, 2, ty_Deck, false, true, [deckV t at']⟩) :
  HC prog n_flow_Cause [.ptr id g 2 0 0] σ (DeckR σ id g t fun r => ∃ c, r = csv c ∧ csB c = true) := by
 refine HC.deck hid ?_
 obtain ⟨ob0, n0, c0⟩ := σ
 simp only at hob hid
 refine HC_of_body b_flow_Cause (by simp) ?_
 simp only [c_flow_Cause, go_sem, jA, jB, jC, jD, jE, jF, jG, jH, jI, jJ, ↓reduceIte, reduceCtorEq, jP]
 have h0 : ¬ id = n0 := by omega
 have i0 : ¬ n0 = id := by omega
 refine call_hc (ok_mk_Deck_Next _ id g ty_Deck true t at' 4 (by try simp (disch := omega) only [go_sem, jA, jB, jC, jD, jE, jF, jG, jH, jI, jJ, ↓reduceIte, reduceCtorEq, jO, jM, jN, jK, jL, h0]; exact hob) (by omega) hl) ?_
 have hx := deckR_bd t at' 4
 generalize deckR t at' 4 = dr at *
 obtain ⟨x, at2⟩ := dr
 simp only at hx
 try simp (disch := omega) only [go_sem, jA, jB, jC, jD, jE, jF, jG, jH, jI, jJ, ↓reduceIte, reduceCtorEq, jO, jM, jN, jK, jL, h0, i0]
 refine call_hc (ok_mk_Deck_Next _ id g ty_Deck true t at2 3 (by try simp (disch := omega) only [go_sem, jA, jB, jC, jD, jE, jF, jG, jH, jI, jJ, ↓reduceIte, reduceCtorEq, jO, jM, jN, jK, jL, h0]) (by omega) hl) ?_
 have hy := deckR_bd t at2 3
 generalize deckR t at2 3 = dr at *
 obtain ⟨y, at3⟩ := dr
 simp only at hy
 try simp (disch := omega) only [go_sem, jA, jB, jC, jD, jE, jF, jG, jH, jI, jJ, ↓reduceIte, reduceCtorEq, jO, jM, jN, jK, jL, h0, i0]
 refine ⟨csv ⟨1 + x, y⟩, at3, Pub.e (by simp [csv, go_sem]), ⟨_, rfl, by simp [csB, inW]; omega⟩, by try simp (disch := omega) only [go_sem, jA, jB, jC, jD, jE, jF, jG, jH, jI, jJ, ↓reduceIte, reduceCtorEq, jO, jM, jN, jK, jL, h0], fun i hi hne => ?_⟩
 simp only at hi
 have : ¬ i = n0 := by omega
 try simp (disch := omega) only [go_sem, jA, jB, jC, jD, jE, jF, jG, jH, jI, jJ, ↓reduceIte, reduceCtorEq, jO, jM, jN, jK, jL, hne, this]
theorem hc_flow_Quiet (σ : St) (id g : Nat) (t : List Int) (at' : Nat) (b : Bo) (hb : b.ps.length ≤ 8) (hl : t.length ≤ 9223372036854775807) (hid : id < σ.n) (hob : σ.ob id = some ⟨g, 2, ty_Deck, false, true, [deckV t at']⟩) :
  HC prog n_flow_Quiet [.ptr id g 2 0 0, bov b] σ (DeckR σ id g t fun r => ∃ q, r = .list 1 (bls q) ∧ q.length = b.ps.length) := by
 refine HC.deck hid ?_
 obtain ⟨ob0, n0, c0⟩ := σ
 simp only at hob hid
 refine HC_of_body b_flow_Quiet (by simp) ?_
 simp only [c_flow_Quiet, go_sem, jA, jB, jC, jD, jE, jF, jG, jH, jI, jJ, ↓reduceIte, reduceCtorEq, jP, bov]
 have h0 : ¬ id = n0 := by omega
 have i0 : ¬ n0 = id := by omega
 try simp (disch := omega) only [go_sem, jA, jB, jC, jD, jE, jF, jG, jH, jI, jJ, ↓reduceIte, reduceCtorEq, jO, jM, jN, jK, jL, wts_length]
 refine awp_upG [5, 9, 10, 11, 12, 13, 14, 15, 16, 17] (by kernel_rfl) b.ps.length (fun k e σ => e 9 = .int .i64 k ∧ n0 + 1 ≤ σ.n ∧ (∃ a, σ.ob id = some ⟨g, 2, ty_Deck, false, true, [deckV t a]⟩) ∧ (∀ i, i < n0 → i ≠ id → σ.ob i = ob0 i) ∧ ∃ X q, At e 5 X ∧ q.length = k ∧ SlR 1 4 σ (bls q) X ∧ ∀ i, ¬ Oth X i → n0 + 1 ≤ i) ?_ ?_
 ·refine ⟨(by first | rfl | (simp (disch := omega) only [go_sem, jA, jB, jC, jD, jE, jF, jG, jH, jI, jJ, ↓reduceIte, reduceCtorEq, jP, jO, jM, jN]; try rfl)), Nat.le_refl _, ⟨at', by try simp (disch := omega) only [go_sem, jA, jB, jC, jD, jE, jF, jG, jH, jI, jJ, ↓reduceIte, reduceCtorEq, jO, jM, jN, jK, jL, h0]; exact hob⟩, fun i hi hne => ?_, .nil, [], (by simp only [At]; try simp (disch := omega) only [go_sem, jA, jB, jC, jD, jE, jF, jG, jH, jI, jJ, ↓reduceIte, reduceCtorEq, jO, jM, jN, jK, jL]), rfl, SlR.nil, fun i hi => absurd (Oth.nil i) hi⟩
  have : ¬ i = n0 := by omega
  try simp (disch := omega) only [go_sem, jA, jB, jC, jD, jE, jF, jG, jH, jI, jJ, ↓reduceIte, reduceCtorEq, jO, jM, jN, jK, jL, hne, this]
 rintro k fe ob m c hk hm ⟨h9, hm1, ⟨a, hd⟩, hfr, X, q, h5, hq, hX, hXn⟩
 simp (maxSteps := 1000000) only [go_sem, jA, jB, jC, jD, jE, jF, jG, jH, jI, jJ, ↓reduceIte, reduceCtorEq, jP, At] at h9 hm hm1 hd hfr h5
 try simp (disch := omega) only [go_sem, jA, jB, jC, jD, jE, jF, jG, jH, jI, jJ, ↓reduceIte, reduceCtorEq, jO, jM, jN, jK, jL, h9, wts_length]
 refine cond_d (fun hlt => ?_) (fun hge => ?_)
 ·try simp (disch := omega) only [go_sem, jA, jB, jC, jD, jE, jF, jG, jH, jI, jJ, ↓reduceIte, reduceCtorEq, jO, jM, jN, jK, jL, h5]
  refine call_hc (ok_mk_Deck_Next _ id g ty_Deck true t a 3 hd (by omega) hl) ?_
  generalize deckR t a 3 = dr at *
  obtain ⟨x, a2⟩ := dr
  try simp (disch := omega) only [go_sem, jA, jB, jC, jD, jE, jF, jG, jH, jI, jJ, ↓reduceIte, reduceCtorEq, jO, jM, jN, jK, jL, h9, h5]
  have oX : ∀ i, i < n0 + 1 → Oth X i := fun i hi => Oth.em fun h => by have := hXn i h; omega
  have ll : (bls q).length = k := by rw [bls_length, hq]
  refine app_slr (b := 1) (hX.move (τ := ⟨upd ob id (some ⟨g, 2, ty_Deck, false, true, [deckV t a2]⟩), m, c⟩) (Nat.le_refl _) fun i hi hh => ?_) (by omega) (by omega) fun Y τ hY kY => ?_
  ·have := hXn i hh
   simp only
   rw [upd_ne _ _ _ _ (by omega)]
  obtain ⟨ob2, m2, c2⟩ := τ
  have q1 : m ≤ m2 := kY.1
  have q2 : ∀ i, i < n0 + 1 → ob2 i = upd ob id (some ⟨g, 2, ty_Deck, false, true, [deckV t a2]⟩) i := fun i hi => kY.2.1 i (by simp only; omega) (oX i hi)
  try simp (disch := omega) only [go_sem, jA, jB, jC, jD, jE, jF, jG, jH, jI, jJ, ↓reduceIte, reduceCtorEq, jO, jM, jN, jK, jL, h9]
  refine up_nextG m2 (by omega) (by omega) ⟨(by first | rfl | (simp (disch := omega) only [go_sem, jA, jB, jC, jD, jE, jF, jG, jH, jI, jJ, ↓reduceIte, reduceCtorEq, jP, jO, jM, jN]; try rfl)), by simp only [St.trunc]; omega, ⟨a2, by rw [tr_ob (by omega), q2 id (by omega), upd_same]⟩, fun i hi hne => by rw [tr_ob (by omega), q2 i (by omega), upd_ne _ _ _ _ hne, hfr i hi hne], Y, q ++ [decide (0 < x)], (by simp only [At]; try simp (disch := omega) only [go_sem, jA, jB, jC, jD, jE, jF, jG, jH, jI, jJ, ↓reduceIte, reduceCtorEq, jO, jM, jN, jK, jL]), by simp [hq], ?_, fun i hi => Nat.le_of_not_lt fun hh => hi (kY.2.2 i (by simp only; omega) (oX i hh))⟩
  rw [show bls (q ++ [decide (0 < x)]) = bls q ++ [.bool (decide (0 < x))] by simp [bls]]
  exact hY.tr
 ·try simp (disch := omega) only [go_sem, jA, jB, jC, jD, jE, jF, jG, jH, jI, jJ, ↓reduceIte, reduceCtorEq, jO, jM, jN, jK, jL, h5]
  refine ⟨.list 1 (bls q), a, hX.pub (fun i hi hh => ?_) (bls_pur _) (bls_ok _), ⟨q, rfl, by omega⟩, hd, hfr⟩
  have := hXn i hh
  exact if_neg (show ¬ i < n0 by omega)
def PtB (x : Wt) : Prop := (0 ≤ x.nd ∧ x.nd < 5) ∧ (1 ≤ x.w ∧ x.w ≤ 4) ∧ (0 ≤ x.lim ∧ x.lim < 12) ∧ 1 ≤ x.ld ∧ x.ld ≤ 4
theorem PtB.ok {x : Wt} (h : PtB x) : wtB x = true := by obtain ⟨h1, h2, h3, h4⟩ := h; simp [wtB, inW]; omega
def PtsB (l : List Wt) : Prop := 1 ≤ l.length ∧ l.length ≤ 3 ∧ ∀ x ∈ l, PtB x
theorem PtsB.e {l : List Wt} (h : PtsB l) : watE l = 0 := watE_ok.2 ⟨by have := h.2.1; omega, List.all_eq_true.2 fun x hx => (h.2.2 x hx).ok⟩
theorem wts_snoc (l : List Wt) (x : Wt) : wts l ++ [wtv x] = wts (l ++ [x]) := by simp [wts]
theorem hc_flow_Points (σ : St) (id g : Nat) (t : List Int) (at' : Nat) (hl : t.length ≤ 9223372036854775807) (hid : id < σ.n) (hob : σ.ob id = some ⟨g, 2, ty_Deck, false, true, [deckV t at']⟩) :
  HC prog n_flow_Points [.ptr id g 2 0 0, .int .i64 5] σ (DeckR σ id g t fun r => ∃ l, r = .list 4 (wts l) ∧ PtsB l) := by
 refine HC.deck hid ?_
 obtain ⟨ob0, n0, c0⟩ := σ
 simp only at hob hid
 refine HC_of_body b_flow_Points (by simp) ?_
 simp only [c_flow_Points, go_sem, jA, jB, jC, jD, jE, jF, jG, jH, jI, jJ, ↓reduceIte, reduceCtorEq, jP]
 refine call_hc (ok_mk_Deck_Next _ id g ty_Deck true t at' 3 hob (by omega) hl) ?_
 have hx2 := deckR_bd t at' 3
 generalize deckR t at' 3 = dr at *
 obtain ⟨x2, at2⟩ := dr
 simp only at hx2
 try simp (disch := omega) only [go_sem, jA, jB, jC, jD, jE, jF, jG, jH, jI, jJ, ↓reduceIte, reduceCtorEq, jO, jM, jN, jK, jL]
 obtain ⟨K, hK⟩ : ∃ K : Nat, (K : Int) = x2 ∧ K ≤ 2 := ⟨x2.toNat, by omega, by omega⟩
 obtain ⟨rfl, hK⟩ := hK
 refine awp_upG [5, 6, 9, 10, 11, 12, 13, 14, 15, 16, 17, 18, 19, 20, 21, 22, 23, 24, 25, 26, 27] (by kernel_rfl) (K + 1) (fun k e σ => e 6 = .int .i64 ((K : Int) - k) ∧ (∃ a, σ.ob id = some ⟨g, 2, ty_Deck, false, true, [deckV t a]⟩) ∧ (∀ i, i < n0 → i ≠ id → σ.ob i = ob0 i) ∧ ∃ X l, At e 5 X ∧ l.length = k ∧ (∀ x ∈ l, PtB x) ∧ SlR 4 tyW σ (wts l) X ∧ ∀ i, ¬ Oth X i → n0 ≤ i) ?_ ?_
 ·refine ⟨(by first | rfl | (simp (disch := omega) only [go_sem, jA, jB, jC, jD, jE, jF, jG, jH, jI, jJ, ↓reduceIte, reduceCtorEq, jP, jO, jM, jN]; try rfl)), ⟨at2, by try simp (disch := omega) only [go_sem, jA, jB, jC, jD, jE, jF, jG, jH, jI, jJ, ↓reduceIte, reduceCtorEq, jO, jM, jN, jK, jL]⟩, fun i hi hne => ?_, .nil, [], (by simp only [At]; try simp (disch := omega) only [go_sem, jA, jB, jC, jD, jE, jF, jG, jH, jI, jJ, ↓reduceIte, reduceCtorEq, jO, jM, jN, jK, jL]), rfl, (fun x hx => by cases hx), SlR.nil, fun i hi => absurd (Oth.nil i) hi⟩
  try simp (disch := omega) only [go_sem, jA, jB, jC, jD, jE, jF, jG, jH, jI, jJ, ↓reduceIte, reduceCtorEq, jO, jM, jN, jK, jL, hne]
 rintro k fe ob m c hk hm ⟨h6, ⟨a, hd⟩, hfr, X, l, h5, hll, hlb, hX, hXn⟩
 simp (maxSteps := 1000000) only [go_sem, jA, jB, jC, jD, jE, jF, jG, jH, jI, jJ, ↓reduceIte, reduceCtorEq, jP, At] at h6 hm hd hfr h5
 try simp (disch := omega) only [go_sem, jA, jB, jC, jD, jE, jF, jG, jH, jI, jJ, ↓reduceIte, reduceCtorEq, jO, jM, jN, jK, jL, h6]
 refine cond_d (fun hge => ?_) (fun hlt => ?_)
 ·have hkl : k < K + 1 := by omega
  try simp (disch := omega) only [go_sem, jA, jB, jC, jD, jE, jF, jG, jH, jI, jJ, ↓reduceIte, reduceCtorEq, jO, jM, jN, jK, jL, h5]
  refine call_hc (ok_mk_Deck_Next _ id g ty_Deck true t a 5 hd (by omega) hl) ?_
  have b1 := deckR_bd t a 5
  generalize deckR t a 5 = dr at *
  obtain ⟨x1, a1⟩ := dr
  simp only at b1
  try simp (disch := omega) only [go_sem, jA, jB, jC, jD, jE, jF, jG, jH, jI, jJ, ↓reduceIte, reduceCtorEq, jO, jM, jN, jK, jL]
  refine call_hc (ok_mk_Deck_Next _ id g ty_Deck true t a1 4 (by try simp (disch := omega) only [go_sem, jA, jB, jC, jD, jE, jF, jG, jH, jI, jJ, ↓reduceIte, reduceCtorEq, jO, jM, jN, jK, jL]) (by omega) hl) ?_
  have b2 := deckR_bd t a1 4
  generalize deckR t a1 4 = dr at *
  obtain ⟨x2, a2⟩ := dr
  simp only at b2
  try simp (disch := omega) only [go_sem, jA, jB, jC, jD, jE, jF, jG, jH, jI, jJ, ↓reduceIte, reduceCtorEq, jO, jM, jN, jK, jL]
  refine call_hc (ok_mk_Deck_Next _ id g ty_Deck true t a2 12 (by try simp (disch := omega) only [go_sem, jA, jB, jC, jD, jE, jF, jG, jH, jI, jJ, ↓reduceIte, reduceCtorEq, jO, jM, jN, jK, jL]) (by omega) hl) ?_
  have b3 := deckR_bd t a2 12
  generalize deckR t a2 12 = dr at *
  obtain ⟨x3, a3⟩ := dr
  simp only at b3
  try simp (disch := omega) only [go_sem, jA, jB, jC, jD, jE, jF, jG, jH, jI, jJ, ↓reduceIte, reduceCtorEq, jO, jM, jN, jK, jL]
  refine call_hc (ok_mk_Deck_Next _ id g ty_Deck true t a3 4 (by try simp (disch := omega) only [go_sem, jA, jB, jC, jD, jE, jF, jG, jH, jI, jJ, ↓reduceIte, reduceCtorEq, jO, jM, jN, jK, jL]) (by omega) hl) ?_
  have b4 := deckR_bd t a3 4
  generalize deckR t a3 4 = dr at *
  obtain ⟨x4, a4⟩ := dr
  simp only at b4
  try simp (disch := omega) only [go_sem, jA, jB, jC, jD, jE, jF, jG, jH, jI, jJ, ↓reduceIte, reduceCtorEq, jO, jM, jN, jK, jL, h5]
  have oX : ∀ i, i < n0 → Oth X i := fun i hi => Oth.em fun h => by have := hXn i h; omega
  have lll : (wts l).length = k := by rw [wts_length, hll]
  have hfr2 : ∀ i, i ≠ id → upd (upd (upd (upd ob id (some (⟨g, 2, ty_Deck, false, true, [deckV t a1]⟩ : AObj))) id (some ⟨g, 2, ty_Deck, false, true, [deckV t a2]⟩)) id (some ⟨g, 2, ty_Deck, false, true, [deckV t a3]⟩)) id (some ⟨g, 2, ty_Deck, false, true, [deckV t a4]⟩) i = ob i := fun i hi => by
   rw [upd_ne _ _ _ _ hi, upd_ne _ _ _ _ hi, upd_ne _ _ _ _ hi, upd_ne _ _ _ _ hi]
  refine app_slr (b := 32) (hX.move (Nat.le_refl _) fun i hi hh => hfr2 i (by have := hXn i hh; omega)) (by omega) (by omega) fun Y τ hY kY => ?_
  obtain ⟨ob2, m2, c2⟩ := τ
  have q1 : m ≤ m2 := kY.1
  have q2 : ∀ i, i < n0 → ob2 i = _ := fun i hi => kY.2.1 i (by simp only; omega) (oX i hi)
  try simp (disch := omega) only [go_sem, jA, jB, jC, jD, jE, jF, jG, jH, jI, jJ, ↓reduceIte, reduceCtorEq, jO, jM, jN, jK, jL, h6]
  refine up_nextG m2 hkl (by omega) ⟨by try simp (disch := omega) only [go_sem, jA, jB, jC, jD, jE, jF, jG, jH, jI, jJ, ↓reduceIte, reduceCtorEq, jO, jM, jN, jK, jL]; congr 1; omega, ⟨a4, by rw [tr_ob (by omega), q2 id (by omega)]; exact upd_same _ _ _⟩, fun i hi hne => by rw [tr_ob (by omega), q2 i (by omega)]; exact (hfr2 i hne).trans (hfr i hi hne), Y, l ++ [⟨x1, 1 + x2, x3, 1 + x4⟩], (by simp only [At]; try simp (disch := omega) only [go_sem, jA, jB, jC, jD, jE, jF, jG, jH, jI, jJ, ↓reduceIte, reduceCtorEq, jO, jM, jN, jK, jL]), by simp [hll], fun x hx => ?_, ?_, fun i hi => Nat.le_of_not_lt fun hh => hi (kY.2.2 i (by simp only; omega) (oX i hh))⟩
  ·rcases List.mem_append.1 hx with hx | hx
   ·exact hlb x hx
   ·rw [List.mem_singleton] at hx; subst hx; simp only [PtB]; omega
  ·rw [← wts_snoc]
   exact hY.tr
 ·try simp (disch := omega) only [go_sem, jA, jB, jC, jD, jE, jF, jG, jH, jI, jJ, ↓reduceIte, reduceCtorEq, jO, jM, jN, jK, jL, h5]
  refine ⟨.list 4 (wts l), a, hX.pub (fun i hi hh => ?_) (wts_pur _) (wts_ok _), ⟨l, rfl, by omega, by omega, hlb⟩, hd, hfr⟩
  have := hXn i hh
  exact if_neg (show ¬ i < n0 by omega)
structure Bd0 (b : Bo) : Prop where
 v : Vb b
 p : PtsB b.ps
theorem hc_flow_Board (σ : St) (id g : Nat) (t : List Int) (at' : Nat) (hl : t.length ≤ 9223372036854775807) (hid : id < σ.n) (hob : σ.ob id = some ⟨g, 2, ty_Deck, false, true, [deckV t at']⟩) :
  HC prog n_flow_Board [.ptr id g 2 0 0] σ (DeckR σ id g t fun r => ∃ b, r = bov b ∧ Bd0 b) := by
 refine HC.deck hid ?_
 obtain ⟨ob0, n0, c0⟩ := σ
 simp only at hob hid
 refine HC_of_body b_flow_Board (by simp) ?_
 simp only [c_flow_Board, go_sem, jA, jB, jC, jD, jE, jF, jG, jH, jI, jJ, ↓reduceIte, reduceCtorEq, jP]
 have h0 : ¬ id = n0 := by omega
 have h1 : ¬ id = n0 + 1 := by omega
 have i0 : ¬ n0 = id := by omega
 have i1 : ¬ n0 + 1 = id := by omega
 have i2 : ¬ n0 = n0 + 1 := by omega
 have i3 : ¬ n0 + 1 = n0 := by omega
 refine (hc_flow_Points _ id g t at' hl (by simp only; omega) (by try simp (disch := omega) only [go_sem, jA, jB, jC, jD, jE, jF, jG, jH, jI, jJ, ↓reduceIte, reduceCtorEq, jO, jM, jN, jK, jL, h0]; exact hob)).mono ?_
 intro r τ hDR
 obtain ⟨⟨ps, rfl, hps⟩, hn, ⟨at1, hd1⟩, hf1⟩ := hDR.use (by simp only; omega)
 obtain ⟨ob1, m1, c1⟩ := τ
 simp only at hn hd1 hf1
 subst hn
 have v0 := hf1 n0 (by omega) i0
 try simp (disch := omega) only [go_sem, jA, jB, jC, jD, jE, jF, jG, jH, jI, jJ, ↓reduceIte, reduceCtorEq, jO, jM, jN, jK, jL] at v0
 try simp (disch := omega) only [go_sem, jA, jB, jC, jD, jE, jF, jG, jH, jI, jJ, ↓reduceIte, reduceCtorEq, jO, jM, jN, jK, jL]
 have hO := ok_ref36_Open ps (by have := hps.2.1; omega)
 rw [openV, openR, if_pos hps.e, hps.e] at hO
 refine call_pc hO (by simp [go_sem, wts_pur]) ?_
 have hV0 := Vb.open hps.e
 generalize hb0 : (⟨ps, List.replicate ps.length [], []⟩ : Bo) = b0 at *
 have hp0 : b0.ps = ps := by rw [← hb0]
 simp only [bov]
 try simp (disch := omega) only [go_sem, jA, jB, jC, jD, jE, jF, jG, jH, jI, jJ, ↓reduceIte, reduceCtorEq, jO, jM, jN, jK, jL, h0, h1, i0, i1, i2, i3]
 refine call_hc (ok_mk_Deck_Next _ id g ty_Deck true t at1 10 (by try simp (disch := omega) only [go_sem, jA, jB, jC, jD, jE, jF, jG, jH, jI, jJ, ↓reduceIte, reduceCtorEq, jO, jM, jN, jK, jL, h0, h1]; exact hd1) (by omega) hl) ?_
 have hx := deckR_bd t at1 10
 generalize deckR t at1 10 = dr at *
 obtain ⟨x, at2⟩ := dr
 simp only at hx
 try simp (disch := omega) only [go_sem, jA, jB, jC, jD, jE, jF, jG, jH, jI, jJ, ↓reduceIte, reduceCtorEq, jO, jM, jN, jK, jL]
 obtain ⟨K, hK⟩ : ∃ K : Nat, (K : Int) = x ∧ K ≤ 10 := ⟨x.toNat, by omega, by omega⟩
 obtain ⟨rfl, hK⟩ := hK
 refine awp_upG [5, 14, 15, 16, 17, 18, 19, 20, 21, 22, 23, 24, 25, 26, 27, 28, 29, 30, 31, 32, 33, 34, 35, 36, 37, 38, 39, 40, 41, 42, 43, 44, 45, 46, 47, 48, 49, 50, 51, 52, 53, 54, 55, 56, 57, 58, 59, 60, 61, 62, 63, 64, 65, 66, 67, 68, 69, 70, 71, 72, 73, 74, 75] (by kernel_rfl) K (fun k e σ => e 5 = .int .i64 ((K : Int) - k) ∧ n0 + 2 ≤ σ.n ∧ (∃ a, σ.ob id = some ⟨g, 2, ty_Deck, false, true, [deckV t a]⟩) ∧ (∀ i, i < n0 → i ≠ id → σ.ob i = ob0 i) ∧ σ.ob n0 = some ⟨c0, 3, 31, false, true, [.agg [.nil, .nil, .nil]]⟩ ∧ ∃ b, Vb b ∧ b.ps = ps ∧ σ.ob (n0 + 1) = some ⟨c1, 3, 31, false, true, [.agg [.list 4 (wts b.ps), .list 1 (lls b.pa), .list 4 (wns b.ac)]]⟩) ?_ ?_
 ·refine ⟨(by first | rfl | (simp (disch := omega) only [go_sem, jA, jB, jC, jD, jE, jF, jG, jH, jI, jJ, ↓reduceIte, reduceCtorEq, jP, jO, jM, jN]; try rfl)), Nat.le_refl _, ⟨at2, by try simp (disch := omega) only [go_sem, jA, jB, jC, jD, jE, jF, jG, jH, jI, jJ, ↓reduceIte, reduceCtorEq, jO, jM, jN, jK, jL]⟩, fun i hi hne => ?_, ?_, b0, hV0, hp0, ?_⟩
  ·have z1 : ¬ i = n0 + 1 := by omega
   have z2 : ¬ i = n0 := by omega
   have := hf1 i (by omega) hne
   try simp (disch := omega) only [go_sem, jA, jB, jC, jD, jE, jF, jG, jH, jI, jJ, ↓reduceIte, reduceCtorEq, jO, jM, jN, jK, jL, z2] at this
   try simp (disch := omega) only [go_sem, jA, jB, jC, jD, jE, jF, jG, jH, jI, jJ, ↓reduceIte, reduceCtorEq, jO, jM, jN, jK, jL, hne, z1, z2]
   exact this
  ·try simp (disch := omega) only [go_sem, jA, jB, jC, jD, jE, jF, jG, jH, jI, jJ, ↓reduceIte, reduceCtorEq, jO, jM, jN, jK, jL, i0, i2]
   exact v0
  ·try simp (disch := omega) only [go_sem, jA, jB, jC, jD, jE, jF, jG, jH, jI, jJ, ↓reduceIte, reduceCtorEq, jO, jM, jN, jK, jL, i1]
 rintro k fe ob m c hk hm ⟨h5, hm1, ⟨a, hd⟩, hfr, u0, b, hV, hbp, u1⟩
 simp (maxSteps := 1000000) only [go_sem, jA, jB, jC, jD, jE, jF, jG, jH, jI, jJ, ↓reduceIte, reduceCtorEq, jP] at h5 hm hm1 hd hfr u0 u1
 have hl1 := hps.1
 have hl3 := hps.2.1
 rw [← hbp] at hl1 hl3
 try simp (disch := omega) only [go_sem, jA, jB, jC, jD, jE, jF, jG, jH, jI, jJ, ↓reduceIte, reduceCtorEq, jO, jM, jN, jK, jL, h5]
 refine cond_d (fun hge => ?_) (fun hlt => ?_)
 ·have hkl : k < K := by omega
  try simp (disch := omega) only [go_sem, jA, jB, jC, jD, jE, jF, jG, jH, jI, jJ, ↓reduceIte, reduceCtorEq, jO, jM, jN, jK, jL, h5]
  refine call_hc (ok_mk_Deck_Next _ id g ty_Deck true t a 4 hd (by omega) hl) ?_
  have b1 := deckR_bd t a 4
  generalize deckR t a 4 = dr at *
  obtain ⟨x1, a1⟩ := dr
  simp only at b1
  try simp (disch := omega) only [go_sem, jA, jB, jC, jD, jE, jF, jG, jH, jI, jJ, ↓reduceIte, reduceCtorEq, jO, jM, jN, jK, jL]
  refine cond_d (fun e0 => ?_) (fun e0 => ?_)
  ·try simp (disch := omega) only [go_sem, jA, jB, jC, jD, jE, jF, jG, jH, jI, jJ, ↓reduceIte, reduceCtorEq, jO, jM, jN, jK, jL, u1, i1, h5, wts_length]
   refine call_hc (ok_mk_Deck_Next _ id g ty_Deck true t a1 b.ps.length (by try simp (disch := omega) only [go_sem, jA, jB, jC, jD, jE, jF, jG, jH, jI, jJ, ↓reduceIte, reduceCtorEq, jO, jM, jN, jK, jL]) (by omega) hl) ?_
   have b2 := deckR_bd t a1 b.ps.length
   generalize deckR t a1 b.ps.length = dr at *
   obtain ⟨x2, a2⟩ := dr
   simp only at b2
   try simp (disch := omega) only [go_sem, jA, jB, jC, jD, jE, jF, jG, jH, jI, jJ, ↓reduceIte, reduceCtorEq, jO, jM, jN, jK, jL, u1, i1, h5]
   refine call_hc (ok_mk_Deck_Next _ id g ty_Deck true t a2 20 (by try simp (disch := omega) only [go_sem, jA, jB, jC, jD, jE, jF, jG, jH, jI, jJ, ↓reduceIte, reduceCtorEq, jO, jM, jN, jK, jL]) (by omega) hl) ?_
   have b3 := deckR_bd t a2 20
   generalize deckR t a2 20 = dr at *
   obtain ⟨x3, a3⟩ := dr
   simp only at b3
   try simp (disch := omega) only [go_sem, jA, jB, jC, jD, jE, jF, jG, jH, jI, jJ, ↓reduceIte, reduceCtorEq, jO, jM, jN, jK, jL, u1, i1, h5]
   refine (hc_flow_Cause _ id g t a3 hl (by simp only; omega) (by try simp (disch := omega) only [go_sem, jA, jB, jC, jD, jE, jF, jG, jH, jI, jJ, ↓reduceIte, reduceCtorEq, jO, jM, jN, jK, jL])).mono ?_
   intro r τ hDR
   obtain ⟨⟨cs, rfl, hcs⟩, hn, ⟨a4, hdk⟩, hf4⟩ := hDR.use (by simp only; omega)
   obtain ⟨ob4, m4, c4⟩ := τ
   simp only at hn hdk hf4
   subst hn
   have hfk : ∀ i, i < m4 → i ≠ id → ob4 i = ob i := fun i hi hne => by rw [hf4 i hi hne, upd_ne _ _ _ _ hne, upd_ne _ _ _ _ hne, upd_ne _ _ _ _ hne]
   have w1 := (hfk (n0 + 1) (by omega) i1).trans u1
   try simp (disch := omega) only [go_sem, jA, jB, jC, jD, jE, jF, jG, jH, jI, jJ, ↓reduceIte, reduceCtorEq, jO, jM, jN, jK, jL, u1, i1, h5]
   refine ⟨w1, ?_⟩
   have hI := ok_ref37_Issue b x2 x3 cs hV.sz
   have hE0 : issE b x2 x3 cs = 0 := by rw [issE, if_neg (by simp [vdB_iff.2 hV]), if_neg (by omega), if_neg (by omega)]; exact cauE_csB.2 hcs
   rw [issV, issR, if_pos hE0, hE0] at hI
   have hV1 := hV.iss (p := x2) (t := x3) (c := cs) (by omega) (by omega) hcs
   simp only [bov] at hI
   refine call_pc hI (by simp [go_sem, wts_pur, lls_pur, wns_pur, csv]) ?_
   obtain ⟨b', hb', hV', hbp'⟩ : ∃ b' : Bo, b' = issB b x2 x3 cs ∧ Vb b' ∧ b'.ps = ps := ⟨_, rfl, hV1, hbp⟩
   rw [← hb'] at hV1; clear hI; rw [← hb']
   try simp (disch := omega) only [go_sem, jA, jB, jC, jD, jE, jF, jG, jH, jI, jJ, ↓reduceIte, reduceCtorEq, jO, jM, jN, jK, jL, u1, i1, h5, w1]
   refine up_nextG m4 hkl (by omega) ⟨by try simp (disch := omega) only [go_sem, jA, jB, jC, jD, jE, jF, jG, jH, jI, jJ, ↓reduceIte, reduceCtorEq, jO, jM, jN, jK, jL, h5]; congr 1; omega, by simp only [St.trunc]; omega, ⟨a4, by rw [tr_ob (by omega), upd_ne _ _ _ _ h1]; exact hdk⟩, fun i hi hne => ?_, ?_, b', hV', hbp', by rw [tr_ob (by omega), upd_same]⟩
   ·rw [tr_ob (by omega), upd_ne _ _ _ _ (by omega), hfk i (by omega) hne]; exact hfr i hi hne
   ·rw [tr_ob (by omega), upd_ne _ _ _ _ (by omega), hfk n0 (by omega) i0]; exact u0
  try simp (disch := omega) only [go_sem, jA, jB, jC, jD, jE, jF, jG, jH, jI, jJ, ↓reduceIte, reduceCtorEq, jO, jM, jN, jK, jL]
  refine cond_d (fun e1 => ?_) (fun e1 => ?_)
  ·try simp (disch := omega) only [go_sem, jA, jB, jC, jD, jE, jF, jG, jH, jI, jJ, ↓reduceIte, reduceCtorEq, jO, jM, jN, jK, jL, u1, i1, h5]
   have hQ := fun σ hid hob => hc_flow_Quiet σ id g t a1 b hV.p hl hid hob
   simp only [bov] at hQ
   refine (hQ _ (by simp only; omega) (by try simp (disch := omega) only [go_sem, jA, jB, jC, jD, jE, jF, jG, jH, jI, jJ, ↓reduceIte, reduceCtorEq, jO, jM, jN, jK, jL])).mono ?_
   intro r τ hDR
   obtain ⟨⟨q, rfl, hq⟩, hn, ⟨a4, hdk⟩, hf4⟩ := hDR.use (by simp only; omega)
   obtain ⟨ob4, m4, c4⟩ := τ
   simp only at hn hdk hf4
   subst hn
   have hfk : ∀ i, i < m4 → i ≠ id → ob4 i = ob i := fun i hi hne => by rw [hf4 i hi hne, upd_ne _ _ _ _ hne]
   have w1 := (hfk (n0 + 1) (by omega) i1).trans u1
   try simp (disch := omega) only [go_sem, jA, jB, jC, jD, jE, jF, jG, jH, jI, jJ, ↓reduceIte, reduceCtorEq, jO, jM, jN, jK, jL, u1, i1, h5]
   refine ⟨w1, ?_⟩
   refine call_hc (ok_mk_Deck_Next _ id g ty_Deck true t a4 4 hdk (by omega) hl) ?_
   have b3 := deckR_bd t a4 4
   generalize deckR t a4 4 = dr at *
   obtain ⟨x3, a5⟩ := dr
   simp only at b3
   replace hfk : ∀ i, i < m4 → i ≠ id → upd ob4 id (some (⟨g, 2, ty_Deck, false, true, [deckV t a5]⟩ : AObj)) i = ob i := fun i hi hne => by rw [upd_ne _ _ _ _ hne]; exact hfk i hi hne
   replace hdk : upd ob4 id (some (⟨g, 2, ty_Deck, false, true, [deckV t a5]⟩ : AObj)) id = some ⟨g, 2, ty_Deck, false, true, [deckV t a5]⟩ := upd_same _ _ _
   have w0 := w1
   replace w1 := (hfk (n0 + 1) (by omega) i1).trans u1
   generalize upd ob4 id (some (⟨g, 2, ty_Deck, false, true, [deckV t a5]⟩ : AObj)) = ob5 at *
   try simp (disch := omega) only [go_sem, jA, jB, jC, jD, jE, jF, jG, jH, jI, jJ, ↓reduceIte, reduceCtorEq, jO, jM, jN, jK, jL, u1, i1, h5, w1]
   refine ⟨w0.symm, ?_⟩
   have hI := ok_ref37_Tick b q (1 + x3) hV.sz (by omega)
   have hE0 : tickE b q (1 + x3) = 0 := by rw [tickE, if_neg (by simp [vdB_iff.2 hV]), if_neg (by omega), if_neg (by omega)]
   rw [tickV, tickR, if_pos hE0, hE0] at hI
   have hV1 := hV.tick (q := q) (hd := 1 + x3) (by omega)
   simp only [bov] at hI
   refine call_pc hI (by simp [go_sem, wts_pur, lls_pur, wns_pur, bls_pur]) ?_
   obtain ⟨b', hb', hV', hbp'⟩ : ∃ b' : Bo, b' = tickB b q (1 + x3) ∧ Vb b' ∧ b'.ps = ps := ⟨_, rfl, hV1, hbp⟩
   rw [← hb'] at hV1; clear hI; rw [← hb']
   try simp (disch := omega) only [go_sem, jA, jB, jC, jD, jE, jF, jG, jH, jI, jJ, ↓reduceIte, reduceCtorEq, jO, jM, jN, jK, jL, u1, i1, h5, w1]
   refine up_nextG m4 hkl (by omega) ⟨by try simp (disch := omega) only [go_sem, jA, jB, jC, jD, jE, jF, jG, jH, jI, jJ, ↓reduceIte, reduceCtorEq, jO, jM, jN, jK, jL, h5]; congr 1; omega, by simp only [St.trunc]; omega, ⟨a5, by rw [tr_ob (by omega), upd_ne _ _ _ _ h1]; exact hdk⟩, fun i hi hne => ?_, ?_, b', hV', hbp', by rw [tr_ob (by omega), upd_same]⟩
   ·rw [tr_ob (by omega), upd_ne _ _ _ _ (by omega), hfk i (by omega) hne]; exact hfr i hi hne
   ·rw [tr_ob (by omega), upd_ne _ _ _ _ (by omega), hfk n0 (by omega) i0]; exact u0
  try simp (disch := omega) only [go_sem, jA, jB, jC, jD, jE, jF, jG, jH, jI, jJ, ↓reduceIte, reduceCtorEq, jO, jM, jN, jK, jL]
  refine cond_d (fun e2 => ?_) (fun e2 => ?_)
  ·try simp (disch := omega) only [go_sem, jA, jB, jC, jD, jE, jF, jG, jH, jI, jJ, ↓reduceIte, reduceCtorEq, jO, jM, jN, jK, jL, u1, i1, h5, wts_length]
   refine call_hc (ok_mk_Deck_Next _ id g ty_Deck true t a1 b.ps.length (by try simp (disch := omega) only [go_sem, jA, jB, jC, jD, jE, jF, jG, jH, jI, jJ, ↓reduceIte, reduceCtorEq, jO, jM, jN, jK, jL]) (by omega) hl) ?_
   have b2 := deckR_bd t a1 b.ps.length
   generalize deckR t a1 b.ps.length = dr at *
   obtain ⟨x2, a2⟩ := dr
   simp only at b2
   try simp (disch := omega) only [go_sem, jA, jB, jC, jD, jE, jF, jG, jH, jI, jJ, ↓reduceIte, reduceCtorEq, jO, jM, jN, jK, jL, u1, i1, h5]
   refine (hc_flow_Cause _ id g t a2 hl (by simp only; omega) (by try simp (disch := omega) only [go_sem, jA, jB, jC, jD, jE, jF, jG, jH, jI, jJ, ↓reduceIte, reduceCtorEq, jO, jM, jN, jK, jL])).mono ?_
   intro r τ hDR
   obtain ⟨⟨cs, rfl, hcs⟩, hn, ⟨a4, hdk⟩, hf4⟩ := hDR.use (by simp only; omega)
   obtain ⟨ob4, m4, c4⟩ := τ
   simp only at hn hdk hf4
   subst hn
   have hfk : ∀ i, i < m4 → i ≠ id → ob4 i = ob i := fun i hi hne => by rw [hf4 i hi hne, upd_ne _ _ _ _ hne, upd_ne _ _ _ _ hne]
   have w1 := (hfk (n0 + 1) (by omega) i1).trans u1
   try simp (disch := omega) only [go_sem, jA, jB, jC, jD, jE, jF, jG, jH, jI, jJ, ↓reduceIte, reduceCtorEq, jO, jM, jN, jK, jL, u1, i1, h5]
   refine ⟨w1, by simp [csv, go_sem], ?_⟩
   have hI := ok_ref37_Keep b x2 [cs] hV.sz (by simp)
   have hE0 : keepE b x2 = 0 := by rw [keepE, if_neg (by simp [vdB_iff.2 hV]), if_neg (by omega)]
   rw [keepV, keepR, if_pos hE0, hE0] at hI
   have hV1 := hV.keep (p := x2) (ks := [cs])
   simp only [bov] at hI
   refine call_pc hI (by simp [go_sem, wts_pur, lls_pur, wns_pur, csv]) ?_
   obtain ⟨b', hb', hV', hbp'⟩ : ∃ b' : Bo, b' = keepB b x2 [cs] ∧ Vb b' ∧ b'.ps = ps := ⟨_, rfl, hV1, hbp⟩
   rw [← hb'] at hV1; clear hI; rw [← hb']
   try simp (disch := omega) only [go_sem, jA, jB, jC, jD, jE, jF, jG, jH, jI, jJ, ↓reduceIte, reduceCtorEq, jO, jM, jN, jK, jL, u1, i1, h5, w1]
   refine up_nextG m4 hkl (by omega) ⟨by try simp (disch := omega) only [go_sem, jA, jB, jC, jD, jE, jF, jG, jH, jI, jJ, ↓reduceIte, reduceCtorEq, jO, jM, jN, jK, jL, h5]; congr 1; omega, by simp only [St.trunc]; omega, ⟨a4, by rw [tr_ob (by omega), upd_ne _ _ _ _ h1]; exact hdk⟩, fun i hi hne => ?_, ?_, b', hV', hbp', by rw [tr_ob (by omega), upd_same]⟩
   ·rw [tr_ob (by omega), upd_ne _ _ _ _ (by omega), hfk i (by omega) hne]; exact hfr i hi hne
   ·rw [tr_ob (by omega), upd_ne _ _ _ _ (by omega), hfk n0 (by omega) i0]; exact u0
  try simp (disch := omega) only [go_sem, jA, jB, jC, jD, jE, jF, jG, jH, jI, jJ, ↓reduceIte, reduceCtorEq, jO, jM, jN, jK, jL, u1, i1, h5, wts_length]
  refine (hcD_mk_Flows _ id g t a1 b.ps.length 30 (by omega) (by omega) (by omega) hl (by simp only; omega) (by try simp (disch := omega) only [go_sem, jA, jB, jC, jD, jE, jF, jG, jH, jI, jJ, ↓reduceIte, reduceCtorEq, jO, jM, jN, jK, jL])).mono ?_
  intro r τ hDR
  obtain ⟨⟨now, rfl, hnl, hnb⟩, hn, ⟨a4, hdk⟩, hf4⟩ := hDR.use (by simp only; omega)
  obtain ⟨ob4, m4, c4⟩ := τ
  simp only at hn hdk hf4
  subst hn
  have hfk : ∀ i, i < m4 → i ≠ id → ob4 i = ob i := fun i hi hne => by rw [hf4 i hi hne, upd_ne _ _ _ _ hne]
  have w1 := (hfk (n0 + 1) (by omega) i1).trans u1
  try simp (disch := omega) only [go_sem, jA, jB, jC, jD, jE, jF, jG, jH, jI, jJ, ↓reduceIte, reduceCtorEq, jO, jM, jN, jK, jL, u1, i1, h5]
  refine ⟨w1, ?_⟩
  have hI := ok_ref36_See b now hV.sz (by omega)
  have hfl : flsB now = true := List.all_eq_true.2 fun x hx => by have := hnb x hx; simp [flB, inW]; omega
  rw [seeV, seeR, see_e0 (vdB_iff.2 hV) (by omega) hfl, if_pos rfl] at hI
  have hV1 := hV.see (now := now) (by omega) hfl
  simp only [bov] at hI
  refine call_pc hI (by simp [go_sem, wts_pur, lls_pur, wns_pur, ints_pur]) ?_
  obtain ⟨b', hb', hV', hbp'⟩ : ∃ b' : Bo, b' = seeB b now ∧ Vb b' ∧ b'.ps = ps := ⟨_, rfl, hV1, hbp⟩
  rw [← hb'] at hV1; clear hI; rw [← hb']
  try simp (disch := omega) only [go_sem, jA, jB, jC, jD, jE, jF, jG, jH, jI, jJ, ↓reduceIte, reduceCtorEq, jO, jM, jN, jK, jL, u1, i1, h5, w1]
  refine up_nextG m4 hkl (by omega) ⟨by try simp (disch := omega) only [go_sem, jA, jB, jC, jD, jE, jF, jG, jH, jI, jJ, ↓reduceIte, reduceCtorEq, jO, jM, jN, jK, jL, h5]; congr 1; omega, by simp only [St.trunc]; omega, ⟨a4, by rw [tr_ob (by omega), upd_ne _ _ _ _ h1]; exact hdk⟩, fun i hi hne => ?_, ?_, b', hV', hbp', by rw [tr_ob (by omega), upd_same]⟩
  ·rw [tr_ob (by omega), upd_ne _ _ _ _ (by omega), hfk i (by omega) hne]; exact hfr i hi hne
  ·rw [tr_ob (by omega), upd_ne _ _ _ _ (by omega), hfk n0 (by omega) i0]; exact u0
 ·try simp (disch := omega) only [go_sem, jA, jB, jC, jD, jE, jF, jG, jH, jI, jJ, ↓reduceIte, reduceCtorEq, jO, jM, jN, jK, jL, u1, u0, i2]
  refine ⟨bov b, a, Pub.e (by simp [go_sem, bov, wts_pur, lls_pur, wns_pur]), ⟨b, rfl, hV, by rw [hbp]; exact hps⟩, by try simp (disch := omega) only [go_sem, jA, jB, jC, jD, jE, jF, jG, jH, jI, jJ, ↓reduceIte, reduceCtorEq, jO, jM, jN, jK, jL, h0]; exact hd, fun i hi hne => ?_⟩
  simp only at hi
  have z2 : ¬ i = n0 := by omega
  try simp (disch := omega) only [go_sem, jA, jB, jC, jD, jE, jF, jG, jH, jI, jJ, ↓reduceIte, reduceCtorEq, jO, jM, jN, jK, jL, z2]
  exact hfr i hi hne
theorem ok_slices_Index__Cause (l : List Cs) (c : Cs) (hl : l.length ≤ 9223372036854775807) : PC prog n_slices_Index__Cause [.list 2 (css l), csv c] (.int .i64 (match l.findIdx? (fun x => decide (x = c)) with | some i => (i : Int) | none => -1)) := by
 refine PC_of_body b_slices_Index__Cause (by simp) ?_
 simp only [c_slices_Index__Cause, go_sem, jA, jB, jC, jD, jE, jF, jG, jH, jI, jJ, ↓reduceIte, reduceCtorEq, jP, csv, css_length]
 refine awp_upG [4, 5, 8, 9, 10, 11, 12, 13, 14, 15, 16, 17, 18] (by kernel_rfl) l.length (fun k e σ => e 8 = .int .i64 k ∧ 1 ≤ σ.n ∧ σ.ob 0 = some ⟨0, 2, 39, false, true, [csv c]⟩ ∧ ∀ j, j < k → ∀ y, l[j]? = some y → decide (y = c) = false) ?_ ?_
 ·exact ⟨(by first | rfl | (simp (disch := omega) only [go_sem, jA, jB, jC, jD, jE, jF, jG, jH, jI, jJ, ↓reduceIte, reduceCtorEq, jP, jO, jM, jN]; try rfl)), by simp, (by first | rfl | (simp (disch := omega) only [go_sem, jA, jB, jC, jD, jE, jF, jG, jH, jI, jJ, ↓reduceIte, reduceCtorEq, jP, jO, jM, jN]; try rfl)), fun j hj => by omega⟩
 rintro k fe ob m c2 hk hm ⟨hki, hm1, ho, hj⟩
 simp (maxSteps := 1000000) only [go_sem, jA, jB, jC, jD, jE, jF, jG, jH, jI, jJ, ↓reduceIte, reduceCtorEq, jP] at hki hm hm1 ho
 try simp (disch := omega) only [go_sem, jA, jB, jC, jD, jE, jF, jG, jH, jI, jJ, ↓reduceIte, reduceCtorEq, jO, jM, jN, jK, jL, hki, css_length]
 refine cond_d (fun hlt => ?_) (fun hge => ?_)
 ·have hkl : k < l.length := by omega
  have hk2 : l[k]? = some l[k] := List.getElem?_eq_getElem hkl
  have hnx := idx_next hk2 hj
  have hfi : decide (l[k] = c) = true → l.findIdx? (fun x => decide (x = c)) = some k := fun h => by
   rw [List.findIdx?_eq_some_iff_getElem]
   exact ⟨hkl, h, fun j hjk => by have := hj j hjk l[j] (List.getElem?_eq_getElem (by omega)); simpa using this⟩
  generalize l[k] = y at *
  have z0 : ¬ 0 = m := by omega
  simp only [csv] at ho
  try simp (disch := omega) only [go_sem, jA, jB, jC, jD, jE, jF, jG, jH, jI, jJ, ↓reduceIte, reduceCtorEq, jO, jM, jN, jK, jL, hki, css_length, css_get, hk2, Option.map_some, csv, ho, z0]
  refine ⟨by omega, by omega, ?_⟩
  refine cond_split (fun hq => ?_) (fun hq => ?_) <;> try simp (disch := omega) only [go_sem, jA, jB, jC, jD, jE, jF, jG, jH, jI, jJ, ↓reduceIte, reduceCtorEq, jO, jM, jN, jK, jL, hki]
  ·rw [hfi (by simp only [Bool.and_eq_true, decide_eq_true_eq] at hq; rw [decide_eq_true_eq, cs_eq]; omega)]
   exact Pub.pure rfl
  ·exact up_nextG m hkl (by omega) ⟨(by first | rfl | (simp (disch := omega) only [go_sem, jA, jB, jC, jD, jE, jF, jG, jH, jI, jJ, ↓reduceIte, reduceCtorEq, jP, jO, jM, jN]; try rfl)), by simp only [St.trunc]; omega, by rw [tr_ob (by omega)]; exact ho, hnx (by simp only [Bool.and_eq_false_iff, decide_eq_false_iff_not] at hq; rw [decide_eq_false_iff_not, cs_eq]; omega)⟩
 ·obtain rfl : k = l.length := by omega
  try simp (disch := omega) only [go_sem, jA, jB, jC, jD, jE, jF, jG, jH, jI, jJ, ↓reduceIte, reduceCtorEq, jO, jM, jN, jK, jL]
  have : l.findIdx? (fun x => decide (x = c)) = none := by
   rw [List.findIdx?_eq_none_iff]
   intro x hx
   obtain ⟨i, hi⟩ := List.getElem?_of_mem hx
   exact hj i (List.getElem?_eq_some_iff.1 hi).1 x hi
  rw [this]
  exact Pub.pure rfl
theorem ok_slices_Contains__Cause (l : List Cs) (c : Cs) (hl : l.length ≤ 9223372036854775807) : PC prog n_slices_Contains__Cause [.list 2 (css l), csv c] (.bool (l.contains c)) := by
 refine PC_of_body b_slices_Contains__Cause (by simp) ?_
 simp only [c_slices_Contains__Cause, go_sem, jA, jB, jC, jD, jE, jF, jG, jH, jI, jJ, ↓reduceIte, reduceCtorEq, jP, csv]
 try simp (disch := omega) only [go_sem, jA, jB, jC, jD, jE, jF, jG, jH, jI, jJ, ↓reduceIte, reduceCtorEq, jO, jM, jN, jK, jL]
 have hI := ok_slices_Index__Cause l c hl
 simp only [csv] at hI
 refine call_pc hI (by simp [go_sem, css_pur]) ?_
 try simp (disch := omega) only [go_sem, jA, jB, jC, jD, jE, jF, jG, jH, jI, jJ, ↓reduceIte, reduceCtorEq, jO, jM, jN, jK, jL]
 refine Pub.of_eq ?_ rfl
 cases h : l.findIdx? (fun x => decide (x = c)) with
 | none =>
  rw [List.findIdx?_eq_none_iff] at h
  have : l.contains c = false := by
   rw [Bool.eq_false_iff]
   intro hc
   rw [List.contains_iff_mem] at hc
   simpa using h c hc
  rw [this]; rfl
 | some i =>
  rw [List.findIdx?_eq_some_iff_getElem] at h
  obtain ⟨hi, h2, _⟩ := h
  have : l.contains c = true := by
   rw [List.contains_iff_mem]
   rw [← of_decide_eq_true h2]
   exact List.getElem_mem hi
  rw [this]
  simp
theorem ok_cause_at (b : Bo) (p : Int) (h : BoL b) : PC prog n_cause_at [bov b, .int .i64 p] (.tuple [.int .i64 (plI b.ac p), .bool (plB b.ac p)]) := by
 refine PC_of_body b_cause_at (by simp) ?_
 simp only [c_cause_at, go_sem, jA, jB, jC, jD, jE, jF, jG, jH, jI, jJ, ↓reduceIte, reduceCtorEq, jP, bov, wns_length]
 have hl := h.a
 refine awp_upG [4, 5, 6, 7, 11, 12, 13, 14, 15, 16, 17, 18, 19, 20, 21, 22, 23, 24, 25] (by kernel_rfl) b.ac.length (fun k e σ => e 11 = .int .i64 k ∧ σ.ob 0 = some ⟨0, 3, 31, false, true, [.agg [.list 4 (wts b.ps), .list 1 (lls b.pa), .list 4 (wns b.ac)]]⟩ ∧ ∀ j, j < k → ∀ y, b.ac[j]? = some y → decide (p ≤ y.p) = false) ?_ ?_
 ·exact ⟨(by first | rfl | (simp (disch := omega) only [go_sem, jA, jB, jC, jD, jE, jF, jG, jH, jI, jJ, ↓reduceIte, reduceCtorEq, jP, jO, jM, jN]; try rfl)), (by first | rfl | (simp (disch := omega) only [go_sem, jA, jB, jC, jD, jE, jF, jG, jH, jI, jJ, ↓reduceIte, reduceCtorEq, jP, jO, jM, jN]; try rfl)), fun j hj => by omega⟩
 rintro k fe ob m c hk hm ⟨hki, ho, hj⟩
 simp (maxSteps := 1000000) only [go_sem, jA, jB, jC, jD, jE, jF, jG, jH, jI, jJ, ↓reduceIte, reduceCtorEq, jP] at hki hm ho
 try simp (disch := omega) only [go_sem, jA, jB, jC, jD, jE, jF, jG, jH, jI, jJ, ↓reduceIte, reduceCtorEq, jO, jM, jN, jK, jL, hki, wns_length]
 refine cond_d (fun hlt => ?_) (fun hge => ?_)
 ·have hkl : k < b.ac.length := by omega
  have hk2 : b.ac[k]? = some b.ac[k] := List.getElem?_eq_getElem hkl
  have hat := idx_at hkl hj
  have hnx := idx_next hk2 hj
  generalize b.ac[k] = x at *
  have z0 : ¬ 0 = m := by omega
  try simp (disch := omega) only [go_sem, jA, jB, jC, jD, jE, jF, jG, jH, jI, jJ, ↓reduceIte, reduceCtorEq, jO, jM, jN, jK, jL, hki, wns_length, wns_get, hk2, Option.map_some, wnv, ho, z0]
  refine ⟨by omega, by omega, ?_⟩
  refine cond_d (fun hp => ?_) (fun hp => ?_) <;> try simp (disch := omega) only [go_sem, jA, jB, jC, jD, jE, jF, jG, jH, jI, jJ, ↓reduceIte, reduceCtorEq, jO, jM, jN, jK, jL, hki, ho, z0]
  ·have e1 : plI b.ac p = k := hat (by simpa using hp)
   rw [plB, e1, hk2]
   exact Pub.pure rfl
  ·exact up_nextG (m + 1) hkl (by omega) ⟨(by first | rfl | (simp (disch := omega) only [go_sem, jA, jB, jC, jD, jE, jF, jG, jH, jI, jJ, ↓reduceIte, reduceCtorEq, jP, jO, jM, jN]; try rfl)), by try simp (disch := omega) only [go_sem, jA, jB, jC, jD, jE, jF, jG, jH, jI, jJ, ↓reduceIte, reduceCtorEq, jO, jM, jN, jK, jL, z0]; exact ho, hnx (by simpa using hp)⟩
 ·obtain rfl : k = b.ac.length := by omega
  have e1 : plI b.ac p = b.ac.length := idx_no hj
  try simp (disch := omega) only [go_sem, jA, jB, jC, jD, jE, jF, jG, jH, jI, jJ, ↓reduceIte, reduceCtorEq, jO, jM, jN, jK, jL, ho, wns_length]
  rw [plB, e1, List.getElem?_eq_none (Nat.le_refl _)]
  exact Pub.pure rfl
def rdyE (b : Bo) (p : Int) : Int := if vdB b = false then 50 else if p < 0 ∨ b.ps.length ≤ p then 52 else 0
theorem ok_cause_ready (b : Bo) (p : Int) (h : BoL b) : PC prog n_cause_ready [bov b, .int .i64 p] (.int .i64 (rdyE b p)) := by
 refine PC_of_body b_cause_ready (by simp) ?_
 simp only [c_cause_ready, bov]
 have hC := ok_warning_Check b h
 simp only [bov] at hC
 try simp (disch := omega) only [go_sem, jA, jB, jC, jD, jE, jF, jG, jH, jI, jJ, ↓reduceIte, reduceCtorEq, jO, jM, jN, jK, jL]
 refine call_pc hC (by simp [go_sem, wts_pur, lls_pur, wns_pur]) ?_
 cases hv : vdB b <;> try simp (disch := omega) only [go_sem, jA, jB, jC, jD, jE, jF, jG, jH, jI, jJ, ↓reduceIte, reduceCtorEq, jO, jM, jN, jK, jL, chkE, hv, wts_length]
 ·exact Pub.of_eq (by rw [rdyE, if_pos hv]) rfl
 refine gd_fd rfl (fun g1 => ?_) (fun g1 => ?_) <;> try simp (disch := omega) only [go_sem, jA, jB, jC, jD, jE, jF, jG, jH, jI, jJ, ↓reduceIte, reduceCtorEq, jO, jM, jN, jK, jL, wts_length]
 ·exact Pub.of_eq (by rw [rdyE, if_neg (by simp [hv]), if_pos (.inl g1)]) rfl
 refine cond_d (fun g2 => ?_) (fun g2 => ?_) <;> try simp (disch := omega) only [go_sem, jA, jB, jC, jD, jE, jF, jG, jH, jI, jJ, ↓reduceIte, reduceCtorEq, jO, jM, jN, jK, jL, wts_length]
 ·exact Pub.of_eq (by rw [rdyE, if_neg (by simp [hv]), if_pos (.inr g2)]) rfl
 exact Pub.of_eq (by rw [rdyE, if_neg (by simp [hv]), if_neg (by omega)]) rfl
def wnJ (l : List Wn) (j : Nat) (E : AV) (k : Nat) : List AV := (wns (l.take k)).set j (wnX (gA l j) E)
theorem wnJ_len (l : List Wn) (j : Nat) (E : AV) (k : Nat) : (wnJ l j E k).length ≤ k := by rw [wnJ, List.length_set, wns_length, List.length_take]; omega
theorem wnJ_le {l : List Wn} {j k : Nat} {E : AV} (h : k ≤ j) : wnJ l j E k = wns (l.take k) := by
 rw [wnJ, List.set_eq_of_length_le]; rw [wns_length, List.length_take]; omega
theorem wnJ_snoc {l : List Wn} {j k : Nat} {E : AV} (hk : k < l.length) (h : k ≠ j) : wnJ l j E (k + 1) = wnJ l j E k ++ [wnv l[k]] := by
 have h1 : wns (l.take (k + 1)) = wns (l.take k) ++ [wnv l[k]] := by rw [wns_snoc, List.take_add_one, List.getElem?_eq_getElem hk]; rfl
 have h2 : (wns (l.take k)).length = k := by rw [wns_length, List.length_take]; omega
 rw [wnJ, wnJ, h1, List.set_append]
 split
 ·rfl
 ·rename_i h3
  rw [h2] at h3
  rw [List.set_eq_of_length_le (by simp; omega), List.set_eq_of_length_le (by omega)]
theorem wnJ_at {l : List Wn} {j : Nat} {E F : AV} (hj : j < l.length) : wnJ l j E (j + 1) = wnJ l j F j ++ [wnX (gA l j) E] := by
 have h1 : wns (l.take (j + 1)) = wns (l.take j) ++ [wnv l[j]] := by rw [wns_snoc, List.take_add_one, List.getElem?_eq_getElem hj]; rfl
 have h2 : (wns (l.take j)).length = j := by rw [wns_length, List.length_take]; omega
 rw [wnJ_le (Nat.le_refl _), wnJ, h1, List.set_append, if_neg (by omega), h2, Nat.sub_self]; rfl
theorem gA_eq {l : List Wn} {j : Nat} (h : j < l.length) : gA l j = l[j] := by simp [gA, List.getD_eq_getElem?_getD, h]
def CpJ (σ : St) (b : Bo) (j : Nat) (r : AV) (τ : St) : Prop :=
 ∃ Y X E, r = .agg [.list 4 (wts b.ps), Y, X] ∧ SlR 1 tyL τ (lls b.pa) Y ∧ SlR 4 tyA τ (wnJ b.ac j E b.ac.length) X ∧ (b.ac.length ≤ j → E = .nil) ∧ (j < b.ac.length → SlR 2 tyC τ (css (gA b.ac j).cs) E) ∧ σ.n ≤ τ.n ∧
  (∀ i, ¬ Oth Y i → σ.n ≤ i ∧ Oth X i ∧ Oth E i) ∧ (∀ i, ¬ Oth X i → σ.n ≤ i ∧ Oth E i) ∧ (∀ i, ¬ Oth E i → σ.n ≤ i) ∧ ∀ i, i < σ.n → τ.ob i = σ.ob i
theorem hc0_cause_copied (σ : St) (b : Bo) (j : Nat) (hV : Vb b) : HC prog n_cause_copied [bov b] σ (CpJ σ b j) := by
 obtain ⟨ob0, n0, c0⟩ := σ
 have hp8 := hV.p
 have ha8 := hV.a1
 have hpa8 : b.pa.length ≤ 8 := by have := hV.q; omega
 refine HC_of_body b_cause_copied (by simp) ?_
 simp only [c_cause_copied, bov]
 try simp (disch := omega) only [go_sem, jA, jB, jC, jD, jE, jF, jG, jH, jI, jJ, ↓reduceIte, reduceCtorEq, jO, jM, jN, jK, jL]
 refine call_pc (okl_slices_Clone__Watch (wts b.ps) (by rw [wts_length]; omega) (wts_pur _) (wts_ok _)) (by simp [go_sem, wts_pur]) ?_
 have z0 : ¬ n0 = n0 + 2 := by omega
 have z1 : ¬ n0 + 1 = n0 + 2 := by omega
 try simp (disch := omega) only [go_sem, jA, jB, jC, jD, jE, jF, jG, jH, jI, jJ, ↓reduceIte, reduceCtorEq, jO, jM, jN, jK, jL, z0, z1]
 have zz0 : ¬ n0 = n0 + 1 := by omega
 try simp (disch := omega) only [go_sem, jA, jB, jC, jD, jE, jF, jG, jH, jI, jJ, ↓reduceIte, reduceCtorEq, jO, jM, jN, jK, jL, lls_length, zz0]
 refine awp_upG [5, 15, 16, 17, 18, 19, 20, 21, 22, 23, 24, 25, 26] (by kernel_rfl) b.pa.length (fun k e σ => e 15 = .int .i64 k ∧ n0 + 3 ≤ σ.n ∧ (∀ i, i < n0 → σ.ob i = ob0 i) ∧ σ.ob n0 = some ⟨c0, 3, 31, false, true, [.agg [.list 4 (wts b.ps), .list 1 (lls b.pa), .list 4 (wns b.ac)]]⟩ ∧ σ.ob (n0 + 1) = some ⟨c0 + 1, 3, 31, false, true, [.agg [.nil, .nil, .nil]]⟩ ∧
  ∃ Y, σ.ob (n0 + 2) = some ⟨c0 + 2, 3, 31, false, true, [.agg [.list 4 (wts b.ps), Y, .nil]]⟩ ∧ SlR 1 tyL σ (lls (b.pa.take k)) Y ∧ ∀ i, ¬ Oth Y i → n0 + 3 ≤ i) ?_ ?_
 ·refine ⟨(by first | rfl | (simp (disch := omega) only [go_sem, jA, jB, jC, jD, jE, jF, jG, jH, jI, jJ, ↓reduceIte, reduceCtorEq, jP, jO, jM, jN]; try rfl)), by simp only; omega, fun i hi => ?_, by try simp (disch := omega) only [go_sem, jA, jB, jC, jD, jE, jF, jG, jH, jI, jJ, ↓reduceIte, reduceCtorEq, jO, jM, jN, jK, jL, zz0, z0], by try simp (disch := omega) only [go_sem, jA, jB, jC, jD, jE, jF, jG, jH, jI, jJ, ↓reduceIte, reduceCtorEq, jO, jM, jN, jK, jL, zz0, z1], .nil, by try simp (disch := omega) only [go_sem, jA, jB, jC, jD, jE, jF, jG, jH, jI, jJ, ↓reduceIte, reduceCtorEq, jO, jM, jN, jK, jL], SlR.nil, fun i hi => absurd (Oth.nil i) hi⟩
  have y0 : ¬ i = n0 := by omega
  have y1 : ¬ i = n0 + 1 := by omega
  have y2 : ¬ i = n0 + 2 := by omega
  try simp (disch := omega) only [go_sem, jA, jB, jC, jD, jE, jF, jG, jH, jI, jJ, ↓reduceIte, reduceCtorEq, jO, jM, jN, jK, jL, y0, y1, y2]
 rintro k fe ob m c hk hm ⟨h15, hm1, ho, v0, v1, Y, v2, hY, hYn⟩
 simp (maxSteps := 1000000) only [go_sem, jA, jB, jC, jD, jE, jF, jG, jH, jI, jJ, ↓reduceIte, reduceCtorEq, jP] at h15 hm hm1 ho v0 v1 v2
 try simp (disch := omega) only [go_sem, jA, jB, jC, jD, jE, jF, jG, jH, jI, jJ, ↓reduceIte, reduceCtorEq, jO, jM, jN, jK, jL, h15, lls_length]
 refine cond_d (fun hlt => ?_) (fun hge => ?_)
 ·have hkl : k < b.pa.length := by omega
  have hk2 : b.pa[k]? = some b.pa[k] := List.getElem?_eq_getElem hkl
  obtain ⟨hxl, _⟩ := hV.l1 _ (List.getElem_mem hkl)
  have htk : lls (b.pa.take (k + 1)) = lls (b.pa.take k) ++ [.list 1 (ints b.pa[k])] := by rw [take_snoc _ _ hkl, ← lls_snoc]
  generalize b.pa[k] = l at *
  try simp (disch := omega) only [go_sem, jA, jB, jC, jD, jE, jF, jG, jH, jI, jJ, ↓reduceIte, reduceCtorEq, jO, jM, jN, jK, jL, h15, lls_length, lls_get, hk2, Option.map_some, v2]
  refine ⟨by omega, by omega, ?_⟩
  refine call_pc (okl_slices_Clone__int (ints l) (by rw [ints_length]; omega) (ints_pur _) (ints_ok _)) (by simp [go_sem, ints_pur]) ?_
  try simp (disch := omega) only [go_sem, jA, jB, jC, jD, jE, jF, jG, jH, jI, jJ, ↓reduceIte, reduceCtorEq, jO, jM, jN, jK, jL, v2]
  have hyl : (lls (b.pa.take k)).length = k := by simp [lls]; omega
  refine app_slr (L := lls (b.pa.take k)) (b := 24) hY (by omega) (by omega) fun Y' τ hY' kY => ?_
  obtain ⟨ob4, m4, c4⟩ := τ
  have q1 : m ≤ m4 := kY.1
  have q2 : ∀ i, i < n0 + 3 → ob4 i = ob i := fun i hi => kY.2.1 i (by simp only; omega) (Oth.em fun h => by have := hYn i h; omega)
  have u2 := (q2 (n0 + 2) (by omega)).trans v2
  try simp (disch := omega) only [go_sem, jA, jB, jC, jD, jE, jF, jG, jH, jI, jJ, ↓reduceIte, reduceCtorEq, jO, jM, jN, jK, jL, u2, hY'.flat, hY'.cells, hY'.one, h15]
  have hF : ∀ (v : Option AObj) i, i < m4 → i ≠ n0 + 2 → ((⟨upd ob4 (n0 + 2) v, m4, c4⟩ : St).trunc m4).ob i = ob4 i := fun v i hi hne => by
   simp only [St.trunc, if_pos hi]; rw [upd_ne _ _ _ _ hne]
  have hYn' : ∀ i, ¬ Oth Y' i → n0 + 3 ≤ i := fun i hi => Nat.le_of_not_lt fun hh => hi (kY.2.2 i (by simp only; omega) (Oth.em fun h => by have := hYn i h; omega))
  refine up_nextG m4 hkl (by omega) ⟨(by first | rfl | (simp (disch := omega) only [go_sem, jA, jB, jC, jD, jE, jF, jG, jH, jI, jJ, ↓reduceIte, reduceCtorEq, jP, jO, jM, jN]; try rfl)), by simp only [St.trunc]; omega, fun i hi => ?_, ?_, ?_, Y', ?_, ?_, hYn'⟩
  ·rw [hF _ i (by omega) (by omega), q2 i (by omega), ho i hi]
  ·rw [hF _ n0 (by omega) (by omega), q2 n0 (by omega), v0]
  ·rw [hF _ (n0 + 1) (by omega) (by omega), q2 (n0 + 1) (by omega), v1]
  ·simp only [St.trunc, if_pos (show n0 + 2 < m4 by omega), upd_same]
  ·rw [htk]
   refine hY'.move (by simp only [St.trunc]; omega) fun i hi hh => ?_
   have := hYn' i hh
   simp only at hi ⊢
   rw [hF _ i (by omega) (by omega)]
 obtain rfl : k = b.pa.length := by omega
 rw [List.take_length] at hY
 clear h15 hge
 try simp (disch := omega) only [go_sem, jA, jB, jC, jD, jE, jF, jG, jH, jI, jJ, ↓reduceIte, reduceCtorEq, jO, jM, jN, jK, jL, v0, wns_length]
 refine awp_upG [7, 30, 31, 32, 33, 34, 35, 36, 37, 38, 39, 40, 41, 42, 43, 44] (by kernel_rfl) b.ac.length (fun k e σ => e 30 = .int .i64 k ∧ m ≤ σ.n ∧ (∀ i, i < m → i ≠ n0 + 2 → σ.ob i = ob i) ∧
  ∃ X E, σ.ob (n0 + 2) = some ⟨c0 + 2, 3, 31, false, true, [.agg [.list 4 (wts b.ps), Y, X]]⟩ ∧ SlR 4 tyA σ (wnJ b.ac j E k) X ∧ (k ≤ j → E = .nil) ∧ (j < k → SlR 2 tyC σ (css (gA b.ac j).cs) E) ∧ (∀ i, ¬ Oth X i → m ≤ i ∧ Oth E i) ∧ ∀ i, ¬ Oth E i → m ≤ i) ?_ ?_
 ·exact ⟨(by first | rfl | (simp (disch := omega) only [go_sem, jA, jB, jC, jD, jE, jF, jG, jH, jI, jJ, ↓reduceIte, reduceCtorEq, jP, jO, jM, jN]; try rfl)), Nat.le_refl _, fun i hi _ => rfl, .nil, .nil, v2, by simp [wnJ, wns]; exact SlR.nil, fun _ => rfl, fun h => by omega, fun i hi => absurd (Oth.nil i) hi, fun i hi => absurd (Oth.nil i) hi⟩
 rintro k fe2 ob5 m5 c5 hk5 hm5 ⟨h30, hm6, ho5, X, E, w2, hX, hE0, hE1, hXn, hEn⟩
 simp (maxSteps := 1000000) only [go_sem, jA, jB, jC, jD, jE, jF, jG, jH, jI, jJ, ↓reduceIte, reduceCtorEq, jP] at h30 hm5 hm6 ho5 w2
 try simp (disch := omega) only [go_sem, jA, jB, jC, jD, jE, jF, jG, jH, jI, jJ, ↓reduceIte, reduceCtorEq, jO, jM, jN, jK, jL, h30, wns_length]
 refine cond_d (fun hlt => ?_) (fun hge => ?_)
 ·have hkl : k < b.ac.length := by omega
  have hk2 : b.ac[k]? = some b.ac[k] := List.getElem?_eq_getElem hkl
  have hcl := wnB_cs (hV.wn _ (List.getElem_mem hkl))
  have hJl := wnJ_len b.ac j E k
  have z3 : ¬ n0 + 2 = m5 := by omega
  have z4 : ¬ m5 = n0 + 2 := by omega
  have oX : ∀ i, i < m → Oth X i := fun i hi => Oth.em fun h => by have := (hXn i h).1; omega
  have oE : ∀ i, i < m → Oth E i := fun i hi => Oth.em fun h => by have := hEn i h; omega
  by_cases hkj : k = j
  ·subst hkj
   obtain rfl := hE0 (Nat.le_refl _)
   have hat : ∀ F, wnJ b.ac k F (k + 1) = wnJ b.ac k .nil k ++ [wnX b.ac[k] F] := fun F => by rw [wnJ_at (F := .nil) hkl, gA_eq hkl]
   rw [gA_eq hkl] at hE1 ⊢
   generalize b.ac[k] = w at *
   try simp (disch := omega) only [go_sem, jA, jB, jC, jD, jE, jF, jG, jH, jI, jJ, ↓reduceIte, reduceCtorEq, jO, jM, jN, jK, jL, h30, wns_length, wns_get, hk2, Option.map_some, wnv]
   refine ⟨by omega, by omega, ?_⟩
   refine HC.mono (hcl_slices_Clone__Cause _ (css w.cs) (by rw [css_length]; omega)) ?_
   intro F τ hN
   obtain ⟨hF1, hF2, hF3, hF4⟩ := hN.slr
   obtain ⟨ob6, m6, c6⟩ := τ
   have f2 : m5 + 1 ≤ m6 := hF2
   have f3 : ∀ i, i < m5 → ob6 i = ob5 i := fun i hi => (hF3 i (by simp only; omega)).trans (by simp only; rw [upd_ne _ _ _ _ (by omega), upd_ne _ _ _ _ (by omega)])
   have f4 : ∀ i, i < m5 + 1 → Oth F i := fun i hi => hF4 i (by simp only; omega)
   have f5 := hF3 m5 (by simp only; omega)
   simp only [upd_same] at f5
   have u2 := (f3 (n0 + 2) (by omega)).trans w2
   have z6 : ¬ m5 = m6 := by omega
   have z7 : ¬ n0 + 2 = m6 := by omega
   try simp (disch := omega) only [go_sem, jA, jB, jC, jD, jE, jF, jG, jH, jI, jJ, ↓reduceIte, reduceCtorEq, jO, jM, jN, jK, jL, hF1.flat, hF1.cells, hF1.one, f5, u2, z3, z4, z6, z7]
   refine app_er (ER.of_sl (L := [wnX w F]) (upd_same _ _ _) (Nat.lt_succ_self _)) ?_
   refine app_slr (b := 48) (hX.move (by simp only; omega) fun i hi hh => ?_) (by omega) (by omega) fun X' τ2 hX2 kX => ?_
   ·simp only at hi ⊢
    rw [upd_ne _ _ _ _ (by omega), upd_ne _ _ _ _ (by omega), f3 i hi]
   obtain ⟨ob7, m7, c7⟩ := τ2
   have q1 : m6 + 1 ≤ m7 := kX.1
   have q2 : ∀ i, i < m → ob7 i = ob5 i := fun i hi => (kX.2.1 i (by simp only; omega) (oX i hi)).trans (by simp only; rw [upd_ne _ _ _ _ (by omega), upd_ne _ _ _ _ (by omega), f3 i (by omega)])
   have q3 : ∀ i, m5 + 1 ≤ i → i < m6 → ob7 i = ob6 i := fun i hi hi2 => (kX.2.1 i (by simp only; omega) (hX.oth (by simp only; omega))).trans (by simp only; rw [upd_ne _ _ _ _ (by omega), upd_ne _ _ _ _ (by omega)])
   have hFi : ∀ i, ¬ Oth F i → m5 + 1 ≤ i ∧ i < m6 := fun i hi => ⟨Nat.le_of_not_lt fun h => hi (f4 i h), hF1.lt hi⟩
   have u7 := (q2 (n0 + 2) (by omega)).trans w2
   try simp (disch := omega) only [go_sem, jA, jB, jC, jD, jE, jF, jG, jH, jI, jJ, ↓reduceIte, reduceCtorEq, jO, jM, jN, jK, jL, u7, hX2.flat, hX2.cells, hX2.one, h30]
   have hG : ∀ (v : Option AObj) i, i < m7 → i ≠ n0 + 2 → ((⟨upd ob7 (n0 + 2) v, m7, c7⟩ : St).trunc m7).ob i = ob7 i := fun v i hi hne => by
    simp only [St.trunc, if_pos hi]; rw [upd_ne _ _ _ _ hne]
   have oX' : ∀ i, i < m → Oth X' i := fun i hi => kX.2.2 i (by simp only; omega) (oX i hi)
   refine up_nextG m7 hkl (by omega) ⟨(by first | rfl | (simp (disch := omega) only [go_sem, jA, jB, jC, jD, jE, jF, jG, jH, jI, jJ, ↓reduceIte, reduceCtorEq, jP, jO, jM, jN]; try rfl)), by simp only [St.trunc]; omega, fun i hi hne => ?_, X', F, ?_, ?_, fun h => by omega, fun _ => ?_, fun i hi => ?_, fun i hi => ?_⟩
   ·rw [hG _ i (by omega) hne, q2 i hi, ho5 i hi hne]
   ·simp only [St.trunc, if_pos (show n0 + 2 < m7 by omega), upd_same]
   ·rw [hat]
    refine hX2.move (by simp only [St.trunc]; omega) fun i hi hh => ?_
    have h1 : m ≤ i := Nat.le_of_not_lt fun h => hh (oX' i h)
    simp only at hi ⊢
    rw [hG _ i (by omega) (by omega)]
   ·refine hF1.move (by simp only [St.trunc]; omega) fun i hi hh => ?_
    have h1 := hFi i hh
    rw [hG _ i (by omega) (by omega), q3 i h1.1 h1.2]
   ·refine ⟨Nat.le_of_not_lt fun h => hi (oX' i h), Oth.em fun hh => ?_⟩
    have h1 := hFi i hh
    exact hi (kX.2.2 i (by simp only; omega) (hX.oth (by simp only; omega)))
   ·have := hFi i hi; omega
  ·have hsn := wnJ_snoc (E := E) hkl hkj
   generalize b.ac[k] = w at *
   try simp (disch := omega) only [go_sem, jA, jB, jC, jD, jE, jF, jG, jH, jI, jJ, ↓reduceIte, reduceCtorEq, jO, jM, jN, jK, jL, h30, wns_length, wns_get, hk2, Option.map_some, wnv]
   refine ⟨by omega, by omega, ?_⟩
   refine call_pc (okl_slices_Clone__Cause (css w.cs) (by rw [css_length]; omega) (css_pur _) (css_ok _)) (by simp [go_sem, css_pur]) ?_
   have z6 : ¬ m5 = m5 + 1 := by omega
   have z7 : ¬ n0 + 2 = m5 + 1 := by omega
   try simp (disch := omega) only [go_sem, jA, jB, jC, jD, jE, jF, jG, jH, jI, jJ, ↓reduceIte, reduceCtorEq, jO, jM, jN, jK, jL, w2, z3, z4, z6, z7]
   refine app_er (ER.of_sl (L := [wnv w]) (upd_same _ _ _) (Nat.lt_succ_self _)) ?_
   refine app_slr (b := 48) (hX.move (by simp only; omega) fun i hi hh => ?_) (by omega) (by omega) fun X' τ2 hX2 kX => ?_
   ·simp only at hi ⊢
    rw [upd_ne _ _ _ _ (by omega), upd_ne _ _ _ _ (by omega), upd_ne _ _ _ _ (by omega), upd_ne _ _ _ _ (by omega)]
   obtain ⟨ob7, m7, c7⟩ := τ2
   have q1 : m5 + 2 ≤ m7 := kX.1
   have q2 : ∀ i, i < m5 → Oth X i → ob7 i = ob5 i := fun i hi ho => (kX.2.1 i (by simp only; omega) ho).trans (by simp only; rw [upd_ne _ _ _ _ (by omega), upd_ne _ _ _ _ (by omega), upd_ne _ _ _ _ (by omega), upd_ne _ _ _ _ (by omega)])
   have u7 := (q2 (n0 + 2) (by omega) (oX _ (by omega))).trans w2
   try simp (disch := omega) only [go_sem, jA, jB, jC, jD, jE, jF, jG, jH, jI, jJ, ↓reduceIte, reduceCtorEq, jO, jM, jN, jK, jL, u7, hX2.flat, hX2.cells, hX2.one, h30]
   have hG : ∀ (v : Option AObj) i, i < m7 → i ≠ n0 + 2 → ((⟨upd ob7 (n0 + 2) v, m7, c7⟩ : St).trunc m7).ob i = ob7 i := fun v i hi hne => by
    simp only [St.trunc, if_pos hi]; rw [upd_ne _ _ _ _ hne]
   have oX' : ∀ i, i < m → Oth X' i := fun i hi => kX.2.2 i (by simp only; omega) (oX i hi)
   refine up_nextG m7 hkl (by omega) ⟨(by first | rfl | (simp (disch := omega) only [go_sem, jA, jB, jC, jD, jE, jF, jG, jH, jI, jJ, ↓reduceIte, reduceCtorEq, jP, jO, jM, jN]; try rfl)), by simp only [St.trunc]; omega, fun i hi hne => ?_, X', E, ?_, ?_, fun h => hE0 (by omega), fun h => ?_, fun i hi => ⟨Nat.le_of_not_lt fun h => hi (oX' i h), Oth.em fun hh => ?_⟩, hEn⟩
   ·rw [hG _ i (by omega) hne, q2 i (by omega) (oX i hi), ho5 i hi hne]
   ·simp only [St.trunc, if_pos (show n0 + 2 < m7 by omega), upd_same]
   ·rw [hsn]
    refine hX2.move (by simp only [St.trunc]; omega) fun i hi hh => ?_
    have h1 : m ≤ i := Nat.le_of_not_lt fun h => hh (oX' i h)
    simp only at hi ⊢
    rw [hG _ i (by omega) (by omega)]
   ·refine (hE1 (by omega)).move (by simp only [St.trunc]; omega) fun i hi hh => ?_
    have h1 := hEn i hh
    simp only at hi
    rw [hG _ i (by omega) (by omega), q2 i hi (Oth.em fun hx => hh (hXn i hx).2)]
   ·have h1 : i < m5 := by
     by_cases hjk : j < k
     ·exact (hE1 hjk).lt hh
     ·obtain rfl := hE0 (by omega)
      exact absurd (Oth.nil i) hh
    exact hi (kX.2.2 i (by simp only; omega) (Oth.em fun hx => hh (hXn i hx).2))
 ·obtain rfl : k = b.ac.length := by omega
  have y1 : ob5 (n0 + 1) = some ⟨c0 + 1, 3, 31, false, true, [.agg [.nil, .nil, .nil]]⟩ := by rw [ho5 (n0 + 1) (by omega) (by omega), v1]
  have y0 : ob5 n0 = some ⟨c0, 3, 31, false, true, [.agg [.list 4 (wts b.ps), .list 1 (lls b.pa), .list 4 (wns b.ac)]]⟩ := by rw [ho5 n0 (by omega) (by omega), v0]
  try simp (disch := omega) only [go_sem, jA, jB, jC, jD, jE, jF, jG, jH, jI, jJ, ↓reduceIte, reduceCtorEq, jO, jM, jN, jK, jL, w2, y1, y0, hY.one, hX.one, hY.flat, hX.flat, hY.cells, hX.cells]
  have hup : ∀ (v : Option AObj) i, i ≠ n0 + 1 → upd ob5 (n0 + 1) v i = ob5 i := fun v i hne => upd_ne _ _ _ _ hne
  refine ⟨Y, X, E, rfl, ?_, ?_, hE0, fun h => ?_, by simp only; omega, fun i hi => ⟨by have := hYn i hi; simp only; omega, Oth.em fun h => ?_, Oth.em fun h => ?_⟩, fun i hi => ⟨by have := (hXn i hi).1; simp only; omega, (hXn i hi).2⟩, fun i hi => by have := hEn i hi; simp only; omega, fun i hi => ?_⟩
  ·refine hY.move (by simp only; omega) fun i hi hh => ?_
   have := hYn i hh
   simp only at hi ⊢
   rw [hup _ i (by omega), ho5 i hi (by omega)]
  ·refine hX.move (Nat.le_refl _) fun i hi hh => ?_
   have := (hXn i hh).1
   simp only
   rw [hup _ i (by omega)]
  ·refine (hE1 h).move (Nat.le_refl _) fun i hi hh => ?_
   have := hEn i hh
   simp only
   rw [hup _ i (by omega)]
  ·have := (hXn i h).1; exact absurd (hY.lt hi) (by simp only; omega)
  ·have := hEn i h; exact absurd (hY.lt hi) (by simp only; omega)
  ·simp only at hi ⊢
   rw [hup _ i (by omega), ho5 i (by omega) (by omega), ho i hi]
end Go.Proofs.Try
