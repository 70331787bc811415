/-
  OWN WORK, put together by tools/asm.py: what functions do.
-/
import Derived.Test.YtekndbmlkheddaaLibE
set_option linter.unusedSimpArgs false
set_option linter.unusedVariables false
set_option maxRecDepth 100000
set_option maxHeartbeats 1000000
namespace Go.Proofs.Try
open Go.Ab Go
open Int renaming reduceEq → jjA, reduceLT → jjB, reduceLE → jjC, reduceToNat → jjD
open Nat renaming reduceLT → jjE, reduceEqDiff → jjF, reduceAdd → jjG, reduceLeDiff → jjH, reduceSub → jjI, reduceMul → jjJ, sub_zero → jjK, sub_self → jjL
/-- flows that are drawn: a new slice -/
def FlwG (σ : St) (id g : Nat) (t : List Int) (n : Nat) (most : Int) (r : AV) (σ' : St) : Prop := ∃ g2 L at2, r = .sl σ.n g2 1 0 L.length ∧ L.length = n ∧ (∀ x ∈ L, 0 ≤ x ∧ x < most) ∧ σ'.n = σ.n + 1 ∧ σ'.ob σ.n = some ⟨g2, 1, 3, false, true, ints L⟩ ∧ σ'.ob id = some ⟨g, 2, ty_Deck, false, true, [deckV t at2]⟩ ∧ ∀ i, i < σ.n → i ≠ id → σ'.ob i = σ.ob i
theorem hcG_mk_Flows (σ : St) (id g : Nat) (l : List Int) (at' : Nat) (n most : Int) (hn : n ≤ 1000000) (h1 : 1 ≤ most) (hm : most ≤ 4611686018427387904) (hl : l.length ≤ 9223372036854775807) (hid : id < σ.n) (hob : σ.ob id = some ⟨g, 2, ty_Deck, false, true, [deckV l at']⟩) :
    HC prog n_mk_Flows [.ptr id g 2 0 0, .int .i64 n, .int .i64 most] σ (FlwG σ id g l n.toNat most) := by
  refine HC_of_body b_mk_Flows (by simp) ?_
  obtain ⟨ob0, n0, c0⟩ := σ
  simp only at hid hob
  have hne : ¬ id = n0 := by omega
  have hne' : ¬ n0 = id := by omega
  simp only [c_mk_Flows, go_sem, jjA, jjB, jjC, jjD, jjE, jjF, jjG, jjH, jjI, jjJ, ↓reduceIte, reduceCtorEq, w_app_nl]
  refine awp_upF [7, 9, 10, 11, 12, 13, 14, 15, 16, 17] (by kernel_rfl) n.toNat (fun r e σ => ∃ g2 L at2, e 7 = .sl n0 g2 1 0 r ∧ e 9 = .int .i64 r ∧ L.length = r ∧ (∀ x ∈ L, 0 ≤ x ∧ x < most) ∧ σ.ob n0 = some ⟨g2, 1, 3, false, true, ints L⟩ ∧ σ.ob id = some ⟨g, 2, ty_Deck, false, true, [deckV l at2]⟩ ∧ ∀ i, i < n0 → i ≠ id → σ.ob i = ob0 i) ?_ ?_
  · refine ⟨_, [], at', (by first | ((try simp (maxSteps := 1000000) only [go_sem, jjA, jjB, jjC, jjD, jjE, jjF, jjG, jjH, jjI, jjJ, ↓reduceIte, reduceCtorEq, w_app_nl]); done) | ((try simp (maxSteps := 1000000) only [go_sem, jjA, jjB, jjC, jjD, jjE, jjF, jjG, jjH, jjI, jjJ, ↓reduceIte, reduceCtorEq, w_app_nl]); rfl) | ((try simp (maxSteps := 1000000) (disch := omega) only [go_sem, jjA, jjB, jjC, jjD, jjE, jjF, jjG, jjH, jjI, jjJ, ↓reduceIte, reduceCtorEq, w_app_nl, wrap_id, w_ite_ne, w_ite_lt]); rfl) | (simp (maxSteps := 1000000) (disch := omega) only [go_sem, jjA, jjB, jjC, jjD, jjE, jjF, jjG, jjH, jjI, jjJ, ↓reduceIte, reduceCtorEq, w_app_nl, wrap_id, w_ite_ne, w_ite_lt]; done)), by simp [go_sem], rfl, by simp, by simp [go_sem, ints], ?_, ?_⟩
    · simp (maxSteps := 1000000) only [go_sem, jjA, jjB, jjC, jjD, jjE, jjF, jjG, jjH, jjI, jjJ, ↓reduceIte, reduceCtorEq, w_app_nl, hne]; exact hob
    · intro i hi hi2
      have : ¬ i = n0 := by omega
      simp (maxSteps := 1000000) only [go_sem, jjA, jjB, jjC, jjD, jjE, jjF, jjG, jjH, jjI, jjJ, ↓reduceIte, reduceCtorEq, w_app_nl, this]
  · rintro r fe ob c hr ⟨g2, L, at3, h7, h9, hL, hLb, hon, hoid, holt⟩
    simp (maxSteps := 1000000) only [go_sem, jjA, jjB, jjC, jjD, jjE, jjF, jjG, jjH, jjI, jjJ, ↓reduceIte, reduceCtorEq, w_app_nl] at h7 h9 hon hoid holt
    simp (maxSteps := 1000000) only [go_sem, jjA, jjB, jjC, jjD, jjE, jjF, jjG, jjH, jjI, jjJ, ↓reduceIte, reduceCtorEq, w_app_nl, h9]
    refine cond_d (fun hlt => ?_) (fun hge => ?_)
    · simp (maxSteps := 1000000) only [go_sem, jjA, jjB, jjC, jjD, jjE, jjF, jjG, jjH, jjI, jjJ, ↓reduceIte, reduceCtorEq, w_app_nl, h7]
      refine call_hc (ok_mk_Deck_Next _ id g ty_Deck true l at3 most (by simp (maxSteps := 1000000) only [go_sem, jjA, jjB, jjC, jjD, jjE, jjF, jjG, jjH, jjI, jjJ, ↓reduceIte, reduceCtorEq, w_app_nl, hne]; exact hoid) hm hl) ?_
      have hbd := deckR_bd l at3 most
      generalize deckR l at3 most = dr at *
      obtain ⟨a, at4⟩ := dr
      simp only at hbd
      simp (maxSteps := 1000000) (disch := omega) only [go_sem, jjA, jjB, jjC, jjD, jjE, jjF, jjG, jjH, jjI, jjJ, ↓reduceIte, reduceCtorEq, w_app_nl, wrap_id, h7, h9, hon, hne, hne', upd_upd]
      repeat (refine And.intro (by first | omega | (rw [mxL]; omega) | (simp [maxLen]; done) | (simp [maxLen]; omega)) ?_)
      refine ⟨by simp [ints_length, hL], by simp [maxLen]; omega, by omega, ?_⟩
      try repeat (refine And.intro (by first | omega | (rw [mxL]; omega) | (simp [maxLen]; done) | (simp [maxLen]; omega)) ?_)
      refine up_next (by omega) ⟨_, L ++ [a], at4, (by first | ((try simp (maxSteps := 1000000) only [go_sem, jjA, jjB, jjC, jjD, jjE, jjF, jjG, jjH, jjI, jjJ, ↓reduceIte, reduceCtorEq, w_app_nl]); done) | ((try simp (maxSteps := 1000000) only [go_sem, jjA, jjB, jjC, jjD, jjE, jjF, jjG, jjH, jjI, jjJ, ↓reduceIte, reduceCtorEq, w_app_nl]); rfl) | ((try simp (maxSteps := 1000000) (disch := omega) only [go_sem, jjA, jjB, jjC, jjD, jjE, jjF, jjG, jjH, jjI, jjJ, ↓reduceIte, reduceCtorEq, w_app_nl, wrap_id, w_ite_ne, w_ite_lt]); rfl) | (simp (maxSteps := 1000000) (disch := omega) only [go_sem, jjA, jjB, jjC, jjD, jjE, jjF, jjG, jjH, jjI, jjJ, ↓reduceIte, reduceCtorEq, w_app_nl, wrap_id, w_ite_ne, w_ite_lt]; done)), (by first | ((try simp (maxSteps := 1000000) only [go_sem, jjA, jjB, jjC, jjD, jjE, jjF, jjG, jjH, jjI, jjJ, ↓reduceIte, reduceCtorEq, w_app_nl]); done) | ((try simp (maxSteps := 1000000) only [go_sem, jjA, jjB, jjC, jjD, jjE, jjF, jjG, jjH, jjI, jjJ, ↓reduceIte, reduceCtorEq, w_app_nl]); rfl) | ((try simp (maxSteps := 1000000) (disch := omega) only [go_sem, jjA, jjB, jjC, jjD, jjE, jjF, jjG, jjH, jjI, jjJ, ↓reduceIte, reduceCtorEq, w_app_nl, wrap_id, w_ite_ne, w_ite_lt]); rfl) | (simp (maxSteps := 1000000) (disch := omega) only [go_sem, jjA, jjB, jjC, jjD, jjE, jjF, jjG, jjH, jjI, jjJ, ↓reduceIte, reduceCtorEq, w_app_nl, wrap_id, w_ite_ne, w_ite_lt]; done)), by simp [hL], fun x hx => ?_, ?_, ?_, ?_⟩
      · rcases List.mem_append.1 hx with hx | hx
        · exact hLb x hx
        · rw [List.mem_singleton] at hx; subst hx; omega
      · simp (maxSteps := 1000000) only [go_sem, jjA, jjB, jjC, jjD, jjE, jjF, jjG, jjH, jjI, jjJ, ↓reduceIte, reduceCtorEq, w_app_nl, hne']
        rw [if_pos (by omega)]
        simp [ints]
      · simp (maxSteps := 1000000) only [go_sem, jjA, jjB, jjC, jjD, jjE, jjF, jjG, jjH, jjI, jjJ, ↓reduceIte, reduceCtorEq, w_app_nl, hne]
        rw [if_pos (by omega)]
      · intro i hi hi2
        have : ¬ i = n0 := by omega
        simp (maxSteps := 1000000) only [go_sem, jjA, jjB, jjC, jjD, jjE, jjF, jjG, jjH, jjI, jjJ, ↓reduceIte, reduceCtorEq, w_app_nl, hi2, this]
        rw [if_pos (by omega)]
        exact holt i hi hi2
    · simp (maxSteps := 1000000) only [go_sem, jjA, jjB, jjC, jjD, jjE, jjF, jjG, jjH, jjI, jjJ, ↓reduceIte, reduceCtorEq, w_app_nl, h7]
      exact ⟨g2, L, at3, by rw [hL], by omega, hLb, rfl, hon, hoid, holt⟩
theorem hcD_mk_Flows (σ : St) (id g : Nat) (l : List Int) (at' : Nat) (n most : Int) (hn : n ≤ 1000000) (h1 : 1 ≤ most) (hm : most ≤ 4611686018427387904) (hl : l.length ≤ 9223372036854775807) (hid : id < σ.n) (hob : σ.ob id = some ⟨g, 2, ty_Deck, false, true, [deckV l at']⟩) :
    HC prog n_mk_Flows [.ptr id g 2 0 0, .int .i64 n, .int .i64 most] σ (DeckR σ id g l fun r => ∃ L, r = .list 1 (ints L) ∧ L.length = n.toNat ∧ ∀ x ∈ L, 0 ≤ x ∧ x < most) := by
  refine HC.deck hid ((hcG_mk_Flows σ id g l at' n most hn h1 hm hl hid hob).mono ?_)
  rintro r τ ⟨g2, L, at2, rfl, hL, hLb, hn2, ho, hd, hf⟩
  exact ⟨.list 1 (ints L), at2, Pub.of_sl (ty := 3) (ro := false) (ap := true) (by simp [ho]) (by simp [ints_length]) (ints_pur _) (ints_ok _), ⟨L, rfl, hL, hLb⟩, hd, hf⟩
theorem hc_flow_Cause (σ : St) (id g : Nat) (t : List Int) (at' : Nat) (hl : t.length ≤ 9223372036854775807) (hid : id < σ.n) (hob : σ.ob id = some ⟨g, 2, ty_Deck, false, true, [deckV t at']⟩) :
    HC prog n_flow_Cause [.ptr id g 2 0 0] σ (DeckR σ id g t fun r => ∃ c, r = csv c ∧ csB c = true) := by
  refine HC.deck hid ?_
  obtain ⟨ob0, n0, c0⟩ := σ
  simp only at hob hid
  refine HC_of_body b_flow_Cause (by simp) ?_
  simp only [c_flow_Cause, go_sem, jjA, jjB, jjC, jjD, jjE, jjF, jjG, jjH, jjI, jjJ, ↓reduceIte, reduceCtorEq, w_app_nl]
  have h0 : ¬ id = n0 := by omega
  have i0 : ¬ n0 = id := by omega
  refine call_hc (ok_mk_Deck_Next _ id g ty_Deck true t at' 4 (by try simp (maxSteps := 500000) (disch := omega) only [go_sem, jjA, jjB, jjC, jjD, jjE, jjF, jjG, jjH, jjI, jjJ, ↓reduceIte, reduceCtorEq, wrap_id, w_ite_ne, w_ite_lt, jjK, jjL, h0]; exact hob) (by omega) hl) ?_
  have hx := deckR_bd t at' 4
  generalize deckR t at' 4 = dr at *
  obtain ⟨x, at2⟩ := dr
  simp only at hx
  try simp (maxSteps := 500000) (disch := omega) only [go_sem, jjA, jjB, jjC, jjD, jjE, jjF, jjG, jjH, jjI, jjJ, ↓reduceIte, reduceCtorEq, wrap_id, w_ite_ne, w_ite_lt, jjK, jjL, h0, i0]
  refine call_hc (ok_mk_Deck_Next _ id g ty_Deck true t at2 3 (by try simp (maxSteps := 500000) (disch := omega) only [go_sem, jjA, jjB, jjC, jjD, jjE, jjF, jjG, jjH, jjI, jjJ, ↓reduceIte, reduceCtorEq, wrap_id, w_ite_ne, w_ite_lt, jjK, jjL, h0]) (by omega) hl) ?_
  have hy := deckR_bd t at2 3
  generalize deckR t at2 3 = dr at *
  obtain ⟨y, at3⟩ := dr
  simp only at hy
  try simp (maxSteps := 500000) (disch := omega) only [go_sem, jjA, jjB, jjC, jjD, jjE, jjF, jjG, jjH, jjI, jjJ, ↓reduceIte, reduceCtorEq, wrap_id, w_ite_ne, w_ite_lt, jjK, jjL, h0, i0]
  refine ⟨csv ⟨1 + x, y⟩, at3, Pub.e (by simp [csv, go_sem]), ⟨_, rfl, by simp [csB, inW]; omega⟩, by try simp (maxSteps := 500000) (disch := omega) only [go_sem, jjA, jjB, jjC, jjD, jjE, jjF, jjG, jjH, jjI, jjJ, ↓reduceIte, reduceCtorEq, wrap_id, w_ite_ne, w_ite_lt, jjK, jjL, h0], fun i hi hne => ?_⟩
  simp only at hi
  have : ¬ i = n0 := by omega
  try simp (maxSteps := 500000) (disch := omega) only [go_sem, jjA, jjB, jjC, jjD, jjE, jjF, jjG, jjH, jjI, jjJ, ↓reduceIte, reduceCtorEq, wrap_id, w_ite_ne, w_ite_lt, jjK, jjL, hne, this]
theorem hc_flow_Quiet (σ : St) (id g : Nat) (t : List Int) (at' : Nat) (b : Bo) (hb : b.ps.length ≤ 8) (hl : t.length ≤ 9223372036854775807) (hid : id < σ.n) (hob : σ.ob id = some ⟨g, 2, ty_Deck, false, true, [deckV t at']⟩) :
    HC prog n_flow_Quiet [.ptr id g 2 0 0, bov b] σ (DeckR σ id g t fun r => ∃ q, r = .list 1 (bls q) ∧ q.length = b.ps.length) := by
  refine HC.deck hid ?_
  obtain ⟨ob0, n0, c0⟩ := σ
  simp only at hob hid
  refine HC_of_body b_flow_Quiet (by simp) ?_
  simp only [c_flow_Quiet, go_sem, jjA, jjB, jjC, jjD, jjE, jjF, jjG, jjH, jjI, jjJ, ↓reduceIte, reduceCtorEq, w_app_nl, bov]
  have h0 : ¬ id = n0 := by omega
  have i0 : ¬ n0 = id := by omega
  try simp (maxSteps := 500000) (disch := omega) only [go_sem, jjA, jjB, jjC, jjD, jjE, jjF, jjG, jjH, jjI, jjJ, ↓reduceIte, reduceCtorEq, wrap_id, w_ite_ne, w_ite_lt, jjK, jjL, wts_length]
  refine awp_upG [5, 9, 10, 11, 12, 13, 14, 15, 16, 17] (by kernel_rfl) b.ps.length (fun k e σ => e 9 = .int .i64 k ∧ n0 + 1 ≤ σ.n ∧ (∃ a, σ.ob id = some ⟨g, 2, ty_Deck, false, true, [deckV t a]⟩) ∧ (∀ i, i < n0 → i ≠ id → σ.ob i = ob0 i) ∧ ∃ X q, At e 5 X ∧ q.length = k ∧ SlR 1 4 σ (bls q) X ∧ ∀ i, ¬ Oth X i → n0 + 1 ≤ i) ?_ ?_
  · refine ⟨(by first | ((try simp (maxSteps := 1000000) only [go_sem, jjA, jjB, jjC, jjD, jjE, jjF, jjG, jjH, jjI, jjJ, ↓reduceIte, reduceCtorEq, w_app_nl]); done) | ((try simp (maxSteps := 1000000) only [go_sem, jjA, jjB, jjC, jjD, jjE, jjF, jjG, jjH, jjI, jjJ, ↓reduceIte, reduceCtorEq, w_app_nl]); rfl) | ((try simp (maxSteps := 1000000) (disch := omega) only [go_sem, jjA, jjB, jjC, jjD, jjE, jjF, jjG, jjH, jjI, jjJ, ↓reduceIte, reduceCtorEq, w_app_nl, wrap_id, w_ite_ne, w_ite_lt]); rfl) | (simp (maxSteps := 1000000) (disch := omega) only [go_sem, jjA, jjB, jjC, jjD, jjE, jjF, jjG, jjH, jjI, jjJ, ↓reduceIte, reduceCtorEq, w_app_nl, wrap_id, w_ite_ne, w_ite_lt]; done)), Nat.le_refl _, ⟨at', by try simp (maxSteps := 500000) (disch := omega) only [go_sem, jjA, jjB, jjC, jjD, jjE, jjF, jjG, jjH, jjI, jjJ, ↓reduceIte, reduceCtorEq, wrap_id, w_ite_ne, w_ite_lt, jjK, jjL, h0]; exact hob⟩, fun i hi hne => ?_, .nil, [], (by simp only [At]; try simp (maxSteps := 500000) (disch := omega) only [go_sem, jjA, jjB, jjC, jjD, jjE, jjF, jjG, jjH, jjI, jjJ, ↓reduceIte, reduceCtorEq, wrap_id, w_ite_ne, w_ite_lt, jjK, jjL]), rfl, SlR.nil, fun i hi => absurd (Oth.nil i) hi⟩
    have : ¬ i = n0 := by omega
    try simp (maxSteps := 500000) (disch := omega) only [go_sem, jjA, jjB, jjC, jjD, jjE, jjF, jjG, jjH, jjI, jjJ, ↓reduceIte, reduceCtorEq, wrap_id, w_ite_ne, w_ite_lt, jjK, jjL, hne, this]
  rintro k fe ob m c hk hm ⟨h9, hm1, ⟨a, hd⟩, hfr, X, q, h5, hq, hX, hXn⟩
  simp (maxSteps := 1000000) only [go_sem, jjA, jjB, jjC, jjD, jjE, jjF, jjG, jjH, jjI, jjJ, ↓reduceIte, reduceCtorEq, w_app_nl, At] at h9 hm hm1 hd hfr h5
  try simp (maxSteps := 500000) (disch := omega) only [go_sem, jjA, jjB, jjC, jjD, jjE, jjF, jjG, jjH, jjI, jjJ, ↓reduceIte, reduceCtorEq, wrap_id, w_ite_ne, w_ite_lt, jjK, jjL, h9, wts_length]
  refine cond_d (fun hlt => ?_) (fun hge => ?_)
  · try simp (maxSteps := 500000) (disch := omega) only [go_sem, jjA, jjB, jjC, jjD, jjE, jjF, jjG, jjH, jjI, jjJ, ↓reduceIte, reduceCtorEq, wrap_id, w_ite_ne, w_ite_lt, jjK, jjL, h5]
    refine call_hc (ok_mk_Deck_Next _ id g ty_Deck true t a 3 hd (by omega) hl) ?_
    generalize deckR t a 3 = dr at *
    obtain ⟨x, a2⟩ := dr
    try simp (maxSteps := 500000) (disch := omega) only [go_sem, jjA, jjB, jjC, jjD, jjE, jjF, jjG, jjH, jjI, jjJ, ↓reduceIte, reduceCtorEq, wrap_id, w_ite_ne, w_ite_lt, jjK, jjL, h9, h5]
    have oX : ∀ i, i < n0 + 1 → Oth X i := fun i hi => Oth.em fun h => by have := hXn i h; omega
    have ll : (bls q).length = k := by rw [bls_length, hq]
    refine app_slr (b := 1) (hX.move (τ := ⟨upd ob id (some ⟨g, 2, ty_Deck, false, true, [deckV t a2]⟩), m, c⟩) (Nat.le_refl _) fun i hi hh => ?_) (by omega) (by omega) fun Y τ hY kY => ?_
    · have := hXn i hh
      simp only
      rw [upd_ne _ _ _ _ (by omega)]
    obtain ⟨ob2, m2, c2⟩ := τ
    have q1 : m ≤ m2 := kY.1
    have q2 : ∀ i, i < n0 + 1 → ob2 i = upd ob id (some ⟨g, 2, ty_Deck, false, true, [deckV t a2]⟩) i := fun i hi => kY.2.1 i (by simp only; omega) (oX i hi)
    try simp (maxSteps := 500000) (disch := omega) only [go_sem, jjA, jjB, jjC, jjD, jjE, jjF, jjG, jjH, jjI, jjJ, ↓reduceIte, reduceCtorEq, wrap_id, w_ite_ne, w_ite_lt, jjK, jjL, h9]
    refine up_nextG m2 (by omega) (by omega) ⟨(by first | ((try simp (maxSteps := 1000000) only [go_sem, jjA, jjB, jjC, jjD, jjE, jjF, jjG, jjH, jjI, jjJ, ↓reduceIte, reduceCtorEq, w_app_nl]); done) | ((try simp (maxSteps := 1000000) only [go_sem, jjA, jjB, jjC, jjD, jjE, jjF, jjG, jjH, jjI, jjJ, ↓reduceIte, reduceCtorEq, w_app_nl]); rfl) | ((try simp (maxSteps := 1000000) (disch := omega) only [go_sem, jjA, jjB, jjC, jjD, jjE, jjF, jjG, jjH, jjI, jjJ, ↓reduceIte, reduceCtorEq, w_app_nl, wrap_id, w_ite_ne, w_ite_lt]); rfl) | (simp (maxSteps := 1000000) (disch := omega) only [go_sem, jjA, jjB, jjC, jjD, jjE, jjF, jjG, jjH, jjI, jjJ, ↓reduceIte, reduceCtorEq, w_app_nl, wrap_id, w_ite_ne, w_ite_lt]; done)), by simp only [St.trunc]; omega, ⟨a2, by rw [tr_ob (by omega), q2 id (by omega), upd_same]⟩, fun i hi hne => by rw [tr_ob (by omega), q2 i (by omega), upd_ne _ _ _ _ hne, hfr i hi hne], Y, q ++ [decide (0 < x)], (by simp only [At]; try simp (maxSteps := 500000) (disch := omega) only [go_sem, jjA, jjB, jjC, jjD, jjE, jjF, jjG, jjH, jjI, jjJ, ↓reduceIte, reduceCtorEq, wrap_id, w_ite_ne, w_ite_lt, jjK, jjL]), by simp [hq], ?_, fun i hi => Nat.le_of_not_lt fun hh => hi (kY.2.2 i (by simp only; omega) (oX i hh))⟩
    rw [show bls (q ++ [decide (0 < x)]) = bls q ++ [.bool (decide (0 < x))] by simp [bls]]
    exact hY.tr
  · try simp (maxSteps := 500000) (disch := omega) only [go_sem, jjA, jjB, jjC, jjD, jjE, jjF, jjG, jjH, jjI, jjJ, ↓reduceIte, reduceCtorEq, wrap_id, w_ite_ne, w_ite_lt, jjK, jjL, h5]
    refine ⟨.list 1 (bls q), a, hX.pub (fun i hi hh => ?_) (bls_pur _) (bls_ok _), ⟨q, rfl, by omega⟩, hd, hfr⟩
    have := hXn i hh
    exact if_neg (show ¬ i < n0 by omega)
/-- a point that is drawn -/
def PtB (x : Wt) : Prop := (0 ≤ x.nd ∧ x.nd < 5) ∧ (1 ≤ x.w ∧ x.w ≤ 4) ∧ (0 ≤ x.lim ∧ x.lim < 12) ∧ 1 ≤ x.ld ∧ x.ld ≤ 4
theorem PtB.ok {x : Wt} (h : PtB x) : wtB x = true := by obtain ⟨h1, h2, h3, h4⟩ := h; simp [wtB, inW]; omega
def PtsB (l : List Wt) : Prop := 1 ≤ l.length ∧ l.length ≤ 3 ∧ ∀ x ∈ l, PtB x
theorem PtsB.e {l : List Wt} (h : PtsB l) : watE l = 0 := watE_ok.2 ⟨by have := h.2.1; omega, List.all_eq_true.2 fun x hx => (h.2.2 x hx).ok⟩
theorem wts_snoc (l : List Wt) (x : Wt) : wts l ++ [wtv x] = wts (l ++ [x]) := by simp [wts]
theorem hc_flow_Points (σ : St) (id g : Nat) (t : List Int) (at' : Nat) (hl : t.length ≤ 9223372036854775807) (hid : id < σ.n) (hob : σ.ob id = some ⟨g, 2, ty_Deck, false, true, [deckV t at']⟩) :
    HC prog n_flow_Points [.ptr id g 2 0 0, .int .i64 5] σ (DeckR σ id g t fun r => ∃ l, r = .list 4 (wts l) ∧ PtsB l) := by
  refine HC.deck hid ?_
  obtain ⟨ob0, n0, c0⟩ := σ
  simp only at hob hid
  refine HC_of_body b_flow_Points (by simp) ?_
  simp only [c_flow_Points, go_sem, jjA, jjB, jjC, jjD, jjE, jjF, jjG, jjH, jjI, jjJ, ↓reduceIte, reduceCtorEq, w_app_nl]
  refine call_hc (ok_mk_Deck_Next _ id g ty_Deck true t at' 3 hob (by omega) hl) ?_
  have hx2 := deckR_bd t at' 3
  generalize deckR t at' 3 = dr at *
  obtain ⟨x2, at2⟩ := dr
  simp only at hx2
  try simp (maxSteps := 500000) (disch := omega) only [go_sem, jjA, jjB, jjC, jjD, jjE, jjF, jjG, jjH, jjI, jjJ, ↓reduceIte, reduceCtorEq, wrap_id, w_ite_ne, w_ite_lt, jjK, jjL]
  obtain ⟨K, hK⟩ : ∃ K : Nat, (K : Int) = x2 ∧ K ≤ 2 := ⟨x2.toNat, by omega, by omega⟩
  obtain ⟨rfl, hK⟩ := hK
  refine awp_upG [5, 6, 9, 10, 11, 12, 13, 14, 15, 16, 17, 18, 19, 20, 21, 22, 23, 24, 25, 26, 27] (by kernel_rfl) (K + 1) (fun k e σ => e 6 = .int .i64 ((K : Int) - k) ∧ (∃ a, σ.ob id = some ⟨g, 2, ty_Deck, false, true, [deckV t a]⟩) ∧ (∀ i, i < n0 → i ≠ id → σ.ob i = ob0 i) ∧ ∃ X l, At e 5 X ∧ l.length = k ∧ (∀ x ∈ l, PtB x) ∧ SlR 4 41 σ (wts l) X ∧ ∀ i, ¬ Oth X i → n0 ≤ i) ?_ ?_
  · refine ⟨(by first | ((try simp (maxSteps := 1000000) only [go_sem, jjA, jjB, jjC, jjD, jjE, jjF, jjG, jjH, jjI, jjJ, ↓reduceIte, reduceCtorEq, w_app_nl]); done) | ((try simp (maxSteps := 1000000) only [go_sem, jjA, jjB, jjC, jjD, jjE, jjF, jjG, jjH, jjI, jjJ, ↓reduceIte, reduceCtorEq, w_app_nl]); rfl) | ((try simp (maxSteps := 1000000) (disch := omega) only [go_sem, jjA, jjB, jjC, jjD, jjE, jjF, jjG, jjH, jjI, jjJ, ↓reduceIte, reduceCtorEq, w_app_nl, wrap_id, w_ite_ne, w_ite_lt]); rfl) | (simp (maxSteps := 1000000) (disch := omega) only [go_sem, jjA, jjB, jjC, jjD, jjE, jjF, jjG, jjH, jjI, jjJ, ↓reduceIte, reduceCtorEq, w_app_nl, wrap_id, w_ite_ne, w_ite_lt]; done)), ⟨at2, by try simp (maxSteps := 500000) (disch := omega) only [go_sem, jjA, jjB, jjC, jjD, jjE, jjF, jjG, jjH, jjI, jjJ, ↓reduceIte, reduceCtorEq, wrap_id, w_ite_ne, w_ite_lt, jjK, jjL]⟩, fun i hi hne => ?_, .nil, [], (by simp only [At]; try simp (maxSteps := 500000) (disch := omega) only [go_sem, jjA, jjB, jjC, jjD, jjE, jjF, jjG, jjH, jjI, jjJ, ↓reduceIte, reduceCtorEq, wrap_id, w_ite_ne, w_ite_lt, jjK, jjL]), rfl, (fun x hx => by cases hx), SlR.nil, fun i hi => absurd (Oth.nil i) hi⟩
    try simp (maxSteps := 500000) (disch := omega) only [go_sem, jjA, jjB, jjC, jjD, jjE, jjF, jjG, jjH, jjI, jjJ, ↓reduceIte, reduceCtorEq, wrap_id, w_ite_ne, w_ite_lt, jjK, jjL, hne]
  rintro k fe ob m c hk hm ⟨h6, ⟨a, hd⟩, hfr, X, l, h5, hll, hlb, hX, hXn⟩
  simp (maxSteps := 1000000) only [go_sem, jjA, jjB, jjC, jjD, jjE, jjF, jjG, jjH, jjI, jjJ, ↓reduceIte, reduceCtorEq, w_app_nl, At] at h6 hm hd hfr h5
  try simp (maxSteps := 500000) (disch := omega) only [go_sem, jjA, jjB, jjC, jjD, jjE, jjF, jjG, jjH, jjI, jjJ, ↓reduceIte, reduceCtorEq, wrap_id, w_ite_ne, w_ite_lt, jjK, jjL, h6]
  refine cond_d (fun hge => ?_) (fun hlt => ?_)
  · have hkl : k < K + 1 := by omega
    try simp (maxSteps := 500000) (disch := omega) only [go_sem, jjA, jjB, jjC, jjD, jjE, jjF, jjG, jjH, jjI, jjJ, ↓reduceIte, reduceCtorEq, wrap_id, w_ite_ne, w_ite_lt, jjK, jjL, h5]
    refine call_hc (ok_mk_Deck_Next _ id g ty_Deck true t a 5 hd (by omega) hl) ?_
    have b1 := deckR_bd t a 5
    generalize deckR t a 5 = dr at *
    obtain ⟨x1, a1⟩ := dr
    simp only at b1
    try simp (maxSteps := 500000) (disch := omega) only [go_sem, jjA, jjB, jjC, jjD, jjE, jjF, jjG, jjH, jjI, jjJ, ↓reduceIte, reduceCtorEq, wrap_id, w_ite_ne, w_ite_lt, jjK, jjL]
    refine call_hc (ok_mk_Deck_Next _ id g ty_Deck true t a1 4 (by try simp (maxSteps := 500000) (disch := omega) only [go_sem, jjA, jjB, jjC, jjD, jjE, jjF, jjG, jjH, jjI, jjJ, ↓reduceIte, reduceCtorEq, wrap_id, w_ite_ne, w_ite_lt, jjK, jjL]) (by omega) hl) ?_
    have b2 := deckR_bd t a1 4
    generalize deckR t a1 4 = dr at *
    obtain ⟨x2, a2⟩ := dr
    simp only at b2
    try simp (maxSteps := 500000) (disch := omega) only [go_sem, jjA, jjB, jjC, jjD, jjE, jjF, jjG, jjH, jjI, jjJ, ↓reduceIte, reduceCtorEq, wrap_id, w_ite_ne, w_ite_lt, jjK, jjL]
    refine call_hc (ok_mk_Deck_Next _ id g ty_Deck true t a2 12 (by try simp (maxSteps := 500000) (disch := omega) only [go_sem, jjA, jjB, jjC, jjD, jjE, jjF, jjG, jjH, jjI, jjJ, ↓reduceIte, reduceCtorEq, wrap_id, w_ite_ne, w_ite_lt, jjK, jjL]) (by omega) hl) ?_
    have b3 := deckR_bd t a2 12
    generalize deckR t a2 12 = dr at *
    obtain ⟨x3, a3⟩ := dr
    simp only at b3
    try simp (maxSteps := 500000) (disch := omega) only [go_sem, jjA, jjB, jjC, jjD, jjE, jjF, jjG, jjH, jjI, jjJ, ↓reduceIte, reduceCtorEq, wrap_id, w_ite_ne, w_ite_lt, jjK, jjL]
    refine call_hc (ok_mk_Deck_Next _ id g ty_Deck true t a3 4 (by try simp (maxSteps := 500000) (disch := omega) only [go_sem, jjA, jjB, jjC, jjD, jjE, jjF, jjG, jjH, jjI, jjJ, ↓reduceIte, reduceCtorEq, wrap_id, w_ite_ne, w_ite_lt, jjK, jjL]) (by omega) hl) ?_
    have b4 := deckR_bd t a3 4
    generalize deckR t a3 4 = dr at *
    obtain ⟨x4, a4⟩ := dr
    simp only at b4
    try simp (maxSteps := 500000) (disch := omega) only [go_sem, jjA, jjB, jjC, jjD, jjE, jjF, jjG, jjH, jjI, jjJ, ↓reduceIte, reduceCtorEq, wrap_id, w_ite_ne, w_ite_lt, jjK, jjL, h5]
    have oX : ∀ i, i < n0 → Oth X i := fun i hi => Oth.em fun h => by have := hXn i h; omega
    have lll : (wts l).length = k := by rw [wts_length, hll]
    have hfr2 : ∀ i, i ≠ id → upd (upd (upd (upd ob id (some (⟨g, 2, ty_Deck, false, true, [deckV t a1]⟩ : AObj))) id (some ⟨g, 2, ty_Deck, false, true, [deckV t a2]⟩)) id (some ⟨g, 2, ty_Deck, false, true, [deckV t a3]⟩)) id (some ⟨g, 2, ty_Deck, false, true, [deckV t a4]⟩) i = ob i := fun i hi => by
      rw [upd_ne _ _ _ _ hi, upd_ne _ _ _ _ hi, upd_ne _ _ _ _ hi, upd_ne _ _ _ _ hi]
    refine app_slr (b := 32) (hX.move (Nat.le_refl _) fun i hi hh => hfr2 i (by have := hXn i hh; omega)) (by omega) (by omega) fun Y τ hY kY => ?_
    obtain ⟨ob2, m2, c2⟩ := τ
    have q1 : m ≤ m2 := kY.1
    have q2 : ∀ i, i < n0 → ob2 i = _ := fun i hi => kY.2.1 i (by simp only; omega) (oX i hi)
    try simp (maxSteps := 500000) (disch := omega) only [go_sem, jjA, jjB, jjC, jjD, jjE, jjF, jjG, jjH, jjI, jjJ, ↓reduceIte, reduceCtorEq, wrap_id, w_ite_ne, w_ite_lt, jjK, jjL, h6]
    refine up_nextG m2 hkl (by omega) ⟨by try simp (maxSteps := 500000) (disch := omega) only [go_sem, jjA, jjB, jjC, jjD, jjE, jjF, jjG, jjH, jjI, jjJ, ↓reduceIte, reduceCtorEq, wrap_id, w_ite_ne, w_ite_lt, jjK, jjL]; congr 1; omega, ⟨a4, by rw [tr_ob (by omega), q2 id (by omega)]; exact upd_same _ _ _⟩, fun i hi hne => by rw [tr_ob (by omega), q2 i (by omega)]; exact (hfr2 i hne).trans (hfr i hi hne), Y, l ++ [⟨x1, 1 + x2, x3, 1 + x4⟩], (by simp only [At]; try simp (maxSteps := 500000) (disch := omega) only [go_sem, jjA, jjB, jjC, jjD, jjE, jjF, jjG, jjH, jjI, jjJ, ↓reduceIte, reduceCtorEq, wrap_id, w_ite_ne, w_ite_lt, jjK, jjL]), by simp [hll], fun x hx => ?_, ?_, fun i hi => Nat.le_of_not_lt fun hh => hi (kY.2.2 i (by simp only; omega) (oX i hh))⟩
    · rcases List.mem_append.1 hx with hx | hx
      · exact hlb x hx
      · rw [List.mem_singleton] at hx; subst hx; simp only [PtB]; omega
    · rw [← wts_snoc]
      exact hY.tr
  · try simp (maxSteps := 500000) (disch := omega) only [go_sem, jjA, jjB, jjC, jjD, jjE, jjF, jjG, jjH, jjI, jjJ, ↓reduceIte, reduceCtorEq, wrap_id, w_ite_ne, w_ite_lt, jjK, jjL, h5]
    refine ⟨.list 4 (wts l), a, hX.pub (fun i hi hh => ?_) (wts_pur _) (wts_ok _), ⟨l, rfl, by omega, by omega, hlb⟩, hd, hfr⟩
    have := hXn i hh
    exact if_neg (show ¬ i < n0 by omega)
/-- a board that is drawn -/
structure Bd0 (b : Bo) : Prop where
  v : Vb b
  p : PtsB b.ps
theorem hkeep_id {af : List Nat} {R : List (Nat × Nat)} {ob ob' : Nat → Option AObj} {id : Nat} (h : ∀ i, i ≠ id → ob' i = ob i) (k : ∀ x ∈ R, x.2 ≠ id) : hkeep af R ob ob' := fun x hx => .inr (h _ (k x hx))
theorem hc_flow_Board (σ : St) (id g : Nat) (t : List Int) (at' : Nat) (hl : t.length ≤ 9223372036854775807) (hid : id < σ.n) (hob : σ.ob id = some ⟨g, 2, ty_Deck, false, true, [deckV t at']⟩) :
    HC prog n_flow_Board [.ptr id g 2 0 0] σ (DeckR σ id g t fun r => ∃ b, r = bov b ∧ Bd0 b) := by
  refine HC.deck hid ?_
  obtain ⟨ob0, n0, c0⟩ := σ
  simp only at hob hid
  refine HC_of_body b_flow_Board (by simp) ?_
  simp only [c_flow_Board, go_sem, jjA, jjB, jjC, jjD, jjE, jjF, jjG, jjH, jjI, jjJ, ↓reduceIte, reduceCtorEq, w_app_nl]
  have h0 : ¬ id = n0 := by omega
  have h1 : ¬ id = n0 + 1 := by omega
  have i0 : ¬ n0 = id := by omega
  have i1 : ¬ n0 + 1 = id := by omega
  have i2 : ¬ n0 = n0 + 1 := by omega
  have i3 : ¬ n0 + 1 = n0 := by omega
  refine (hc_flow_Points _ id g t at' hl (by simp only; omega) (by try simp (maxSteps := 500000) (disch := omega) only [go_sem, jjA, jjB, jjC, jjD, jjE, jjF, jjG, jjH, jjI, jjJ, ↓reduceIte, reduceCtorEq, wrap_id, w_ite_ne, w_ite_lt, jjK, jjL, h0]; exact hob)).mono ?_
  intro r τ hDR
  obtain ⟨⟨ps, rfl, hps⟩, hn, ⟨at1, hd1⟩, hf1⟩ := hDR.use (by simp only; omega)
  obtain ⟨ob1, m1, c1⟩ := τ
  simp only at hn hd1 hf1
  subst hn
  have v0 := hf1 n0 (by omega) i0
  try simp (maxSteps := 500000) (disch := omega) only [go_sem, jjA, jjB, jjC, jjD, jjE, jjF, jjG, jjH, jjI, jjJ, ↓reduceIte, reduceCtorEq, wrap_id, w_ite_ne, w_ite_lt, jjK, jjL] at v0
  try simp (maxSteps := 500000) (disch := omega) only [go_sem, jjA, jjB, jjC, jjD, jjE, jjF, jjG, jjH, jjI, jjJ, ↓reduceIte, reduceCtorEq, wrap_id, w_ite_ne, w_ite_lt, jjK, jjL]
  have hO := ok_ref36_Open ps (by have := hps.2.1; omega)
  rw [openV, openR, if_pos hps.e, hps.e] at hO
  refine call_pc hO (by simp [go_sem, wts_pur]) ?_
  have hV0 := Vb.open hps.e
  generalize hb0 : (⟨ps, List.replicate ps.length [], []⟩ : Bo) = b0 at *
  have hp0 : b0.ps = ps := by rw [← hb0]
  simp only [bov]
  try simp (maxSteps := 500000) (disch := omega) only [go_sem, jjA, jjB, jjC, jjD, jjE, jjF, jjG, jjH, jjI, jjJ, ↓reduceIte, reduceCtorEq, wrap_id, w_ite_ne, w_ite_lt, jjK, jjL, h0, h1, i0, i1, i2, i3]
  refine call_hc (ok_mk_Deck_Next _ id g ty_Deck true t at1 10 (by try simp (maxSteps := 500000) (disch := omega) only [go_sem, jjA, jjB, jjC, jjD, jjE, jjF, jjG, jjH, jjI, jjJ, ↓reduceIte, reduceCtorEq, wrap_id, w_ite_ne, w_ite_lt, jjK, jjL, h0, h1]; exact hd1) (by omega) hl) ?_
  have hx := deckR_bd t at1 10
  generalize deckR t at1 10 = dr at *
  obtain ⟨x, at2⟩ := dr
  simp only at hx
  try simp (maxSteps := 500000) (disch := omega) only [go_sem, jjA, jjB, jjC, jjD, jjE, jjF, jjG, jjH, jjI, jjJ, ↓reduceIte, reduceCtorEq, wrap_id, w_ite_ne, w_ite_lt, jjK, jjL]
  obtain ⟨K, hK⟩ : ∃ K : Nat, (K : Int) = x ∧ K ≤ 10 := ⟨x.toNat, by omega, by omega⟩
  obtain ⟨rfl, hK⟩ := hK
  refine awp_upG [5, 14, 15, 16, 17, 18, 19, 20, 21, 22, 23, 24, 25, 26, 27, 28, 29, 30, 31, 32, 33, 34, 35, 36, 37, 38, 39, 40, 41, 42, 43, 44, 45, 46, 47, 48, 49, 50, 51, 52, 53, 54, 55, 56, 57, 58, 59, 60, 61, 62, 63, 64, 65, 66, 67, 68, 69, 70, 71, 72, 73, 74, 75] (by kernel_rfl) K (fun k e σ => e 5 = .int .i64 ((K : Int) - k) ∧ n0 + 2 ≤ σ.n ∧ (∃ a, σ.ob id = some ⟨g, 2, ty_Deck, false, true, [deckV t a]⟩) ∧ (∀ i, i < n0 → i ≠ id → σ.ob i = ob0 i) ∧ σ.ob n0 = some ⟨c0, 3, 31, false, true, [.agg [.nil, .nil, .nil]]⟩ ∧ ∃ b, Vb b ∧ b.ps = ps ∧ σ.ob (n0 + 1) = some ⟨c1, 3, 31, false, true, [.agg [.list 4 (wts b.ps), .list 1 (lls b.pa), .list 4 (wns b.ac)]]⟩) ?_ ?_
  · refine ⟨(by first | ((try simp (maxSteps := 1000000) only [go_sem, jjA, jjB, jjC, jjD, jjE, jjF, jjG, jjH, jjI, jjJ, ↓reduceIte, reduceCtorEq, w_app_nl]); done) | ((try simp (maxSteps := 1000000) only [go_sem, jjA, jjB, jjC, jjD, jjE, jjF, jjG, jjH, jjI, jjJ, ↓reduceIte, reduceCtorEq, w_app_nl]); rfl) | ((try simp (maxSteps := 1000000) (disch := omega) only [go_sem, jjA, jjB, jjC, jjD, jjE, jjF, jjG, jjH, jjI, jjJ, ↓reduceIte, reduceCtorEq, w_app_nl, wrap_id, w_ite_ne, w_ite_lt]); rfl) | (simp (maxSteps := 1000000) (disch := omega) only [go_sem, jjA, jjB, jjC, jjD, jjE, jjF, jjG, jjH, jjI, jjJ, ↓reduceIte, reduceCtorEq, w_app_nl, wrap_id, w_ite_ne, w_ite_lt]; done)), Nat.le_refl _, ⟨at2, by try simp (maxSteps := 500000) (disch := omega) only [go_sem, jjA, jjB, jjC, jjD, jjE, jjF, jjG, jjH, jjI, jjJ, ↓reduceIte, reduceCtorEq, wrap_id, w_ite_ne, w_ite_lt, jjK, jjL]⟩, fun i hi hne => ?_, ?_, b0, hV0, hp0, ?_⟩
    · have z1 : ¬ i = n0 + 1 := by omega
      have z2 : ¬ i = n0 := by omega
      have := hf1 i (by omega) hne
      try simp (maxSteps := 500000) (disch := omega) only [go_sem, jjA, jjB, jjC, jjD, jjE, jjF, jjG, jjH, jjI, jjJ, ↓reduceIte, reduceCtorEq, wrap_id, w_ite_ne, w_ite_lt, jjK, jjL, z2] at this
      try simp (maxSteps := 500000) (disch := omega) only [go_sem, jjA, jjB, jjC, jjD, jjE, jjF, jjG, jjH, jjI, jjJ, ↓reduceIte, reduceCtorEq, wrap_id, w_ite_ne, w_ite_lt, jjK, jjL, hne, z1, z2]
      exact this
    · try simp (maxSteps := 500000) (disch := omega) only [go_sem, jjA, jjB, jjC, jjD, jjE, jjF, jjG, jjH, jjI, jjJ, ↓reduceIte, reduceCtorEq, wrap_id, w_ite_ne, w_ite_lt, jjK, jjL, i0, i2]
      exact v0
    · try simp (maxSteps := 500000) (disch := omega) only [go_sem, jjA, jjB, jjC, jjD, jjE, jjF, jjG, jjH, jjI, jjJ, ↓reduceIte, reduceCtorEq, wrap_id, w_ite_ne, w_ite_lt, jjK, jjL, i1]
  rintro k fe ob m c hk hm ⟨h5, hm1, ⟨a, hd⟩, hfr, u0, b, hV, hbp, u1⟩
  simp (maxSteps := 1000000) only [go_sem, jjA, jjB, jjC, jjD, jjE, jjF, jjG, jjH, jjI, jjJ, ↓reduceIte, reduceCtorEq, w_app_nl] at h5 hm hm1 hd hfr u0 u1
  have hl1 := hps.1
  have hl3 := hps.2.1
  rw [← hbp] at hl1 hl3
  try simp (maxSteps := 500000) (disch := omega) only [go_sem, jjA, jjB, jjC, jjD, jjE, jjF, jjG, jjH, jjI, jjJ, ↓reduceIte, reduceCtorEq, wrap_id, w_ite_ne, w_ite_lt, jjK, jjL, h5]
  refine cond_d (fun hge => ?_) (fun hlt => ?_)
  · have hkl : k < K := by omega
    try simp (maxSteps := 500000) (disch := omega) only [go_sem, jjA, jjB, jjC, jjD, jjE, jjF, jjG, jjH, jjI, jjJ, ↓reduceIte, reduceCtorEq, wrap_id, w_ite_ne, w_ite_lt, jjK, jjL, h5]
    refine call_hc (ok_mk_Deck_Next _ id g ty_Deck true t a 4 hd (by omega) hl) ?_
    have b1 := deckR_bd t a 4
    generalize deckR t a 4 = dr at *
    obtain ⟨x1, a1⟩ := dr
    simp only at b1
    try simp (maxSteps := 500000) (disch := omega) only [go_sem, jjA, jjB, jjC, jjD, jjE, jjF, jjG, jjH, jjI, jjJ, ↓reduceIte, reduceCtorEq, wrap_id, w_ite_ne, w_ite_lt, jjK, jjL]
    refine cond_d (fun e0 => ?_) (fun e0 => ?_)
    · try simp (maxSteps := 500000) (disch := omega) only [go_sem, jjA, jjB, jjC, jjD, jjE, jjF, jjG, jjH, jjI, jjJ, ↓reduceIte, reduceCtorEq, wrap_id, w_ite_ne, w_ite_lt, jjK, jjL, u1, i1, h5, wts_length]
      refine call_hc (ok_mk_Deck_Next _ id g ty_Deck true t a1 b.ps.length (by try simp (maxSteps := 500000) (disch := omega) only [go_sem, jjA, jjB, jjC, jjD, jjE, jjF, jjG, jjH, jjI, jjJ, ↓reduceIte, reduceCtorEq, wrap_id, w_ite_ne, w_ite_lt, jjK, jjL]) (by omega) hl) ?_
      have b2 := deckR_bd t a1 b.ps.length
      generalize deckR t a1 b.ps.length = dr at *
      obtain ⟨x2, a2⟩ := dr
      simp only at b2
      try simp (maxSteps := 500000) (disch := omega) only [go_sem, jjA, jjB, jjC, jjD, jjE, jjF, jjG, jjH, jjI, jjJ, ↓reduceIte, reduceCtorEq, wrap_id, w_ite_ne, w_ite_lt, jjK, jjL, u1, i1, h5]
      refine call_hc (ok_mk_Deck_Next _ id g ty_Deck true t a2 20 (by try simp (maxSteps := 500000) (disch := omega) only [go_sem, jjA, jjB, jjC, jjD, jjE, jjF, jjG, jjH, jjI, jjJ, ↓reduceIte, reduceCtorEq, wrap_id, w_ite_ne, w_ite_lt, jjK, jjL]) (by omega) hl) ?_
      have b3 := deckR_bd t a2 20
      generalize deckR t a2 20 = dr at *
      obtain ⟨x3, a3⟩ := dr
      simp only at b3
      try simp (maxSteps := 500000) (disch := omega) only [go_sem, jjA, jjB, jjC, jjD, jjE, jjF, jjG, jjH, jjI, jjJ, ↓reduceIte, reduceCtorEq, wrap_id, w_ite_ne, w_ite_lt, jjK, jjL, u1, i1, h5]
      refine (hc_flow_Cause _ id g t a3 hl (by simp only; omega) (by try simp (maxSteps := 500000) (disch := omega) only [go_sem, jjA, jjB, jjC, jjD, jjE, jjF, jjG, jjH, jjI, jjJ, ↓reduceIte, reduceCtorEq, wrap_id, w_ite_ne, w_ite_lt, jjK, jjL])).mono ?_
      intro r τ hDR
      obtain ⟨⟨cs, rfl, hcs⟩, hn, ⟨a4, hdk⟩, hf4⟩ := hDR.use (by simp only; omega)
      obtain ⟨ob4, m4, c4⟩ := τ
      simp only at hn hdk hf4
      subst hn
      have hfk : ∀ i, i < m4 → i ≠ id → ob4 i = ob i := fun i hi hne => by rw [hf4 i hi hne, upd_ne _ _ _ _ hne, upd_ne _ _ _ _ hne, upd_ne _ _ _ _ hne]
      have w1 := (hfk (n0 + 1) (by omega) i1).trans u1
      try simp (maxSteps := 500000) (disch := omega) only [go_sem, jjA, jjB, jjC, jjD, jjE, jjF, jjG, jjH, jjI, jjJ, ↓reduceIte, reduceCtorEq, wrap_id, w_ite_ne, w_ite_lt, jjK, jjL, u1, i1, h5]
      refine ⟨w1, ?_⟩
      have hI := ok_ref37_Issue b x2 x3 cs hV.sz
      have hE0 : issE b x2 x3 cs = 0 := by rw [issE, if_neg (by simp [vdB_iff.2 hV]), if_neg (by omega), if_neg (by omega)]; exact cauE_csB.2 hcs
      rw [issV, issR, if_pos hE0, hE0] at hI
      have hV1 := hV.iss (p := x2) (t := x3) (c := cs) (by omega) (by omega) hcs
      simp only [bov] at hI
      refine call_pc hI (by simp [go_sem, wts_pur, lls_pur, wns_pur, csv]) ?_
      obtain ⟨b', hb', hV', hbp'⟩ : ∃ b' : Bo, b' = issB b x2 x3 cs ∧ Vb b' ∧ b'.ps = ps := ⟨_, rfl, hV1, hbp⟩
      rw [← hb'] at hV1; clear hI; rw [← hb']
      try simp (maxSteps := 500000) (disch := omega) only [go_sem, jjA, jjB, jjC, jjD, jjE, jjF, jjG, jjH, jjI, jjJ, ↓reduceIte, reduceCtorEq, wrap_id, w_ite_ne, w_ite_lt, jjK, jjL, u1, i1, h5, w1]
      refine up_nextG m4 hkl (by omega) ⟨by try simp (maxSteps := 500000) (disch := omega) only [go_sem, jjA, jjB, jjC, jjD, jjE, jjF, jjG, jjH, jjI, jjJ, ↓reduceIte, reduceCtorEq, wrap_id, w_ite_ne, w_ite_lt, jjK, jjL, h5]; congr 1; omega, by simp only [St.trunc]; omega, ⟨a4, by rw [tr_ob (by omega), upd_ne _ _ _ _ h1]; exact hdk⟩, fun i hi hne => ?_, ?_, b', hV', hbp', by rw [tr_ob (by omega), upd_same]⟩
      · rw [tr_ob (by omega), upd_ne _ _ _ _ (by omega), hfk i (by omega) hne]; exact hfr i hi hne
      · rw [tr_ob (by omega), upd_ne _ _ _ _ (by omega), hfk n0 (by omega) i0]; exact u0
    try simp (maxSteps := 500000) (disch := omega) only [go_sem, jjA, jjB, jjC, jjD, jjE, jjF, jjG, jjH, jjI, jjJ, ↓reduceIte, reduceCtorEq, wrap_id, w_ite_ne, w_ite_lt, jjK, jjL]
    refine cond_d (fun e1 => ?_) (fun e1 => ?_)
    · try simp (maxSteps := 500000) (disch := omega) only [go_sem, jjA, jjB, jjC, jjD, jjE, jjF, jjG, jjH, jjI, jjJ, ↓reduceIte, reduceCtorEq, wrap_id, w_ite_ne, w_ite_lt, jjK, jjL, u1, i1, h5]
      have hQ := fun σ hid hob => hc_flow_Quiet σ id g t a1 b hV.p hl hid hob
      simp only [bov] at hQ
      refine (hQ _ (by simp only; omega) (by try simp (maxSteps := 500000) (disch := omega) only [go_sem, jjA, jjB, jjC, jjD, jjE, jjF, jjG, jjH, jjI, jjJ, ↓reduceIte, reduceCtorEq, wrap_id, w_ite_ne, w_ite_lt, jjK, jjL])).mono ?_
      intro r τ hDR
      obtain ⟨⟨q, rfl, hq⟩, hn, ⟨a4, hdk⟩, hf4⟩ := hDR.use (by simp only; omega)
      obtain ⟨ob4, m4, c4⟩ := τ
      simp only at hn hdk hf4
      subst hn
      have hfk : ∀ i, i < m4 → i ≠ id → ob4 i = ob i := fun i hi hne => by rw [hf4 i hi hne, upd_ne _ _ _ _ hne]
      have w1 := (hfk (n0 + 1) (by omega) i1).trans u1
      try simp (maxSteps := 500000) (disch := omega) only [go_sem, jjA, jjB, jjC, jjD, jjE, jjF, jjG, jjH, jjI, jjJ, ↓reduceIte, reduceCtorEq, wrap_id, w_ite_ne, w_ite_lt, jjK, jjL, u1, i1, h5]
      refine ⟨w1, ?_⟩
      refine call_hc (ok_mk_Deck_Next _ id g ty_Deck true t a4 4 hdk (by omega) hl) ?_
      have b3 := deckR_bd t a4 4
      generalize deckR t a4 4 = dr at *
      obtain ⟨x3, a5⟩ := dr
      simp only at b3
      replace hfk : ∀ i, i < m4 → i ≠ id → upd ob4 id (some (⟨g, 2, ty_Deck, false, true, [deckV t a5]⟩ : AObj)) i = ob i := fun i hi hne => by rw [upd_ne _ _ _ _ hne]; exact hfk i hi hne
      replace hdk : upd ob4 id (some (⟨g, 2, ty_Deck, false, true, [deckV t a5]⟩ : AObj)) id = some ⟨g, 2, ty_Deck, false, true, [deckV t a5]⟩ := upd_same _ _ _
      have w0 := w1
      replace w1 := (hfk (n0 + 1) (by omega) i1).trans u1
      generalize upd ob4 id (some (⟨g, 2, ty_Deck, false, true, [deckV t a5]⟩ : AObj)) = ob5 at *
      try simp (maxSteps := 500000) (disch := omega) only [go_sem, jjA, jjB, jjC, jjD, jjE, jjF, jjG, jjH, jjI, jjJ, ↓reduceIte, reduceCtorEq, wrap_id, w_ite_ne, w_ite_lt, jjK, jjL, u1, i1, h5, w1]
      refine ⟨w0.symm, ?_⟩
      have hI := ok_ref37_Tick b q (1 + x3) hV.sz (by omega)
      have hE0 : tickE b q (1 + x3) = 0 := by rw [tickE, if_neg (by simp [vdB_iff.2 hV]), if_neg (by omega), if_neg (by omega)]
      rw [tickV, tickR, if_pos hE0, hE0] at hI
      have hV1 := hV.tick (q := q) (hd := 1 + x3) (by omega)
      simp only [bov] at hI
      refine call_pc hI (by simp [go_sem, wts_pur, lls_pur, wns_pur, bls_pur]) ?_
      obtain ⟨b', hb', hV', hbp'⟩ : ∃ b' : Bo, b' = tickB b q (1 + x3) ∧ Vb b' ∧ b'.ps = ps := ⟨_, rfl, hV1, hbp⟩
      rw [← hb'] at hV1; clear hI; rw [← hb']
      try simp (maxSteps := 500000) (disch := omega) only [go_sem, jjA, jjB, jjC, jjD, jjE, jjF, jjG, jjH, jjI, jjJ, ↓reduceIte, reduceCtorEq, wrap_id, w_ite_ne, w_ite_lt, jjK, jjL, u1, i1, h5, w1]
      refine up_nextG m4 hkl (by omega) ⟨by try simp (maxSteps := 500000) (disch := omega) only [go_sem, jjA, jjB, jjC, jjD, jjE, jjF, jjG, jjH, jjI, jjJ, ↓reduceIte, reduceCtorEq, wrap_id, w_ite_ne, w_ite_lt, jjK, jjL, h5]; congr 1; omega, by simp only [St.trunc]; omega, ⟨a5, by rw [tr_ob (by omega), upd_ne _ _ _ _ h1]; exact hdk⟩, fun i hi hne => ?_, ?_, b', hV', hbp', by rw [tr_ob (by omega), upd_same]⟩
      · rw [tr_ob (by omega), upd_ne _ _ _ _ (by omega), hfk i (by omega) hne]; exact hfr i hi hne
      · rw [tr_ob (by omega), upd_ne _ _ _ _ (by omega), hfk n0 (by omega) i0]; exact u0
    try simp (maxSteps := 500000) (disch := omega) only [go_sem, jjA, jjB, jjC, jjD, jjE, jjF, jjG, jjH, jjI, jjJ, ↓reduceIte, reduceCtorEq, wrap_id, w_ite_ne, w_ite_lt, jjK, jjL]
    refine cond_d (fun e2 => ?_) (fun e2 => ?_)
    · try simp (maxSteps := 500000) (disch := omega) only [go_sem, jjA, jjB, jjC, jjD, jjE, jjF, jjG, jjH, jjI, jjJ, ↓reduceIte, reduceCtorEq, wrap_id, w_ite_ne, w_ite_lt, jjK, jjL, u1, i1, h5, wts_length]
      refine call_hc (ok_mk_Deck_Next _ id g ty_Deck true t a1 b.ps.length (by try simp (maxSteps := 500000) (disch := omega) only [go_sem, jjA, jjB, jjC, jjD, jjE, jjF, jjG, jjH, jjI, jjJ, ↓reduceIte, reduceCtorEq, wrap_id, w_ite_ne, w_ite_lt, jjK, jjL]) (by omega) hl) ?_
      have b2 := deckR_bd t a1 b.ps.length
      generalize deckR t a1 b.ps.length = dr at *
      obtain ⟨x2, a2⟩ := dr
      simp only at b2
      try simp (maxSteps := 500000) (disch := omega) only [go_sem, jjA, jjB, jjC, jjD, jjE, jjF, jjG, jjH, jjI, jjJ, ↓reduceIte, reduceCtorEq, wrap_id, w_ite_ne, w_ite_lt, jjK, jjL, u1, i1, h5]
      refine (hc_flow_Cause _ id g t a2 hl (by simp only; omega) (by try simp (maxSteps := 500000) (disch := omega) only [go_sem, jjA, jjB, jjC, jjD, jjE, jjF, jjG, jjH, jjI, jjJ, ↓reduceIte, reduceCtorEq, wrap_id, w_ite_ne, w_ite_lt, jjK, jjL])).mono ?_
      intro r τ hDR
      obtain ⟨⟨cs, rfl, hcs⟩, hn, ⟨a4, hdk⟩, hf4⟩ := hDR.use (by simp only; omega)
      obtain ⟨ob4, m4, c4⟩ := τ
      simp only at hn hdk hf4
      subst hn
      have hfk : ∀ i, i < m4 → i ≠ id → ob4 i = ob i := fun i hi hne => by rw [hf4 i hi hne, upd_ne _ _ _ _ hne, upd_ne _ _ _ _ hne]
      have w1 := (hfk (n0 + 1) (by omega) i1).trans u1
      try simp (maxSteps := 500000) (disch := omega) only [go_sem, jjA, jjB, jjC, jjD, jjE, jjF, jjG, jjH, jjI, jjJ, ↓reduceIte, reduceCtorEq, wrap_id, w_ite_ne, w_ite_lt, jjK, jjL, u1, i1, h5]
      refine ⟨w1, by simp [csv, go_sem], ?_⟩
      have hI := ok_ref37_Keep b x2 [cs] hV.sz (by simp)
      have hE0 : keepE b x2 = 0 := by rw [keepE, if_neg (by simp [vdB_iff.2 hV]), if_neg (by omega)]
      rw [keepV, keepR, if_pos hE0, hE0] at hI
      have hV1 := hV.keep (p := x2) (ks := [cs])
      simp only [bov] at hI
      refine call_pc hI (by simp [go_sem, wts_pur, lls_pur, wns_pur, csv]) ?_
      obtain ⟨b', hb', hV', hbp'⟩ : ∃ b' : Bo, b' = keepB b x2 [cs] ∧ Vb b' ∧ b'.ps = ps := ⟨_, rfl, hV1, hbp⟩
      rw [← hb'] at hV1; clear hI; rw [← hb']
      try simp (maxSteps := 500000) (disch := omega) only [go_sem, jjA, jjB, jjC, jjD, jjE, jjF, jjG, jjH, jjI, jjJ, ↓reduceIte, reduceCtorEq, wrap_id, w_ite_ne, w_ite_lt, jjK, jjL, u1, i1, h5, w1]
      refine up_nextG m4 hkl (by omega) ⟨by try simp (maxSteps := 500000) (disch := omega) only [go_sem, jjA, jjB, jjC, jjD, jjE, jjF, jjG, jjH, jjI, jjJ, ↓reduceIte, reduceCtorEq, wrap_id, w_ite_ne, w_ite_lt, jjK, jjL, h5]; congr 1; omega, by simp only [St.trunc]; omega, ⟨a4, by rw [tr_ob (by omega), upd_ne _ _ _ _ h1]; exact hdk⟩, fun i hi hne => ?_, ?_, b', hV', hbp', by rw [tr_ob (by omega), upd_same]⟩
      · rw [tr_ob (by omega), upd_ne _ _ _ _ (by omega), hfk i (by omega) hne]; exact hfr i hi hne
      · rw [tr_ob (by omega), upd_ne _ _ _ _ (by omega), hfk n0 (by omega) i0]; exact u0
    try simp (maxSteps := 500000) (disch := omega) only [go_sem, jjA, jjB, jjC, jjD, jjE, jjF, jjG, jjH, jjI, jjJ, ↓reduceIte, reduceCtorEq, wrap_id, w_ite_ne, w_ite_lt, jjK, jjL, u1, i1, h5, wts_length]
    refine (hcD_mk_Flows _ id g t a1 b.ps.length 30 (by omega) (by omega) (by omega) hl (by simp only; omega) (by try simp (maxSteps := 500000) (disch := omega) only [go_sem, jjA, jjB, jjC, jjD, jjE, jjF, jjG, jjH, jjI, jjJ, ↓reduceIte, reduceCtorEq, wrap_id, w_ite_ne, w_ite_lt, jjK, jjL])).mono ?_
    intro r τ hDR
    obtain ⟨⟨now, rfl, hnl, hnb⟩, hn, ⟨a4, hdk⟩, hf4⟩ := hDR.use (by simp only; omega)
    obtain ⟨ob4, m4, c4⟩ := τ
    simp only at hn hdk hf4
    subst hn
    have hfk : ∀ i, i < m4 → i ≠ id → ob4 i = ob i := fun i hi hne => by rw [hf4 i hi hne, upd_ne _ _ _ _ hne]
    have w1 := (hfk (n0 + 1) (by omega) i1).trans u1
    try simp (maxSteps := 500000) (disch := omega) only [go_sem, jjA, jjB, jjC, jjD, jjE, jjF, jjG, jjH, jjI, jjJ, ↓reduceIte, reduceCtorEq, wrap_id, w_ite_ne, w_ite_lt, jjK, jjL, u1, i1, h5]
    refine ⟨w1, ?_⟩
    have hI := ok_ref36_See b now hV.sz (by omega)
    have hfl : flsB now = true := List.all_eq_true.2 fun x hx => by have := hnb x hx; simp [flB, inW]; omega
    rw [seeV, seeR, see_e0 (vdB_iff.2 hV) (by omega) hfl, if_pos rfl] at hI
    have hV1 := hV.see (now := now) (by omega) hfl
    simp only [bov] at hI
    refine call_pc hI (by simp [go_sem, wts_pur, lls_pur, wns_pur, ints_pur]) ?_
    obtain ⟨b', hb', hV', hbp'⟩ : ∃ b' : Bo, b' = seeB b now ∧ Vb b' ∧ b'.ps = ps := ⟨_, rfl, hV1, hbp⟩
    rw [← hb'] at hV1; clear hI; rw [← hb']
    try simp (maxSteps := 500000) (disch := omega) only [go_sem, jjA, jjB, jjC, jjD, jjE, jjF, jjG, jjH, jjI, jjJ, ↓reduceIte, reduceCtorEq, wrap_id, w_ite_ne, w_ite_lt, jjK, jjL, u1, i1, h5, w1]
    refine up_nextG m4 hkl (by omega) ⟨by try simp (maxSteps := 500000) (disch := omega) only [go_sem, jjA, jjB, jjC, jjD, jjE, jjF, jjG, jjH, jjI, jjJ, ↓reduceIte, reduceCtorEq, wrap_id, w_ite_ne, w_ite_lt, jjK, jjL, h5]; congr 1; omega, by simp only [St.trunc]; omega, ⟨a4, by rw [tr_ob (by omega), upd_ne _ _ _ _ h1]; exact hdk⟩, fun i hi hne => ?_, ?_, b', hV', hbp', by rw [tr_ob (by omega), upd_same]⟩
    · rw [tr_ob (by omega), upd_ne _ _ _ _ (by omega), hfk i (by omega) hne]; exact hfr i hi hne
    · rw [tr_ob (by omega), upd_ne _ _ _ _ (by omega), hfk n0 (by omega) i0]; exact u0
  · try simp (maxSteps := 500000) (disch := omega) only [go_sem, jjA, jjB, jjC, jjD, jjE, jjF, jjG, jjH, jjI, jjJ, ↓reduceIte, reduceCtorEq, wrap_id, w_ite_ne, w_ite_lt, jjK, jjL, u1, u0, i2]
    refine ⟨bov b, a, Pub.e (by simp [go_sem, bov, wts_pur, lls_pur, wns_pur]), ⟨b, rfl, hV, by rw [hbp]; exact hps⟩, by try simp (maxSteps := 500000) (disch := omega) only [go_sem, jjA, jjB, jjC, jjD, jjE, jjF, jjG, jjH, jjI, jjJ, ↓reduceIte, reduceCtorEq, wrap_id, w_ite_ne, w_ite_lt, jjK, jjL, h0]; exact hd, fun i hi hne => ?_⟩
    simp only at hi
    have z2 : ¬ i = n0 := by omega
    try simp (maxSteps := 500000) (disch := omega) only [go_sem, jjA, jjB, jjC, jjD, jjE, jjF, jjG, jjH, jjI, jjJ, ↓reduceIte, reduceCtorEq, wrap_id, w_ite_ne, w_ite_lt, jjK, jjL, z2]
    exact hfr i hi hne
/-! the example of the chapter -/
def exW : Wt := ⟨0, 2, 5, 1⟩
def exB (k : Nat) : Bo := ⟨[exW], [([10, 12] : List Int).take k], []⟩
theorem exB_sz (k : Nat) : BoL (exB k) := ⟨by simp [exB], by simp [exB], by intro x hx; simp [exB] at hx; subst hx; simp; omega, by simp [exB], by intro w hw; simp [exB] at hw⟩
theorem ok_law36_sane : PC prog n_law36_sane [] (.bool true) := by
  refine PC_of_body b_law36_sane (by simp) ?_
  simp only [c_law36_sane, go_sem, jjA, jjB, jjC, jjD, jjE, jjF, jjG, jjH, jjI, jjJ, ↓reduceIte, reduceCtorEq, w_app_nl]
  have hO := ok_warning_Open [exW] (by simp)
  rw [show openV [exW] = .tuple [bov (exB 0), .int .i64 0] by rfl] at hO
  simp only [wts, wtv, exW, List.map_cons, List.map_nil] at hO
  try simp (maxSteps := 500000) (disch := omega) only [go_sem, jjA, jjB, jjC, jjD, jjE, jjF, jjG, jjH, jjI, jjJ, ↓reduceIte, reduceCtorEq, wrap_id, w_ite_ne, w_ite_lt, jjK, jjL]
  refine call_pc hO (by simp [go_sem]) ?_
  simp only [bov]
  try simp (maxSteps := 500000) (disch := omega) only [go_sem, jjA, jjB, jjC, jjD, jjE, jjF, jjG, jjH, jjI, jjJ, ↓reduceIte, reduceCtorEq, wrap_id, w_ite_ne, w_ite_lt, jjK, jjL]
  have hpu : ∀ j, (AV.agg [.list 4 (wts (exB j).ps), .list 1 (lls (exB j).pa), .list 4 (wns (exB j).ac)]).pur = true := fun j => by simp [go_sem, wts_pur, lls_pur, wns_pur]
  refine awp_upG [0, 4, 5, 6, 7, 23, 24, 25, 26, 27, 28, 29, 30, 31, 32, 33, 34, 35, 36, 37, 38, 39, 40, 41, 42, 43] (by kernel_rfl) 2 (fun k e σ => e 23 = .int .i64 k ∧ 1 ≤ σ.n ∧ σ.ob 0 = some ⟨0, 3, 31, false, true, [.agg [.list 4 (wts (exB k).ps), .list 1 (lls (exB k).pa), .list 4 (wns (exB k).ac)]]⟩) ?_ ?_
  · exact ⟨(by first | ((try simp (maxSteps := 1000000) only [go_sem, jjA, jjB, jjC, jjD, jjE, jjF, jjG, jjH, jjI, jjJ, ↓reduceIte, reduceCtorEq, w_app_nl]); done) | ((try simp (maxSteps := 1000000) only [go_sem, jjA, jjB, jjC, jjD, jjE, jjF, jjG, jjH, jjI, jjJ, ↓reduceIte, reduceCtorEq, w_app_nl]); rfl) | ((try simp (maxSteps := 1000000) (disch := omega) only [go_sem, jjA, jjB, jjC, jjD, jjE, jjF, jjG, jjH, jjI, jjJ, ↓reduceIte, reduceCtorEq, w_app_nl, wrap_id, w_ite_ne, w_ite_lt]); rfl) | (simp (maxSteps := 1000000) (disch := omega) only [go_sem, jjA, jjB, jjC, jjD, jjE, jjF, jjG, jjH, jjI, jjJ, ↓reduceIte, reduceCtorEq, w_app_nl, wrap_id, w_ite_ne, w_ite_lt]; done)), Nat.le_refl _, (by first | ((try simp (maxSteps := 1000000) only [go_sem, jjA, jjB, jjC, jjD, jjE, jjF, jjG, jjH, jjI, jjJ, ↓reduceIte, reduceCtorEq, w_app_nl]); done) | ((try simp (maxSteps := 1000000) only [go_sem, jjA, jjB, jjC, jjD, jjE, jjF, jjG, jjH, jjI, jjJ, ↓reduceIte, reduceCtorEq, w_app_nl]); rfl) | ((try simp (maxSteps := 1000000) (disch := omega) only [go_sem, jjA, jjB, jjC, jjD, jjE, jjF, jjG, jjH, jjI, jjJ, ↓reduceIte, reduceCtorEq, w_app_nl, wrap_id, w_ite_ne, w_ite_lt]); rfl) | (simp (maxSteps := 1000000) (disch := omega) only [go_sem, jjA, jjB, jjC, jjD, jjE, jjF, jjG, jjH, jjI, jjJ, ↓reduceIte, reduceCtorEq, w_app_nl, wrap_id, w_ite_ne, w_ite_lt]; done))⟩
  rintro k fe ob m c hk hm ⟨h23, hm1, ho⟩
  simp (maxSteps := 1000000) only [go_sem, jjA, jjB, jjC, jjD, jjE, jjF, jjG, jjH, jjI, jjJ, ↓reduceIte, reduceCtorEq, w_app_nl] at h23 hm hm1 ho
  have z0 : ¬ 0 = m := by omega
  have z1 : ¬ m = 0 := by omega
  try simp (maxSteps := 500000) (disch := omega) only [go_sem, jjA, jjB, jjC, jjD, jjE, jjF, jjG, jjH, jjI, jjJ, ↓reduceIte, reduceCtorEq, wrap_id, w_ite_ne, w_ite_lt, jjK, jjL, h23]
  refine cond_d (fun hlt => ?_) (fun hge => ?_)
  · have hS := ok_warning_See (exB k) [if k = 0 then 10 else 12] (exB_sz k) (by simp)
    have hSV : seeV (exB k) [if k = 0 then 10 else 12] = .tuple [bov (exB (k + 1)), .list 1 [], .int .i64 0] := by
      rcases (show k = 0 ∨ k = 1 by omega) with rfl | rfl <;> rfl
    rw [hSV] at hS
    have hgk : ([.int .i64 10, .int .i64 12] : List AV)[k]? = some (.int .i64 (if k = 0 then 10 else 12)) := by
      rcases (show k = 0 ∨ k = 1 by omega) with rfl | rfl <;> rfl
    generalize (if k = 0 then (10 : Int) else 12) = x at *
    simp only [bov, ints, List.map_cons, List.map_nil] at hS
    try simp (maxSteps := 500000) (disch := omega) only [go_sem, jjA, jjB, jjC, jjD, jjE, jjF, jjG, jjH, jjI, jjJ, ↓reduceIte, reduceCtorEq, wrap_id, w_ite_ne, w_ite_lt, jjK, jjL, h23, hgk, ho, z0, z1]
    refine ⟨by omega, by omega, ?_⟩
    refine call_pc hS (by simp [go_sem, wts_pur, lls_pur, wns_pur]) ?_
    try simp (maxSteps := 500000) (disch := omega) only [go_sem, jjA, jjB, jjC, jjD, jjE, jjF, jjG, jjH, jjI, jjJ, ↓reduceIte, reduceCtorEq, wrap_id, w_ite_ne, w_ite_lt, jjK, jjL, h23, ho, z0, z1]
    refine up_nextG (m + 1) (by omega) (by omega) ⟨(by first | ((try simp (maxSteps := 1000000) only [go_sem, jjA, jjB, jjC, jjD, jjE, jjF, jjG, jjH, jjI, jjJ, ↓reduceIte, reduceCtorEq, w_app_nl]); done) | ((try simp (maxSteps := 1000000) only [go_sem, jjA, jjB, jjC, jjD, jjE, jjF, jjG, jjH, jjI, jjJ, ↓reduceIte, reduceCtorEq, w_app_nl]); rfl) | ((try simp (maxSteps := 1000000) (disch := omega) only [go_sem, jjA, jjB, jjC, jjD, jjE, jjF, jjG, jjH, jjI, jjJ, ↓reduceIte, reduceCtorEq, w_app_nl, wrap_id, w_ite_ne, w_ite_lt]); rfl) | (simp (maxSteps := 1000000) (disch := omega) only [go_sem, jjA, jjB, jjC, jjD, jjE, jjF, jjG, jjH, jjI, jjJ, ↓reduceIte, reduceCtorEq, w_app_nl, wrap_id, w_ite_ne, w_ite_lt]; done)), by simp only [St.trunc]; omega, ?_⟩
    rw [tr_ob (by omega), upd_same]
  · obtain rfl : k = 2 := by omega
    have hA : PC prog n_warning_Ahead [bov (exB 2), .list 1 [.list 1 [.int .i64 12, .int .i64 18]]] (.tuple [.list 1 [.int .i64 0], .int .i64 0]) := ok_warning_Ahead (exB 2) [[12, 18]] (exB_sz 2) (by simp) (by simp)
    have hS : PC prog n_warning_See [bov (exB 2), .list 1 [.int .i64 16]] (.tuple [bov (seeR (exB 2) [16]).1, .list 1 [.int .i64 0], .int .i64 0]) := ok_warning_See (exB 2) [16] (exB_sz 2) (by simp)
    have hAc : PC prog n_warning_Active [bov (exB 2), .int .i64 0] (.tuple [.agg [.int .i64 0, .int .i64 0, .list 2 [], .int .i64 0], .bool false]) := ok_warning_Active (exB 2) 0 (exB_sz 2)
    have hCk : PC prog n_warning_Check [bov (exB 2)] (.int .i64 0) := ok_warning_Check (exB 2) (exB_sz 2)
    generalize (seeR (exB 2) [16]).1 = b3 at *
    simp only [bov] at hA hS hAc hCk ho
    try simp (maxSteps := 500000) (disch := omega) only [go_sem, jjA, jjB, jjC, jjD, jjE, jjF, jjG, jjH, jjI, jjJ, ↓reduceIte, reduceCtorEq, wrap_id, w_ite_ne, w_ite_lt, jjK, jjL, ho]
    refine call_pc hA (by simp [go_sem, wts_pur, lls_pur, wns_pur]) ?_
    try simp (maxSteps := 500000) (disch := omega) only [go_sem, jjA, jjB, jjC, jjD, jjE, jjF, jjG, jjH, jjI, jjJ, ↓reduceIte, reduceCtorEq, wrap_id, w_ite_ne, w_ite_lt, jjK, jjL, ho, z0, z1]
    refine call_pc hS (by simp [go_sem, wts_pur, lls_pur, wns_pur]) ?_
    try simp (maxSteps := 500000) (disch := omega) only [go_sem, jjA, jjB, jjC, jjD, jjE, jjF, jjG, jjH, jjI, jjJ, ↓reduceIte, reduceCtorEq, wrap_id, w_ite_ne, w_ite_lt, jjK, jjL, ho, z0, z1]
    refine call_pc hAc (by simp [go_sem, wts_pur, lls_pur, wns_pur]) ?_
    try simp (maxSteps := 500000) (disch := omega) only [go_sem, jjA, jjB, jjC, jjD, jjE, jjF, jjG, jjH, jjI, jjJ, ↓reduceIte, reduceCtorEq, wrap_id, w_ite_ne, w_ite_lt, jjK, jjL, ho, z0, z1]
    have z2 : ¬ 0 = m + 1 := by omega
    try simp (maxSteps := 500000) (disch := omega) only [go_sem, jjA, jjB, jjC, jjD, jjE, jjF, jjG, jjH, jjI, jjJ, ↓reduceIte, reduceCtorEq, wrap_id, w_ite_ne, w_ite_lt, jjK, jjL, ho, z0, z1, z2]
    refine call_pc hCk (by simp [go_sem, wts_pur, lls_pur, wns_pur]) ?_
    try simp (maxSteps := 500000) (disch := omega) only [go_sem, jjA, jjB, jjC, jjD, jjE, jjF, jjG, jjH, jjI, jjJ, ↓reduceIte, reduceCtorEq, wrap_id, w_ite_ne, w_ite_lt, jjK, jjL]
    exact Pub.pure rfl
end Go.Proofs.Try
