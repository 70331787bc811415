/- OWN WORK, put together by tools/asm.py, seat.py, mini.py. -/
import Derived.Test.YtpdfbkeholfdaaaLib
set_option linter.unusedSimpArgs false
set_option linter.unusedVariables false
set_option maxRecDepth 100000
set_option maxHeartbeats 1000000
namespace Go.Proofs.Try
open Go.Ab Go
open Int renaming reduceEq → jA, reduceLT → jB, reduceLE → jC, reduceToNat → jD
open Go.Ab renaming w_ite_ne → jM, w_ite_lt → jN, wrap_id → jO, w_app_nl → jP
open Nat renaming reduceLT → jE, reduceEqDiff → jF, reduceAdd → jG, reduceLeDiff → jH, reduceSub → jI, reduceMul → jJ, sub_zero → jK, sub_self → jL
def PnsB (l : List Pn) : Prop := ∀ p ∈ l, 0 ≤ p.id ∧ p.id ≤ 1000 ∧ 0 ≤ p.key ∧ p.key ≤ 1000
theorem hc_flow_People (σ : St) (id g : Nat) (t : List Int) (at' : Nat) (hl : t.length ≤ 9223372036854775807) (hid : id < σ.n) (hob : σ.ob id = some ⟨g, 2, ty_Deck, false, true, [deckV t at']⟩) :
  HC prog n_flow_People [.ptr id g 2 0 0] σ (DeckR σ id g t fun r => ∃ l, r = .list 3 (pns l) ∧ l.length ≤ 5 ∧ PnsB l) := by
 refine HC.deck hid ?_
 obtain ⟨ob0, n0, c0⟩ := σ
 simp only at hob hid
 refine HC_of_body b_flow_People (by simp) ?_
 simp only [c_flow_People]
 try simp (disch := omega) only [go_sem, jA, jB, jC, jD, jE, jF, jG, jH, jI, jJ, ↓reduceIte, reduceCtorEq, jO, jM, jN, jK, jL]
 refine call_hc (ok_mk_Deck_Next _ id g ty_Deck true t at' 5 (by exact hob) (by omega) hl) ?_
 have hx1 := deckR_bd t at' 5
 generalize deckR t at' 5 = dr at *
 obtain ⟨x0, at0⟩ := dr
 simp only at hx1
 try simp (disch := omega) only [go_sem, jA, jB, jC, jD, jE, jF, jG, jH, jI, jJ, ↓reduceIte, reduceCtorEq, jO, jM, jN, jK, jL]
 obtain ⟨K, hK⟩ : ∃ K : Nat, (K : Int) = x0 ∧ K ≤ 4 := ⟨x0.toNat, by omega, by omega⟩
 obtain ⟨rfl, hK⟩ := hK
 refine awp_upG [3, 4, 5, 8, 9, 10, 11, 12, 13, 14, 15, 16, 17, 18, 19, 20, 21, 22, 23, 24, 25, 26, 27] (by kernel_rfl) (K + 1) (fun k e σ => e 5 = .int .i64 ((K : Int) - k) ∧ n0 ≤ σ.n ∧ (∃ a, σ.ob id = some ⟨g, 2, ty_Deck, false, true, [deckV t a]⟩) ∧ (∀ i, i < n0 → i ≠ id → σ.ob i = ob0 i) ∧ (∃ y, e 4 = .int .i64 y ∧ 0 ≤ y ∧ y ≤ 3 * k) ∧
   ∃ l X, At e 3 X ∧ l.length = k ∧ PnsB l ∧ SlR 3 62 σ (pns l) X ∧ ∀ i, i < n0 → Oth X i) ?_ ?_
 ·exact ⟨(by first | rfl | (simp (disch := omega) only [go_sem, jA, jB, jC, jD, jE, jF, jG, jH, jI, jJ, ↓reduceIte, reduceCtorEq, jP, jO, jM, jN]; try rfl)), Nat.le_refl _, ⟨at0, by try simp (disch := omega) only [go_sem, jA, jB, jC, jD, jE, jF, jG, jH, jI, jJ, ↓reduceIte, reduceCtorEq, jO, jM, jN, jK, jL]⟩, fun i hi hne => by simp only; rw [upd_ne _ _ _ _ hne], ⟨0, (by first | rfl | (simp (disch := omega) only [go_sem, jA, jB, jC, jD, jE, jF, jG, jH, jI, jJ, ↓reduceIte, reduceCtorEq, jP, jO, jM, jN]; try rfl)), by omega, by omega⟩, [], .nil, (by simp only [At]; try simp (disch := omega) only [go_sem, jA, jB, jC, jD, jE, jF, jG, jH, jI, jJ, ↓reduceIte, reduceCtorEq, jO, jM, jN, jK, jL]), rfl, fun p hp => by simp at hp, SlR.nil, fun i _ => Oth.nil i⟩
 rintro k fe ob m c hk hm ⟨h5, hm1, ⟨at3, hd⟩, hfr, ⟨y, h4, y0, y1⟩, l, X, h3, hll, hB, hX, ho⟩
 simp (maxSteps := 1000000) only [go_sem, jA, jB, jC, jD, jE, jF, jG, jH, jI, jJ, ↓reduceIte, reduceCtorEq, jP, At] at h5 hm hm1 hd hfr h4 h3
 try simp (disch := omega) only [go_sem, jA, jB, jC, jD, jE, jF, jG, jH, jI, jJ, ↓reduceIte, reduceCtorEq, jO, jM, jN, jK, jL, h5]
 refine cond_d (fun hge => ?_) (fun hlt => ?_)
 ·have hkl : k < K + 1 := by omega
  try simp (disch := omega) only [go_sem, jA, jB, jC, jD, jE, jF, jG, jH, jI, jJ, ↓reduceIte, reduceCtorEq, jO, jM, jN, jK, jL]
  refine call_hc (ok_mk_Deck_Next _ id g ty_Deck true t at3 3 (by exact hd) (by omega) hl) ?_
  have hx2 := deckR_bd t at3 3
  generalize deckR t at3 3 = dr at *
  obtain ⟨x2, at4⟩ := dr
  simp only at hx2
  try simp (disch := omega) only [go_sem, jA, jB, jC, jD, jE, jF, jG, jH, jI, jJ, ↓reduceIte, reduceCtorEq, jO, jM, jN, jK, jL, h4, h3]
  refine call_hc (ok_mk_Deck_Next _ id g ty_Deck true t at4 3 (by try simp (disch := omega) only [go_sem, jA, jB, jC, jD, jE, jF, jG, jH, jI, jJ, ↓reduceIte, reduceCtorEq, jO, jM, jN, jK, jL]) (by omega) hl) ?_
  have hx3 := deckR_bd t at4 3
  generalize deckR t at4 3 = dr at *
  obtain ⟨x3, at5⟩ := dr
  simp only at hx3
  try simp (disch := omega) only [go_sem, jA, jB, jC, jD, jE, jF, jG, jH, jI, jJ, ↓reduceIte, reduceCtorEq, jO, jM, jN, jK, jL]
  refine call_hc (ok_mk_Deck_Next _ id g ty_Deck true t at5 1000 (by try simp (disch := omega) only [go_sem, jA, jB, jC, jD, jE, jF, jG, jH, jI, jJ, ↓reduceIte, reduceCtorEq, jO, jM, jN, jK, jL]) (by omega) hl) ?_
  have hx4 := deckR_bd t at5 1000
  generalize deckR t at5 1000 = dr at *
  obtain ⟨x4, at6⟩ := dr
  simp only at hx4
  try simp (disch := omega) only [go_sem, jA, jB, jC, jD, jE, jF, jG, jH, jI, jJ, ↓reduceIte, reduceCtorEq, jO, jM, jN, jK, jL, upd_upd]
  refine app_slr (b := 24) (hX.move (by exact Nat.le_refl _) fun i hi hno => ?_) (by rw [pns_length]; omega) (by rw [pns_length]; omega) fun Y τ5 hR5 hK5 => ?_
  ·simp only
   rw [upd_ne _ _ _ _ fun e => hno (by rw [e]; exact ho id hid)]
  obtain ⟨ob5, m5, c5⟩ := τ5
  have hn5 : m ≤ m5 := hK5.1
  have f5 : ∀ i, i < n0 → i ≠ id → ob5 i = ob i := fun i hi hne => (hK5.2.1 i (by simp only; omega) (ho i hi)).trans (upd_ne _ _ _ _ hne)
  have d5 := (hK5.2.1 id (by simp only; omega) (ho id hid)).trans (upd_same _ _ _)
  try simp (disch := omega) only [go_sem, jA, jB, jC, jD, jE, jF, jG, jH, jI, jJ, ↓reduceIte, reduceCtorEq, jO, jM, jN, jK, jL, h5]
  refine up_nextG m5 hkl (by omega) ⟨by try simp (disch := omega) only [go_sem, jA, jB, jC, jD, jE, jF, jG, jH, jI, jJ, ↓reduceIte, reduceCtorEq, jO, jM, jN, jK, jL]; congr 1; omega, by simp only [St.trunc]; omega, ⟨at6, by rw [tr_ob (by omega)]; exact d5⟩, fun i hi hne => by rw [tr_ob (by omega), f5 i hi hne]; exact hfr i hi hne, ⟨y + (1 + x2), (by first | rfl | (simp (disch := omega) only [go_sem, jA, jB, jC, jD, jE, jF, jG, jH, jI, jJ, ↓reduceIte, reduceCtorEq, jP, jO, jM, jN]; try rfl)), by omega, by omega⟩,
   l ++ [⟨y + (1 + x2), 1 + x3, 1 + x4⟩], Y, (by simp only [At]; try simp (disch := omega) only [go_sem, jA, jB, jC, jD, jE, jF, jG, jH, jI, jJ, ↓reduceIte, reduceCtorEq, jO, jM, jN, jK, jL]), by simp [hll], fun p hp => ?_, ?_, fun i hi => hK5.2.2 i (by simp only; omega) (ho i hi)⟩
  ·rcases List.mem_append.1 hp with hp | hp
   ·exact hB p hp
   ·obtain rfl : p = _ := by simpa using hp
    simp only; omega
  ·rw [show pns (l ++ [⟨y + (1 + x2), 1 + x3, 1 + x4⟩]) = pns l ++ [.agg [.int .i64 (y + (1 + x2)), .int .i64 (1 + x3), .int .i64 (1 + x4)]] by simp [pns, pnv]]
   exact hR5.tr
 obtain rfl : k = K + 1 := by omega
 try simp (disch := omega) only [go_sem, jA, jB, jC, jD, jE, jF, jG, jH, jI, jJ, ↓reduceIte, reduceCtorEq, jO, jM, jN, jK, jL, h3]
 refine ⟨.list 3 (pns l), at3, ?_, ⟨l, rfl, by omega, hB⟩, hd, hfr⟩
 exact hX.pub (fun i hi hh => by simp only; rw [if_neg fun h => hh (ho i h)]) (pns_pur _) (pns_ok _)
def SgB (r : AV) : Prop := ∃ a b c, r = .tuple [.int .i64 a, .int .i64 b, .int .i64 c] ∧ 0 ≤ a ∧ a ≤ 1073741824 ∧ 0 ≤ b ∧ b ≤ 1073741824 ∧ 0 ≤ c ∧ c ≤ 4294967296
theorem codeL_bd : ∀ (l : List Int) (c : Int), 0 ≤ c → c ≤ 2147483647 → 0 ≤ codeL c l ∧ codeL c l ≤ 2147483647
 | [], c, h0, h1 => ⟨h0, h1⟩
 | n :: l, c, h0, h1 => by
  have b1 := tmod_bdP n
  have b2 := tmod_bd0 (n.tmod 2147483647 + 2147483647) (by omega)
  have b3 := tmod_bd0 (31 * c + (n.tmod 2147483647 + 2147483647).tmod 2147483647) (by omega)
  rw [codeL]
  exact codeL_bd l _ b3.1 (by omega)
theorem codeS_bd (key kind : Int) (d : Dv) : 0 ≤ codeS key kind d ∧ codeS key kind d ≤ 2147483647 := codeL_bd _ 7 (by omega) (by omega)
theorem hc_flow_Signed (σ : St) (id g : Nat) (t : List Int) (at' : Nat) (K : Dk) (hB : DkB K) (now : Int) (hl : t.length ≤ 9223372036854775807) (hid : id < σ.n) (hob : σ.ob id = some ⟨g, 2, ty_Deck, false, true, [deckV t at']⟩) :
  HC prog n_flow_Signed [.ptr id g 2 0 0, dkv K, .int .i64 now] σ (DeckR σ id g t SgB) := by
 refine HC.deck hid ?_
 obtain ⟨ob0, n0, c0⟩ := σ
 simp only at hob hid
 refine HC_of_body b_flow_Signed (by simp) ?_
 simp only [c_flow_Signed]
 have z0 : ¬ id = n0 := by omega
 have z1 : ¬ n0 = id := by omega
 try simp (disch := omega) only [go_sem, jA, jB, jC, jD, jE, jF, jG, jH, jI, jJ, ↓reduceIte, reduceCtorEq, jO, jM, jN, jK, jL, dkv_flat, dkv_len, dkv_2, dkv_0, pns_length, dvs_length]
 have hlp := hB.lp
 have hld := hB.ld
 have fin : ∀ (ob' : Nat → Option AObj) (c' m' : Nat) (a b c : Int) (at2 : Nat), ob' id = some ⟨g, 2, ty_Deck, false, true, [deckV t at2]⟩ → (∀ i, i < n0 → i ≠ id → ob' i = ob0 i) → (0 ≤ a ∧ a ≤ 1073741824 ∧ 0 ≤ b ∧ b ≤ 1073741824 ∧ 0 ≤ c ∧ c ≤ 4294967296) →
   Deck0 ⟨ob0, n0, c0⟩ id g t SgB (.tuple [.int .i64 a, .int .i64 b, .int .i64 c]) ⟨ob', m', c'⟩ := fun ob' c' m' a b c at2 h1 h2 h3 => ⟨_, at2, .pure rfl, ⟨a, b, c, rfl, h3⟩, h1, h2⟩
 refine gd_fd rfl (fun g1 => ?_) (fun g1 => ?_) <;> try simp (disch := omega) only [go_sem, jA, jB, jC, jD, jE, jF, jG, jH, jI, jJ, ↓reduceIte, reduceCtorEq, jO, jM, jN, jK, jL, dkv_0, pns_length]
 ·refine call_hc (ok_mk_Deck_Next _ id g ty_Deck true t at' 3 (by try simp (disch := omega) only [go_sem, jA, jB, jC, jD, jE, jF, jG, jH, jI, jJ, ↓reduceIte, reduceCtorEq, jO, jM, jN, jK, jL, z0]; exact hob) (by omega) hl) ?_
  have hx1 := deckR_bd t at' 3
  generalize deckR t at' 3 = dr at *
  obtain ⟨x1, at1⟩ := dr
  simp only at hx1
  try simp (disch := omega) only [go_sem, jA, jB, jC, jD, jE, jF, jG, jH, jI, jJ, ↓reduceIte, reduceCtorEq, jO, jM, jN, jK, jL, z0, z1]
  refine call_hc (ok_mk_Deck_Next _ id g ty_Deck true t at1 3 (by try simp (disch := omega) only [go_sem, jA, jB, jC, jD, jE, jF, jG, jH, jI, jJ, ↓reduceIte, reduceCtorEq, jO, jM, jN, jK, jL]) (by omega) hl) ?_
  have hx2 := deckR_bd t at1 3
  generalize deckR t at1 3 = dr at *
  obtain ⟨x2, at2⟩ := dr
  simp only at hx2
  try simp (disch := omega) only [go_sem, jA, jB, jC, jD, jE, jF, jG, jH, jI, jJ, ↓reduceIte, reduceCtorEq, jO, jM, jN, jK, jL, z0, z1]
  refine call_hc (ok_mk_Deck_Next _ id g ty_Deck true t at2 100 (by try simp (disch := omega) only [go_sem, jA, jB, jC, jD, jE, jF, jG, jH, jI, jJ, ↓reduceIte, reduceCtorEq, jO, jM, jN, jK, jL]) (by omega) hl) ?_
  have hx3 := deckR_bd t at2 100
  generalize deckR t at2 100 = dr at *
  obtain ⟨x3, at3⟩ := dr
  simp only at hx3
  try simp (disch := omega) only [go_sem, jA, jB, jC, jD, jE, jF, jG, jH, jI, jJ, ↓reduceIte, reduceCtorEq, jO, jM, jN, jK, jL, z0, z1]
  exact fin _ _ _ _ _ _ at3 (by try simp (disch := omega) only [go_sem, jA, jB, jC, jD, jE, jF, jG, jH, jI, jJ, ↓reduceIte, reduceCtorEq, jO, jM, jN, jK, jL]) (fun i hi hne => by
   have j0 : ¬ i = n0 := by omega
   try simp (disch := omega) only [go_sem, jA, jB, jC, jD, jE, jF, jG, jH, jI, jJ, ↓reduceIte, reduceCtorEq, jO, jM, jN, jK, jL, j0, hne]) (by omega)
 refine cond_d (fun g2 => ?_) (fun g2 => ?_) <;> try simp (disch := omega) only [go_sem, jA, jB, jC, jD, jE, jF, jG, jH, jI, jJ, ↓reduceIte, reduceCtorEq, jO, jM, jN, jK, jL]
 ·refine call_hc (ok_mk_Deck_Next _ id g ty_Deck true t at' 3 (by try simp (disch := omega) only [go_sem, jA, jB, jC, jD, jE, jF, jG, jH, jI, jJ, ↓reduceIte, reduceCtorEq, jO, jM, jN, jK, jL, z0]; exact hob) (by omega) hl) ?_
  have hx1 := deckR_bd t at' 3
  generalize deckR t at' 3 = dr at *
  obtain ⟨x1, at1⟩ := dr
  simp only at hx1
  try simp (disch := omega) only [go_sem, jA, jB, jC, jD, jE, jF, jG, jH, jI, jJ, ↓reduceIte, reduceCtorEq, jO, jM, jN, jK, jL, z0, z1]
  refine call_hc (ok_mk_Deck_Next _ id g ty_Deck true t at1 3 (by try simp (disch := omega) only [go_sem, jA, jB, jC, jD, jE, jF, jG, jH, jI, jJ, ↓reduceIte, reduceCtorEq, jO, jM, jN, jK, jL]) (by omega) hl) ?_
  have hx2 := deckR_bd t at1 3
  generalize deckR t at1 3 = dr at *
  obtain ⟨x2, at2⟩ := dr
  simp only at hx2
  try simp (disch := omega) only [go_sem, jA, jB, jC, jD, jE, jF, jG, jH, jI, jJ, ↓reduceIte, reduceCtorEq, jO, jM, jN, jK, jL, z0, z1]
  refine call_hc (ok_mk_Deck_Next _ id g ty_Deck true t at2 100 (by try simp (disch := omega) only [go_sem, jA, jB, jC, jD, jE, jF, jG, jH, jI, jJ, ↓reduceIte, reduceCtorEq, jO, jM, jN, jK, jL]) (by omega) hl) ?_
  have hx3 := deckR_bd t at2 100
  generalize deckR t at2 100 = dr at *
  obtain ⟨x3, at3⟩ := dr
  simp only at hx3
  try simp (disch := omega) only [go_sem, jA, jB, jC, jD, jE, jF, jG, jH, jI, jJ, ↓reduceIte, reduceCtorEq, jO, jM, jN, jK, jL, z0, z1]
  exact fin _ _ _ _ _ _ at3 (by try simp (disch := omega) only [go_sem, jA, jB, jC, jD, jE, jF, jG, jH, jI, jJ, ↓reduceIte, reduceCtorEq, jO, jM, jN, jK, jL]) (fun i hi hne => by
   have j0 : ¬ i = n0 := by omega
   try simp (disch := omega) only [go_sem, jA, jB, jC, jD, jE, jF, jG, jH, jI, jJ, ↓reduceIte, reduceCtorEq, jO, jM, jN, jK, jL, j0, hne]) (by omega)
 try simp (disch := omega) only [go_sem, jA, jB, jC, jD, jE, jF, jG, jH, jI, jJ, ↓reduceIte, reduceCtorEq, jO, jM, jN, jK, jL, z0, z1, dkv_2, dkv_0, pns_length, dvs_length]
 refine call_hc (ok_mk_Deck_Next _ id g ty_Deck true t at' K.ds.length (by try simp (disch := omega) only [go_sem, jA, jB, jC, jD, jE, jF, jG, jH, jI, jJ, ↓reduceIte, reduceCtorEq, jO, jM, jN, jK, jL, z0]; exact hob) (by omega) hl) ?_
 have hx1 := deckR_bd t at' K.ds.length
 generalize deckR t at' K.ds.length = dr at *
 obtain ⟨x1, at1⟩ := dr
 simp only at hx1
 obtain ⟨i1, hi1⟩ : ∃ i1 : Nat, (i1 : Int) = x1 ∧ i1 < K.ds.length := ⟨x1.toNat, by omega, by omega⟩
 obtain ⟨rfl, hi1⟩ := hi1
 have hg1 := gD_get hi1
 have hd1 := gD_kd hB i1
 generalize gD K.ds i1 = d at *
 try simp (disch := omega) only [go_sem, jA, jB, jC, jD, jE, jF, jG, jH, jI, jJ, ↓reduceIte, reduceCtorEq, jO, jM, jN, jK, jL, z0, z1, dvs_length, dvs_get, hg1, Option.map_some, dv0_fold, dvv_put, dvv_flat, dvv_len, dvv_tk, dvv_dt, dvv_ct, dvv_ca, dvv_one, dkv_2, dkv_0, pns_length]
 have z2 : ¬ n0 + 1 = id := by omega
 have z3 : ¬ id = n0 + 1 := by omega
 refine ⟨by omega, by omega, ?_⟩
 refine call_hc (ok_mk_Deck_Next _ id g ty_Deck true t at1 K.ps.length (by try simp (disch := omega) only [go_sem, jA, jB, jC, jD, jE, jF, jG, jH, jI, jJ, ↓reduceIte, reduceCtorEq, jO, jM, jN, jK, jL, z3]) (by omega) hl) ?_
 have hx2 := deckR_bd t at1 K.ps.length
 generalize deckR t at1 K.ps.length = dr at *
 obtain ⟨x2, at2⟩ := dr
 simp only at hx2
 obtain ⟨i2, hi2⟩ : ∃ i2 : Nat, (i2 : Int) = x2 ∧ i2 < K.ps.length := ⟨x2.toNat, by omega, by omega⟩
 obtain ⟨rfl, hi2⟩ := hi2
 have hg2 := gP_get hi2
 have hd2 := hB.ip _ (List.mem_of_getElem? hg2)
 generalize gP K.ps i2 = p at *
 try simp (disch := omega) only [go_sem, jA, jB, jC, jD, jE, jF, jG, jH, jI, jJ, ↓reduceIte, reduceCtorEq, jO, jM, jN, jK, jL, z0, z1, z2, z3, pns_length, pns_get, hg2, Option.map_some, pnv, dvv_flat, dvv_len, dvv_tk, dvv_dt]
 refine ⟨by omega, by omega, ?_⟩
 refine call_pc (ok_ref26_Code p.key 1 d) (by simp [dvv_pur, go_sem]) ?_
 have cb1 := codeS_bd p.key 1 d
 have cb2 := codeS_bd p.key 2 d
 have z4 : ¬ n0 + 1 + 1 = id := by omega
 have z5 : ¬ id = n0 + 1 + 1 := by omega
 try simp (disch := omega) only [go_sem, jA, jB, jC, jD, jE, jF, jG, jH, jI, jJ, ↓reduceIte, reduceCtorEq, jO, jM, jN, jK, jL, z0, z1, z2, z3, z4, z5]
 refine call_hc (ok_mk_Deck_Next _ id g ty_Deck true t at2 8 (by try simp (disch := omega) only [go_sem, jA, jB, jC, jD, jE, jF, jG, jH, jI, jJ, ↓reduceIte, reduceCtorEq, jO, jM, jN, jK, jL, z3, z5]) (by omega) hl) ?_
 generalize deckR t at2 8 = dr at *
 obtain ⟨x3, at3⟩ := dr
 try simp (disch := omega) only [go_sem, jA, jB, jC, jD, jE, jF, jG, jH, jI, jJ, ↓reduceIte, reduceCtorEq, jO, jM, jN, jK, jL, z0, z1, z2, z3, z4, z5]
 refine cond_d (fun g3 => ?_) (fun g3 => ?_)
 ·try simp (disch := omega) only [go_sem, jA, jB, jC, jD, jE, jF, jG, jH, jI, jJ, ↓reduceIte, reduceCtorEq, jO, jM, jN, jK, jL, z0, z1, z2, z3, z4, z5, dvv_flat, dvv_len, dvv_tk, dvv_dt]
  refine call_pc (ok_ref26_Code p.key 2 d) (by simp [dvv_pur, go_sem]) ?_
  try simp (disch := omega) only [go_sem, jA, jB, jC, jD, jE, jF, jG, jH, jI, jJ, ↓reduceIte, reduceCtorEq, jO, jM, jN, jK, jL, z0, z1, z2, z3, z4, z5, dvv_0]
  exact fin _ _ _ _ _ _ at3 (by try simp (disch := omega) only [go_sem, jA, jB, jC, jD, jE, jF, jG, jH, jI, jJ, ↓reduceIte, reduceCtorEq, jO, jM, jN, jK, jL, z3, z5]) (fun i hi hne => by
   have j0 : ¬ i = n0 := by omega
   have j1 : ¬ i = n0 + 1 := by omega
   have j2 : ¬ i = n0 + 1 + 1 := by omega
   try simp (disch := omega) only [go_sem, jA, jB, jC, jD, jE, jF, jG, jH, jI, jJ, ↓reduceIte, reduceCtorEq, jO, jM, jN, jK, jL, j0, j1, j2, hne]) (by omega)
 try simp (disch := omega) only [go_sem, jA, jB, jC, jD, jE, jF, jG, jH, jI, jJ, ↓reduceIte, reduceCtorEq, jO, jM, jN, jK, jL]
 refine cond_d (fun g4 => ?_) (fun g4 => ?_)
 ·try simp (disch := omega) only [go_sem, jA, jB, jC, jD, jE, jF, jG, jH, jI, jJ, ↓reduceIte, reduceCtorEq, jO, jM, jN, jK, jL, z0, z1, z2, z3, z4, z5, dvv_0]
  exact fin _ _ _ _ _ _ at3 (by try simp (disch := omega) only [go_sem, jA, jB, jC, jD, jE, jF, jG, jH, jI, jJ, ↓reduceIte, reduceCtorEq, jO, jM, jN, jK, jL, z3, z5]) (fun i hi hne => by
   have j0 : ¬ i = n0 := by omega
   have j1 : ¬ i = n0 + 1 := by omega
   have j2 : ¬ i = n0 + 1 + 1 := by omega
   try simp (disch := omega) only [go_sem, jA, jB, jC, jD, jE, jF, jG, jH, jI, jJ, ↓reduceIte, reduceCtorEq, jO, jM, jN, jK, jL, j0, j1, j2, hne]) (by omega)
 try simp (disch := omega) only [go_sem, jA, jB, jC, jD, jE, jF, jG, jH, jI, jJ, ↓reduceIte, reduceCtorEq, jO, jM, jN, jK, jL, z0, z1, z2, z3, z4, z5, dvv_0]
 exact fin _ _ _ _ _ _ at3 (by try simp (disch := omega) only [go_sem, jA, jB, jC, jD, jE, jF, jG, jH, jI, jJ, ↓reduceIte, reduceCtorEq, jO, jM, jN, jK, jL, z3, z5]) (fun i hi hne => by
   have j0 : ¬ i = n0 := by omega
   have j1 : ¬ i = n0 + 1 := by omega
   have j2 : ¬ i = n0 + 1 + 1 := by omega
   try simp (disch := omega) only [go_sem, jA, jB, jC, jD, jE, jF, jG, jH, jI, jJ, ↓reduceIte, reduceCtorEq, jO, jM, jN, jK, jL, j0, j1, j2, hne]) (by omega)
theorem dvXs_get {ds : List Dv} {Fs : List AV} {i : Nat} {d : Dv} {E : AV} (h1 : ds[i]? = some d) (h2 : Fs[i]? = some E) : (dvXs ds Fs)[i]? = some (dvX d E) := by simp [dvXs, List.getElem?_zipWith, h1, h2]
theorem zip_set {α β γ : Type} (f : α → β → γ) : ∀ (l : List α) (r : List β) (i : Nat) (a : α) (b : β), (List.zipWith f l r).set i (f a b) = List.zipWith f (l.set i a) (r.set i b)
 | [], _, _, _, _ => by simp
 | _ :: _, [], i, _, _ => by cases i <;> simp
 | x :: l, y :: r, 0, a, b => rfl
 | x :: l, y :: r, i + 1, a, b => by simp [zip_set f l r i a b]
theorem set_same {α : Type} {l : List α} {i : Nat} {a : α} (h : l[i]? = some a) : l.set i a = l := by
 apply List.ext_getElem?
 intro j
 by_cases e : i = j
 ·subst e; rw [h, List.getElem?_set_self (List.getElem?_eq_some_iff.1 h).1]
 ·rw [List.getElem?_set_ne e]
theorem askG_ok (K : Dk) (id who code now kind : Int) : ∀ (l : List Dv) (i : Nat), (askG K id who code now kind l i).2.2 = 0 → ∃ j : Nat, (askG K id who code now kind l i).1 = j ∧ j < i + l.length
 | [], i, h => by simp [askG] at h
 | d :: l, i, h => by
  rw [askG] at h ⊢
  split at h
  ·rename_i h1
   rw [if_pos h1]
   obtain ⟨j, h2, h3⟩ := askG_ok K id who code now kind l (i + 1) h
   exact ⟨j, h2, by simp; omega⟩
  ·rename_i h1
   rw [if_neg h1]
   split at h
   ·simp at h
   ·rename_i h2
    rw [if_neg h2]
    split at h
    ·simp at h
    ·rename_i h3
     rw [if_neg h3]
     split at h
     ·simp at h
     ·rename_i h4
      rw [if_neg h4]
      exact ⟨i, rfl, by simp⟩
theorem askS_ok {K : Dk} {id who code now kind : Int} (h : (askS K id who code now kind).2.2 = 0) : ∃ j : Nat, (askS K id who code now kind).1 = j ∧ j < K.ds.length := by
 unfold askS at h ⊢
 split at h
 ·simp at h
 ·rename_i h1
  rw [if_neg h1]
  obtain ⟨j, h2, h3⟩ := askG_ok K id who code now kind K.ds 0 h
  exact ⟨j, h2, by omega⟩
theorem askS_chk {K : Dk} {id who code now kind : Int} (h : (askS K id who code now kind).2.2 = 0) : chkD K = true := by
 cases hc : chkD K
 ·rw [askS, if_pos hc] at h; simp at h
 ·rfl
theorem IC.set {es : Nat} {ty : TypeId} {σ τ : St} {Es : List AV} {Ls : List (List AV)} {j : Nat} {E' : AV} {L' : List AV} (h : IC es ty σ Es Ls) (hj : SlR es ty τ L' E') (ho : ∀ (i : Nat) (E : AV) (L : List AV), i ≠ j → Es[i]? = some E → Ls[i]? = some L → SlR es ty τ L E) : IC es ty τ (Es.set j E') (Ls.set j L') := by
 refine ⟨by simp [h.1], fun i E L hE hL => ?_⟩
 by_cases e : i = j
 ·subst e
  rw [List.getElem?_set_self' ] at hE hL
  cases h1 : Es[i]? <;> simp [h1] at hE
  cases h2 : Ls[i]? <;> simp [h2] at hL
  subst hE; subst hL
  exact hj
 ·rw [List.getElem?_set_ne (Ne.symm e)] at hE hL
  exact ho i E L e hE hL
theorem SlR.lenC {es : Nat} {ty : TypeId} {σ τ : St} {L : List AV} {X : AV} (h : SlR es ty σ L X) {K : AV → St → Prop} (k : K (.int .i64 L.length) τ) : lenC X τ K := by
 rcases h with ⟨rfl, rfl⟩ | ⟨id, g, rfl, _, _⟩
 ·simpa [Ab.lenC] using k
 ·simpa [Ab.lenC] using k
theorem okS_ref26_Withdraw (K : Dk) (hB : DkS K) (id who code now : Int) : PC prog n_ref26_Withdraw [dkv K, .int .i64 id, .int .i64 who, .int .i64 code, .int .i64 now] (.tuple [dkv (wdrS K id who code now).1, .int .i64 (wdrS K id who code now).2]) := by
 have hlp := hB.lp
 have hld := hB.ld
 have hKp := dkv_pur K
 have hS0 : wdrS K id who code now = if (askS K id who code now 2).2.2 ≠ 0 then (dk0, (askS K id who code now 2).2.2) else (⟨K.ps, K.nx, K.ds.set (askS K id who code now 2).1.toNat { gD K.ds (askS K id who code now 2).1.toNat with wd := true }⟩, 0) := rfl
 refine PC_of_body b_ref26_Withdraw (by simp) ?_
 simp only [c_ref26_Withdraw]
 try simp (disch := omega) only [go_sem, jA, jB, jC, jD, jE, jF, jG, jH, jI, jJ, ↓reduceIte, reduceCtorEq, jO, jM, jN, jK, jL, dkv_flat, dkv_len, dkv_tk, dkv_dt]
 refine call_pc (ok_ref26_ask K id who code now 2 (by omega) (by omega)) (by simp [hKp, go_sem]) ?_
 have hok := @askS_ok K id who code now 2
 have hck := @askS_chk K id who code now 2
 generalize askS K id who code now 2 = a at *
 obtain ⟨i, p, e⟩ := a
 simp only at hok hS0 hck
 try simp (disch := omega) only [go_sem, jA, jB, jC, jD, jE, jF, jG, jH, jI, jJ, ↓reduceIte, reduceCtorEq, jO, jM, jN, jK, jL, pnv]
 refine cond_n (fun h1 => ?_) (fun h1 => ?_)
 ·try simp (disch := omega) only [go_sem, jA, jB, jC, jD, jE, jF, jG, jH, jI, jJ, ↓reduceIte, reduceCtorEq, jO, jM, jN, jK, jL]
  rw [hS0, if_pos h1]
  exact Pub.tu (.cons pub_dk0 (.cons (Pub.e rfl) .nil))
 obtain rfl : e = 0 := by simpa using h1
 rw [if_neg (by simp)] at hS0
 obtain ⟨j, rfl, hj⟩ := hok rfl
 have hc := hck rfl
 have hnx := chkD_nx hc
 rw [Int.toNat_natCast] at hS0
 have hg := gD_get hj
 generalize gD K.ds j = d at *
 try simp (disch := omega) only [go_sem, jA, jB, jC, jD, jE, jF, jG, jH, jI, jJ, ↓reduceIte, reduceCtorEq, jO, jM, jN, jK, jL, dkv_flat, dkv_len, dkv_tk, dkv_dt]
 refine (hc_ref26_Copy _ K (by omega) (by omega) fun d hd => by have := chkD_sg hc hd; omega).mono ?_
 rintro r ⟨ob1, n1, c1⟩ ⟨XP, XA, Fs, l1, rfl, hl1, hl2, hP, hPl, hA, hI, hG, hfr⟩
 simp only at hl1 hl2 hPl hfr
 have u0 := hfr 0 (by omega)
 have u1 := hfr 1 (by omega)
 have u2 := hfr 2 (by omega)
 try simp (disch := omega) only [go_sem, jA, jB, jC, jD, jE, jF, jG, jH, jI, jJ, ↓reduceIte, reduceCtorEq, jO, jM, jN, jK, jL] at u0
 try simp (disch := omega) only [go_sem, jA, jB, jC, jD, jE, jF, jG, jH, jI, jJ, ↓reduceIte, reduceCtorEq, jO, jM, jN, jK, jL] at u1
 try simp (disch := omega) only [go_sem, jA, jB, jC, jD, jE, jF, jG, jH, jI, jJ, ↓reduceIte, reduceCtorEq, jO, jM, jN, jK, jL] at u2
 have hFl : Fs.length = K.ds.length := by have := hI.1; simpa [inS] using this
 have hFg : Fs[j]? = some Fs[j] := List.getElem?_eq_getElem (by omega)
 generalize Fs[j] = E at *
 have hxg := dvXs_get hg hFg
 have hXl : (dvXs K.ds Fs).length = K.ds.length := by simp [dvXs]; omega
 rcases hA with ⟨_, h0⟩ | ⟨ia, ga, rfl, hia, hoa⟩
 ·rw [h0] at hXl; simp at hXl; omega
 simp only at hia hoa
 have hal : l1 ≤ ia := (hG.low ia fun h => h _ _ _ _ rfl).1
 try simp (disch := omega) only [go_sem, jA, jB, jC, jD, jE, jF, jG, jH, jI, jJ, ↓reduceIte, reduceCtorEq, jO, jM, jN, jK, jL, u0, u1, u2, hP.flat, hP.cells, hP.one, dk_put, hoa, hxg, hXl]
 refine ⟨by omega, by omega, ?_⟩
 rw [hS0]
 have hW : setc 6 (.bool true) (dvX d E) = dvX { d with wd := true } E := rfl
 have hD : (dvXs K.ds Fs).set j (dvX { d with wd := true } E) = dvXs (K.ds.set j { d with wd := true }) Fs := by
  rw [dvXs, zip_set dvX, set_same hFg]; rfl
 have hIn : inS (K.ds.set j { d with wd := true }) = inS K.ds := by
  have h9 : (inS K.ds)[j]? = some (ints d.sg) := by simp [inS, hg]
  rw [inS, List.map_set]
  exact set_same h9
 have hlen : (dvXs (K.ds.set j { d with wd := true }) Fs).length = K.ds.length := by simp [dvXs]; omega
 rw [hW, hD]
 refine Pub.tu (.cons (pub_dk (Fs := Fs) (hP.move (Nat.le_refl _) fun i hi hh => ?_) (.inr ⟨ia, ga, by rw [hlen], hia, ?_⟩) ?_) (.cons (Pub.e rfl) .nil))
 ·have h9 := hPl i hh
  simp only
  rw [upd_ne _ _ _ _ (by omega), upd_ne _ _ _ _ (by omega), upd_ne _ _ _ _ (by omega)]
 ·simp only
  rw [upd_ne _ _ _ _ (by omega), upd_same]
 ·rw [hIn]
  refine hI.move (Nat.le_refl _) fun F hF i hi hlt => ?_
  have h9 := (hG.loE F hF i hi).1
  have h8 : ¬ i = ia := fun h => Oth.ne (hG.sep F hF i hi) h.symm
  simp only
  rw [upd_ne _ _ _ _ (by omega), upd_ne _ _ _ _ h8, upd_ne _ _ _ _ (by omega)]
theorem ok_ref26_Withdraw (K : Dk) (hB : DkB K) (id who code now : Int) : PC prog n_ref26_Withdraw [dkv K, .int .i64 id, .int .i64 who, .int .i64 code, .int .i64 now] (.tuple [dkv (wdrS K id who code now).1, .int .i64 (wdrS K id who code now).2]) := okS_ref26_Withdraw K hB.s id who code now
theorem okS_ref26_Sign (K : Dk) (hB : DkS K) (id who code now : Int) : PC prog n_ref26_Sign [dkv K, .int .i64 id, .int .i64 who, .int .i64 code, .int .i64 now] (.tuple [dkv (sgnS K id who code now).1, .int .i64 (sgnS K id who code now).2]) := by
 have hlp := hB.lp
 have hld := hB.ld
 have hKp := dkv_pur K
 have hS0 : sgnS K id who code now = if (askS K id who code now 1).2.2 ≠ 0 then (dk0, (askS K id who code now 1).2.2) else
  if (gD K.ds (askS K id who code now 1).1.toNat).sg.length = 2 then (dk0, 46) else if sgnE K who (askS K id who code now 1).2.1.role (gD K.ds (askS K id who code now 1).1.toNat).sg ≠ 0 then (dk0, sgnE K who (askS K id who code now 1).2.1.role (gD K.ds (askS K id who code now 1).1.toNat).sg) else
  (⟨K.ps, K.nx, K.ds.set (askS K id who code now 1).1.toNat { gD K.ds (askS K id who code now 1).1.toNat with sg := (gD K.ds (askS K id who code now 1).1.toNat).sg ++ [who] }⟩, 0) := rfl
 refine PC_of_body b_ref26_Sign (by simp) ?_
 simp only [c_ref26_Sign]
 try simp (disch := omega) only [go_sem, jA, jB, jC, jD, jE, jF, jG, jH, jI, jJ, ↓reduceIte, reduceCtorEq, jO, jM, jN, jK, jL, dkv_flat, dkv_len, dkv_tk, dkv_dt]
 refine call_pc (ok_ref26_ask K id who code now 1 (by omega) (by omega)) (by simp [hKp, go_sem]) ?_
 have hok := @askS_ok K id who code now 1
 have hck := @askS_chk K id who code now 1
 generalize askS K id who code now 1 = a at *
 obtain ⟨i, p, e⟩ := a
 simp only at hok hS0 hck
 try simp (disch := omega) only [go_sem, jA, jB, jC, jD, jE, jF, jG, jH, jI, jJ, ↓reduceIte, reduceCtorEq, jO, jM, jN, jK, jL, pnv]
 refine cond_n (fun h1 => ?_) (fun h1 => ?_)
 ·try simp (disch := omega) only [go_sem, jA, jB, jC, jD, jE, jF, jG, jH, jI, jJ, ↓reduceIte, reduceCtorEq, jO, jM, jN, jK, jL]
  rw [hS0, if_pos h1]
  exact Pub.tu (.cons pub_dk0 (.cons (Pub.e rfl) .nil))
 obtain rfl : e = 0 := by simpa using h1
 rw [if_neg (by simp)] at hS0
 obtain ⟨j, rfl, hj⟩ := hok rfl
 have hc := hck rfl
 have hnx := chkD_nx hc
 rw [Int.toNat_natCast] at hS0
 have hg := gD_get hj
 have hgk := chkD_sg hc (List.mem_of_getElem? hg)
 generalize gD K.ds j = d at *
 try simp (disch := omega) only [go_sem, jA, jB, jC, jD, jE, jF, jG, jH, jI, jJ, ↓reduceIte, reduceCtorEq, jO, jM, jN, jK, jL, dkv_flat, dkv_len, dkv_tk, dkv_dt]
 refine (hc_ref26_Copy _ K (by omega) (by omega) fun d hd => by have := chkD_sg hc hd; omega).mono ?_
 rintro r ⟨ob1, n1, c1⟩ ⟨XP, XA, Fs, l1, rfl, hl1, hl2, hP, hPl, hA, hI, hG, hfr⟩
 simp only at hl1 hl2 hPl hfr
 have u0 := hfr 0 (by omega)
 have u1 := hfr 1 (by omega)
 have u2 := hfr 2 (by omega)
 try simp (disch := omega) only [go_sem, jA, jB, jC, jD, jE, jF, jG, jH, jI, jJ, ↓reduceIte, reduceCtorEq, jO, jM, jN, jK, jL] at u0
 try simp (disch := omega) only [go_sem, jA, jB, jC, jD, jE, jF, jG, jH, jI, jJ, ↓reduceIte, reduceCtorEq, jO, jM, jN, jK, jL] at u1
 try simp (disch := omega) only [go_sem, jA, jB, jC, jD, jE, jF, jG, jH, jI, jJ, ↓reduceIte, reduceCtorEq, jO, jM, jN, jK, jL] at u2
 have hFl : Fs.length = K.ds.length := by have := hI.1; simpa [inS] using this
 have hjF : j < Fs.length := by omega
 have hFg : Fs[j]? = some Fs[j] := List.getElem?_eq_getElem hjF
 generalize hEE : Fs[j] = E at *
 have hxg := dvXs_get hg hFg
 have hXl : (dvXs K.ds Fs).length = K.ds.length := by simp [dvXs]; omega
 rcases hA with ⟨_, h0⟩ | ⟨ia, ga, rfl, hia, hoa⟩
 ·rw [h0] at hXl; simp at hXl; omega
 simp only at hia hoa
 have hal : l1 ≤ ia := (hG.low ia fun h => h _ _ _ _ rfl).1
 have hEs := hI.2 j E (ints d.sg) hFg (by simp [inS, hg])
 have z0 : ¬ ia = 0 := by omega
 have d5 : ∀ d E, (dvX d E).cells.getD 5 .junk = E := fun _ _ => rfl
 try simp (disch := omega) only [go_sem, jA, jB, jC, jD, jE, jF, jG, jH, jI, jJ, ↓reduceIte, reduceCtorEq, jO, jM, jN, jK, jL, u0, u1, u2, hP.flat, hP.cells, hP.one, dk_put, hoa, hxg, hXl, z0, d5]
 refine ⟨by omega, by omega, ?_⟩
 refine hEs.lenC ?_
 try simp (disch := omega) only [go_sem, jA, jB, jC, jD, jE, jF, jG, jH, jI, jJ, ↓reduceIte, reduceCtorEq, jO, jM, jN, jK, jL, ints_length]
 refine cond_d (fun h2 => ?_) (fun h2 => ?_) <;> try simp (disch := omega) only [go_sem, jA, jB, jC, jD, jE, jF, jG, jH, jI, jJ, ↓reduceIte, reduceCtorEq, jO, jM, jN, jK, jL, u1, ints_length]
 ·rw [hS0, if_pos (by omega)]
  exact Pub.tu (.cons pub_dk0 (.cons (Pub.e rfl) .nil))
 rw [if_neg (by omega)] at hS0
 try simp (disch := omega) only [go_sem, jA, jB, jC, jD, jE, jF, jG, jH, jI, jJ, ↓reduceIte, reduceCtorEq, jO, jM, jN, jK, jL, hoa, hxg, z0, d5]
 refine hEs.lenC ?_
 try simp (disch := omega) only [go_sem, jA, jB, jC, jD, jE, jF, jG, jH, jI, jJ, ↓reduceIte, reduceCtorEq, jO, jM, jN, jK, jL, ints_length]
 have hEo : ∀ i, ¬ Oth E i → l1 ≤ i ∧ i < n1 := fun i hi => hG.loE E (List.mem_of_getElem? hFg) i hi
 have hEa : Oth E ia := Oth.em fun h => Oth.ne (hG.sep E (List.mem_of_getElem? hFg) ia h) rfl
 refine awp_upG [11, 17, 18, 19, 52, 53, 54, 55, 56, 57, 58, 59, 60, 61, 62, 63, 64, 65, 66, 67, 68, 69, 70, 71, 72] (by kernel_rfl) d.sg.length (fun i e σ => e 52 = .int .i64 i ∧ n1 ≤ σ.n ∧ (∀ i, i < n1 → i ≠ 0 → σ.ob i = ob1 i) ∧ σ.ob 0 = some ⟨0, 3, 31, false, true, [.agg [XP, .int .i64 K.nx, .sl ia ga 7 0 K.ds.length]]⟩ ∧ sgnE K who p.role d.sg = sgnE K who p.role (d.sg.drop i)) ?_ ?_
 ·exact ⟨(by first | rfl | (simp (disch := omega) only [go_sem, jA, jB, jC, jD, jE, jF, jG, jH, jI, jJ, ↓reduceIte, reduceCtorEq, jP, jO, jM, jN]; try rfl)), Nat.le_refl _, fun i hi hne => upd_ne _ _ _ _ hne, by try simp (disch := omega) only [go_sem, jA, jB, jC, jD, jE, jF, jG, jH, jI, jJ, ↓reduceIte, reduceCtorEq, jO, jM, jN, jK, jL], rfl⟩
 rintro i fe ob m c hi hm ⟨h52, hm1, hfr2, v0, hsg⟩
 simp (maxSteps := 1000000) only [go_sem, jA, jB, jC, jD, jE, jF, jG, jH, jI, jJ, ↓reduceIte, reduceCtorEq, jP] at h52 hm hm1 v0 hfr2
 have v1 := (hfr2 1 (by omega) (by omega)).trans u1
 have v2 := (hfr2 2 (by omega) (by omega)).trans u2
 have va := (hfr2 ia hia z0).trans hoa
 try simp (disch := omega) only [go_sem, jA, jB, jC, jD, jE, jF, jG, jH, jI, jJ, ↓reduceIte, reduceCtorEq, jO, jM, jN, jK, jL, h52]
 refine cond_d (fun hlt => ?_) (fun hge => ?_)
 ·have hil : i < d.sg.length := by omega
  rw [List.drop_eq_getElem_cons hil, sgnE] at hsg
  have hgi := ints_get d.sg i
  rw [List.getElem?_eq_getElem hil] at hgi
  generalize d.sg[i] = s at *
  rcases hEs with ⟨rfl, hz⟩ | ⟨ie, ge, rfl, hie, hoe⟩
  ·simp [ints] at hz; rw [hz] at hil; simp at hil
  simp only at hie hoe
  have hie1 := hEo ie fun h => h _ _ _ _ rfl
  have ve := (hfr2 ie hie (by omega)).trans hoe
  try simp (disch := omega) only [go_sem, jA, jB, jC, jD, jE, jF, jG, jH, jI, jJ, ↓reduceIte, reduceCtorEq, jO, jM, jN, jK, jL, h52, ve, hgi, Option.map_some, ints_length]
  refine ⟨by omega, by omega, ?_⟩
  refine cond_d (fun h3 => ?_) (fun h3 => ?_) <;> try simp (disch := omega) only [go_sem, jA, jB, jC, jD, jE, jF, jG, jH, jI, jJ, ↓reduceIte, reduceCtorEq, jO, jM, jN, jK, jL, v1]
  ·rw [if_pos h3] at hsg
   rw [hS0, if_pos (by rw [hsg]; omega), hsg]
   exact Pub.tu (.cons pub_dk0 (.cons (Pub.e rfl) .nil))
  rw [if_neg h3] at hsg
  try simp (disch := omega) only [go_sem, jA, jB, jC, jD, jE, jF, jG, jH, jI, jJ, ↓reduceIte, reduceCtorEq, jO, jM, jN, jK, jL, v0, hP.flat, hP.cells, hP.one]
  have hPub : Pub ⟨ob, m, c⟩ (.agg [XP, .int .i64 K.nx, .sl ia ga 7 0 K.ds.length]) (dkv K) := by
   refine pub_dk (Fs := Fs) (hP.move hm1 fun i hi hh => hfr2 i hi (by have := hPl i hh; omega)) (.inr ⟨ia, ga, by rw [hXl], by simp only; omega, va⟩) (hI.move hm1 fun F hF i hi hlt => hfr2 i hlt (by have := hG.loE F hF i hi; omega))
  refine call_lent (ok_ref26_person K s (by omega)) (.cons hPub (.cons (Pub.e rfl) .nil)) (by simp [AV.scal, pnv, AV.scal1]) ?_
  have z4 : ¬ 2 = m := by omega
  try simp (disch := omega) only [go_sem, jA, jB, jC, jD, jE, jF, jG, jH, jI, jJ, ↓reduceIte, reduceCtorEq, jO, jM, jN, jK, jL, pnv, v2, z4]
  refine cond_d (fun h4 => ?_) (fun h4 => ?_)
  ·have z5 : ¬ 1 = m := by omega
   try simp (disch := omega) only [go_sem, jA, jB, jC, jD, jE, jF, jG, jH, jI, jJ, ↓reduceIte, reduceCtorEq, jO, jM, jN, jK, jL, v1, z5]
   rw [if_pos h4] at hsg
   rw [hS0, if_pos (by rw [hsg]; omega), hsg]
   exact Pub.tu (.cons pub_dk0 (.cons (Pub.e rfl) .nil))
  rw [if_neg h4] at hsg
  try simp (disch := omega) only [go_sem, jA, jB, jC, jD, jE, jF, jG, jH, jI, jJ, ↓reduceIte, reduceCtorEq, jO, jM, jN, jK, jL, h52]
  refine up_nextG (m + 1) hil (by omega) ⟨(by first | rfl | (simp (disch := omega) only [go_sem, jA, jB, jC, jD, jE, jF, jG, jH, jI, jJ, ↓reduceIte, reduceCtorEq, jP, jO, jM, jN]; try rfl)), by simp only [St.trunc]; omega, fun i hi hne => ?_, ?_, hsg⟩
  ·rw [tr_ob (by omega), upd_ne _ _ _ _ (by omega), upd_ne _ _ _ _ (by omega)]; exact hfr2 i hi hne
  ·rw [tr_ob (by omega), upd_ne _ _ _ _ (by omega), upd_ne _ _ _ _ (by omega)]; exact v0
 obtain rfl : i = d.sg.length := by omega
 rw [List.drop_length, sgnE] at hsg
 rw [if_neg (by simp [hsg])] at hS0
 have hse := hEs.move (τ := ⟨ob, m, c⟩) hm1 fun i hi hh => hfr2 i hi (by have := hEo i hh; omega)
 try simp (disch := omega) only [go_sem, jA, jB, jC, jD, jE, jF, jG, jH, jI, jJ, ↓reduceIte, reduceCtorEq, jO, jM, jN, jK, jL, va, hxg, d5]
 refine app_slr (b := 8) hse (by rw [ints_length]; omega) (by rw [ints_length]; omega) fun E' τ5 hE5 k5 => ?_
 obtain ⟨ob5, m5, c5⟩ := τ5
 have hm5 : m ≤ m5 := k5.1
 have q5 : ∀ i, i < m → Oth E i → ob5 i = ob i := fun i hi ho => k5.2.1 i hi ho
 have oE : ∀ i, i < l1 → Oth E i := fun i hi => Oth.em fun h => by have := (hEo i h).1; omega
 have w0 := (q5 0 (by omega) (oE 0 (by omega))).trans v0
 have w1 := (q5 1 (by omega) (oE 1 (by omega))).trans v1
 have wa := (q5 ia (by omega) hEa).trans va
 have p5 : ∀ y, setc 5 E' (dvX d y) = dvX { d with sg := d.sg ++ [who] } E' := fun y => by
  rcases hE5 with ⟨rfl, _⟩ | ⟨_, _, rfl, _⟩ <;> rfl
 have z6 : ¬ ia = 1 := by omega
 try simp (disch := omega) only [go_sem, jA, jB, jC, jD, jE, jF, jG, jH, jI, jJ, ↓reduceIte, reduceCtorEq, jO, jM, jN, jK, jL, wa, hxg, hXl, w0, w1, z0, z6, hE5.flat, hE5.cells, hE5.one, p5, hP.flat, hP.cells, hP.one]
 rw [hS0]
 have hD : (dvXs K.ds Fs).set j (dvX { d with sg := d.sg ++ [who] } E') = dvXs (K.ds.set j { d with sg := d.sg ++ [who] }) (Fs.set j E') := zip_set dvX _ _ _ _ _
 have hlen : (dvXs (K.ds.set j { d with sg := d.sg ++ [who] }) (Fs.set j E')).length = K.ds.length := by simp [dvXs]; omega
 rw [hD]
 have oE5 : ∀ i, i < m → Oth E i → Oth E' i := fun i hi ho => k5.2.2 i hi ho
 have fz : ∀ (x y : Option AObj) i, i ≠ ia → i ≠ 1 → upd (upd ob5 ia x) 1 y i = ob5 i := fun x y i h1 h2 => by rw [upd_ne _ _ _ _ h2, upd_ne _ _ _ _ h1]
 refine Pub.tu (.cons (pub_dk (Fs := Fs.set j E') (hP.move (by simp only; omega) fun i hi hh => ?_) (.inr ⟨ia, ga, by rw [hlen], by simp only; omega, ?_⟩) ?_) (.cons (Pub.e rfl) .nil))
 ·have h9 := hPl i hh
  simp only
  rw [fz _ _ i (by omega) (by omega), q5 i (by omega) (oE i h9.2), hfr2 i hi (by omega)]
 ·simp only
  rw [upd_ne _ _ _ _ (by omega), upd_same]
 ·rw [show inS (K.ds.set j { d with sg := d.sg ++ [who] }) = (inS K.ds).set j (ints (d.sg ++ [who])) by simp [inS, List.map_set]]
  have happ : ints (d.sg ++ [who]) = ints d.sg ++ [.int .i64 who] := by simp [ints]
  refine hI.set ?_ fun i F L hne hF hL => ?_
  ·rw [happ]
   refine hE5.move (Nat.le_refl _) fun i hi hh => ?_
   have hx1 : ¬ i = ia := fun h => hh (h ▸ oE5 ia (by omega) hEa)
   have hx2 : ¬ i = 1 := fun h => hh (h ▸ oE5 1 (by omega) (oE 1 (by omega)))
   simp only
   rw [fz _ _ i hx1 hx2]
  ·refine (hI.2 i F L hF hL).move (by simp only; omega) fun q hq hh => ?_
   simp only at hq
   have h9 := (hG.loE F (List.mem_of_getElem? hF) q hh).1
   have hx1 : ¬ q = ia := fun h => Oth.ne (hG.sep F (List.mem_of_getElem? hF) q hh) h.symm
   have hx3 := hG.dj i j F E hne hF hFg q hh
   simp only
   rw [fz _ _ q hx1 (by omega), q5 q (by omega) hx3, hfr2 q hq (by omega)]
theorem ok_ref26_Sign (K : Dk) (hB : DkB K) (id who code now : Int) : PC prog n_ref26_Sign [dkv K, .int .i64 id, .int .i64 who, .int .i64 code, .int .i64 now] (.tuple [dkv (sgnS K id who code now).1, .int .i64 (sgnS K id who code now).2]) := okS_ref26_Sign K hB.s id who code now
def ZL (Z : AV) (K : Dk) : Prop := Z = dkv K ∨ ∃ ps, Z = .agg [.list 3 (pns ps), .int .i64 1, .nil] ∧ K = ⟨ps, 1, []⟩
theorem ZL.nlr {Z : AV} {K : Dk} (h : ZL Z K) : NlR Z (dkv K) := by
 rcases h with rfl | ⟨ps, rfl, rfl⟩
 ·exact .rfl
 ·exact .agg (.cons .rfl (.cons .rfl (.cons (.nil 7) .nil)))
theorem ZL.pur {Z : AV} {K : Dk} (h : ZL Z K) : Z.pur = true := by
 rcases h with rfl | ⟨ps, rfl, rfl⟩
 ·exact dkv_pur K
 ·simp [go_sem, pns_pur]
theorem ZL.flat {Z : AV} {K : Dk} (h : ZL Z K) : Z.flat = true ∧ Z.cells.length = 3 ∧ AV.agg (Z.cells.take 3) = Z ∧ AV.agg ((Z.cells.drop 0).take 3) = Z := by
 rcases h with rfl | ⟨ps, rfl, rfl⟩
 ·exact ⟨dkv_flat K, rfl, rfl, rfl⟩
 ·exact ⟨rfl, rfl, rfl, rfl⟩
theorem ZL.put {Z : AV} {K : Dk} (h : ZL Z K) (M : Dk) : setc 0 (dkv M) Z = dkv M := by
 rcases h with rfl | ⟨ps, rfl, rfl⟩ <;> rfl
theorem ZL.pub {Z : AV} {K : Dk} (h : ZL Z K) {σ : St} : Pub σ Z (dkv K) := by
 rcases h with rfl | ⟨ps, rfl, rfl⟩
 ·exact .pure (dkv_pur K)
 ·exact Pub.ag (.cons (Pub.pure (by simp [go_sem, pns_pur])) (.cons (Pub.e rfl) (.cons (.nl 7) .nil)))
theorem dkv_ct (K : Dk) : (dkv K).cells.take 3 = (dkv K).cells := rfl
theorem dkv_ca (K : Dk) : AV.agg (dkv K).cells = dkv K := rfl
theorem dkv_one (K : Dk) : (dkv K).cells.all AV.one = true := rfl
theorem dk_put0 (M : Dk) : setc 0 (dkv M) (.agg [.nil, .int .i64 0, .nil]) = dkv M := rfl
theorem hc_flow_SignedZ (σ : St) (id g : Nat) (t : List Int) (at' : Nat) (K : Dk) (Z : AV) (hZ : ZL Z K) (hB : DkB K) (now : Int) (hl : t.length ≤ 9223372036854775807) (hid : id < σ.n) (hob : σ.ob id = some ⟨g, 2, ty_Deck, false, true, [deckV t at']⟩) :
  HC prog n_flow_Signed [.ptr id g 2 0 0, Z, .int .i64 now] σ (DeckR σ id g t SgB) := by
 rcases hZ with rfl | ⟨ps, rfl, rfl⟩
 ·exact hc_flow_Signed σ id g t at' K hB now hl hid hob
 ·refine HC.deck hid ?_
  obtain ⟨ob0, n0, c0⟩ := σ
  simp only at hob hid
  refine HC_of_body b_flow_Signed (by simp) ?_
  simp only [c_flow_Signed]
  have z0 : ¬ id = n0 := by omega
  have z1 : ¬ n0 = id := by omega
  have fin : ∀ (ob' : Nat → Option AObj) (c' m' : Nat) (a b c : Int) (at2 : Nat), ob' id = some ⟨g, 2, ty_Deck, false, true, [deckV t at2]⟩ → (∀ i, i < n0 → i ≠ id → ob' i = ob0 i) → (0 ≤ a ∧ a ≤ 1073741824 ∧ 0 ≤ b ∧ b ≤ 1073741824 ∧ 0 ≤ c ∧ c ≤ 4294967296) →
    Deck0 ⟨ob0, n0, c0⟩ id g t SgB (.tuple [.int .i64 a, .int .i64 b, .int .i64 c]) ⟨ob', m', c'⟩ := fun ob' c' m' a b c at2 h1 h2 h3 => ⟨_, at2, .pure rfl, ⟨a, b, c, rfl, h3⟩, h1, h2⟩
  try simp (disch := omega) only [go_sem, jA, jB, jC, jD, jE, jF, jG, jH, jI, jJ, ↓reduceIte, reduceCtorEq, jO, jM, jN, jK, jL]
  refine call_hc (ok_mk_Deck_Next _ id g ty_Deck true t at' 3 (by try simp (disch := omega) only [go_sem, jA, jB, jC, jD, jE, jF, jG, jH, jI, jJ, ↓reduceIte, reduceCtorEq, jO, jM, jN, jK, jL, z0]; exact hob) (by omega) hl) ?_
  have hx1 := deckR_bd t at' 3
  generalize deckR t at' 3 = dr at *
  obtain ⟨x1, at1⟩ := dr
  simp only at hx1
  try simp (disch := omega) only [go_sem, jA, jB, jC, jD, jE, jF, jG, jH, jI, jJ, ↓reduceIte, reduceCtorEq, jO, jM, jN, jK, jL, z0, z1]
  refine call_hc (ok_mk_Deck_Next _ id g ty_Deck true t at1 3 (by try simp (disch := omega) only [go_sem, jA, jB, jC, jD, jE, jF, jG, jH, jI, jJ, ↓reduceIte, reduceCtorEq, jO, jM, jN, jK, jL]) (by omega) hl) ?_
  have hx2 := deckR_bd t at1 3
  generalize deckR t at1 3 = dr at *
  obtain ⟨x2, at2⟩ := dr
  simp only at hx2
  try simp (disch := omega) only [go_sem, jA, jB, jC, jD, jE, jF, jG, jH, jI, jJ, ↓reduceIte, reduceCtorEq, jO, jM, jN, jK, jL, z0, z1]
  refine call_hc (ok_mk_Deck_Next _ id g ty_Deck true t at2 100 (by try simp (disch := omega) only [go_sem, jA, jB, jC, jD, jE, jF, jG, jH, jI, jJ, ↓reduceIte, reduceCtorEq, jO, jM, jN, jK, jL]) (by omega) hl) ?_
  have hx3 := deckR_bd t at2 100
  generalize deckR t at2 100 = dr at *
  obtain ⟨x3, at3⟩ := dr
  simp only at hx3
  try simp (disch := omega) only [go_sem, jA, jB, jC, jD, jE, jF, jG, jH, jI, jJ, ↓reduceIte, reduceCtorEq, jO, jM, jN, jK, jL, z0, z1]
  exact fin _ _ _ _ _ _ at3 (by try simp (disch := omega) only [go_sem, jA, jB, jC, jD, jE, jF, jG, jH, jI, jJ, ↓reduceIte, reduceCtorEq, jO, jM, jN, jK, jL]) (fun i hi hne => by
   have j0 : ¬ i = n0 := by omega
   try simp (disch := omega) only [go_sem, jA, jB, jC, jD, jE, jF, jG, jH, jI, jJ, ↓reduceIte, reduceCtorEq, jO, jM, jN, jK, jL, j0, hne]) (by omega)
theorem hc_flow_Desk (σ : St) (id g : Nat) (t : List Int) (at' : Nat) (hl : t.length ≤ 9223372036854775807) (hid : id < σ.n) (hob : σ.ob id = some ⟨g, 2, ty_Deck, false, true, [deckV t at']⟩) :
  HC prog n_flow_Desk [.ptr id g 2 0 0] σ (DeckR σ id g t fun r => ∃ K, r = dkv K ∧ DkB K) := by
 refine HC.deck hid ?_
 obtain ⟨ob0, n0, c0⟩ := σ
 simp only at hob hid
 refine HC_of_body b_flow_Desk (by simp) ?_
 simp only [c_flow_Desk]
 have z0 : ¬ id = n0 := by omega
 have z1 : ¬ n0 = id := by omega
 have z2 : ¬ n0 + 1 = id := by omega
 have z3 : ¬ id = n0 + 1 := by omega
 try simp (disch := omega) only [go_sem, jA, jB, jC, jD, jE, jF, jG, jH, jI, jJ, ↓reduceIte, reduceCtorEq, jO, jM, jN, jK, jL]
 refine (hc_flow_People _ id g t at' hl (by simp only; omega) (by try simp (disch := omega) only [go_sem, jA, jB, jC, jD, jE, jF, jG, jH, jI, jJ, ↓reduceIte, reduceCtorEq, jO, jM, jN, jK, jL, z0]; exact hob)).mono ?_
 intro r τ hDR
 obtain ⟨⟨ps, rfl, hps, hpb⟩, hn, ⟨at1, hd⟩, hf⟩ := hDR.use (by simp only; omega)
 obtain ⟨ob1, n1, c1⟩ := τ
 simp only at hn hd hf
 subst hn
 have u0 := hf n0 (by omega) z1
 try simp (disch := omega) only [go_sem, jA, jB, jC, jD, jE, jF, jG, jH, jI, jJ, ↓reduceIte, reduceCtorEq, jO, jM, jN, jK, jL] at u0
 try simp (disch := omega) only [go_sem, jA, jB, jC, jD, jE, jF, jG, jH, jI, jJ, ↓reduceIte, reduceCtorEq, jO, jM, jN, jK, jL, z2, z3]
 refine call_hc (ok_mk_Deck_Next _ id g ty_Deck true t at1 12 (by try simp (disch := omega) only [go_sem, jA, jB, jC, jD, jE, jF, jG, jH, jI, jJ, ↓reduceIte, reduceCtorEq, jO, jM, jN, jK, jL, z3]; exact hd) (by omega) hl) ?_
 have hx1 := deckR_bd t at1 12
 generalize deckR t at1 12 = dr at *
 obtain ⟨x0, at0⟩ := dr
 simp only at hx1
 try simp (disch := omega) only [go_sem, jA, jB, jC, jD, jE, jF, jG, jH, jI, jJ, ↓reduceIte, reduceCtorEq, jO, jM, jN, jK, jL, z2, z3]
 obtain ⟨N, hN⟩ : ∃ N : Nat, (N : Int) = x0 ∧ N ≤ 12 := ⟨x0.toNat, by omega, by omega⟩
 obtain ⟨rfl, hN⟩ := hN
 refine awp_upG [4, 5, 6, 7, 8, 9, 10, 11, 12, 13, 14, 15, 21, 22, 23, 24, 25, 26, 27, 28, 29, 30, 31, 32, 33, 34, 35, 36, 37, 38, 39, 40, 41, 42, 43, 44, 45, 46, 47, 48, 49, 50, 51, 52, 53, 54, 55, 56, 57, 58, 59, 60, 61, 62, 63, 64, 65, 66, 67, 68, 69, 70, 71, 72, 73, 74, 75, 76, 77, 78, 79, 80, 81, 82, 83, 84, 85, 86, 87, 88] (by kernel_rfl) N (fun k e σ => e 4 = .int .i64 ((N : Int) - k) ∧ n0 + 2 ≤ σ.n ∧ (∃ a, σ.ob id = some ⟨g, 2, ty_Deck, false, true, [deckV t a]⟩) ∧ (∀ i, i < n0 → i ≠ id → σ.ob i = ob0 i) ∧ σ.ob n0 = some ⟨c0, 3, 31, false, true, [.agg [.nil, .int .i64 0, .nil]]⟩ ∧
   ∃ K Z, σ.ob (n0 + 1) = some ⟨c1, 3, 31, false, true, [Z]⟩ ∧ ZL Z K ∧ DkB K) ?_ ?_
 ·refine ⟨(by first | rfl | (simp (disch := omega) only [go_sem, jA, jB, jC, jD, jE, jF, jG, jH, jI, jJ, ↓reduceIte, reduceCtorEq, jP, jO, jM, jN]; try rfl)), Nat.le_refl _, ⟨at0, by try simp (disch := omega) only [go_sem, jA, jB, jC, jD, jE, jF, jG, jH, jI, jJ, ↓reduceIte, reduceCtorEq, jO, jM, jN, jK, jL]⟩, fun i hi hne => ?_, ?_, ⟨ps, 1, []⟩, _, by try simp (disch := omega) only [go_sem, jA, jB, jC, jD, jE, jF, jG, jH, jI, jJ, ↓reduceIte, reduceCtorEq, jO, jM, jN, jK, jL, z2], .inr ⟨ps, rfl, rfl⟩, ⟨by simp only; omega, by simp, fun p hp => ?_, by simp⟩⟩
  ·have j1 : ¬ i = n0 + 1 := by omega
   try simp (disch := omega) only [go_sem, jA, jB, jC, jD, jE, jF, jG, jH, jI, jJ, ↓reduceIte, reduceCtorEq, jO, jM, jN, jK, jL, hne, j1]
   rw [hf i (by omega) hne, upd_ne _ _ _ _ (by omega)]
  ·try simp (disch := omega) only [go_sem, jA, jB, jC, jD, jE, jF, jG, jH, jI, jJ, ↓reduceIte, reduceCtorEq, jO, jM, jN, jK, jL, z1]
   exact u0
  ·have := hpb p hp; omega
 clear hf hd u0 hDR
 rintro k fe ob m c hk hm ⟨h4, hm1, ⟨at2, hd⟩, hfr, v0, K, Z, v1, hZ, hB⟩
 simp (maxSteps := 1000000) only [go_sem, jA, jB, jC, jD, jE, jF, jG, jH, jI, jJ, ↓reduceIte, reduceCtorEq, jP] at h4 hm hm1 hd hfr v0 v1
 obtain ⟨zf, zl, zt, zd⟩ := hZ.flat
 have zp := hZ.pur
 try simp (disch := omega) only [go_sem, jA, jB, jC, jD, jE, jF, jG, jH, jI, jJ, ↓reduceIte, reduceCtorEq, jO, jM, jN, jK, jL, h4]
 refine cond_d (fun hge => ?_) (fun hlt => ?_)
 ·have hkl : k < N := by omega
  try simp (disch := omega) only [go_sem, jA, jB, jC, jD, jE, jF, jG, jH, jI, jJ, ↓reduceIte, reduceCtorEq, jO, jM, jN, jK, jL]
  refine call_hc (ok_mk_Deck_Next _ id g ty_Deck true t at2 12 (by exact hd) (by omega) hl) ?_
  have hx2 := deckR_bd t at2 12
  generalize deckR t at2 12 = dr at *
  obtain ⟨fr, at3⟩ := dr
  simp only at hx2
  try simp (disch := omega) only [go_sem, jA, jB, jC, jD, jE, jF, jG, jH, jI, jJ, ↓reduceIte, reduceCtorEq, jO, jM, jN, jK, jL]
  refine call_hc (ok_mk_Deck_Next _ id g ty_Deck true t at3 4 (by try simp (disch := omega) only [go_sem, jA, jB, jC, jD, jE, jF, jG, jH, jI, jJ, ↓reduceIte, reduceCtorEq, jO, jM, jN, jK, jL]) (by omega) hl) ?_
  have hx3 := deckR_bd t at3 4
  generalize deckR t at3 4 = dr at *
  obtain ⟨kd, at4⟩ := dr
  simp only at hx3
  try simp (disch := omega) only [go_sem, jA, jB, jC, jD, jE, jF, jG, jH, jI, jJ, ↓reduceIte, reduceCtorEq, jO, jM, jN, jK, jL]
  refine cond_d (fun k0 => ?_) (fun k0 => ?_)
  ·try simp (disch := omega) only [go_sem, jA, jB, jC, jD, jE, jF, jG, jH, jI, jJ, ↓reduceIte, reduceCtorEq, jO, jM, jN, jK, jL, z2, v1, zf, zl, zt, zd]
   refine call_hc (ok_mk_Deck_Next _ id g ty_Deck true t at4 3 (by try simp (disch := omega) only [go_sem, jA, jB, jC, jD, jE, jF, jG, jH, jI, jJ, ↓reduceIte, reduceCtorEq, jO, jM, jN, jK, jL]) (by omega) hl) ?_
   generalize deckR t at4 3 = dr at *
   obtain ⟨st, at5⟩ := dr
   try simp (disch := omega) only [go_sem, jA, jB, jC, jD, jE, jF, jG, jH, jI, jJ, ↓reduceIte, reduceCtorEq, jO, jM, jN, jK, jL, z2, v1]
   refine call_hc (ok_mk_Deck_Next _ id g ty_Deck true t at5 12 (by try simp (disch := omega) only [go_sem, jA, jB, jC, jD, jE, jF, jG, jH, jI, jJ, ↓reduceIte, reduceCtorEq, jO, jM, jN, jK, jL]) (by omega) hl) ?_
   have hx5 := deckR_bd t at5 12
   generalize deckR t at5 12 = dr at *
   obtain ⟨dt, at6⟩ := dr
   simp only at hx5
   try simp (disch := omega) only [go_sem, jA, jB, jC, jD, jE, jF, jG, jH, jI, jJ, ↓reduceIte, reduceCtorEq, jO, jM, jN, jK, jL, z2, v1]
   refine call_hc (ok_mk_Deck_Next _ id g ty_Deck true t at6 60 (by try simp (disch := omega) only [go_sem, jA, jB, jC, jD, jE, jF, jG, jH, jI, jJ, ↓reduceIte, reduceCtorEq, jO, jM, jN, jK, jL]) (by omega) hl) ?_
   generalize deckR t at6 60 = dr at *
   obtain ⟨rl, at7⟩ := dr
   try simp (disch := omega) only [go_sem, jA, jB, jC, jD, jE, jF, jG, jH, jI, jJ, ↓reduceIte, reduceCtorEq, jO, jM, jN, jK, jL, z2, v1]
   refine call_pc (pc_nl (ok_ref26_Request K hB st fr (fr + dt) rl) (.cons hZ.nlr (NlRs.refl _))) (by simp [zp, go_sem]) ?_
   have hB2 := reqS_b hB st fr (fr + dt) rl
   generalize reqS K st fr (fr + dt) rl = T at *
   obtain ⟨K2, i2, e2⟩ := T
   simp only at hB2
   try simp (disch := omega) only [go_sem, jA, jB, jC, jD, jE, jF, jG, jH, jI, jJ, ↓reduceIte, reduceCtorEq, jO, jM, jN, jK, jL, z2, z3, v1, dkv_flat, dkv_len, hZ.put, h4]
   refine up_nextG m hkl (by omega) ⟨by try simp (disch := omega) only [go_sem, jA, jB, jC, jD, jE, jF, jG, jH, jI, jJ, ↓reduceIte, reduceCtorEq, jO, jM, jN, jK, jL]; congr 1; omega, by simp only [St.trunc]; omega, ⟨at7, ?_⟩, fun i hi hne => ?_, ?_, K2, _, ?_, .inl rfl, hB2⟩
   ·rw [tr_ob (by omega)]; try simp (disch := omega) only [go_sem, jA, jB, jC, jD, jE, jF, jG, jH, jI, jJ, ↓reduceIte, reduceCtorEq, jO, jM, jN, jK, jL, z2, z3]
   ·have j1 : ¬ i = n0 + 1 := by omega
    rw [tr_ob (by omega)]; try simp (disch := omega) only [go_sem, jA, jB, jC, jD, jE, jF, jG, jH, jI, jJ, ↓reduceIte, reduceCtorEq, jO, jM, jN, jK, jL, hne, j1]; exact hfr i hi hne
   ·rw [tr_ob (by omega)]; try simp (disch := omega) only [go_sem, jA, jB, jC, jD, jE, jF, jG, jH, jI, jJ, ↓reduceIte, reduceCtorEq, jO, jM, jN, jK, jL, z1]; exact v0
   ·rw [tr_ob (by omega)]; try simp (disch := omega) only [go_sem, jA, jB, jC, jD, jE, jF, jG, jH, jI, jJ, ↓reduceIte, reduceCtorEq, jO, jM, jN, jK, jL]
  try simp (disch := omega) only [go_sem, jA, jB, jC, jD, jE, jF, jG, jH, jI, jJ, ↓reduceIte, reduceCtorEq, jO, jM, jN, jK, jL]
  refine cond_d (fun k1 => ?_) (fun k1 => ?_)
  ·try simp (disch := omega) only [go_sem, jA, jB, jC, jD, jE, jF, jG, jH, jI, jJ, ↓reduceIte, reduceCtorEq, jO, jM, jN, jK, jL, decide_eq_true k1, z2, v1, zf, zl, zt, zd]
   skip
   refine (hc_flow_SignedZ _ id g t at4 K Z hZ hB fr hl (by simp only; omega) (by try simp (disch := omega) only [go_sem, jA, jB, jC, jD, jE, jF, jG, jH, jI, jJ, ↓reduceIte, reduceCtorEq, jO, jM, jN, jK, jL])).mono ?_
   intro r τ hDR
   obtain ⟨⟨sa, sb', sc, rfl, hs1, hs2, hs3, hs4, hs5, hs6⟩, hn2, ⟨at5, hd5⟩, hf5⟩ := hDR.use (by simp only; omega)
   obtain ⟨ob2, m2, c2⟩ := τ
   simp only at hn2 hd5 hf5
   subst hn2
   have w0 := hf5 n0 (by omega) z1
   have w1 := hf5 (n0 + 1) (by omega) z2
   try simp (disch := omega) only [go_sem, jA, jB, jC, jD, jE, jF, jG, jH, jI, jJ, ↓reduceIte, reduceCtorEq, jO, jM, jN, jK, jL, z1, v0] at w0
   try simp (disch := omega) only [go_sem, jA, jB, jC, jD, jE, jF, jG, jH, jI, jJ, ↓reduceIte, reduceCtorEq, jO, jM, jN, jK, jL, z2, v1] at w1
   try simp (disch := omega) only [go_sem, jA, jB, jC, jD, jE, jF, jG, jH, jI, jJ, ↓reduceIte, reduceCtorEq, jO, jM, jN, jK, jL, w1, zf, zl, zt, zd]
   refine call_pc (pc_nl (ok_ref26_Sign K hB sa sb' sc fr) (.cons hZ.nlr (NlRs.refl _))) (by simp [zp, go_sem]) ?_
   have hB2 := sgnS_b hB sa sb' sc fr
   generalize sgnS K sa sb' sc fr = T at *
   obtain ⟨K2, e2⟩ := T
   simp only at hB2
   have y1 : ¬ n0 + 1 = m2 := by omega
   have y2 : ¬ m2 = n0 + 1 := by omega
   have y3 : ¬ m2 = id := by omega
   have y4 : ¬ id = m2 := by omega
   have y5 : ¬ n0 = m2 := by omega
   have fin : ∀ (o : Option AObj) i, i < n0 → i ≠ id → (upd (upd ob2 m2 o) m2 o) i = ob0 i := fun o i hi hne => by
    have j1 : ¬ i = n0 + 1 := by omega
    rw [upd_ne _ _ _ _ (by omega), upd_ne _ _ _ _ (by omega), hf5 i (by omega) hne]
    try simp (disch := omega) only [go_sem, jA, jB, jC, jD, jE, jF, jG, jH, jI, jJ, ↓reduceIte, reduceCtorEq, jO, jM, jN, jK, jL, hne]
    exact hfr i hi hne
   try simp (disch := omega) only [go_sem, jA, jB, jC, jD, jE, jF, jG, jH, jI, jJ, ↓reduceIte, reduceCtorEq, jO, jM, jN, jK, jL, dkv_flat, dkv_len, dk_put0, y1, y2, y3, y4, y5, upd_upd]
   refine cond_d (fun q1 => ?_) (fun q1 => ?_)
   ·try simp (disch := omega) only [go_sem, jA, jB, jC, jD, jE, jF, jG, jH, jI, jJ, ↓reduceIte, reduceCtorEq, jO, jM, jN, jK, jL, dkv_flat, dkv_len, dkv_ct, dkv_ca, dkv_one, dkv_tk, dkv_dt, dk_put0, y1, y2, y3, y4, y5, upd_upd, w1, hZ.put, h4]
    refine up_nextG (m2 + 1) hkl (by omega) ⟨by try simp (disch := omega) only [go_sem, jA, jB, jC, jD, jE, jF, jG, jH, jI, jJ, ↓reduceIte, reduceCtorEq, jO, jM, jN, jK, jL]; congr 1; omega, by simp only [St.trunc]; omega, ⟨at5, ?_⟩, fun i hi hne => ?_, ?_, K2, _, ?_, .inl rfl, hB2⟩
    ·rw [tr_ob (by omega)]; try simp (disch := omega) only [go_sem, jA, jB, jC, jD, jE, jF, jG, jH, jI, jJ, ↓reduceIte, reduceCtorEq, jO, jM, jN, jK, jL, z2, z3, y3, y4]; exact hd5
    ·rw [tr_ob (by omega), upd_ne _ _ _ _ (by omega), upd_ne _ _ _ _ (by omega), hf5 i (by omega) hne]
     try simp (disch := omega) only [go_sem, jA, jB, jC, jD, jE, jF, jG, jH, jI, jJ, ↓reduceIte, reduceCtorEq, jO, jM, jN, jK, jL, hne]
     exact hfr i hi hne
    ·rw [tr_ob (by omega)]; try simp (disch := omega) only [go_sem, jA, jB, jC, jD, jE, jF, jG, jH, jI, jJ, ↓reduceIte, reduceCtorEq, jO, jM, jN, jK, jL, z1, y5]; exact w0
    ·rw [tr_ob (by omega)]; try simp (disch := omega) only [go_sem, jA, jB, jC, jD, jE, jF, jG, jH, jI, jJ, ↓reduceIte, reduceCtorEq, jO, jM, jN, jK, jL]
   ·try simp (disch := omega) only [go_sem, jA, jB, jC, jD, jE, jF, jG, jH, jI, jJ, ↓reduceIte, reduceCtorEq, jO, jM, jN, jK, jL, h4]
    refine up_nextG (m2 + 1) hkl (by omega) ⟨by try simp (disch := omega) only [go_sem, jA, jB, jC, jD, jE, jF, jG, jH, jI, jJ, ↓reduceIte, reduceCtorEq, jO, jM, jN, jK, jL]; congr 1; omega, by simp only [St.trunc]; omega, ⟨at5, ?_⟩, fun i hi hne => ?_, ?_, K, Z, ?_, hZ, hB⟩
    ·rw [tr_ob (by omega)]; try simp (disch := omega) only [go_sem, jA, jB, jC, jD, jE, jF, jG, jH, jI, jJ, ↓reduceIte, reduceCtorEq, jO, jM, jN, jK, jL, z2, z3, y3, y4]; exact hd5
    ·rw [tr_ob (by omega), upd_ne _ _ _ _ (by omega), hf5 i (by omega) hne]
     try simp (disch := omega) only [go_sem, jA, jB, jC, jD, jE, jF, jG, jH, jI, jJ, ↓reduceIte, reduceCtorEq, jO, jM, jN, jK, jL, hne]
     exact hfr i hi hne
    ·rw [tr_ob (by omega)]; try simp (disch := omega) only [go_sem, jA, jB, jC, jD, jE, jF, jG, jH, jI, jJ, ↓reduceIte, reduceCtorEq, jO, jM, jN, jK, jL, z1, y5]; exact w0
    ·rw [tr_ob (by omega)]; try simp (disch := omega) only [go_sem, jA, jB, jC, jD, jE, jF, jG, jH, jI, jJ, ↓reduceIte, reduceCtorEq, jO, jM, jN, jK, jL, y1]; exact w1
  try simp (disch := omega) only [go_sem, jA, jB, jC, jD, jE, jF, jG, jH, jI, jJ, ↓reduceIte, reduceCtorEq, jO, jM, jN, jK, jL]
  refine cond_d (fun k2 => ?_) (fun k2 => ?_)
  ·try simp (disch := omega) only [go_sem, jA, jB, jC, jD, jE, jF, jG, jH, jI, jJ, ↓reduceIte, reduceCtorEq, jO, jM, jN, jK, jL, z2, v1, zf, zl, zt, zd]
   skip
   refine (hc_flow_SignedZ _ id g t at4 K Z hZ hB fr hl (by simp only; omega) (by try simp (disch := omega) only [go_sem, jA, jB, jC, jD, jE, jF, jG, jH, jI, jJ, ↓reduceIte, reduceCtorEq, jO, jM, jN, jK, jL])).mono ?_
   intro r τ hDR
   obtain ⟨⟨sa, sb', sc, rfl, hs1, hs2, hs3, hs4, hs5, hs6⟩, hn2, ⟨at5, hd5⟩, hf5⟩ := hDR.use (by simp only; omega)
   obtain ⟨ob2, m2, c2⟩ := τ
   simp only at hn2 hd5 hf5
   subst hn2
   have w0 := hf5 n0 (by omega) z1
   have w1 := hf5 (n0 + 1) (by omega) z2
   try simp (disch := omega) only [go_sem, jA, jB, jC, jD, jE, jF, jG, jH, jI, jJ, ↓reduceIte, reduceCtorEq, jO, jM, jN, jK, jL, z1, v0] at w0
   try simp (disch := omega) only [go_sem, jA, jB, jC, jD, jE, jF, jG, jH, jI, jJ, ↓reduceIte, reduceCtorEq, jO, jM, jN, jK, jL, z2, v1] at w1
   try simp (disch := omega) only [go_sem, jA, jB, jC, jD, jE, jF, jG, jH, jI, jJ, ↓reduceIte, reduceCtorEq, jO, jM, jN, jK, jL, w1, zf, zl, zt, zd]
   refine call_pc (pc_nl (ok_ref26_Sign K hB sa sb' sc fr) (.cons hZ.nlr (NlRs.refl _))) (by simp [zp, go_sem]) ?_
   have hB2 := sgnS_b hB sa sb' sc fr
   generalize sgnS K sa sb' sc fr = T at *
   obtain ⟨K2, e2⟩ := T
   simp only at hB2
   have y1 : ¬ n0 + 1 = m2 := by omega
   have y2 : ¬ m2 = n0 + 1 := by omega
   have y3 : ¬ m2 = id := by omega
   have y4 : ¬ id = m2 := by omega
   have y5 : ¬ n0 = m2 := by omega
   have fin : ∀ (o : Option AObj) i, i < n0 → i ≠ id → (upd (upd ob2 m2 o) m2 o) i = ob0 i := fun o i hi hne => by
    have j1 : ¬ i = n0 + 1 := by omega
    rw [upd_ne _ _ _ _ (by omega), upd_ne _ _ _ _ (by omega), hf5 i (by omega) hne]
    try simp (disch := omega) only [go_sem, jA, jB, jC, jD, jE, jF, jG, jH, jI, jJ, ↓reduceIte, reduceCtorEq, jO, jM, jN, jK, jL, hne]
    exact hfr i hi hne
   try simp (disch := omega) only [go_sem, jA, jB, jC, jD, jE, jF, jG, jH, jI, jJ, ↓reduceIte, reduceCtorEq, jO, jM, jN, jK, jL, dkv_flat, dkv_len, dk_put0, y1, y2, y3, y4, y5, upd_upd]
   refine cond_d (fun q1 => ?_) (fun q1 => ?_)
   ·try simp (disch := omega) only [go_sem, jA, jB, jC, jD, jE, jF, jG, jH, jI, jJ, ↓reduceIte, reduceCtorEq, jO, jM, jN, jK, jL, dkv_flat, dkv_len, dkv_ct, dkv_ca, dkv_one, dkv_tk, dkv_dt, dk_put0, y1, y2, y3, y4, y5, upd_upd, w1, hZ.put, h4]
    refine up_nextG (m2 + 1) hkl (by omega) ⟨by try simp (disch := omega) only [go_sem, jA, jB, jC, jD, jE, jF, jG, jH, jI, jJ, ↓reduceIte, reduceCtorEq, jO, jM, jN, jK, jL]; congr 1; omega, by simp only [St.trunc]; omega, ⟨at5, ?_⟩, fun i hi hne => ?_, ?_, K2, _, ?_, .inl rfl, hB2⟩
    ·rw [tr_ob (by omega)]; try simp (disch := omega) only [go_sem, jA, jB, jC, jD, jE, jF, jG, jH, jI, jJ, ↓reduceIte, reduceCtorEq, jO, jM, jN, jK, jL, z2, z3, y3, y4]; exact hd5
    ·rw [tr_ob (by omega), upd_ne _ _ _ _ (by omega), upd_ne _ _ _ _ (by omega), hf5 i (by omega) hne]
     try simp (disch := omega) only [go_sem, jA, jB, jC, jD, jE, jF, jG, jH, jI, jJ, ↓reduceIte, reduceCtorEq, jO, jM, jN, jK, jL, hne]
     exact hfr i hi hne
    ·rw [tr_ob (by omega)]; try simp (disch := omega) only [go_sem, jA, jB, jC, jD, jE, jF, jG, jH, jI, jJ, ↓reduceIte, reduceCtorEq, jO, jM, jN, jK, jL, z1, y5]; exact w0
    ·rw [tr_ob (by omega)]; try simp (disch := omega) only [go_sem, jA, jB, jC, jD, jE, jF, jG, jH, jI, jJ, ↓reduceIte, reduceCtorEq, jO, jM, jN, jK, jL]
   ·try simp (disch := omega) only [go_sem, jA, jB, jC, jD, jE, jF, jG, jH, jI, jJ, ↓reduceIte, reduceCtorEq, jO, jM, jN, jK, jL, h4]
    refine up_nextG (m2 + 1) hkl (by omega) ⟨by try simp (disch := omega) only [go_sem, jA, jB, jC, jD, jE, jF, jG, jH, jI, jJ, ↓reduceIte, reduceCtorEq, jO, jM, jN, jK, jL]; congr 1; omega, by simp only [St.trunc]; omega, ⟨at5, ?_⟩, fun i hi hne => ?_, ?_, K, Z, ?_, hZ, hB⟩
    ·rw [tr_ob (by omega)]; try simp (disch := omega) only [go_sem, jA, jB, jC, jD, jE, jF, jG, jH, jI, jJ, ↓reduceIte, reduceCtorEq, jO, jM, jN, jK, jL, z2, z3, y3, y4]; exact hd5
    ·rw [tr_ob (by omega), upd_ne _ _ _ _ (by omega), hf5 i (by omega) hne]
     try simp (disch := omega) only [go_sem, jA, jB, jC, jD, jE, jF, jG, jH, jI, jJ, ↓reduceIte, reduceCtorEq, jO, jM, jN, jK, jL, hne]
     exact hfr i hi hne
    ·rw [tr_ob (by omega)]; try simp (disch := omega) only [go_sem, jA, jB, jC, jD, jE, jF, jG, jH, jI, jJ, ↓reduceIte, reduceCtorEq, jO, jM, jN, jK, jL, z1, y5]; exact w0
    ·rw [tr_ob (by omega)]; try simp (disch := omega) only [go_sem, jA, jB, jC, jD, jE, jF, jG, jH, jI, jJ, ↓reduceIte, reduceCtorEq, jO, jM, jN, jK, jL, y1]; exact w1
  try simp (disch := omega) only [go_sem, jA, jB, jC, jD, jE, jF, jG, jH, jI, jJ, ↓reduceIte, reduceCtorEq, jO, jM, jN, jK, jL, z2, v1, zf, zl, zt, zd]
  skip
  refine (hc_flow_SignedZ _ id g t at4 K Z hZ hB fr hl (by simp only; omega) (by try simp (disch := omega) only [go_sem, jA, jB, jC, jD, jE, jF, jG, jH, jI, jJ, ↓reduceIte, reduceCtorEq, jO, jM, jN, jK, jL])).mono ?_
  intro r τ hDR
  obtain ⟨⟨sa, sb', sc, rfl, hs1, hs2, hs3, hs4, hs5, hs6⟩, hn2, ⟨at5, hd5⟩, hf5⟩ := hDR.use (by simp only; omega)
  obtain ⟨ob2, m2, c2⟩ := τ
  simp only at hn2 hd5 hf5
  subst hn2
  have w0 := hf5 n0 (by omega) z1
  have w1 := hf5 (n0 + 1) (by omega) z2
  try simp (disch := omega) only [go_sem, jA, jB, jC, jD, jE, jF, jG, jH, jI, jJ, ↓reduceIte, reduceCtorEq, jO, jM, jN, jK, jL, z1, v0] at w0
  try simp (disch := omega) only [go_sem, jA, jB, jC, jD, jE, jF, jG, jH, jI, jJ, ↓reduceIte, reduceCtorEq, jO, jM, jN, jK, jL, z2, v1] at w1
  try simp (disch := omega) only [go_sem, jA, jB, jC, jD, jE, jF, jG, jH, jI, jJ, ↓reduceIte, reduceCtorEq, jO, jM, jN, jK, jL, w1, zf, zl, zt, zd]
  refine call_pc (pc_nl (ok_ref26_Withdraw K hB sa sb' sc fr) (.cons hZ.nlr (NlRs.refl _))) (by simp [zp, go_sem]) ?_
  have hB2 := wdrS_b hB sa sb' sc fr
  generalize wdrS K sa sb' sc fr = T at *
  obtain ⟨K2, e2⟩ := T
  simp only at hB2
  have y1 : ¬ n0 + 1 = m2 := by omega
  have y2 : ¬ m2 = n0 + 1 := by omega
  have y3 : ¬ m2 = id := by omega
  have y4 : ¬ id = m2 := by omega
  have y5 : ¬ n0 = m2 := by omega
  have fin : ∀ (o : Option AObj) i, i < n0 → i ≠ id → (upd (upd ob2 m2 o) m2 o) i = ob0 i := fun o i hi hne => by
   have j1 : ¬ i = n0 + 1 := by omega
   rw [upd_ne _ _ _ _ (by omega), upd_ne _ _ _ _ (by omega), hf5 i (by omega) hne]
   try simp (disch := omega) only [go_sem, jA, jB, jC, jD, jE, jF, jG, jH, jI, jJ, ↓reduceIte, reduceCtorEq, jO, jM, jN, jK, jL, hne]
   exact hfr i hi hne
  try simp (disch := omega) only [go_sem, jA, jB, jC, jD, jE, jF, jG, jH, jI, jJ, ↓reduceIte, reduceCtorEq, jO, jM, jN, jK, jL, dkv_flat, dkv_len, dk_put0, y1, y2, y3, y4, y5, upd_upd]
  refine cond_d (fun q1 => ?_) (fun q1 => ?_)
  ·try simp (disch := omega) only [go_sem, jA, jB, jC, jD, jE, jF, jG, jH, jI, jJ, ↓reduceIte, reduceCtorEq, jO, jM, jN, jK, jL, dkv_flat, dkv_len, dkv_ct, dkv_ca, dkv_one, dkv_tk, dkv_dt, dk_put0, y1, y2, y3, y4, y5, upd_upd, w1, hZ.put, h4]
   refine up_nextG (m2 + 1) hkl (by omega) ⟨by try simp (disch := omega) only [go_sem, jA, jB, jC, jD, jE, jF, jG, jH, jI, jJ, ↓reduceIte, reduceCtorEq, jO, jM, jN, jK, jL]; congr 1; omega, by simp only [St.trunc]; omega, ⟨at5, ?_⟩, fun i hi hne => ?_, ?_, K2, _, ?_, .inl rfl, hB2⟩
   ·rw [tr_ob (by omega)]; try simp (disch := omega) only [go_sem, jA, jB, jC, jD, jE, jF, jG, jH, jI, jJ, ↓reduceIte, reduceCtorEq, jO, jM, jN, jK, jL, z2, z3, y3, y4]; exact hd5
   ·rw [tr_ob (by omega), upd_ne _ _ _ _ (by omega), upd_ne _ _ _ _ (by omega), hf5 i (by omega) hne]
    try simp (disch := omega) only [go_sem, jA, jB, jC, jD, jE, jF, jG, jH, jI, jJ, ↓reduceIte, reduceCtorEq, jO, jM, jN, jK, jL, hne]
    exact hfr i hi hne
   ·rw [tr_ob (by omega)]; try simp (disch := omega) only [go_sem, jA, jB, jC, jD, jE, jF, jG, jH, jI, jJ, ↓reduceIte, reduceCtorEq, jO, jM, jN, jK, jL, z1, y5]; exact w0
   ·rw [tr_ob (by omega)]; try simp (disch := omega) only [go_sem, jA, jB, jC, jD, jE, jF, jG, jH, jI, jJ, ↓reduceIte, reduceCtorEq, jO, jM, jN, jK, jL]
  ·try simp (disch := omega) only [go_sem, jA, jB, jC, jD, jE, jF, jG, jH, jI, jJ, ↓reduceIte, reduceCtorEq, jO, jM, jN, jK, jL, h4]
   refine up_nextG (m2 + 1) hkl (by omega) ⟨by try simp (disch := omega) only [go_sem, jA, jB, jC, jD, jE, jF, jG, jH, jI, jJ, ↓reduceIte, reduceCtorEq, jO, jM, jN, jK, jL]; congr 1; omega, by simp only [St.trunc]; omega, ⟨at5, ?_⟩, fun i hi hne => ?_, ?_, K, Z, ?_, hZ, hB⟩
   ·rw [tr_ob (by omega)]; try simp (disch := omega) only [go_sem, jA, jB, jC, jD, jE, jF, jG, jH, jI, jJ, ↓reduceIte, reduceCtorEq, jO, jM, jN, jK, jL, z2, z3, y3, y4]; exact hd5
   ·rw [tr_ob (by omega), upd_ne _ _ _ _ (by omega), hf5 i (by omega) hne]
    try simp (disch := omega) only [go_sem, jA, jB, jC, jD, jE, jF, jG, jH, jI, jJ, ↓reduceIte, reduceCtorEq, jO, jM, jN, jK, jL, hne]
    exact hfr i hi hne
   ·rw [tr_ob (by omega)]; try simp (disch := omega) only [go_sem, jA, jB, jC, jD, jE, jF, jG, jH, jI, jJ, ↓reduceIte, reduceCtorEq, jO, jM, jN, jK, jL, z1, y5]; exact w0
   ·rw [tr_ob (by omega)]; try simp (disch := omega) only [go_sem, jA, jB, jC, jD, jE, jF, jG, jH, jI, jJ, ↓reduceIte, reduceCtorEq, jO, jM, jN, jK, jL, y1]; exact w1
 obtain rfl : k = N := by omega
 have zo : Z.cells.take 3 = Z.cells ∧ Z.cells.all AV.one = true ∧ AV.agg Z.cells = Z ∧ setc 0 Z (.agg [.nil, .int .i64 0, .nil]) = Z := by
  rcases hZ with rfl | ⟨ps, rfl, rfl⟩ <;> exact ⟨rfl, rfl, rfl, rfl⟩
 obtain ⟨zo1, zo2, zo3, zo4⟩ := zo
 try simp (disch := omega) only [go_sem, jA, jB, jC, jD, jE, jF, jG, jH, jI, jJ, ↓reduceIte, reduceCtorEq, jO, jM, jN, jK, jL, v0, v1, zf, zl, zt, zd, zo1, zo2, zo3, zo4]
 refine ⟨dkv K, at2, hZ.pub, ⟨K, rfl, hB⟩, by simp only; rw [upd_ne _ _ _ _ z0]; exact hd, fun i hi hne => ?_⟩
 simp only at hi
 simp only
 rw [upd_ne _ _ _ _ (by omega)]
 exact hfr i hi hne
abbrev ty_el_int : TypeId := 3
theorem hcl_slices_Clone__int (σ : St) (L : List AV) (hl : L.length * 8 ≤ 140737488355328) : HC prog n_slices_Clone__int [.list 1 L] σ (NewO σ 1 ty_el_int L) := by
 refine HC_of_body b_slices_Clone__int (by simp) ?_
 obtain ⟨ob, n, c⟩ := σ
 simp only [c_slices_Clone__int, go_sem, jA, jB, jC, jD, jE, jF, jG, jH, jI, jJ, ↓reduceIte, reduceCtorEq, jP]
 refine isnil_l (fun h => ?_) (fun h => ?_)
 ·subst h
  refine ⟨?_, ?_⟩
  ·try simp (disch := omega) only [go_sem, jA, jB, jC, jD, jE, jF, jG, jH, jI, jJ, ↓reduceIte, reduceCtorEq, jO, jM, jN, jK, jL]
   refine ⟨_, _, rfl, Nat.le_succ _, Nat.lt_succ_self _, (by first | rfl | (simp (disch := omega) only [go_sem, jA, jB, jC, jD, jE, jF, jG, jH, jI, jJ, ↓reduceIte, reduceCtorEq, jP, jO, jM, jN]; try rfl)), fun i hi => ?_⟩
   simp only at hi
   try simp (disch := omega) only [go_sem, jA, jB, jC, jD, jE, jF, jG, jH, jI, jJ, ↓reduceIte, reduceCtorEq, jO, jM, jN, jK, jL]
  ·try simp (disch := omega) only [go_sem, jA, jB, jC, jD, jE, jF, jG, jH, jI, jJ, ↓reduceIte, reduceCtorEq, jO, jM, jN, jK, jL]
   repeat (refine And.intro (by first | omega | (rw [mxL]; omega) | (simp [maxLen]; done) | (simp [maxLen]; omega)) ?_)
   refine ⟨_, _, rfl, Nat.le_succ _, Nat.lt_succ_self _, (by first | rfl | (simp (disch := omega) only [go_sem, jA, jB, jC, jD, jE, jF, jG, jH, jI, jJ, ↓reduceIte, reduceCtorEq, jP, jO, jM, jN]; try rfl)), fun i hi => ?_⟩
   simp only at hi
   try simp (disch := omega) only [go_sem, jA, jB, jC, jD, jE, jF, jG, jH, jI, jJ, ↓reduceIte, reduceCtorEq, jO, jM, jN, jK, jL]
 ·try simp (disch := omega) only [go_sem, jA, jB, jC, jD, jE, jF, jG, jH, jI, jJ, ↓reduceIte, reduceCtorEq, jO, jM, jN, jK, jL]
  repeat (refine And.intro (by first | omega | (rw [mxL]; omega) | (simp [maxLen]; done) | (simp [maxLen]; omega)) ?_)
  refine ⟨_, _, rfl, Nat.le_succ _, Nat.lt_succ_self _, (by first | rfl | (simp (disch := omega) only [go_sem, jA, jB, jC, jD, jE, jF, jG, jH, jI, jJ, ↓reduceIte, reduceCtorEq, jP, jO, jM, jN]; try rfl)), fun i hi => ?_⟩
  simp only at hi
  try simp (disch := omega) only [go_sem, jA, jB, jC, jD, jE, jF, jG, jH, jI, jJ, ↓reduceIte, reduceCtorEq, jO, jM, jN, jK, jL]
abbrev ty_el_Person : TypeId := 62
theorem hcl_slices_Clone__Person (σ : St) (L : List AV) (hl : L.length * 24 ≤ 140737488355328) : HC prog n_slices_Clone__Person [.list 3 L] σ (NewO σ 3 ty_el_Person L) := by
 refine HC_of_body b_slices_Clone__Person (by simp) ?_
 obtain ⟨ob, n, c⟩ := σ
 simp only [c_slices_Clone__Person, go_sem, jA, jB, jC, jD, jE, jF, jG, jH, jI, jJ, ↓reduceIte, reduceCtorEq, jP]
 refine isnil_l (fun h => ?_) (fun h => ?_)
 ·subst h
  refine ⟨?_, ?_⟩
  ·try simp (disch := omega) only [go_sem, jA, jB, jC, jD, jE, jF, jG, jH, jI, jJ, ↓reduceIte, reduceCtorEq, jO, jM, jN, jK, jL]
   refine ⟨_, _, rfl, Nat.le_succ _, Nat.lt_succ_self _, (by first | rfl | (simp (disch := omega) only [go_sem, jA, jB, jC, jD, jE, jF, jG, jH, jI, jJ, ↓reduceIte, reduceCtorEq, jP, jO, jM, jN]; try rfl)), fun i hi => ?_⟩
   simp only at hi
   try simp (disch := omega) only [go_sem, jA, jB, jC, jD, jE, jF, jG, jH, jI, jJ, ↓reduceIte, reduceCtorEq, jO, jM, jN, jK, jL]
  ·try simp (disch := omega) only [go_sem, jA, jB, jC, jD, jE, jF, jG, jH, jI, jJ, ↓reduceIte, reduceCtorEq, jO, jM, jN, jK, jL]
   repeat (refine And.intro (by first | omega | (rw [mxL]; omega) | (simp [maxLen]; done) | (simp [maxLen]; omega)) ?_)
   refine ⟨_, _, rfl, Nat.le_succ _, Nat.lt_succ_self _, (by first | rfl | (simp (disch := omega) only [go_sem, jA, jB, jC, jD, jE, jF, jG, jH, jI, jJ, ↓reduceIte, reduceCtorEq, jP, jO, jM, jN]; try rfl)), fun i hi => ?_⟩
   simp only at hi
   try simp (disch := omega) only [go_sem, jA, jB, jC, jD, jE, jF, jG, jH, jI, jJ, ↓reduceIte, reduceCtorEq, jO, jM, jN, jK, jL]
 ·try simp (disch := omega) only [go_sem, jA, jB, jC, jD, jE, jF, jG, jH, jI, jJ, ↓reduceIte, reduceCtorEq, jO, jM, jN, jK, jL]
  repeat (refine And.intro (by first | omega | (rw [mxL]; omega) | (simp [maxLen]; done) | (simp [maxLen]; omega)) ?_)
  refine ⟨_, _, rfl, Nat.le_succ _, Nat.lt_succ_self _, (by first | rfl | (simp (disch := omega) only [go_sem, jA, jB, jC, jD, jE, jF, jG, jH, jI, jJ, ↓reduceIte, reduceCtorEq, jP, jO, jM, jN]; try rfl)), fun i hi => ?_⟩
  simp only at hi
  try simp (disch := omega) only [go_sem, jA, jB, jC, jD, jE, jF, jG, jH, jI, jJ, ↓reduceIte, reduceCtorEq, jO, jM, jN, jK, jL]
def bsI (l : List Int) (x : Int) : Nat := l.findIdx fun y => decide (x ≤ y)
theorem bsI_le (l : List Int) (x : Int) : bsI l x ≤ l.length := List.findIdx_le_length
theorem bsI_eq (l : List Int) (x : Int) (i : Nat) (hi : i ≤ l.length) (h1 : ∀ k, k < i → ∀ y, l[k]? = some y → y < x) (h2 : ∀ k, i ≤ k → ∀ y, l[k]? = some y → x ≤ y) : bsI l x = i := by
 unfold bsI
 by_cases h : i < l.length
 ·rw [List.findIdx_eq h]
  refine ⟨by simpa using h2 i (Nat.le_refl _) _ (List.getElem?_eq_getElem h), fun j hj => ?_⟩
  have := h1 j hj _ (List.getElem?_eq_getElem (by omega))
  simp; omega
 ·have : i = l.length := by omega
  subst this
  rw [List.findIdx_eq_length]
  intro y hy
  obtain ⟨k, hk⟩ := List.getElem?_of_mem hy
  have := h1 k (List.getElem?_eq_some_iff.1 hk).1 y hk
  simp; omega
theorem bit_half (x : Int) (h0 : 0 ≤ x) (h1 : x ≤ 9223372036854775807) : bitD .shr .u64 x .u64 1 = some (.int .u64 (x / 2)) := by
 simp only [bitD, IntKind.bits]
 rw [if_pos (by omega)]
 have : (2 : Int) ^ min (1 : Int).toNat 64 = 2 := by decide
 rw [this, Int.fdiv_eq_ediv_of_nonneg _ (by omega)]
theorem wrap_u64 {n : Int} (h0 : 0 ≤ n) (h1 : n ≤ 18446744073709551615) : IntKind.u64.wrap n = n := by
 simp [IntKind.wrap, IntKind.bits, IntKind.signed]; omega
def Asc (l : List Int) : Prop := ∀ i j : Nat, i < j → ∀ x y, l[i]? = some x → l[j]? = some y → x ≤ y
theorem bsI_mem (l : List Int) (x : Int) (hs : Asc l) : l[bsI l x]? = some x ↔ x ∈ l := by
 constructor
 ·intro h; exact List.mem_of_getElem? h
 ·intro h
  have hlt : bsI l x < l.length := List.findIdx_lt_length.2 ⟨x, h, by simp⟩
  have h3 : x ≤ l[bsI l x] := of_decide_eq_true (List.findIdx_getElem (p := fun y => decide (x ≤ y)) (w := hlt))
  obtain ⟨i, hi⟩ := List.getElem?_of_mem h
  have h4 : bsI l x ≤ i := by
   rcases Nat.lt_or_ge i (bsI l x) with h5 | h5
   ·have := List.not_of_lt_findIdx h5
    rw [List.getElem?_eq_some_iff] at hi
    obtain ⟨_, rfl⟩ := hi
    simp at this
   ·exact h5
  rw [List.getElem?_eq_getElem hlt]
  by_cases e : i = bsI l x
  ·subst e; rw [List.getElem?_eq_getElem hlt] at hi; exact hi
  ·have := hs _ i (by omega) _ x (List.getElem?_eq_getElem hlt) hi
   congr 1; omega
theorem bsI_at {l : List Int} {x y : Int} (h : l[bsI l x]? = some y) : x ≤ y := by
 obtain ⟨hlt, rfl⟩ := List.getElem?_eq_some_iff.1 h
 exact of_decide_eq_true (List.findIdx_getElem (p := fun y => decide (x ≤ y)) (w := hlt))
theorem bsI_le_of {l : List Int} {x y : Int} {k : Nat} (h : l[k]? = some y) (hy : x ≤ y) : bsI l x ≤ k := by
 obtain ⟨hlt, rfl⟩ := List.getElem?_eq_some_iff.1 h
 rcases Nat.lt_or_ge k (bsI l x) with h5 | h5
 ·have := List.not_of_lt_findIdx h5
  simp at this; omega
 ·exact h5
theorem ok_deviation_Code (key kind : Int) (d : Dv) : PC prog n_deviation_Code [.int .i64 key, .int .i64 kind, dvv d] (.int .i64 (codeS key kind d)) := by
 refine PC_of_body b_deviation_Code (by simp) ?_
 simp only [c_deviation_Code, dvv, dvX]
 try simp (disch := omega) only [go_sem, jA, jB, jC, jD, jE, jF, jG, jH, jI, jJ, ↓reduceIte, reduceCtorEq, jO, jM, jN, jK, jL]
 have hL : [AV.int .i64 key, .int .i64 kind, .int .i64 d.id, .int .i64 d.site, .int .i64 d.fr, .int .i64 d.to, .int .i64 d.rel] = ints (codeI key kind d) := rfl
 have h7 : (codeI key kind d).length = 7 := rfl
 rw [hL]
 generalize hLL : codeI key kind d = L at *
 refine awp_upF [7, 9, 23, 24, 25, 26, 27, 28, 29, 30, 31, 32, 33, 34] (by kernel_rfl) 7 (fun i e _ => e 23 = .int .i64 i ∧ ∃ c, e 7 = .int .i64 c ∧ 0 ≤ c ∧ c < 2147483647 ∧ codeS key kind d = codeL c (L.drop i)) ?_ ?_
 ·exact ⟨(by first | rfl | (simp (disch := omega) only [go_sem, jA, jB, jC, jD, jE, jF, jG, jH, jI, jJ, ↓reduceIte, reduceCtorEq, jP, jO, jM, jN]; try rfl)), 7, (by first | rfl | (simp (disch := omega) only [go_sem, jA, jB, jC, jD, jE, jF, jG, jH, jI, jJ, ↓reduceIte, reduceCtorEq, jP, jO, jM, jN]; try rfl)), by omega, by omega, by rw [codeS, hLL]; rfl⟩
 rintro i fe ob c hi ⟨h24, x, hx, x0, x1, hc⟩
 simp (maxSteps := 1000000) only [go_sem, jA, jB, jC, jD, jE, jF, jG, jH, jI, jJ, ↓reduceIte, reduceCtorEq, jP] at h24 hx
 try simp (disch := omega) only [go_sem, jA, jB, jC, jD, jE, jF, jG, jH, jI, jJ, ↓reduceIte, reduceCtorEq, jO, jM, jN, jK, jL, h24]
 refine cond_d (fun hlt => ?_) (fun hge => ?_)
 ·have hil : i < L.length := by omega
  have hgi := ints_get L i
  rw [List.getElem?_eq_getElem hil] at hgi
  rw [List.drop_eq_getElem_cons hil, codeL] at hc
  generalize L[i] = n at *
  have b1 := tmod_bdP n
  generalize hy : n.tmod 2147483647 = y at *
  have b2 := tmod_bd0 (y + 2147483647) (by omega)
  generalize hz : (y + 2147483647).tmod 2147483647 = z at *
  have b3 := tmod_bd0 (31 * x + z) (by omega)
  have hsub : sub false 1 (i * 1) (.agg (ints L)) = .int .i64 n := by
   simp only [sub, AV.cells, Nat.mul_one]
   rw [List.getD_eq_getElem?_getD, hgi]; rfl
  try simp (disch := omega) only [go_sem, jA, jB, jC, jD, jE, jF, jG, jH, jI, jJ, ↓reduceIte, reduceCtorEq, jO, jM, jN, jK, jL, h24, hx, hgi, Option.map_some, ints_length, h7, hy, hz, hsub]
  refine ⟨by omega, by omega, by omega, ?_⟩
  exact up_next (by omega) ⟨(by first | rfl | (simp (disch := omega) only [go_sem, jA, jB, jC, jD, jE, jF, jG, jH, jI, jJ, ↓reduceIte, reduceCtorEq, jP, jO, jM, jN]; try rfl)), _, (by first | rfl | (simp (disch := omega) only [go_sem, jA, jB, jC, jD, jE, jF, jG, jH, jI, jJ, ↓reduceIte, reduceCtorEq, jP, jO, jM, jN]; try rfl)), b3.1, b3.2, hc⟩
 obtain rfl : i = 7 := by omega
 rw [List.drop_of_length_le (by omega), codeL] at hc
 try simp (disch := omega) only [go_sem, jA, jB, jC, jD, jE, jF, jG, jH, jI, jJ, ↓reduceIte, reduceCtorEq, jO, jM, jN, jK, jL, hx]
 rw [hc]
 exact Pub.pure rfl
theorem ok_sort_Search (l : List Int) (x : Int) (f : Nat) (fs : List AV) (hl : l.length ≤ 4611686018427387904) (hs : Asc l)
  (hp : ∀ z ∈ fs, z.pur = true) (hf : ∀ (i : Nat) (y : Int), l[i]? = some y → PC prog f (fs ++ [.int .i64 i]) (.bool (decide (x ≤ y)))) :
  PC prog n_sort_Search [.int .i64 l.length, .meth f fs] (.int .i64 (bsI l x)) := by
 refine PC_of_body b_sort_Search (by simp) ?_
 simp only [c_sort_Search, go_sem, jA, jB, jC, jD, jE, jF, jG, jH, jI, jJ, ↓reduceIte, reduceCtorEq, jP]
 refine awp_loopF [5, 6, 7, 9, 10, 11, 12, 13, 14, 15, 16, 17, 18, 19, 20, 21, 22, 23, 24] (by kernel_rfl) (fun k e _ => ∃ i j : Nat, e 5 = .int .i64 i ∧ e 6 = .int .i64 j ∧ i ≤ j ∧ j ≤ l.length ∧ k = j - i ∧ (∀ k, k < i → ∀ y, l[k]? = some y → y < x) ∧ (∀ k, j ≤ k → ∀ y, l[k]? = some y → x ≤ y)) l.length ?_ ?_
 ·exact ⟨0, l.length, (by first | rfl | (simp (disch := omega) only [go_sem, jA, jB, jC, jD, jE, jF, jG, jH, jI, jJ, ↓reduceIte, reduceCtorEq, jP, jO, jM, jN]; try rfl)), (by first | rfl | (simp (disch := omega) only [go_sem, jA, jB, jC, jD, jE, jF, jG, jH, jI, jJ, ↓reduceIte, reduceCtorEq, jP, jO, jM, jN]; try rfl)), by omega, by omega, by omega, fun k hk => by omega, fun k hk y hy => by have := (List.getElem?_eq_some_iff.1 hy).1; omega⟩
 ·rintro r fe ob c ⟨i, j, h7, h8, hij, hjl, rfl, hlo, hhi⟩
  simp (maxSteps := 1000000) only [go_sem, jA, jB, jC, jD, jE, jF, jG, jH, jI, jJ, ↓reduceIte, reduceCtorEq, jP] at h7 h8
  try simp (disch := omega) only [go_sem, jA, jB, jC, jD, jE, jF, jG, jH, jI, jJ, ↓reduceIte, reduceCtorEq, jO, jM, jN, jK, jL, h7, h8]
  refine cond_d (fun hlt => ?_) (fun hge => ?_)
  ·have hij2 : i < j := by omega
   try simp (disch := omega) only [go_sem, jA, jB, jC, jD, jE, jF, jG, jH, jI, jJ, ↓reduceIte, reduceCtorEq, jO, jM, jN, jK, jL, h7, h8, wrap_u64, bit_half, Option.some.injEq, exists_eq_left']
   generalize hm : (i + j) / 2 = m
   have hmi : ((i : Int) + j) / 2 = (m : Int) := by omega
   have hg : l[m]? = some l[m] := List.getElem?_eq_getElem (by omega)
   have hfm := hf m _ hg
   try simp (disch := omega) only [go_sem, jA, jB, jC, jD, jE, jF, jG, jH, jI, jJ, ↓reduceIte, reduceCtorEq, jO, jM, jN, jK, jL, hmi, h7, h8]
   refine call_pc hfm (by simp only [List.mem_append, List.mem_singleton]; rintro a (h | rfl); exact hp a h; rfl) ?_
   try simp (disch := omega) only [go_sem, jA, jB, jC, jD, jE, jF, jG, jH, jI, jJ, ↓reduceIte, reduceCtorEq, jO, jM, jN, jK, jL, h7, h8]
   refine cond_n (fun hlt => ?_) (fun hge => ?_)
   ·try simp (disch := omega) only [go_sem, jA, jB, jC, jD, jE, jF, jG, jH, jI, jJ, ↓reduceIte, reduceCtorEq, jO, jM, jN, jK, jL, h7, h8]
    refine ⟨j - (m + 1), by omega, _, Nat.le_refl _, rfl, m + 1, j, (by first | rfl | (simp (disch := omega) only [go_sem, jA, jB, jC, jD, jE, jF, jG, jH, jI, jJ, ↓reduceIte, reduceCtorEq, jP, jO, jM, jN]; try rfl)), (by first | rfl | (simp (disch := omega) only [go_sem, jA, jB, jC, jD, jE, jF, jG, jH, jI, jJ, ↓reduceIte, reduceCtorEq, jP, jO, jM, jN]; try rfl)), by omega, by omega, by omega, fun k hk y hy => ?_, hhi⟩
    by_cases e : k = m
    ·subst e; rw [hg] at hy; obtain rfl := Option.some.inj hy; omega
    ·have := hs k m (by omega) y _ hy hg; omega
   ·try simp (disch := omega) only [go_sem, jA, jB, jC, jD, jE, jF, jG, jH, jI, jJ, ↓reduceIte, reduceCtorEq, jO, jM, jN, jK, jL, h7, h8]
    refine ⟨m - i, by omega, _, Nat.le_refl _, rfl, i, m, (by first | rfl | (simp (disch := omega) only [go_sem, jA, jB, jC, jD, jE, jF, jG, jH, jI, jJ, ↓reduceIte, reduceCtorEq, jP, jO, jM, jN]; try rfl)), (by first | rfl | (simp (disch := omega) only [go_sem, jA, jB, jC, jD, jE, jF, jG, jH, jI, jJ, ↓reduceIte, reduceCtorEq, jP, jO, jM, jN]; try rfl)), by omega, by omega, by omega, hlo, fun k hk y hy => ?_⟩
    by_cases e : k = m
    ·subst e; rw [hg] at hy; obtain rfl := Option.some.inj hy; omega
    ·have := hs m k (by omega) _ y hg hy; omega
  ·have hij2 : i = j := by omega
   subst hij2
   have hb := bsI_eq l x i hjl hlo hhi
   rw [hb]
   try simp (disch := omega) only [go_sem, jA, jB, jC, jD, jE, jF, jG, jH, jI, jJ, ↓reduceIte, reduceCtorEq, jO, jM, jN, jK, jL, h7, h8]
   exact Pub.pure rfl
theorem ok_deviation_seeker_from (l : List Pn) (x : Int) (i : Nat) (p : Pn) (hp : l[i]? = some p) : PC prog n_deviation_seeker_from [.agg [.list 3 (pns l), .int .i64 x], .int .i64 i] (.bool (decide (x ≤ p.id))) := by
 have hil := (List.getElem?_eq_some_iff.1 hp).1
 refine PC_of_body b_deviation_seeker_from (by simp) ?_
 simp only [c_deviation_seeker_from, go_sem, jA, jB, jC, jD, jE, jF, jG, jH, jI, jJ, ↓reduceIte, reduceCtorEq, jP]
 try simp (disch := omega) only [go_sem, jA, jB, jC, jD, jE, jF, jG, jH, jI, jJ, ↓reduceIte, reduceCtorEq, jO, jM, jN, jK, jL, pns_length, pns_get, hp, Option.map_some, pnv]
 refine ⟨by omega, by omega, ?_⟩
 try simp (disch := omega) only [go_sem, jA, jB, jC, jD, jE, jF, jG, jH, jI, jJ, ↓reduceIte, reduceCtorEq, jO, jM, jN, jK, jL]
 exact Pub.pure rfl
def ids (l : List Pn) : List Int := l.map Pn.id
theorem find_bs {l : List Pn} {x : Int} (hs : Asc (ids l)) : (∀ p, l[bsI (ids l) x]? = some p → p.id = x → l.find? (fun p => decide (p.id = x)) = some p) ∧ ((∀ p, l[bsI (ids l) x]? = some p → p.id ≠ x) → l.find? (fun p => decide (p.id = x)) = none) := by
 refine ⟨fun p hp hx => ?_, fun h => ?_⟩
 ·obtain ⟨hi, rfl⟩ := List.getElem?_eq_some_iff.1 hp
  refine find_hit hi ?_ (by simp [hx])
  rw [List.find?_eq_none]
  intro q hq
  obtain ⟨j, hj⟩ := List.getElem?_of_mem hq
  rw [List.getElem?_take] at hj
  split at hj
  ·rename_i hji
   have hj2 : (ids l)[j]? = some q.id := by simp [ids, hj]
   have := List.not_of_lt_findIdx hji
   rw [List.getElem?_eq_some_iff] at hj2
   obtain ⟨_, e⟩ := hj2
   rw [e] at this
   simp at this ⊢
   omega
  ·cases hj
 ·rw [List.find?_eq_none]
  intro q hq
  obtain ⟨j, hj⟩ := List.getElem?_of_mem hq
  simp only [decide_eq_true_eq]
  intro e
  have hm : x ∈ ids l := List.mem_map.2 ⟨q, hq, e⟩
  have := (bsI_mem (ids l) x hs).2 hm
  simp only [ids, List.getElem?_map, Option.map_eq_some_iff] at this
  obtain ⟨p, hp, hx⟩ := this
  exact h p hp hx
theorem ok_deviation_find (K : Dk) (x : Int) (hl : K.ps.length ≤ 4611686018427387904) (hs : Asc (ids K.ps)) : PC prog n_deviation_find [.list 3 (pns K.ps), .int .i64 x] (.tuple [pnv (prsS K x).1, .bool (prsS K x).2]) := by
 refine PC_of_body b_deviation_find (by simp) ?_
 simp only [c_deviation_find, go_sem, jA, jB, jC, jD, jE, jF, jG, jH, jI, jJ, ↓reduceIte, reduceCtorEq, jP]
 try simp (disch := omega) only [go_sem, jA, jB, jC, jD, jE, jF, jG, jH, jI, jJ, ↓reduceIte, reduceCtorEq, jO, jM, jN, jK, jL, pns_length]
 have hS := ok_sort_Search (ids K.ps) x n_deviation_seeker_from [.agg [.list 3 (pns K.ps), .int .i64 x]] (by simpa [ids] using hl) hs (by simp [go_sem, pns_pur]) (fun i y hy => by
  simp only [ids, List.getElem?_map, Option.map_eq_some_iff] at hy
  obtain ⟨p, hp, rfl⟩ := hy
  exact ok_deviation_seeker_from K.ps x i p hp)
 rw [show (ids K.ps).length = K.ps.length by simp [ids]] at hS
 have hb := bsI_le (ids K.ps) x
 rw [show (ids K.ps).length = K.ps.length by simp [ids]] at hb
 obtain ⟨hf1, hf2⟩ := find_bs (x := x) hs
 generalize bsI (ids K.ps) x = i at *
 refine call_pc hS (by simp [go_sem]) ?_
 try simp (disch := omega) only [go_sem, jA, jB, jC, jD, jE, jF, jG, jH, jI, jJ, ↓reduceIte, reduceCtorEq, jO, jM, jN, jK, jL, pns_length]
 refine gd_fd rfl (fun h => ?_) (fun h => ?_)
 ·have e : K.ps.find? (fun p => decide (p.id = x)) = none := hf2 fun p hp => by have := (List.getElem?_eq_some_iff.1 hp).1; omega
  try simp (disch := omega) only [go_sem, jA, jB, jC, jD, jE, jF, jG, jH, jI, jJ, ↓reduceIte, reduceCtorEq, jO, jM, jN, jK, jL]
  have : prsS K x = (pn0, false) := by rw [prsS, e]
  rw [this]
  exact Pub.pure rfl
 ·have hil : i < K.ps.length := by omega
  have hg : K.ps[i]? = some K.ps[i] := List.getElem?_eq_getElem hil
  generalize K.ps[i] = p at *
  try simp (disch := omega) only [go_sem, jA, jB, jC, jD, jE, jF, jG, jH, jI, jJ, ↓reduceIte, reduceCtorEq, jO, jM, jN, jK, jL, pns_length, pns_get, hg, Option.map_some, pnv]
  refine ⟨by omega, by omega, ?_⟩
  refine cond_n (fun h2 => ?_) (fun h2 => ?_)
  ·have e : K.ps.find? (fun p => decide (p.id = x)) = none := hf2 fun q hq => by rw [hg] at hq; obtain rfl := Option.some.inj hq; exact h2
   try simp (disch := omega) only [go_sem, jA, jB, jC, jD, jE, jF, jG, jH, jI, jJ, ↓reduceIte, reduceCtorEq, jO, jM, jN, jK, jL]
   have : prsS K x = (pn0, false) := by rw [prsS, e]
   rw [this]
   exact Pub.pure rfl
  ·have e := hf1 p hg (by omega)
   try simp (disch := omega) only [go_sem, jA, jB, jC, jD, jE, jF, jG, jH, jI, jJ, ↓reduceIte, reduceCtorEq, jO, jM, jN, jK, jL, pns_length, pns_get, hg, Option.map_some, pnv]
   refine ⟨by omega, by omega, ?_⟩
   try simp (disch := omega) only [go_sem, jA, jB, jC, jD, jE, jF, jG, jH, jI, jJ, ↓reduceIte, reduceCtorEq, jO, jM, jN, jK, jL]
   have : prsS K x = (p, true) := by rw [prsS, e]
   rw [this]
   exact Pub.pure rfl
def prpS (K : Dk) : Bool := decide (K.ps.length ≤ 12) && (List.range K.ps.length).all (okP K)
def plnS (d : Dv) : Bool := decide (0 ≤ d.site) && decide (d.site < 6) && decide (0 ≤ d.fr) && decide (d.fr ≤ d.to) && decide (d.to ≤ 16777216) && decide (0 ≤ d.rel) && decide (d.rel ≤ 1073741824)
def sgdS (K : Dk) (l : List Int) : Bool := decide (l.length ≤ 2) && l.all (fun s => (prsS K s).2) && (decide (l.length < 2) || !decide ((rolesS K l).getD 0 0 = (rolesS K l).getD 1 0))
theorem rgt_eq (K : Dk) (d : Dv) : rgtS K d = (plnS d && sgdS K d.sg) := by
 rw [Bool.eq_iff_iff]
 simp only [rgtS, plnS, sgdS, inD, Bool.and_eq_true, Bool.or_eq_true, decide_eq_true_eq, Bool.not_eq_true', decide_eq_false_iff_not]
 constructor
 ·rintro ⟨⟨⟨⟨⟨⟨⟨h1, h2⟩, h3⟩, h4⟩, h5⟩, h6⟩, h7⟩, h8⟩
  exact ⟨⟨⟨⟨⟨⟨⟨by omega, by omega⟩, by omega⟩, by omega⟩, by omega⟩, by omega⟩, by omega⟩, ⟨h6, h7⟩, h8⟩
 ·rintro ⟨⟨⟨⟨⟨⟨⟨h1, h2⟩, h3⟩, h4⟩, h5⟩, h6⟩, h7⟩, ⟨h8, h9⟩, h10⟩
  exact ⟨⟨⟨⟨⟨⟨⟨⟨by omega, by omega⟩, by omega⟩, by omega⟩, by omega⟩, ⟨by omega, by omega⟩⟩, h8⟩, h9⟩, h10⟩
theorem okP_iff (K : Dk) (i : Nat) : okP K i = true ↔ (1 ≤ (gP K.ps i).id ∧ (gP K.ps i).id ≤ 1073741824) ∧ (0 < i → (gP K.ps (i - 1)).id < (gP K.ps i).id) ∧ (1 ≤ (gP K.ps i).role ∧ (gP K.ps i).role ≤ 9) ∧ 1 ≤ (gP K.ps i).key ∧ (gP K.ps i).key ≤ 1073741824 := by
 simp only [okP, inD, Bool.and_eq_true, decide_eq_true_eq, Bool.not_eq_true', Bool.and_eq_false_iff, decide_eq_false_iff_not]
 constructor
 ·rintro ⟨⟨⟨h1, h2⟩, h3⟩, h4⟩
  exact ⟨h1, fun h => by rcases h2 with h2 | h2 <;> omega, h3, h4⟩
 ·rintro ⟨h1, h2, h3, h4⟩
  exact ⟨⟨⟨h1, by by_cases h : 0 < i; exact .inr (by have := h2 h; omega); exact .inl h⟩, h3⟩, h4⟩
theorem okD_iff (K : Dk) (i : Nat) : okD K i = true ↔ (1 ≤ (gD K.ds i).id ∧ (gD K.ds i).id < K.nx) ∧ (0 < i → (gD K.ds (i - 1)).id < (gD K.ds i).id) ∧ plnS (gD K.ds i) = true ∧ sgdS K (gD K.ds i).sg = true := by
 simp only [okD, rgt_eq, inD, Bool.and_eq_true, decide_eq_true_eq, Bool.not_eq_true', Bool.and_eq_false_iff, decide_eq_false_iff_not]
 constructor
 ·rintro ⟨⟨h1, h2⟩, h3⟩
  exact ⟨by omega, fun h => by rcases h2 with h2 | h2 <;> omega, h3⟩
 ·rintro ⟨h1, h2, h3⟩
  exact ⟨⟨by omega, by by_cases h : 0 < i; exact .inr (by have := h2 h; omega); exact .inl h⟩, h3⟩
theorem all_range {n : Nat} {q : Nat → Bool} : (List.range n).all q = true ↔ ∀ i, i < n → q i = true := by simp
theorem prp_asc {K : Dk} (h : prpS K = true) : Asc (ids K.ps) ∧ K.ps.length ≤ 12 := by
 simp only [prpS, Bool.and_eq_true, decide_eq_true_eq, all_range] at h
 obtain ⟨h1, h2⟩ := h
 refine ⟨fun i j hij x y hx hy => ?_, h1⟩
 have hg : ∀ i x, (ids K.ps)[i]? = some x → i < K.ps.length ∧ x = (gP K.ps i).id := fun i x hx => by
  simp only [ids, List.getElem?_map, Option.map_eq_some_iff] at hx
  obtain ⟨p, hp, rfl⟩ := hx
  have hl := (List.getElem?_eq_some_iff.1 hp).1
  rw [gP_get hl] at hp
  exact ⟨hl, by rw [Option.some.inj hp]⟩
 obtain ⟨_, rfl⟩ := hg i x hx
 obtain ⟨hj, rfl⟩ := hg j y hy
 clear hx hy
 have : ∀ d, i + d < K.ps.length → (gP K.ps i).id ≤ (gP K.ps (i + d)).id := fun d => by
  induction d with
  | zero => intro _; exact Int.le_refl _
  | succ d ih =>
   intro hd
   have := ih (by omega)
   have h3 := ((okP_iff K (i + (d + 1))).1 (h2 _ hd)).2.1 (by omega)
   rw [show i + (d + 1) - 1 = i + d by omega] at h3
   omega
 have := this (j - i) (by omega)
 rwa [show i + (j - i) = j by omega] at this
theorem chkD_prp {K : Dk} (h : chkD K = true) : prpS K = true := by
 simp only [chkD, Bool.and_eq_true] at h
 simp only [prpS, Bool.and_eq_true]
 exact ⟨h.1.1.1.1, h.1.2⟩
theorem chkD_asc {K : Dk} (h : chkD K = true) : Asc (ids K.ps) := (prp_asc (chkD_prp h)).1
theorem ok_deviation_proper (K : Dk) (hl : K.ps.length ≤ 9223372036854775807) : PC prog n_deviation_proper [.list 3 (pns K.ps)] (.bool (prpS K)) := by
 refine PC_of_body b_deviation_proper (by simp) ?_
 simp only [c_deviation_proper, go_sem, jA, jB, jC, jD, jE, jF, jG, jH, jI, jJ, ↓reduceIte, reduceCtorEq, jP]
 try simp (disch := omega) only [go_sem, jA, jB, jC, jD, jE, jF, jG, jH, jI, jJ, ↓reduceIte, reduceCtorEq, jO, jM, jN, jK, jL, pns_length]
 refine awp_upG [2, 3, 5, 8, 9, 10, 11, 12, 13, 14, 15, 16, 17, 18, 19, 20, 21, 22, 23, 24, 25, 26, 27, 28, 29, 30, 31, 32, 33, 34, 35, 36, 37, 38, 39, 40, 41, 42, 43] (by kernel_rfl) K.ps.length (fun i e _ => e 8 = .int .i64 i ∧ (∀ j, j < i → okP K j = true) ∧ ∃ la, e 3 = .int .i64 la ∧ (i = 0 → la = 0) ∧ (0 < i → la = (gP K.ps (i - 1)).id)) ?_ ?_
 ·exact ⟨(by first | rfl | (simp (disch := omega) only [go_sem, jA, jB, jC, jD, jE, jF, jG, jH, jI, jJ, ↓reduceIte, reduceCtorEq, jP, jO, jM, jN]; try rfl)), fun j hj => by omega, 0, (by first | rfl | (simp (disch := omega) only [go_sem, jA, jB, jC, jD, jE, jF, jG, jH, jI, jJ, ↓reduceIte, reduceCtorEq, jP, jO, jM, jN]; try rfl)), fun _ => rfl, fun h => by omega⟩
 rintro i fe ob m c hi hm ⟨h8, hall, la, h3, hl0, hl1⟩
 simp (maxSteps := 1000000) only [go_sem, jA, jB, jC, jD, jE, jF, jG, jH, jI, jJ, ↓reduceIte, reduceCtorEq, jP] at h8 h3 hm
 try simp (disch := omega) only [go_sem, jA, jB, jC, jD, jE, jF, jG, jH, jI, jJ, ↓reduceIte, reduceCtorEq, jO, jM, jN, jK, jL, h8]
 refine cond_d (fun hlt => ?_) (fun hge => ?_)
 ·have hil : i < K.ps.length := by omega
  have hg := gP_get hil
  have hok := okP_iff K i
  have no : ∀ {σ : St}, ¬ okP K i = true → Pub σ (.bool false) (.bool (prpS K)) := fun h => by
   have : prpS K = false := by
    simp only [prpS, Bool.and_eq_false_iff]
    right
    rw [Bool.eq_false_iff]
    exact fun h2 => h (all_range.1 h2 i hil)
   rw [this]; exact Pub.pure rfl
  have hprev : 0 < i → 1 ≤ la := fun h => by
   have := ((okP_iff K (i - 1)).1 (hall (i - 1) (by omega))).1.1
   rw [hl1 h]; omega
  rw [show (0 < i → (gP K.ps (i - 1)).id < (gP K.ps i).id) ↔ (0 < i → la < (gP K.ps i).id) from ⟨fun h h0 => by rw [hl1 h0]; exact h h0, fun h h0 => by rw [← hl1 h0]; exact h h0⟩] at hok
  have hsn : okP K i = true → ∀ j, j < i + 1 → okP K j = true := fun h j hj => by
   by_cases e : j = i
   ·subst e; exact h
   ·exact hall j (by omega)
  have hpi : (gP K.ps (i + 1 - 1)).id = (gP K.ps i).id := rfl
  generalize gP K.ps i = p at *
  try simp (disch := omega) only [go_sem, jA, jB, jC, jD, jE, jF, jG, jH, jI, jJ, ↓reduceIte, reduceCtorEq, jO, jM, jN, jK, jL, h8, h3, pns_length, pns_get, hg, Option.map_some, pnv]
  refine ⟨by omega, by omega, ?_⟩
  refine gd_fd rfl (fun g1 => ?_) (fun g1 => ?_) <;> try simp (disch := omega) only [go_sem, jA, jB, jC, jD, jE, jF, jG, jH, jI, jJ, ↓reduceIte, reduceCtorEq, jO, jM, jN, jK, jL]
  ·refine no fun h => ?_
   have := hok.1 h
   rcases Nat.eq_zero_or_pos i with h0 | h0
   ·have := hl0 h0; omega
   ·have := this.2.1 h0; omega
  refine gd_fd rfl (fun g2 => ?_) (fun g2 => ?_) <;> try simp (disch := omega) only [go_sem, jA, jB, jC, jD, jE, jF, jG, jH, jI, jJ, ↓reduceIte, reduceCtorEq, jO, jM, jN, jK, jL]
  ·exact no fun h => by have := hok.1 h; omega
  refine gd_fd rfl (fun g3 => ?_) (fun g3 => ?_) <;> try simp (disch := omega) only [go_sem, jA, jB, jC, jD, jE, jF, jG, jH, jI, jJ, ↓reduceIte, reduceCtorEq, jO, jM, jN, jK, jL]
  ·exact no fun h => by have := hok.1 h; omega
  refine gd_fd rfl (fun g4 => ?_) (fun g4 => ?_) <;> try simp (disch := omega) only [go_sem, jA, jB, jC, jD, jE, jF, jG, jH, jI, jJ, ↓reduceIte, reduceCtorEq, jO, jM, jN, jK, jL]
  ·exact no fun h => by have := hok.1 h; omega
  refine gd_fd rfl (fun g5 => ?_) (fun g5 => ?_) <;> try simp (disch := omega) only [go_sem, jA, jB, jC, jD, jE, jF, jG, jH, jI, jJ, ↓reduceIte, reduceCtorEq, jO, jM, jN, jK, jL]
  ·exact no fun h => by have := hok.1 h; omega
  refine cond_d (fun g6 => ?_) (fun g6 => ?_) <;> try simp (disch := omega) only [go_sem, jA, jB, jC, jD, jE, jF, jG, jH, jI, jJ, ↓reduceIte, reduceCtorEq, jO, jM, jN, jK, jL, h8]
  ·exact no fun h => by have := hok.1 h; omega
  have hlo : 1 ≤ p.id := by
   rcases Nat.eq_zero_or_pos i with h0 | h0
   ·have := hl0 h0; omega
   ·have := hprev h0; omega
  refine up_nextG m hil (by omega) ⟨(by first | rfl | (simp (disch := omega) only [go_sem, jA, jB, jC, jD, jE, jF, jG, jH, jI, jJ, ↓reduceIte, reduceCtorEq, jP, jO, jM, jN]; try rfl)), hsn (hok.2 ⟨⟨hlo, by omega⟩, fun _ => by omega, ⟨by omega, by omega⟩, by omega, by omega⟩), p.id, (by first | rfl | (simp (disch := omega) only [go_sem, jA, jB, jC, jD, jE, jF, jG, jH, jI, jJ, ↓reduceIte, reduceCtorEq, jP, jO, jM, jN]; try rfl)), fun h => by omega, fun _ => hpi.symm⟩
 obtain rfl : i = K.ps.length := by omega
 try simp (disch := omega) only [go_sem, jA, jB, jC, jD, jE, jF, jG, jH, jI, jJ, ↓reduceIte, reduceCtorEq, jO, jM, jN, jK, jL, pns_length]
 refine Pub.of_eq ?_ rfl
 congr 1
 rw [prpS, all_range.2 hall, Bool.and_true]
 rw [decide_eq_decide]; omega
theorem ok_deviation_planned (d : Dv) : PC prog n_deviation_planned [dvv d] (.bool (plnS d)) := by
 have no : ∀ {σ : St}, plnS d = false → Pub σ (.bool false) (.bool (plnS d)) := fun h => by rw [h]; exact Pub.pure rfl
 refine PC_of_body b_deviation_planned (by simp) ?_
 simp only [c_deviation_planned, dvv, dvX]
 try simp (disch := omega) only [go_sem, jA, jB, jC, jD, jE, jF, jG, jH, jI, jJ, ↓reduceIte, reduceCtorEq, jO, jM, jN, jK, jL]
 refine gd_td rfl (fun g1 => ?_) (fun g1 => ?_) <;> try simp (disch := omega) only [go_sem, jA, jB, jC, jD, jE, jF, jG, jH, jI, jJ, ↓reduceIte, reduceCtorEq, jO, jM, jN, jK, jL]
 case refine_2 => exact no (by simp [plnS, g1])
 refine gd_td rfl (fun g2 => ?_) (fun g2 => ?_) <;> try simp (disch := omega) only [go_sem, jA, jB, jC, jD, jE, jF, jG, jH, jI, jJ, ↓reduceIte, reduceCtorEq, jO, jM, jN, jK, jL]
 case refine_2 => exact no (by simp [plnS, g2])
 refine gd_td rfl (fun g3 => ?_) (fun g3 => ?_) <;> try simp (disch := omega) only [go_sem, jA, jB, jC, jD, jE, jF, jG, jH, jI, jJ, ↓reduceIte, reduceCtorEq, jO, jM, jN, jK, jL]
 case refine_2 => exact no (by simp [plnS, g3])
 refine gd_td rfl (fun g4 => ?_) (fun g4 => ?_) <;> try simp (disch := omega) only [go_sem, jA, jB, jC, jD, jE, jF, jG, jH, jI, jJ, ↓reduceIte, reduceCtorEq, jO, jM, jN, jK, jL]
 case refine_2 => exact no (by simp [plnS, g4])
 refine gd_td rfl (fun g5 => ?_) (fun g5 => ?_) <;> try simp (disch := omega) only [go_sem, jA, jB, jC, jD, jE, jF, jG, jH, jI, jJ, ↓reduceIte, reduceCtorEq, jO, jM, jN, jK, jL]
 case refine_2 => exact no (by simp [plnS, g5])
 refine gd_td rfl (fun g6 => ?_) (fun g6 => ?_) <;> try simp (disch := omega) only [go_sem, jA, jB, jC, jD, jE, jF, jG, jH, jI, jJ, ↓reduceIte, reduceCtorEq, jO, jM, jN, jK, jL]
 case refine_2 => exact no (by simp [plnS, g6])
 exact Pub.of_eq (by simp [plnS, g1, g2, g3, g4, g5, g6]) rfl
theorem ok_deviation_signed (K : Dk) (l : List Int) (hl : K.ps.length ≤ 4611686018427387904) (hs : Asc (ids K.ps)) : PC prog n_deviation_signed [.list 3 (pns K.ps), .list 1 (ints l)] (.bool (sgdS K l)) := by
 refine PC_of_body b_deviation_signed (by simp) ?_
 simp only [c_deviation_signed, go_sem, jA, jB, jC, jD, jE, jF, jG, jH, jI, jJ, ↓reduceIte, reduceCtorEq, jP]
 try simp (disch := omega) only [go_sem, jA, jB, jC, jD, jE, jF, jG, jH, jI, jJ, ↓reduceIte, reduceCtorEq, jO, jM, jN, jK, jL, ints_length]
 refine cond_d (fun h => ?_) (fun h => ?_) <;> try simp (disch := omega) only [go_sem, jA, jB, jC, jD, jE, jF, jG, jH, jI, jJ, ↓reduceIte, reduceCtorEq, jO, jM, jN, jK, jL]
 ·have : sgdS K l = false := by simp only [sgdS, Bool.and_eq_false_iff]; left; left; simp; omega
  rw [this]; exact Pub.pure rfl
 have hl2 : l.length ≤ 2 := by omega
 refine awp_upG [4, 7, 8, 9, 16, 17, 18, 19, 20, 21, 22, 23, 24, 25, 26, 27, 28, 29, 30, 31, 32, 33, 34, 35, 36, 37] (by kernel_rfl) l.length (fun i e σ => e 16 = .int .i64 i ∧ (∀ j, j < i → ∀ y, l[j]? = some y → (prsS K y).2 = true) ∧ (∃ es, σ.ob 0 = some ⟨0, 2, mapTy, false, false, es⟩ ∧ (i = 0 → es = []) ∧ (i = 1 → es = [.agg [.int .i64 ((rolesS K l).getD 0 0), .bool true]])) ∧ (i = 2 → (rolesS K l).getD 0 0 ≠ (rolesS K l).getD 1 0)) ?_ ?_
 ·exact ⟨(by first | rfl | (simp (disch := omega) only [go_sem, jA, jB, jC, jD, jE, jF, jG, jH, jI, jJ, ↓reduceIte, reduceCtorEq, jP, jO, jM, jN]; try rfl)), fun j hj => by omega, ⟨[], by try simp (disch := omega) only [go_sem, jA, jB, jC, jD, jE, jF, jG, jH, jI, jJ, ↓reduceIte, reduceCtorEq, jO, jM, jN, jK, jL], fun _ => rfl, fun h => by omega⟩, fun h => by omega⟩
 rintro i fe ob m c hi hm ⟨h16, hall, ⟨es, h0, e0, e1⟩, h2⟩
 simp (maxSteps := 1000000) only [go_sem, jA, jB, jC, jD, jE, jF, jG, jH, jI, jJ, ↓reduceIte, reduceCtorEq, jP] at h16 h0 hm
 try simp (disch := omega) only [go_sem, jA, jB, jC, jD, jE, jF, jG, jH, jI, jJ, ↓reduceIte, reduceCtorEq, jO, jM, jN, jK, jL, h16, ints_length]
 refine cond_d (fun hlt => ?_) (fun hge => ?_)
 ·have hil : i < l.length := by omega
  have hgl : l[i]? = some l[i] := List.getElem?_eq_getElem hil
  have hgi := ints_get l i
  rw [hgl] at hgi
  have hro : (rolesS K l).getD i 0 = (prsS K l[i]).1.role := by simp [rolesS, List.getD_eq_getElem?_getD, hgl]
  have no : ∀ {σ : St}, sgdS K l = false → Pub σ (.bool false) (.bool (sgdS K l)) := fun h => by rw [h]; exact Pub.pure rfl
  have hF := ok_deviation_find K l[i] hl hs
  have hnf : (prsS K l[i]).2 = false → sgdS K l = false := fun h => by
   simp only [sgdS, Bool.and_eq_false_iff]; left; right
   rw [Bool.eq_false_iff]; intro h2
   rw [List.all_eq_true] at h2
   rw [h2 _ (List.getElem_mem hil)] at h; cases h
  have hsn : (prsS K l[i]).2 = true → ∀ j, j < i + 1 → ∀ y, l[j]? = some y → (prsS K y).2 = true := fun h j hj y hy => by
   by_cases e : j = i
   ·subst e; rw [hgl] at hy; obtain rfl := Option.some.inj hy; exact h
   ·exact hall j (by omega) y hy
  generalize l[i] = s at *
  generalize hps : prsS K s = ps at *
  obtain ⟨p, ok⟩ := ps
  simp only at hro hF hnf hsn
  have z0 : ¬ (0 : Nat) = m := by omega
  try simp (disch := omega) only [go_sem, jA, jB, jC, jD, jE, jF, jG, jH, jI, jJ, ↓reduceIte, reduceCtorEq, jO, jM, jN, jK, jL, h16, ints_length, hgi, Option.map_some]
  refine ⟨by omega, by omega, ?_⟩
  refine call_pc hF (by simp [go_sem, pns_pur]) ?_
  cases ok
  ·try simp (disch := omega) only [go_sem, jA, jB, jC, jD, jE, jF, jG, jH, jI, jJ, ↓reduceIte, reduceCtorEq, jO, jM, jN, jK, jL, pnv]
   exact no (hnf rfl)
  try simp (disch := omega) only [go_sem, jA, jB, jC, jD, jE, jF, jG, jH, jI, jJ, ↓reduceIte, reduceCtorEq, jO, jM, jN, jK, jL, pnv, z0, h0]
  have hi2 : i = 0 ∨ i = 1 := by omega
  rcases hi2 with rfl | rfl
  ·obtain rfl := e0 rfl
   try simp (disch := omega) only [go_sem, jA, jB, jC, jD, jE, jF, jG, jH, jI, jJ, ↓reduceIte, reduceCtorEq, jO, jM, jN, jK, jL, h16, h0]
   refine up_nextG m hil (by omega) ⟨(by first | rfl | (simp (disch := omega) only [go_sem, jA, jB, jC, jD, jE, jF, jG, jH, jI, jJ, ↓reduceIte, reduceCtorEq, jP, jO, jM, jN]; try rfl)), hsn rfl, ⟨[.agg [.int .i64 ((rolesS K l).getD 0 0), .bool true]], ?_, fun h => by omega, fun _ => rfl⟩, fun h => by omega⟩
   simp only [St.trunc]; rw [if_pos (by omega), hro]
   simp [upd]
  ·obtain rfl := e1 rfl
   have hlen2 : l.length = 2 := by omega
   try simp (disch := omega) only [go_sem, jA, jB, jC, jD, jE, jF, jG, jH, jI, jJ, ↓reduceIte, reduceCtorEq, jO, jM, jN, jK, jL]
   by_cases hq : p.role = (rolesS K l).getD 0 0
   ·try simp (disch := omega) only [go_sem, jA, jB, jC, jD, jE, jF, jG, jH, jI, jJ, ↓reduceIte, reduceCtorEq, jO, jM, jN, jK, jL, hq]
    refine no ?_
    simp only [sgdS, Bool.and_eq_false_iff, Bool.or_eq_false_iff]
    right
    refine ⟨by simp; omega, ?_⟩
    rw [hro, hq]; simp
   ·try simp (disch := omega) only [go_sem, jA, jB, jC, jD, jE, jF, jG, jH, jI, jJ, ↓reduceIte, reduceCtorEq, jO, jM, jN, jK, jL, hq, h0]
    refine up_nextG m hil (by omega) ⟨(by first | rfl | (simp (disch := omega) only [go_sem, jA, jB, jC, jD, jE, jF, jG, jH, jI, jJ, ↓reduceIte, reduceCtorEq, jP, jO, jM, jN]; try rfl)), hsn rfl, ?_, fun _ => by rw [hro]; exact fun e => hq e.symm⟩
    exact ⟨_, by simp only [St.trunc]; rw [if_pos (by omega)]; simp [upd]; rfl, fun h => by omega, fun h => by omega⟩
 obtain rfl : i = l.length := by omega
 try simp (disch := omega) only [go_sem, jA, jB, jC, jD, jE, jF, jG, jH, jI, jJ, ↓reduceIte, reduceCtorEq, jO, jM, jN, jK, jL]
 have : sgdS K l = true := by
  simp only [sgdS, Bool.and_eq_true, Bool.or_eq_true, decide_eq_true_eq, List.all_eq_true]
  refine ⟨⟨hl2, fun x hx => ?_⟩, ?_⟩
  ·obtain ⟨j, hj⟩ := List.getElem?_of_mem hx
   exact hall j (List.getElem?_eq_some_iff.1 hj).1 x hj
  ·by_cases h3 : l.length = 2
   ·right; rw [decide_eq_false (h2 h3)]; rfl
   ·left; omega
 rw [this]
 exact Pub.pure rfl
theorem ok_deviation_valid (K : Dk) (hB : DkS K) : PC prog n_deviation_valid [dkv K] (.bool (chkD K)) := by
 have hlp := hB.lp
 have hld := hB.ld
 have no : ∀ {σ : St}, chkD K = false → Pub σ (.bool false) (.bool (chkD K)) := fun h => by rw [h]; exact Pub.pure rfl
 have hce : chkD K = (prpS K && inD K.nx 1 1073741824 && decide (K.ds.length ≤ 64) && (List.range K.ds.length).all (okD K)) := by
  rw [Bool.eq_iff_iff]; simp only [chkD, prpS, Bool.and_eq_true]
  constructor
  ·rintro ⟨⟨⟨⟨h1, h2⟩, h3⟩, h4⟩, h5⟩; exact ⟨⟨⟨⟨h1, h4⟩, h2⟩, h3⟩, h5⟩
  ·rintro ⟨⟨⟨⟨h1, h4⟩, h2⟩, h3⟩, h5⟩; exact ⟨⟨⟨⟨h1, h2⟩, h3⟩, h4⟩, h5⟩
 refine PC_of_body b_deviation_valid (by simp) ?_
 simp only [c_deviation_valid, dkv]
 try simp (disch := omega) only [go_sem, jA, jB, jC, jD, jE, jF, jG, jH, jI, jJ, ↓reduceIte, reduceCtorEq, jO, jM, jN, jK, jL]
 refine call_pc (ok_deviation_proper K hlp) (by simp [go_sem, pns_pur]) ?_
 cases hpr : prpS K
 ·try simp (disch := omega) only [go_sem, jA, jB, jC, jD, jE, jF, jG, jH, jI, jJ, ↓reduceIte, reduceCtorEq, jO, jM, jN, jK, jL]
  exact no (by rw [hce, hpr]; simp)
 try simp (disch := omega) only [go_sem, jA, jB, jC, jD, jE, jF, jG, jH, jI, jJ, ↓reduceIte, reduceCtorEq, jO, jM, jN, jK, jL]
 refine gd_fd rfl (fun g1 => ?_) (fun g1 => ?_) <;> try simp (disch := omega) only [go_sem, jA, jB, jC, jD, jE, jF, jG, jH, jI, jJ, ↓reduceIte, reduceCtorEq, jO, jM, jN, jK, jL]
 ·exact no (by rw [hce]; simp [inD]; intros; omega)
 refine gd_fd rfl (fun g2 => ?_) (fun g2 => ?_) <;> try simp (disch := omega) only [go_sem, jA, jB, jC, jD, jE, jF, jG, jH, jI, jJ, ↓reduceIte, reduceCtorEq, jO, jM, jN, jK, jL, dvs_length]
 ·exact no (by rw [hce]; simp [inD]; intros; omega)
 refine cond_d (fun g3 => ?_) (fun g3 => ?_) <;> try simp (disch := omega) only [go_sem, jA, jB, jC, jD, jE, jF, jG, jH, jI, jJ, ↓reduceIte, reduceCtorEq, jO, jM, jN, jK, jL, dvs_length]
 ·exact no (by rw [hce]; simp [inD]; intros; omega)
 have hasc := (prp_asc hpr).1
 have hc1 : chkD K = (List.range K.ds.length).all (okD K) := by
  rw [hce, hpr, show inD K.nx 1 1073741824 = true by simp [inD]; omega, show decide (K.ds.length ≤ 64) = true by simp; omega]; simp
 refine awp_upG [2, 3, 5, 29, 30, 31, 32, 33, 34, 35, 36, 37, 38, 39, 40, 41, 42, 43, 44, 45, 46, 47, 48, 49, 50, 51, 52, 53, 54, 55, 56, 57, 58, 59] (by kernel_rfl) K.ds.length (fun i e σ => e 29 = .int .i64 i ∧ σ.ob 0 = some ⟨0, 3, 31, false, true, [.agg [.list 3 (pns K.ps), .int .i64 K.nx, .list 7 (dvs K.ds)]]⟩ ∧ (∀ j, j < i → okD K j = true) ∧ ∃ la, e 3 = .int .i64 la ∧ (i = 0 → la = 0) ∧ (0 < i → la = (gD K.ds (i - 1)).id)) ?_ ?_
 ·exact ⟨(by first | rfl | (simp (disch := omega) only [go_sem, jA, jB, jC, jD, jE, jF, jG, jH, jI, jJ, ↓reduceIte, reduceCtorEq, jP, jO, jM, jN]; try rfl)), by try simp (disch := omega) only [go_sem, jA, jB, jC, jD, jE, jF, jG, jH, jI, jJ, ↓reduceIte, reduceCtorEq, jO, jM, jN, jK, jL], fun j hj => by omega, 0, (by first | rfl | (simp (disch := omega) only [go_sem, jA, jB, jC, jD, jE, jF, jG, jH, jI, jJ, ↓reduceIte, reduceCtorEq, jP, jO, jM, jN]; try rfl)), fun _ => rfl, fun h => by omega⟩
 rintro i fe ob m c hi hm ⟨h8, hob, hall, la, h3, hl0, hl1⟩
 simp (maxSteps := 1000000) only [go_sem, jA, jB, jC, jD, jE, jF, jG, jH, jI, jJ, ↓reduceIte, reduceCtorEq, jP] at h8 h3 hm hob
 try simp (disch := omega) only [go_sem, jA, jB, jC, jD, jE, jF, jG, jH, jI, jJ, ↓reduceIte, reduceCtorEq, jO, jM, jN, jK, jL, h8]
 refine cond_d (fun hlt => ?_) (fun hge => ?_)
 ·have hil : i < K.ds.length := by omega
  have hg := gD_get hil
  have hok := okD_iff K i
  have no : ∀ {σ : St}, ¬ okD K i = true → Pub σ (.bool false) (.bool (chkD K)) := fun h => by
   have : chkD K = false := by
    rw [hc1, Bool.eq_false_iff]
    exact fun h2 => h (all_range.1 h2 i hil)
   rw [this]; exact Pub.pure rfl
  have hprev : 0 < i → 1 ≤ la := fun h => by
   have := ((okD_iff K (i - 1)).1 (hall (i - 1) (by omega))).1.1
   rw [hl1 h]; omega
  rw [show (0 < i → (gD K.ds (i - 1)).id < (gD K.ds i).id) ↔ (0 < i → la < (gD K.ds i).id) from ⟨fun h h0 => by rw [hl1 h0]; exact h h0, fun h h0 => by rw [← hl1 h0]; exact h h0⟩] at hok
  have hsn : okD K i = true → ∀ j, j < i + 1 → okD K j = true := fun h j hj => by
   by_cases e : j = i
   ·subst e; exact h
   ·exact hall j (by omega)
  have hpi : (gD K.ds (i + 1 - 1)).id = (gD K.ds i).id := rfl
  have hPl := ok_deviation_planned (gD K.ds i)
  have hSg := ok_deviation_signed K (gD K.ds i).sg (by have := (prp_asc hpr).2; omega) hasc
  generalize gD K.ds i = d at *
  have z0 : ¬ (0 : Nat) = m := by omega
  simp only [dvv, dvX] at hPl
  try simp (disch := omega) only [go_sem, jA, jB, jC, jD, jE, jF, jG, jH, jI, jJ, ↓reduceIte, reduceCtorEq, jO, jM, jN, jK, jL, h8, h3, dvs_length, dvs_get, hg, Option.map_some, dvv, dvX, z0]
  refine ⟨by omega, by omega, ?_⟩
  refine gd_fd rfl (fun g4 => ?_) (fun g4 => ?_) <;> try simp (disch := omega) only [go_sem, jA, jB, jC, jD, jE, jF, jG, jH, jI, jJ, ↓reduceIte, reduceCtorEq, jO, jM, jN, jK, jL, z0, hob]
  ·refine no fun h => ?_
   have := hok.1 h
   rcases Nat.eq_zero_or_pos i with h0 | h0
   ·have := hl0 h0; omega
   ·have := this.2.1 h0; omega
  refine gd_fd rfl (fun g5 => ?_) (fun g5 => ?_) <;> try simp (disch := omega) only [go_sem, jA, jB, jC, jD, jE, jF, jG, jH, jI, jJ, ↓reduceIte, reduceCtorEq, jO, jM, jN, jK, jL, z0, hob]
  ·exact no fun h => by have := hok.1 h; omega
  refine call_pc hPl (by simp [go_sem, ints_pur]) ?_
  cases hp : plnS d
  ·try simp (disch := omega) only [go_sem, jA, jB, jC, jD, jE, jF, jG, jH, jI, jJ, ↓reduceIte, reduceCtorEq, jO, jM, jN, jK, jL]
   exact no fun h => by have := (hok.1 h).2.2.1; rw [hp] at this; cases this
  try simp (disch := omega) only [go_sem, jA, jB, jC, jD, jE, jF, jG, jH, jI, jJ, ↓reduceIte, reduceCtorEq, jO, jM, jN, jK, jL, z0, hob]
  refine call_pc hSg (by simp [go_sem, pns_pur, ints_pur]) ?_
  cases hq : sgdS K d.sg
  ·try simp (disch := omega) only [go_sem, jA, jB, jC, jD, jE, jF, jG, jH, jI, jJ, ↓reduceIte, reduceCtorEq, jO, jM, jN, jK, jL]
   exact no fun h => by have := (hok.1 h).2.2.2; rw [hq] at this; cases this
  try simp (disch := omega) only [go_sem, jA, jB, jC, jD, jE, jF, jG, jH, jI, jJ, ↓reduceIte, reduceCtorEq, jO, jM, jN, jK, jL, h8]
  have hlo : 1 ≤ d.id := by
   rcases Nat.eq_zero_or_pos i with h0 | h0
   ·have := hl0 h0; omega
   ·have := hprev h0; omega
  refine up_nextG m hil (by omega) ⟨(by first | rfl | (simp (disch := omega) only [go_sem, jA, jB, jC, jD, jE, jF, jG, jH, jI, jJ, ↓reduceIte, reduceCtorEq, jP, jO, jM, jN]; try rfl)), ?_, hsn (hok.2 ⟨⟨hlo, by omega⟩, fun _ => by omega, hp, hq⟩), d.id, (by first | rfl | (simp (disch := omega) only [go_sem, jA, jB, jC, jD, jE, jF, jG, jH, jI, jJ, ↓reduceIte, reduceCtorEq, jP, jO, jM, jN]; try rfl)), fun h => by omega, fun _ => hpi.symm⟩
  simp only [St.trunc]; rw [if_pos (by omega)]; repeat rw [upd_ne _ _ _ _ (by omega)]
  exact hob
 obtain rfl : i = K.ds.length := by omega
 try simp (disch := omega) only [go_sem, jA, jB, jC, jD, jE, jF, jG, jH, jI, jJ, ↓reduceIte, reduceCtorEq, jO, jM, jN, jK, jL]
 rw [hc1, all_range.2 hall]
 exact Pub.pure rfl
end Go.Proofs.Try
