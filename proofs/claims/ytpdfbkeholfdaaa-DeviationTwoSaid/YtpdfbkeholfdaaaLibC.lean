/- OWN WORK, put together by tools/asm.py, seat.py, mini.py. -/
import Derived.Test.YtpdfbkeholfdaaaLibB
set_option linter.unusedSimpArgs false
set_option linter.unusedVariables false
set_option maxRecDepth 100000
set_option maxHeartbeats 1000000
namespace Go.Proofs.Try
open Go.Ab Go
open Int renaming reduceEq → jA, reduceLT → jB, reduceLE → jC, reduceToNat → jD
open Go.Ab renaming w_ite_ne → jM, w_ite_lt → jN, wrap_id → jO, w_app_nl → jP
open Nat renaming reduceLT → jE, reduceEqDiff → jF, reduceAdd → jG, reduceLeDiff → jH, reduceSub → jI, reduceMul → jJ, sub_zero → jK, sub_self → jL
theorem hc_deviation_copied (σ : St) (d : Dv) (hd : d.sg.length ≤ 1000000) : HC prog n_deviation_copied [dvv d] σ (fun r τ => ∃ E, r = dvX d E ∧ SlR 1 ty_el_int τ (ints d.sg) E ∧ σ.n ≤ τ.n ∧ ∀ i, i < σ.n → τ.ob i = σ.ob i ∧ Oth E i) := by
 obtain ⟨ob0, n0, c0⟩ := σ
 refine HC_of_body b_deviation_copied (by simp) ?_
 simp only [c_deviation_copied, dvv, dvX]
 try simp (disch := omega) only [go_sem, jA, jB, jC, jD, jE, jF, jG, jH, jI, jJ, ↓reduceIte, reduceCtorEq, jO, jM, jN, jK, jL]
 refine (hcl_slices_Clone__int _ (ints d.sg) (by rw [ints_length]; omega)).mono ?_
 rintro E ⟨ob1, n1, c1⟩ hN
 obtain ⟨hE, h1, h2, h3⟩ := hN.slr
 simp only at h1 h2 h3
 have u0 := h2 n0 (by omega)
 have u1 := h2 (n0 + 1) (by omega)
 try simp (disch := omega) only [go_sem, jA, jB, jC, jD, jE, jF, jG, jH, jI, jJ, ↓reduceIte, reduceCtorEq, jO, jM, jN, jK, jL] at u0
 try simp (disch := omega) only [go_sem, jA, jB, jC, jD, jE, jF, jG, jH, jI, jJ, ↓reduceIte, reduceCtorEq, jO, jM, jN, jK, jL] at u1
 have z1 : ¬ n0 + 1 = n0 := by omega
 have z2 : ¬ n0 = n0 + 1 := by omega
 try simp (disch := omega) only [go_sem, jA, jB, jC, jD, jE, jF, jG, jH, jI, jJ, ↓reduceIte, reduceCtorEq, jO, jM, jN, jK, jL, u0, u1, hE.flat, hE.cells, hE.one, z1, z2]
 refine ⟨E, rfl, hE.move (Nat.le_refl _) fun i hi hh => ?_, by omega, fun i hi => ⟨?_, h3 i (by omega)⟩⟩
 ·have hg : n0 + 1 < i := Nat.lt_of_not_le fun h => hh (h3 i (by omega))
  simp only
  rw [upd_ne _ _ _ _ (by omega), upd_ne _ _ _ _ (by omega)]
 ·rw [if_neg (by omega), if_neg (by omega), h2 i (by omega)]
  repeat rw [upd_ne _ _ _ _ (by omega)]
theorem hc_deviation_twin (σ : St) (K : Dk) (h1 : K.ps.length ≤ 1000000) (h4 : K.ds.length ≤ 1000000) (h5 : ∀ d ∈ K.ds, d.sg.length ≤ 1000000) : HC prog n_deviation_twin [dkv K] σ (CpD σ K) := by
 obtain ⟨ob0, n0, c0⟩ := σ
 refine HC_of_body b_deviation_twin (by simp) ?_
 simp only [c_deviation_twin, dkv]
 try simp (disch := omega) only [go_sem, jA, jB, jC, jD, jE, jF, jG, jH, jI, jJ, ↓reduceIte, reduceCtorEq, jO, jM, jN, jK, jL]
 refine (hcl_slices_Clone__Person _ (pns K.ps) (by rw [pns_length]; omega)).mono ?_
 rintro XP ⟨ob1, n1, c1⟩ hN
 obtain ⟨hP, k1, k2, k3⟩ := hN.slr
 simp only at k1 k2 k3
 have k1' : n0 + 2 ≤ n1 := k1
 have u0 := k2 n0 (by omega)
 have u1 := k2 (n0 + 1) (by omega)
 try simp (disch := omega) only [go_sem, jA, jB, jC, jD, jE, jF, jG, jH, jI, jJ, ↓reduceIte, reduceCtorEq, jO, jM, jN, jK, jL] at u0
 try simp (disch := omega) only [go_sem, jA, jB, jC, jD, jE, jF, jG, jH, jI, jJ, ↓reduceIte, reduceCtorEq, jO, jM, jN, jK, jL] at u1
 have w0 : ¬ n0 = n1 := by omega
 have w1 : ¬ n0 + 1 = n1 := by omega
 try simp (disch := omega) only [go_sem, jA, jB, jC, jD, jE, jF, jG, jH, jI, jJ, ↓reduceIte, reduceCtorEq, jO, jM, jN, jK, jL, u0, u1, w0, w1, hP.flat, hP.cells, hP.one, dvs_length]
 refine awp_upG [5, 15, 16, 17, 18, 19, 20, 21, 22, 23, 24, 25, 26] (by kernel_rfl) K.ds.length (fun k e σ => e 15 = .int .i64 k ∧ n1 + 1 ≤ σ.n ∧ (∀ i, i < n1 → σ.ob i = ob1 i) ∧
  ∃ Y Fs, σ.ob n1 = some ⟨c1, 3, 31, false, true, [.agg [XP, .int .i64 K.nx, Y]]⟩ ∧ SlR 7 tyDv σ (dvXs (K.ds.take k) Fs) Y ∧ IC 1 tySg σ Fs (inS (K.ds.take k)) ∧ Grp σ (n1 + 1) Y Fs) ?_ ?_
 ·refine ⟨(by first | rfl | (simp (disch := omega) only [go_sem, jA, jB, jC, jD, jE, jF, jG, jH, jI, jJ, ↓reduceIte, reduceCtorEq, jP, jO, jM, jN]; try rfl)), Nat.le_refl _, fun i hi => ?_, .nil, [], by try simp (disch := omega) only [go_sem, jA, jB, jC, jD, jE, jF, jG, jH, jI, jJ, ↓reduceIte, reduceCtorEq, jO, jM, jN, jK, jL], by simp [dvXs]; exact SlR.nil, IC.nil _ _ _, Grp.nil _ _⟩
  simp only
  rw [upd_ne _ _ _ _ (by omega), upd_ne _ _ _ _ (by omega)]
 rintro k fe ob m c hk hm ⟨h15, hm1, ho, Y, Fs, hb, hY, hJ, hH⟩
 simp (maxSteps := 1000000) only [go_sem, jA, jB, jC, jD, jE, jF, jG, jH, jI, jJ, ↓reduceIte, reduceCtorEq, jP] at h15 hm hm1 ho hb
 try simp (disch := omega) only [go_sem, jA, jB, jC, jD, jE, jF, jG, jH, jI, jJ, ↓reduceIte, reduceCtorEq, jO, jM, jN, jK, jL, h15, dvs_length]
 refine cond_d (fun hlt => ?_) (fun hge => ?_)
 ·have hkl : k < K.ds.length := by omega
  have hk2 : K.ds[k]? = some K.ds[k] := List.getElem?_eq_getElem hkl
  have hxl := h5 _ (List.getElem_mem hkl)
  have htk : K.ds.take (k + 1) = K.ds.take k ++ [K.ds[k]] := take_snocA _ _ hkl
  have hEl : Fs.length = k := by have := hJ.1; simp [inS] at this; omega
  have hC := fun σ => hc_deviation_copied σ K.ds[k] hxl
  generalize K.ds[k] = w at *
  have z1 : ¬ n1 = m := by omega
  have z2 : ¬ m = n1 := by omega
  simp only [dvv, dvX] at hC
  try simp (disch := omega) only [go_sem, jA, jB, jC, jD, jE, jF, jG, jH, jI, jJ, ↓reduceIte, reduceCtorEq, jO, jM, jN, jK, jL, h15, dvs_length, dvs_get, hk2, Option.map_some, dvv, dvX, z1, z2, hb, hY.flat, hY.cells, hY.one, hP.flat, hP.cells, hP.one]
  refine ⟨by omega, by omega, ?_⟩
  refine (hC _).mono ?_
  rintro r ⟨ob6, m6, c6⟩ ⟨E, rfl, hE, e1, e2⟩
  simp only at e1 e2
  have e2' : ∀ i, i < m → ob6 i = ob i := fun i hi => (e2 i (by omega)).1.trans (by rw [upd_ne _ _ _ _ (by omega), upd_ne _ _ _ _ (by omega)])
  have e3' : ∀ i, i < m + 1 → Oth E i := fun i hi => (e2 i hi).2
  have z3 : ¬ n1 = m6 := by omega
  have hb6 := (e2' n1 (by omega)).trans hb
  have oY : ∀ i, i < n1 + 1 → Oth Y i := fun i hi => Oth.em fun h => by have := (hH.low i h).1; omega
  have oYm : ∀ i, m ≤ i → Oth Y i := fun i hi => hY.oth hi
  clear e2
  try simp (disch := omega) only [go_sem, jA, jB, jC, jD, jE, jF, jG, jH, jI, jJ, ↓reduceIte, reduceCtorEq, jO, jM, jN, jK, jL, hE.flat, hE.cells, hE.one, z3, hb6]
  refine ⟨hb.symm, ?_⟩
  refine app_er (ER.of_sl (L := [dvX w E]) (upd_same _ _ _) (Nat.lt_succ_self _)) ?_
  have hYl : (dvXs (K.ds.take k) Fs).length ≤ 1000000 := by simp [dvXs]; omega
  refine app_slr (b := 72) (hY.move (by simp only; omega) fun i hi hh => ?_) (by omega) (by omega) fun Y' τ2 hY2 kY => ?_
  ·simp only at hi ⊢
   rw [upd_ne _ _ _ _ (by omega), e2' i hi]
  obtain ⟨ob7, m7, c7⟩ := τ2
  have q1 : m6 + 1 ≤ m7 := kY.1
  have q2 : ∀ i, i < m → Oth Y i → ob7 i = ob i := fun i hi h => (kY.2.1 i (by simp only; omega) h).trans (by simp only; rw [upd_ne _ _ _ _ (by omega), e2' i hi])
  have q3 : ∀ i, m + 1 ≤ i → i < m6 → ob7 i = ob6 i := fun i hi hi2 => (kY.2.1 i (by simp only; omega) (oYm i (by omega))).trans (by simp only; rw [upd_ne _ _ _ _ (by omega)])
  have hb7 := (q2 n1 (by omega) (oY n1 (by omega))).trans hb
  have hEi : ∀ i, ¬ Oth E i → m + 1 ≤ i ∧ i < m6 := fun i hi => ⟨Nat.le_of_not_lt fun h => hi (e3' i h), hE.lt hi⟩
  have oY' : ∀ i, ¬ Oth Y' i → i ≠ n1 := fun i hi e => hi (e ▸ kY.2.2 n1 (by simp only; omega) (oY n1 (by omega)))
  try simp (disch := omega) only [go_sem, jA, jB, jC, jD, jE, jF, jG, jH, jI, jJ, ↓reduceIte, reduceCtorEq, jO, jM, jN, jK, jL, h15, hb7, hY2.flat, hY2.cells, hY2.one, hY.flat, hY.cells, hY.one, hP.flat, hP.cells, hP.one]
  refine up_nextG m7 hkl (by omega) ⟨(by first | rfl | (simp (disch := omega) only [go_sem, jA, jB, jC, jD, jE, jF, jG, jH, jI, jJ, ↓reduceIte, reduceCtorEq, jP, jO, jM, jN]; try rfl)), by simp only [St.trunc]; omega, fun i hi => ?_, Y', Fs ++ [E], ?_, ?_, ?_, ?_⟩
  ·rw [tr_ob (by omega), upd_ne _ _ _ _ (by omega), q2 i (by omega) (oY i (by omega))]; exact ho i hi
  ·rw [tr_ob (by omega)]; simp [upd]
  ·rw [htk, dvXs_snoc (by simp; omega)]
   exact hY2.move (by simp only [St.trunc]; omega) fun i hi hh => by
    simp only at hi
    rw [tr_ob hi, upd_ne _ _ _ _ (oY' i hh)]
  ·rw [htk, show inS (K.ds.take k ++ [w]) = inS (K.ds.take k) ++ [ints w.sg] by simp [inS]]
   refine IC.snoc (hJ.move (by simp only [St.trunc]; omega) fun F hF2 i hi hlt => ?_) (hE.move (by simp only [St.trunc]; omega) fun i hlt hi => ?_)
   ·have hi1 := (hH.loE F hF2 i hi).1
    simp only at hlt
    rw [tr_ob (by omega), upd_ne _ _ _ _ (by omega), q2 i hlt (hH.sep F hF2 i hi)]
   ·have hi1 := hEi i hi
    rw [tr_ob (by omega), upd_ne _ _ _ _ (by omega), q3 i hi1.1 hi1.2]
  ·exact (hH.snoc (by simp only; omega) (show m ≤ m6 + 1 by omega) (fun i hi => ⟨by have := (hEi i hi).1; simp only; omega, by have := (hEi i hi).2; simp only; omega⟩) kY fun i hi => hY2.oth hi).up (Nat.le_refl _)
 obtain rfl : k = K.ds.length := by omega
 rw [List.take_length] at hY hJ
 have v1 : ob (n0 + 1) = _ := (ho (n0 + 1) (by omega)).trans u1
 have zz : ¬ n0 + 1 = n1 := by omega
 have zz2 : ¬ n1 = n0 + 1 := by omega
 try simp (disch := omega) only [go_sem, jA, jB, jC, jD, jE, jF, jG, jH, jI, jJ, ↓reduceIte, reduceCtorEq, jO, jM, jN, jK, jL, hb, v1, zz, zz2, hY.flat, hY.cells, hY.one, hP.flat, hP.cells, hP.one]
 have k3' : ∀ i, ¬ Oth XP i → n0 + 2 ≤ i := fun i hi => Nat.le_of_not_lt fun h => hi (k3 i h)
 refine ⟨XP, Y, Fs, n1 + 1, rfl, by simp only; omega, hm1, hP.move (by simp only; omega) fun i hi hh => ?_, fun i hi => ⟨by have := k3' i hi; simp only; omega, by have := hP.lt hi; simp only at this; omega⟩, hY.move (Nat.le_refl _) fun i hi hh => ?_, hJ.move (Nat.le_refl _) fun E hE i hi hh => ?_, hH.up (Nat.le_refl _), fun i hi => ?_⟩
 ·have h1 := k3' i hh
  simp only at hi ⊢
  rw [upd_ne _ _ _ _ (by omega), ho i hi]
 ·have h1 := (hH.low i hh).1
  simp only
  rw [upd_ne _ _ _ _ (by omega)]
 ·have h1 := (hH.loE E hE i hi).1
  simp only
  rw [upd_ne _ _ _ _ (by omega)]
 ·simp only at hi ⊢
  rw [upd_ne _ _ _ _ (by omega), ho i (by omega), k2 i (by omega)]
  repeat rw [upd_ne _ _ _ _ (by omega)]
def AsD (σ τ : St) : Prop := σ.n ≤ τ.n ∧ ∀ k, k < σ.n → τ.ob k = σ.ob k
theorem idx_nextD {α : Type} {l : List α} {q : α → Bool} {k : Nat} {x : α} (hk : l[k]? = some x) (hj : ∀ j, j < k → ∀ y, l[j]? = some y → q y = false) (hq : q x = false) : ∀ j, j < k + 1 → ∀ y, l[j]? = some y → q y = false := fun j hj2 y hy => by
 by_cases e : j = k
 ·subst e; rw [hk] at hy; obtain rfl := Option.some.inj hy; exact hq
 ·exact hj j (by omega) y hy
def CbD (σ : St) (f : Nat) (caps : List AV) (q : Dv → Bool) : Prop :=
 ∀ (τ : St) (x : Dv), σ.n ≤ τ.n → (∀ k, k < σ.n → τ.ob k = σ.ob k) → HC prog f (dvv x :: caps) τ (fun r τ' => r = .bool (q x) ∧ AsD τ τ')
theorem okD_slices_Index__int (l : List Int) (x : Int) (hl : l.length ≤ 4611686018427387904) : PC prog n_slices_Index__int [.list 1 (ints l), .int .i64 x] (.int .i64 (match l.findIdx? (fun y => decide (x = y)) with | some i => (i : Int) | none => -1)) := by
 refine PC_of_body b_slices_Index__int (by simp) ?_
 simp only [c_slices_Index__int, go_sem, jA, jB, jC, jD, jE, jF, jG, jH, jI, jJ, ↓reduceIte, reduceCtorEq, jP]
 try simp (disch := omega) only [go_sem, jA, jB, jC, jD, jE, jF, jG, jH, jI, jJ, ↓reduceIte, reduceCtorEq, jO, jM, jN, jK, jL, ints_length]
 refine awp_upF [4, 5, 8, 9, 10, 11, 12, 13, 14, 15, 16, 17, 18] (by kernel_rfl) l.length (fun k e _ => e 8 = .int .i64 k ∧ ∀ j, j < k → ∀ y, l[j]? = some y → decide (x = y) = false) ?_ ?_
 ·exact ⟨(by first | rfl | (simp (disch := omega) only [go_sem, jA, jB, jC, jD, jE, jF, jG, jH, jI, jJ, ↓reduceIte, reduceCtorEq, jP, jO, jM, jN]; try rfl)), fun j hj => by omega⟩
 rintro k fe ob c hk ⟨hki, hj⟩
 simp (maxSteps := 1000000) only [go_sem, jA, jB, jC, jD, jE, jF, jG, jH, jI, jJ, ↓reduceIte, reduceCtorEq, jP] at hki
 try simp (disch := omega) only [go_sem, jA, jB, jC, jD, jE, jF, jG, jH, jI, jJ, ↓reduceIte, reduceCtorEq, jO, jM, jN, jK, jL, hki, ints_length]
 refine cond_d (fun hlt => ?_) (fun hge => ?_)
 ·have hkl : k < l.length := by omega
  have hk2 : l[k]? = some l[k] := List.getElem?_eq_getElem hkl
  have hfi : decide (x = l[k]) = true → l.findIdx? (fun y => decide (x = y)) = some k := fun h => by
   rw [List.findIdx?_eq_some_iff_getElem]
   exact ⟨hkl, h, fun j hjk => by have := hj j hjk l[j] (List.getElem?_eq_getElem (by omega)); simpa using this⟩
  have hnx := idx_nextD hk2 hj
  generalize l[k] = y at *
  try simp (disch := omega) only [go_sem, jA, jB, jC, jD, jE, jF, jG, jH, jI, jJ, ↓reduceIte, reduceCtorEq, jO, jM, jN, jK, jL, hki, ints_length, ints_get, hk2, Option.map_some]
  refine ⟨by omega, by omega, ?_⟩
  refine cond_d (fun hq => ?_) (fun hq => ?_) <;> try simp (disch := omega) only [go_sem, jA, jB, jC, jD, jE, jF, jG, jH, jI, jJ, ↓reduceIte, reduceCtorEq, jO, jM, jN, jK, jL, hki]
  ·rw [hfi (by simpa using hq)]
   exact Pub.pure rfl
  ·exact up_next hkl ⟨(by first | rfl | (simp (disch := omega) only [go_sem, jA, jB, jC, jD, jE, jF, jG, jH, jI, jJ, ↓reduceIte, reduceCtorEq, jP, jO, jM, jN]; try rfl)), hnx (by simpa using hq)⟩
 ·obtain rfl : k = l.length := by omega
  try simp (disch := omega) only [go_sem, jA, jB, jC, jD, jE, jF, jG, jH, jI, jJ, ↓reduceIte, reduceCtorEq, jO, jM, jN, jK, jL]
  have : l.findIdx? (fun y => decide (x = y)) = none := by
   rw [List.findIdx?_eq_none_iff]
   intro z hz
   obtain ⟨i, hi⟩ := List.getElem?_of_mem hz
   exact hj i (List.getElem?_eq_some_iff.1 hi).1 z hi
  rw [this]
  exact Pub.pure rfl
theorem okD_slices_Contains__int (l : List Int) (x : Int) (hl : l.length ≤ 4611686018427387904) : PC prog n_slices_Contains__int [.list 1 (ints l), .int .i64 x] (.bool (decide (x ∈ l))) := by
 refine PC_of_body b_slices_Contains__int (by simp) ?_
 simp only [c_slices_Contains__int, go_sem, jA, jB, jC, jD, jE, jF, jG, jH, jI, jJ, ↓reduceIte, reduceCtorEq, jP]
 refine call_pc (okD_slices_Index__int l x hl) (by simp [go_sem, ints_pur]) ?_
 cases hf : l.findIdx? (fun y => decide (x = y)) with
 | none =>
  try simp (disch := omega) only [go_sem, jA, jB, jC, jD, jE, jF, jG, jH, jI, jJ, ↓reduceIte, reduceCtorEq, jO, jM, jN, jK, jL]
  rw [List.findIdx?_eq_none_iff] at hf
  refine Pub.of_eq ?_ rfl
  have : x ∉ l := fun h => by have := hf x h; simp at this
  simp [this]
 | some i =>
  try simp (disch := omega) only [go_sem, jA, jB, jC, jD, jE, jF, jG, jH, jI, jJ, ↓reduceIte, reduceCtorEq, jO, jM, jN, jK, jL]
  rw [List.findIdx?_eq_some_iff_getElem] at hf
  obtain ⟨h1, h2, _⟩ := hf
  refine Pub.of_eq ?_ rfl
  have : x ∈ l := by have := of_decide_eq_true h2; rw [this]; exact List.getElem_mem h1
  simp [this]
theorem hc_slices_IndexFunc__Deviation (σ : St) (l : List Dv) (f : Nat) (caps : List AV) (q : Dv → Bool) (hl : l.length ≤ 1000000) (hcb : CbD σ f caps q) :
  HC prog n_slices_IndexFunc__Deviation [.list 7 (dvs l), .func f caps] σ (fun r τ => r = .int .i64 (match l.findIdx? q with | some i => (i : Int) | none => -1) ∧ AsD σ τ) := by
 obtain ⟨ob0, n0, c0⟩ := σ
 refine HC_of_body b_slices_IndexFunc__Deviation (by simp) ?_
 simp only [c_slices_IndexFunc__Deviation, go_sem, jA, jB, jC, jD, jE, jF, jG, jH, jI, jJ, ↓reduceIte, reduceCtorEq, jP]
 try simp (disch := omega) only [go_sem, jA, jB, jC, jD, jE, jF, jG, jH, jI, jJ, ↓reduceIte, reduceCtorEq, jO, jM, jN, jK, jL, dvs_length]
 refine awp_upG [4, 5, 8, 9, 10, 11, 12, 13, 14, 15, 16, 17, 18] (by kernel_rfl) l.length (fun k e τ => e 8 = .int .i64 k ∧ n0 ≤ τ.n ∧ (∀ i, i < n0 → τ.ob i = ob0 i) ∧ ∀ j, j < k → ∀ y, l[j]? = some y → q y = false) ?_ ?_
 ·exact ⟨(by first | rfl | (simp (disch := omega) only [go_sem, jA, jB, jC, jD, jE, jF, jG, jH, jI, jJ, ↓reduceIte, reduceCtorEq, jP, jO, jM, jN]; try rfl)), Nat.le_refl _, fun _ _ => rfl, fun j hj => by omega⟩
 rintro k fe ob m c2 hk hm ⟨hki, hm1, ho, hj⟩
 simp (maxSteps := 1000000) only [go_sem, jA, jB, jC, jD, jE, jF, jG, jH, jI, jJ, ↓reduceIte, reduceCtorEq, jP] at hki hm hm1 ho
 try simp (disch := omega) only [go_sem, jA, jB, jC, jD, jE, jF, jG, jH, jI, jJ, ↓reduceIte, reduceCtorEq, jO, jM, jN, jK, jL, hki, dvs_length]
 refine cond_d (fun hlt => ?_) (fun hge => ?_)
 ·have hkl : k < l.length := by omega
  have hk2 : l[k]? = some l[k] := List.getElem?_eq_getElem hkl
  have hnx := idx_nextD hk2 hj
  have hfi : q l[k] = true → l.findIdx? q = some k := fun h => by
   rw [List.findIdx?_eq_some_iff_getElem]
   exact ⟨hkl, h, fun j hjk => by have := hj j hjk l[j] (List.getElem?_eq_getElem (by omega)); simpa using this⟩
  have hcx := hcb ⟨ob, m, c2⟩ l[k] hm1 fun i hi => ho i hi
  generalize l[k] = y at *
  simp only [dvv, dvX] at hcx
  try simp (disch := omega) only [go_sem, jA, jB, jC, jD, jE, jF, jG, jH, jI, jJ, ↓reduceIte, reduceCtorEq, jO, jM, jN, jK, jL, hki, dvs_length, dvs_get, hk2, Option.map_some, dvv, dvX]
  refine ⟨by omega, by omega, hcx.mono ?_⟩
  rintro r ⟨ob2, m2, c3⟩ ⟨rfl, hA1, hA2⟩
  simp only at hA1 hA2
  try simp (disch := omega) only [go_sem, jA, jB, jC, jD, jE, jF, jG, jH, jI, jJ, ↓reduceIte, reduceCtorEq, jO, jM, jN, jK, jL]
  refine cond_split (fun hq => ?_) (fun hq => ?_) <;> try simp (disch := omega) only [go_sem, jA, jB, jC, jD, jE, jF, jG, jH, jI, jJ, ↓reduceIte, reduceCtorEq, jO, jM, jN, jK, jL, hki]
  ·rw [hfi hq]
   exact ⟨rfl, by simp only; omega, fun i hi => by simp only at hi ⊢; rw [hA2 i (by omega), ho i hi]⟩
  ·exact up_nextG m2 hkl (by omega) ⟨(by first | rfl | (simp (disch := omega) only [go_sem, jA, jB, jC, jD, jE, jF, jG, jH, jI, jJ, ↓reduceIte, reduceCtorEq, jP, jO, jM, jN]; try rfl)), by simp only [St.trunc]; omega, fun i hi => by rw [tr_ob (by omega), hA2 i (by omega), ho i hi], hnx hq⟩
 ·obtain rfl : k = l.length := by omega
  try simp (disch := omega) only [go_sem, jA, jB, jC, jD, jE, jF, jG, jH, jI, jJ, ↓reduceIte, reduceCtorEq, jO, jM, jN, jK, jL]
  have : l.findIdx? q = none := by
   rw [List.findIdx?_eq_none_iff]
   intro x hx
   obtain ⟨i, hi⟩ := List.getElem?_of_mem hx
   exact hj i (List.getElem?_eq_some_iff.1 hi).1 x hi
  rw [this]
  exact ⟨rfl, hm1, ho⟩
theorem cb_deviation_open_1 (σ : St) (b g : Nat) (ty : TypeId) (ro ap : Bool) (id : Int) (hob : σ.ob b = some ⟨g, 1, ty, ro, ap, [.int .i64 id]⟩) (hb : b < σ.n) : CbD σ n_deviation_open_1 [.ptr b g 1 0 0] (fun d => decide (d.id = id)) := by
 rintro ⟨ob, m, c⟩ x hn ho
 simp only at hn ho
 refine HC_of_body b_deviation_open_1 (by simp) ?_
 simp only [c_deviation_open_1, dvv, dvX]
 have h1 := (ho b hb).trans hob
 have h2 : ¬ b = m := by omega
 try simp (disch := omega) only [go_sem, jA, jB, jC, jD, jE, jF, jG, jH, jI, jJ, ↓reduceIte, reduceCtorEq, jO, jM, jN, jK, jL, h1, h2]
 refine ⟨?_, fun i hi => ?_⟩
 ·simp only; omega
 ·simp only at hi ⊢
  rw [upd_ne _ _ _ _ (by omega)]
def askR (K : Dk) (who code now kind : Int) (d : Dv) (i : Nat) : Int × Pn × Int :=
 if d.wd = true ∨ d.to < now then (0, pn0, 44) else if (prsS K who).2 = false then (0, pn0, 11) else
  if code ≠ codeS (prsS K who).1.key kind d then (0, pn0, 43) else ((i : Int), (prsS K who).1, 0)
theorem askG_find (K : Dk) (id who code now kind : Int) : ∀ (l : List Dv) (i : Nat), askG K id who code now kind l i = match l.findIdx? (fun d => decide (d.id = id)) with
  | none => (0, pn0, 9)
  | some j => askR K who code now kind (gD l j) (i + j)
 | [], i => rfl
 | d :: l, i => by
  rw [askG, List.findIdx?_cons]
  by_cases h : d.id = id
  ·rw [if_neg (by simp [h])]; simp only [h, decide_true]; rfl
  ·rw [if_pos h, askG_find K id who code now kind l (i + 1)]
   simp only [h, decide_false]
   cases l.findIdx? (fun d => decide (d.id = id)) with
   | none => rfl
   | some j => simp [gD, Nat.add_assoc, Nat.add_comm 1 j]
theorem ok_deviation_open (K : Dk) (hB : DkS K) (id who code kind now : Int) : PC prog n_deviation_open [dkv K, .int .i64 id, .int .i64 who, .int .i64 code, .int .i64 kind, .int .i64 now]
  (.tuple [.int .i64 (askS K id who code now kind).1, pnv (askS K id who code now kind).2.1, .int .i64 (askS K id who code now kind).2.2]) := by
 refine PC_of_body b_deviation_open (by simp) ?_
 have hV := ok_deviation_valid K hB
 have hp := dkv_pur K
 simp only [c_deviation_open, dkv] at hV hp ⊢
 try simp (disch := omega) only [go_sem, jA, jB, jC, jD, jE, jF, jG, jH, jI, jJ, ↓reduceIte, reduceCtorEq, jO, jM, jN, jK, jL]
 refine call_pc hV (by simp [hp]) ?_
 rw [askS]
 cases hc : chkD K
 ·try simp (disch := omega) only [go_sem, jA, jB, jC, jD, jE, jF, jG, jH, jI, jJ, ↓reduceIte, reduceCtorEq, jO, jM, jN, jK, jL]
  exact Pub.pure rfl
 rw [if_neg (by simp), askG_find]
 have hnx := chkD_nx hc
 have hasc := chkD_asc hc
 try simp (disch := omega) only [go_sem, jA, jB, jC, jD, jE, jF, jG, jH, jI, jJ, ↓reduceIte, reduceCtorEq, jO, jM, jN, jK, jL]
 refine (hc_slices_IndexFunc__Deviation _ K.ds n_deviation_open_1 _ (fun d => decide (d.id = id)) (by omega) (cb_deviation_open_1 _ 1 1 3 false true id (by try simp (disch := omega) only [go_sem, jA, jB, jC, jD, jE, jF, jG, jH, jI, jJ, ↓reduceIte, reduceCtorEq, jO, jM, jN, jK, jL]) (by simp only; omega))).mono ?_
 rintro r ⟨ob, m, c⟩ ⟨rfl, hA1, hA2⟩
 simp only at hA1 hA2
 have u0 := hA2 0 (by omega)
 have u2 := hA2 2 (by omega)
 try simp (disch := omega) only [go_sem, jA, jB, jC, jD, jE, jF, jG, jH, jI, jJ, ↓reduceIte, reduceCtorEq, jO, jM, jN, jK, jL] at u0
 try simp (disch := omega) only [go_sem, jA, jB, jC, jD, jE, jF, jG, jH, jI, jJ, ↓reduceIte, reduceCtorEq, jO, jM, jN, jK, jL] at u2
 cases hf : K.ds.findIdx? (fun d => decide (d.id = id)) with
 | none =>
  try simp (disch := omega) only [go_sem, jA, jB, jC, jD, jE, jF, jG, jH, jI, jJ, ↓reduceIte, reduceCtorEq, jO, jM, jN, jK, jL, u0, u2]
  exact Pub.pure rfl
 | some j =>
  rw [List.findIdx?_eq_some_iff_getElem] at hf
  obtain ⟨hj, hj2, _⟩ := hf
  have hg := gD_get hj
  have hF := ok_deviation_find K who (by omega) hasc
  have hCo := ok_deviation_Code (prsS K who).1.key kind (gD K.ds j)
  simp only [askR, Nat.zero_add]
  generalize gD K.ds j = d at *
  have z0 : ¬ 0 = m := by omega
  have z2 : ¬ 2 = m := by omega
  simp only [dvv, dvX] at hCo
  try simp (disch := omega) only [go_sem, jA, jB, jC, jD, jE, jF, jG, jH, jI, jJ, ↓reduceIte, reduceCtorEq, jO, jM, jN, jK, jL, u0, u2]
  refine cond_d (fun h1 => absurd h1 (by omega)) (fun h1 => ?_)
  try simp (disch := omega) only [go_sem, jA, jB, jC, jD, jE, jF, jG, jH, jI, jJ, ↓reduceIte, reduceCtorEq, jO, jM, jN, jK, jL, u0, u2, z0, z2, dvs_length, dvs_get, hg, Option.map_some, dvv, dvX]
  refine ⟨by omega, by omega, ?_⟩
  cases hw : d.wd
  case true =>
   try simp (disch := omega) only [go_sem, jA, jB, jC, jD, jE, jF, jG, jH, jI, jJ, ↓reduceIte, reduceCtorEq, jO, jM, jN, jK, jL, u0, u2, z0, z2]
   exact Pub.pure rfl
  try simp (disch := omega) only [go_sem, jA, jB, jC, jD, jE, jF, jG, jH, jI, jJ, ↓reduceIte, reduceCtorEq, jO, jM, jN, jK, jL, u0, u2, z0, z2]
  refine cond_d (fun h3 => ?_) (fun h3 => ?_) <;> try simp (disch := omega) only [go_sem, jA, jB, jC, jD, jE, jF, jG, jH, jI, jJ, ↓reduceIte, reduceCtorEq, jO, jM, jN, jK, jL, u0, u2, z0, z2]
  ·rw [if_pos (by first | exact h3 | exact .inr h3)]
   exact Pub.pure rfl
  rw [if_neg (by simp; omega)]
  generalize prsS K who = P at *
  obtain ⟨p, ok⟩ := P
  simp only at hF hCo ⊢
  have z4 : ¬ 0 = m + 1 := by omega
  have z5 : ¬ 2 = m + 1 := by omega
  have z6 : ¬ m = m + 1 := by omega
  refine call_pc hF (by simp [go_sem, pns_pur]) ?_
  try simp (disch := omega) only [go_sem, jA, jB, jC, jD, jE, jF, jG, jH, jI, jJ, ↓reduceIte, reduceCtorEq, jO, jM, jN, jK, jL, pnv, u0, u2, z0, z2, z4, z5, z6]
  cases ok
  ·try simp (disch := omega) only [go_sem, jA, jB, jC, jD, jE, jF, jG, jH, jI, jJ, ↓reduceIte, reduceCtorEq, jO, jM, jN, jK, jL, u0, u2, z0, z2, z4, z5, z6]
   exact Pub.pure rfl
  try simp (disch := omega) only [go_sem, jA, jB, jC, jD, jE, jF, jG, jH, jI, jJ, ↓reduceIte, reduceCtorEq, jO, jM, jN, jK, jL, u0, u2, z0, z2, z4, z5, z6, hw]
  rw [hw] at hCo
  refine call_pc hCo (by simp [go_sem, ints_pur]) ?_
  try simp (disch := omega) only [go_sem, jA, jB, jC, jD, jE, jF, jG, jH, jI, jJ, ↓reduceIte, reduceCtorEq, jO, jM, jN, jK, jL, u0, u2, z0, z2, z4, z5, z6]
  refine cond_n (fun h5 => ?_) (fun h5 => ?_) <;> try simp (disch := omega) only [go_sem, jA, jB, jC, jD, jE, jF, jG, jH, jI, jJ, ↓reduceIte, reduceCtorEq, jO, jM, jN, jK, jL, u0, u2, z0, z2, z4, z5, z6]
  ·rw [if_pos h5]
   exact Pub.pure rfl
  ·rw [if_neg (by simpa using h5)]
   exact Pub.pure rfl
theorem ok_deviation_Request (K : Dk) (hB : DkS K) (site fr to rel : Int) : PC prog n_deviation_Request [dkv K, .int .i64 site, .int .i64 fr, .int .i64 to, .int .i64 rel] (.tuple [dkv (reqS K site fr to rel).1, .int .i64 (reqS K site fr to rel).2.1, .int .i64 (reqS K site fr to rel).2.2]) := by
 refine PC_of_body b_deviation_Request (by simp) ?_
 simp only [c_deviation_Request]
 have hKp := dkv_pur K
 have bad : ∀ {σ : St} (e : Int), reqS K site fr to rel = (dk0, 0, e) → Pub σ (.tuple [.agg [.nil, .int .i64 0, .nil], .int .i64 0, .int .i64 e]) (.tuple [dkv (reqS K site fr to rel).1, .int .i64 (reqS K site fr to rel).2.1, .int .i64 (reqS K site fr to rel).2.2]) := fun e h => by
  rw [h]; exact Pub.tu (.cons pub_dk0 (.cons (Pub.e rfl) (.cons (Pub.e rfl) .nil)))
 try simp (disch := omega) only [go_sem, jA, jB, jC, jD, jE, jF, jG, jH, jI, jJ, ↓reduceIte, reduceCtorEq, jO, jM, jN, jK, jL, dkv_flat, dkv_len, dkv_tk, dkv_dt]
 refine call_pc (ok_deviation_valid K hB) (by simp [hKp]) ?_
 cases hc : chkD K
 ·try simp (disch := omega) only [go_sem, jA, jB, jC, jD, jE, jF, jG, jH, jI, jJ, ↓reduceIte, reduceCtorEq, jO, jM, jN, jK, jL]
  exact bad 50 (by rw [reqS, if_pos hc])
 try simp (disch := omega) only [go_sem, jA, jB, jC, jD, jE, jF, jG, jH, jI, jJ, ↓reduceIte, reduceCtorEq, jO, jM, jN, jK, jL]
 refine gd_fd rfl (fun h2 => ?_) (fun h2 => ?_) <;> try simp (disch := omega) only [go_sem, jA, jB, jC, jD, jE, jF, jG, jH, jI, jJ, ↓reduceIte, reduceCtorEq, jO, jM, jN, jK, jL]
 ·exact bad 40 (by rw [reqS, if_neg (by simp [hc]), if_pos (by simp [inD]; intros; omega)])
 refine cond_d (fun h2' => ?_) (fun h2' => ?_) <;> try simp (disch := omega) only [go_sem, jA, jB, jC, jD, jE, jF, jG, jH, jI, jJ, ↓reduceIte, reduceCtorEq, jO, jM, jN, jK, jL]
 ·exact bad 40 (by rw [reqS, if_neg (by simp [hc]), if_pos (by simp [inD]; intros; omega)])
 have h2 : inD site 0 5 = true := by simp [inD]; omega
 refine gd_fd rfl (fun h3 => ?_) (fun h3 => ?_) <;> try simp (disch := omega) only [go_sem, jA, jB, jC, jD, jE, jF, jG, jH, jI, jJ, ↓reduceIte, reduceCtorEq, jO, jM, jN, jK, jL]
 ·exact bad 6 (by rw [reqS, if_neg (by simp [hc]), if_neg (by simp [h2]), if_pos (.inl h3)])
 refine gd_fd rfl (fun h4 => ?_) (fun h4 => ?_) <;> try simp (disch := omega) only [go_sem, jA, jB, jC, jD, jE, jF, jG, jH, jI, jJ, ↓reduceIte, reduceCtorEq, jO, jM, jN, jK, jL]
 ·exact bad 6 (by rw [reqS, if_neg (by simp [hc]), if_neg (by simp [h2]), if_pos (.inr (.inl h4))])
 refine cond_d (fun h5 => ?_) (fun h5 => ?_) <;> try simp (disch := omega) only [go_sem, jA, jB, jC, jD, jE, jF, jG, jH, jI, jJ, ↓reduceIte, reduceCtorEq, jO, jM, jN, jK, jL]
 ·exact bad 6 (by rw [reqS, if_neg (by simp [hc]), if_neg (by simp [h2]), if_pos (.inr (.inr h5))])
 refine gd_fd rfl (fun h6 => ?_) (fun h6 => ?_) <;> try simp (disch := omega) only [go_sem, jA, jB, jC, jD, jE, jF, jG, jH, jI, jJ, ↓reduceIte, reduceCtorEq, jO, jM, jN, jK, jL]
 ·exact bad 1 (by rw [reqS, if_neg (by simp [hc]), if_neg (by simp [h2]), if_neg (by omega), if_pos (by simp [inD]; intros; omega)])
 refine cond_d (fun h6' => ?_) (fun h6' => ?_) <;> try simp (disch := omega) only [go_sem, jA, jB, jC, jD, jE, jF, jG, jH, jI, jJ, ↓reduceIte, reduceCtorEq, jO, jM, jN, jK, jL, dkv_2, dkv_1, dvs_length]
 ·exact bad 1 (by rw [reqS, if_neg (by simp [hc]), if_neg (by simp [h2]), if_neg (by omega), if_pos (by simp [inD]; intros; omega)])
 have h6 : inD rel 0 1073741824 = true := by simp [inD]; omega
 refine gd_fd rfl (fun h7 => ?_) (fun h7 => ?_) <;> try simp (disch := omega) only [go_sem, jA, jB, jC, jD, jE, jF, jG, jH, jI, jJ, ↓reduceIte, reduceCtorEq, jO, jM, jN, jK, jL, dkv_1]
 ·exact bad 10 (by rw [reqS, if_neg (by simp [hc]), if_neg (by simp [h2]), if_neg (by omega), if_neg (by simp [h6]), if_pos (.inl (by omega))])
 refine cond_d (fun h8 => ?_) (fun h8 => ?_) <;> try simp (disch := omega) only [go_sem, jA, jB, jC, jD, jE, jF, jG, jH, jI, jJ, ↓reduceIte, reduceCtorEq, jO, jM, jN, jK, jL]
 ·exact bad 10 (by rw [reqS, if_neg (by simp [hc]), if_neg (by simp [h2]), if_neg (by omega), if_neg (by simp [h6]), if_pos (.inr h8)])
 try simp (disch := omega) only [go_sem, jA, jB, jC, jD, jE, jF, jG, jH, jI, jJ, ↓reduceIte, reduceCtorEq, jO, jM, jN, jK, jL, dkv_flat, dkv_len, dkv_tk, dkv_dt]
 have hS : reqS K site fr to rel = (⟨K.ps, K.nx + 1, K.ds ++ [⟨K.nx, site, fr, to, rel, [], false⟩]⟩, K.nx, 0) := by
  rw [reqS, if_neg (by simp [hc]), if_neg (by simp [h2]), if_neg (by omega), if_neg (by simp [h6]), if_neg (by omega)]
 have hnx := chkD_nx hc
 refine (hc_deviation_twin _ K (by omega) (by omega) fun d hd => by have := chkD_sg hc hd; omega).mono ?_
 rintro r ⟨ob1, n1, c1⟩ ⟨XP, XA, Fs, l1, rfl, hl1, hl2, hP, hPl, hA, hI, hG, hfr⟩
 simp only at hl1 hl2 hPl hfr
 have u0 := hfr 0 (by omega)
 have u1 := hfr 1 (by omega)
 try simp (disch := omega) only [go_sem, jA, jB, jC, jD, jE, jF, jG, jH, jI, jJ, ↓reduceIte, reduceCtorEq, jO, jM, jN, jK, jL] at u0
 try simp (disch := omega) only [go_sem, jA, jB, jC, jD, jE, jF, jG, jH, jI, jJ, ↓reduceIte, reduceCtorEq, jO, jM, jN, jK, jL] at u1
 have z0 : ¬ 0 = n1 := by omega
 have z1 : ¬ 1 = n1 := by omega
 try simp (disch := omega) only [go_sem, jA, jB, jC, jD, jE, jF, jG, jH, jI, jJ, ↓reduceIte, reduceCtorEq, jO, jM, jN, jK, jL, u0, u1, z0, z1, hP.flat, hP.cells, hP.one, hA.flat, hA.cells, hA.one, dkv_1]
 have hXl : (dvXs K.ds Fs).length ≤ 64 := by simp [dvXs]; omega
 have hFl : Fs.length = K.ds.length := by have := hI.1; simpa [inS] using this
 refine app_slr (b := 72) (hA.move (by simp only; omega) fun i hi hh => ?_) (by omega) (by omega) fun X' τ2 hX2 kX => ?_
 ·simp only at hi ⊢
  rw [upd_ne _ _ _ _ (by omega), upd_ne _ _ _ _ (by omega)]
 obtain ⟨ob3, m3, c3⟩ := τ2
 have oX : ∀ i, i < l1 → Oth XA i := fun i hi => Oth.em fun h => by have := (hG.low i h).1; omega
 have oXm : Oth XA n1 := hA.oth (Nat.le_refl _)
 have q0 := kX.2.1 0 (by simp only; omega) (oX 0 (by omega))
 have q1 := kX.2.1 1 (by simp only; omega) (oX 1 (by omega))
 have qm := kX.2.1 n1 (by simp only; omega) oXm
 have q2 : ∀ i, 2 ≤ i → i < n1 → Oth XA i → ob3 i = ob1 i := fun i h2 hi ho => (kX.2.1 i (by simp only; omega) ho).trans (by simp only; rw [upd_ne _ _ _ _ (by omega), upd_ne _ _ _ _ (by omega)])
 have hn3 : n1 + 1 ≤ m3 := kX.1
 try simp (disch := omega) only [go_sem, jA, jB, jC, jD, jE, jF, jG, jH, jI, jJ, ↓reduceIte, reduceCtorEq, jO, jM, jN, jK, jL, u0, z0] at q0
 try simp (disch := omega) only [go_sem, jA, jB, jC, jD, jE, jF, jG, jH, jI, jJ, ↓reduceIte, reduceCtorEq, jO, jM, jN, jK, jL, u1, z1] at q1
 try simp (disch := omega) only [go_sem, jA, jB, jC, jD, jE, jF, jG, jH, jI, jJ, ↓reduceIte, reduceCtorEq, jO, jM, jN, jK, jL] at qm
 have y0 : ¬ n1 = 0 := by omega
 have y1 : ¬ n1 = 1 := by omega
 try simp (disch := omega) only [go_sem, jA, jB, jC, jD, jE, jF, jG, jH, jI, jJ, ↓reduceIte, reduceCtorEq, jO, jM, jN, jK, jL, q0, q1, qm, z0, z1, y0, y1, hP.flat, hP.cells, hP.one, hX2.flat, hX2.cells, hX2.one, dkv_1]
 rw [hS]
 have oX2 : ∀ i, i < l1 → Oth X' i := fun i hi => kX.2.2 i (by simp only; omega) (oX i hi)
 have oX2m : Oth X' n1 := kX.2.2 n1 (by simp only; omega) oXm
 have hX3 : SlR 7 tyDv ⟨ob3, m3, c3⟩ (dvXs (K.ds ++ [⟨K.nx, site, fr, to, rel, [], false⟩]) (Fs ++ [.nil])) X' := by rw [dvXs_snoc (by omega)]; exact hX2
 refine Pub.tu (.cons (pub_dk (hP.move (by simp only; omega) fun i hi hh => ?_) (hX3.move (Nat.le_refl _) fun i hi hh => ?_) ?_) (.cons (Pub.e rfl) (.cons (Pub.e rfl) .nil)))
 ·have h9 := hPl i hh
  simp only at hi ⊢
  rw [upd_ne _ _ _ _ (by omega), upd_ne _ _ _ _ (by omega), upd_ne _ _ _ _ (by omega), q2 i h9.1 hi (oX i h9.2)]
 ·have h9 : 2 ≤ i := Nat.le_of_not_lt fun h => hh (oX2 i (by omega))
  have h8 : i ≠ n1 := fun e => hh (e ▸ oX2m)
  simp only
  rw [upd_ne _ _ _ _ (by omega), upd_ne _ _ _ _ h8, upd_ne _ _ _ _ h8]
 ·rw [show inS (K.ds ++ [⟨K.nx, site, fr, to, rel, [], false⟩]) = inS K.ds ++ [ints []] by simp [inS]]
  refine IC.snoc (hI.move (by simp only; omega) fun E hE i hi hlt => ?_) SlR.nil
  have h9 := (hG.loE E hE i hi).1
  simp only at hlt ⊢
  rw [upd_ne _ _ _ _ (by omega), upd_ne _ _ _ _ (by omega), upd_ne _ _ _ _ (by omega), q2 i (by omega) hlt (hG.sep E hE i hi)]
theorem sgnE_mem {K : Dk} {who role : Int} : ∀ {l : List Int}, l.length ≤ 1 → who ∈ l → sgnE K who role l = 46
 | [], _, h => by simp at h
 | [s], _, h => by simp at h; subst h; simp [sgnE]
 | _ :: _ :: _, h, _ => by simp at h
theorem ok_deviation_Sign (K : Dk) (hB : DkS K) (id who code now : Int) : PC prog n_deviation_Sign [dkv K, .int .i64 id, .int .i64 who, .int .i64 code, .int .i64 now] (.tuple [dkv (sgnS K id who code now).1, .int .i64 (sgnS K id who code now).2]) := by
 have hKp := dkv_pur K
 have hS0 : sgnS K id who code now = if (askS K id who code now 1).2.2 ≠ 0 then (dk0, (askS K id who code now 1).2.2) else
  if (gD K.ds (askS K id who code now 1).1.toNat).sg.length = 2 then (dk0, 46) else if sgnE K who (askS K id who code now 1).2.1.role (gD K.ds (askS K id who code now 1).1.toNat).sg ≠ 0 then (dk0, sgnE K who (askS K id who code now 1).2.1.role (gD K.ds (askS K id who code now 1).1.toNat).sg) else
  (⟨K.ps, K.nx, K.ds.set (askS K id who code now 1).1.toNat { gD K.ds (askS K id who code now 1).1.toNat with sg := (gD K.ds (askS K id who code now 1).1.toNat).sg ++ [who] }⟩, 0) := rfl
 refine PC_of_body b_deviation_Sign (by simp) ?_
 simp only [c_deviation_Sign]
 try simp (disch := omega) only [go_sem, jA, jB, jC, jD, jE, jF, jG, jH, jI, jJ, ↓reduceIte, reduceCtorEq, jO, jM, jN, jK, jL, dkv_flat, dkv_len, dkv_tk, dkv_dt]
 refine call_pc (ok_deviation_open K hB id who code 1 now) (by simp [hKp, go_sem]) ?_
 have hok := @askS_ok K id who code now 1
 have hck := @askS_chk K id who code now 1
 generalize askS K id who code now 1 = a at *
 obtain ⟨i, p, e⟩ := a
 simp only at hok hS0 hck
 try simp (disch := omega) only [go_sem, jA, jB, jC, jD, jE, jF, jG, jH, jI, jJ, ↓reduceIte, reduceCtorEq, jO, jM, jN, jK, jL, pnv]
 refine cond_n (fun h1 => ?_) (fun h1 => ?_)
 ·try simp (disch := omega) only [go_sem, jA, jB, jC, jD, jE, jF, jG, jH, jI, jJ, ↓reduceIte, reduceCtorEq, jO, jM, jN, jK, jL]
  rw [hS0, if_pos h1]
  exact Pub.tu (.cons pub_dk0 (.cons (Pub.e rfl) .nil))
 obtain rfl : e = 0 := by simpa using h1
 rw [if_neg (by simp)] at hS0
 obtain ⟨j, rfl, hj⟩ := hok rfl
 have hc := hck rfl
 have hnx := chkD_nx hc
 have hasc := chkD_asc hc
 rw [Int.toNat_natCast] at hS0
 have hg := gD_get hj
 have hgk := chkD_sg hc (List.mem_of_getElem? hg)
 generalize gD K.ds j = d at *
 have dv5 : (dvv d).cells.getD 5 .junk = .list 1 (ints d.sg) := rfl
 try simp (disch := omega) only [go_sem, jA, jB, jC, jD, jE, jF, jG, jH, jI, jJ, ↓reduceIte, reduceCtorEq, jO, jM, jN, jK, jL, dkv_flat, dkv_len, dkv_tk, dkv_dt, dkv_2, dvs_length, dvs_get, hg, Option.map_some, dv5, ints_length]
 refine ⟨by omega, by omega, ?_⟩
 refine gd_fd rfl (fun h2 => ?_) (fun h2 => ?_) <;> try simp (disch := omega) only [go_sem, jA, jB, jC, jD, jE, jF, jG, jH, jI, jJ, ↓reduceIte, reduceCtorEq, jO, jM, jN, jK, jL]
 ·rw [hS0, if_pos (by omega)]
  exact Pub.tu (.cons pub_dk0 (.cons (Pub.e rfl) .nil))
 rw [if_neg (by omega)] at hS0
 refine call_pc (okD_slices_Contains__int d.sg who (by omega)) (by simp [go_sem, ints_pur]) ?_
 try simp (disch := omega) only [go_sem, jA, jB, jC, jD, jE, jF, jG, jH, jI, jJ, ↓reduceIte, reduceCtorEq, jO, jM, jN, jK, jL]
 refine cond_d (fun h3 => ?_) (fun h3 => ?_) <;> try simp (disch := omega) only [go_sem, jA, jB, jC, jD, jE, jF, jG, jH, jI, jJ, ↓reduceIte, reduceCtorEq, jO, jM, jN, jK, jL, ints_length]
 ·have hs := sgnE_mem (K := K) (role := p.role) (by omega) h3
  rw [hS0, if_pos (by rw [hs]; omega), hs]
  exact Pub.tu (.cons pub_dk0 (.cons (Pub.e rfl) .nil))
 refine awp_upG [11, 17, 18, 19, 52, 53, 54, 55, 56, 57, 58, 59, 60, 61, 62, 63, 64, 65, 66, 67, 68, 69] (by kernel_rfl) d.sg.length (fun i e σ => e 52 = .int .i64 i ∧ σ.ob 0 = some ⟨0, 3, 31, false, true, [dkv K]⟩ ∧ σ.ob 1 = some ⟨1, 3, 31, false, true, [.agg [.nil, .int .i64 0, .nil]]⟩ ∧ σ.ob 2 = some ⟨2, 3, 62, false, true, [.agg [.int .i64 p.id, .int .i64 p.role, .int .i64 p.key]]⟩ ∧ sgnE K who p.role d.sg = sgnE K who p.role (d.sg.drop i)) ?_ ?_
 ·exact ⟨(by first | rfl | (simp (disch := omega) only [go_sem, jA, jB, jC, jD, jE, jF, jG, jH, jI, jJ, ↓reduceIte, reduceCtorEq, jP, jO, jM, jN]; try rfl)), by try simp (disch := omega) only [go_sem, jA, jB, jC, jD, jE, jF, jG, jH, jI, jJ, ↓reduceIte, reduceCtorEq, jO, jM, jN, jK, jL], by try simp (disch := omega) only [go_sem, jA, jB, jC, jD, jE, jF, jG, jH, jI, jJ, ↓reduceIte, reduceCtorEq, jO, jM, jN, jK, jL], by try simp (disch := omega) only [go_sem, jA, jB, jC, jD, jE, jF, jG, jH, jI, jJ, ↓reduceIte, reduceCtorEq, jO, jM, jN, jK, jL], rfl⟩
 rintro i fe ob m c hi hm ⟨h52, v0, v1, v2, hsg⟩
 simp (maxSteps := 1000000) only [go_sem, jA, jB, jC, jD, jE, jF, jG, jH, jI, jJ, ↓reduceIte, reduceCtorEq, jP] at h52 hm v0 v1 v2
 try simp (disch := omega) only [go_sem, jA, jB, jC, jD, jE, jF, jG, jH, jI, jJ, ↓reduceIte, reduceCtorEq, jO, jM, jN, jK, jL, h52]
 refine cond_d (fun hlt => ?_) (fun hge => ?_)
 ·have hil : i < d.sg.length := by omega
  rw [List.drop_eq_getElem_cons hil, sgnE] at hsg
  have hgi := ints_get d.sg i
  rw [List.getElem?_eq_getElem hil] at hgi
  have hmem := List.getElem_mem hil
  have hF := ok_deviation_find K d.sg[i] (by omega) hasc
  generalize d.sg[i] = s at *
  rw [if_neg (fun e : s = who => h3 (by rw [← e]; exact hmem))] at hsg
  have z4 : ¬ 0 = m := by omega
  have z5 : ¬ 1 = m := by omega
  have z6 : ¬ 2 = m := by omega
  try simp (disch := omega) only [go_sem, jA, jB, jC, jD, jE, jF, jG, jH, jI, jJ, ↓reduceIte, reduceCtorEq, jO, jM, jN, jK, jL, h52, hgi, Option.map_some, ints_length, v0, v1, v2, z4, z5, z6, dkv_0]
  refine ⟨by omega, by omega, ?_⟩
  refine call_pc hF (by simp [go_sem, pns_pur]) ?_
  try simp (disch := omega) only [go_sem, jA, jB, jC, jD, jE, jF, jG, jH, jI, jJ, ↓reduceIte, reduceCtorEq, jO, jM, jN, jK, jL, pnv, v0, v1, v2, z4, z5, z6]
  refine cond_d (fun h4 => ?_) (fun h4 => ?_)
  ·try simp (disch := omega) only [go_sem, jA, jB, jC, jD, jE, jF, jG, jH, jI, jJ, ↓reduceIte, reduceCtorEq, jO, jM, jN, jK, jL, v1, z5]
   rw [if_pos h4] at hsg
   rw [hS0, if_pos (by rw [hsg]; omega), hsg]
   exact Pub.tu (.cons pub_dk0 (.cons (Pub.e rfl) .nil))
  rw [if_neg h4] at hsg
  try simp (disch := omega) only [go_sem, jA, jB, jC, jD, jE, jF, jG, jH, jI, jJ, ↓reduceIte, reduceCtorEq, jO, jM, jN, jK, jL, h52]
  refine up_nextG m hil (by omega) ⟨(by first | rfl | (simp (disch := omega) only [go_sem, jA, jB, jC, jD, jE, jF, jG, jH, jI, jJ, ↓reduceIte, reduceCtorEq, jP, jO, jM, jN]; try rfl)), ?_, ?_, ?_, hsg⟩
  all_goals (simp only [St.trunc]; rw [if_pos (by omega), upd_ne _ _ _ _ (by omega), upd_ne _ _ _ _ (by omega)]; first | exact v0 | exact v1 | exact v2)
 obtain rfl : i = d.sg.length := by omega
 rw [List.drop_length, sgnE] at hsg
 rw [if_neg (by simp [hsg])] at hS0
 try simp (disch := omega) only [go_sem, jA, jB, jC, jD, jE, jF, jG, jH, jI, jJ, ↓reduceIte, reduceCtorEq, jO, jM, jN, jK, jL, v0, dkv_flat, dkv_len, dkv_tk, dkv_dt]
 refine (hc_deviation_twin _ K (by omega) (by omega) fun d hd => by have := chkD_sg hc hd; omega).mono ?_
 rintro r ⟨ob1, n1, c1⟩ ⟨XP, XA, Fs, l1, rfl, hl1, hl2, hP, hPl, hA, hI, hG, hfr⟩
 simp only at hl1 hl2 hPl hfr
 have u1 := (hfr 1 (by omega)).trans v1
 have hFl : Fs.length = K.ds.length := by have := hI.1; simpa [inS] using this
 have hjF : j < Fs.length := by omega
 have hFg : Fs[j]? = some Fs[j] := List.getElem?_eq_getElem hjF
 generalize hEE : Fs[j] = E at *
 have hxg := dvXs_get hg hFg
 have hXl : (dvXs K.ds Fs).length = K.ds.length := by simp [dvXs]; omega
 rcases hA with ⟨_, h0⟩ | ⟨ia, ga, rfl, hia, hoa⟩
 ·rw [h0] at hXl; simp at hXl; omega
 simp only at hia hoa
 have hal : l1 ≤ ia := (hG.low ia fun h => h _ _ _ _ rfl).1
 have hEs := hI.2 j E (ints d.sg) hFg (by simp [inS, hg])
 have z0 : ¬ ia = n1 := by omega
 have z1 : ¬ n1 = ia := by omega
 have z2 : ¬ 1 = n1 := by omega
 have z3 : ¬ 1 = ia := by omega
 have d5 : ∀ d E, (dvX d E).cells.getD 5 .junk = E := fun _ _ => rfl
 have hEo : ∀ i, ¬ Oth E i → l1 ≤ i ∧ i < n1 := fun i hi => hG.loE E (List.mem_of_getElem? hFg) i hi
 have hEa : Oth E ia := Oth.em fun h => Oth.ne (hG.sep E (List.mem_of_getElem? hFg) ia h) rfl
 try simp (disch := omega) only [go_sem, jA, jB, jC, jD, jE, jF, jG, jH, jI, jJ, ↓reduceIte, reduceCtorEq, jO, jM, jN, jK, jL, u1, hP.flat, hP.cells, hP.one, hoa, hxg, hXl, z0, z1, z2, z3, d5]
 refine ⟨by omega, by omega, ?_⟩
 try simp (disch := omega) only [go_sem, jA, jB, jC, jD, jE, jF, jG, jH, jI, jJ, ↓reduceIte, reduceCtorEq, jO, jM, jN, jK, jL, u1, hP.flat, hP.cells, hP.one, hoa, hxg, hXl, z0, z1, z2, z3, d5]
 have oE : ∀ i, i < l1 → Oth E i := fun i hi => Oth.em fun h => by have := (hEo i h).1; omega
 have oEn : Oth E n1 := hEs.oth (Nat.le_refl _)
 refine app_slr (b := 8) (hEs.move (by simp only; omega) fun i hi hh => ?_) (by rw [ints_length]; omega) (by rw [ints_length]; omega) fun E' τ5 hE5 k5 => ?_
 ·simp only at hi ⊢
  rw [upd_ne _ _ _ _ (by omega), upd_ne _ _ _ _ (by omega)]
 obtain ⟨ob5, m5, c5⟩ := τ5
 have hm5 : n1 + 1 ≤ m5 := k5.1
 have q5 : ∀ i, i < n1 → Oth E i → ob5 i = ob1 i := fun i hi ho => (k5.2.1 i (by simp only; omega) ho).trans (by simp only; rw [upd_ne _ _ _ _ (by omega), upd_ne _ _ _ _ (by omega)])
 have w1 := (q5 1 (by omega) (oE 1 (by omega))).trans u1
 have wa := (q5 ia (by omega) hEa).trans hoa
 have wn := k5.2.1 n1 (by simp only; omega) oEn
 try simp (disch := omega) only [go_sem, jA, jB, jC, jD, jE, jF, jG, jH, jI, jJ, ↓reduceIte, reduceCtorEq, jO, jM, jN, jK, jL] at wn
 have p5 : ∀ y, setc 5 E' (dvX d y) = dvX { d with sg := d.sg ++ [who] } E' := fun y => by
  rcases hE5 with ⟨rfl, _⟩ | ⟨_, _, rfl, _⟩ <;> rfl
 have z6 : ¬ n1 = 1 := by omega
 have z7 : ¬ ia = 1 := by omega
 try simp (disch := omega) only [go_sem, jA, jB, jC, jD, jE, jF, jG, jH, jI, jJ, ↓reduceIte, reduceCtorEq, jO, jM, jN, jK, jL, wa, wn, hoa, hxg, hXl, w1, z0, z1, z2, z3, z6, z7, hE5.flat, hE5.cells, hE5.one, p5, hP.flat, hP.cells, hP.one]
 refine ⟨by omega, by omega, ?_⟩
 rw [hS0]
 have hD : (dvXs K.ds Fs).set j (dvX { d with sg := d.sg ++ [who] } E') = dvXs (K.ds.set j { d with sg := d.sg ++ [who] }) (Fs.set j E') := zip_set dvX _ _ _ _ _
 have hlen : (dvXs (K.ds.set j { d with sg := d.sg ++ [who] }) (Fs.set j E')).length = K.ds.length := by simp [dvXs]; omega
 rw [hD]
 have oE5 : ∀ i, i < n1 → Oth E i → Oth E' i := fun i hi ho => k5.2.2 i (by simp only; omega) ho
 have fz : ∀ (x y : Option AObj) i, i ≠ ia → i ≠ 1 → upd (upd ob5 ia x) 1 y i = ob5 i := fun x y i h1 h2 => by rw [upd_ne _ _ _ _ h2, upd_ne _ _ _ _ h1]
 refine Pub.tu (.cons (pub_dk (Fs := Fs.set j E') (hP.move (by simp only; omega) fun i hi hh => ?_) (.inr ⟨ia, ga, by rw [hlen], by simp only; omega, ?_⟩) ?_) (.cons (Pub.e rfl) .nil))
 ·have h9 := hPl i hh
  simp only at hi ⊢
  rw [fz _ _ i (by omega) (by omega), q5 i (by omega) (oE i h9.2)]
 ·simp only
  rw [upd_ne _ _ _ _ (by omega), upd_same]
 ·rw [show inS (K.ds.set j { d with sg := d.sg ++ [who] }) = (inS K.ds).set j (ints (d.sg ++ [who])) by simp [inS, List.map_set]]
  have happ : ints (d.sg ++ [who]) = ints d.sg ++ [.int .i64 who] := by simp [ints]
  refine hI.set ?_ fun i F L hne hF hL => ?_
  ·rw [happ]
   refine hE5.move (Nat.le_refl _) fun i hi hh => ?_
   have hx1 : ¬ i = ia := fun h => hh (h ▸ oE5 ia (by omega) hEa)
   have hx2 : ¬ i = 1 := fun h => hh (h ▸ oE5 1 (by omega) (oE 1 (by omega)))
   simp only
   rw [fz _ _ i hx1 hx2]
  ·refine (hI.2 i F L hF hL).move (by simp only; omega) fun q hq hh => ?_
   simp only at hq
   have h9 := (hG.loE F (List.mem_of_getElem? hF) q hh).1
   have hx1 : ¬ q = ia := fun h => Oth.ne (hG.sep F (List.mem_of_getElem? hF) q hh) h.symm
   have hx3 := hG.dj i j F E hne hF hFg q hh
   simp only
   rw [fz _ _ q hx1 (by omega), q5 q (by omega) hx3]
end Go.Proofs.Try
