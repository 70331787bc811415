/- OWN WORK, put together by tools/asm.py, seat.py, mini.py. -/
import Derived.Test.YtpdfbkeholfdaaaLibD
set_option linter.unusedSimpArgs false
set_option linter.unusedVariables false
set_option maxRecDepth 100000
set_option maxHeartbeats 1000000
namespace Go.Proofs.Try
open Go.Ab Go
open Int renaming reduceEq → jA, reduceLT → jB, reduceLE → jC, reduceToNat → jD
open Go.Ab renaming w_ite_ne → jM, w_ite_lt → jN, wrap_id → jO, w_app_nl → jP
open Nat renaming reduceLT → jE, reduceEqDiff → jF, reduceAdd → jG, reduceLeDiff → jH, reduceSub → jI, reduceMul → jJ, sub_zero → jK, sub_self → jL
def pX (p : Dv × AV) : AV := dvX p.1 p.2
def pXs (P : List (Dv × AV)) : List AV := P.map pX
def Sn (p : Dv × AV) : Prop := p.2.flat = true ∧ p.2.cells = [p.2] ∧ p.2.one = true
theorem pXs_length (P : List (Dv × AV)) : (pXs P).length = P.length := by simp [pXs]
theorem pXs_get (P : List (Dv × AV)) (i : Nat) : (pXs P)[i]? = (P[i]?).map pX := by simp [pXs]
theorem pXs_app (A B : List (Dv × AV)) : pXs (A ++ B) = pXs A ++ pXs B := by simp [pXs]
theorem pXs_zip : ∀ (l : List Dv) (Fs : List AV), dvXs l Fs = pXs (l.zip Fs)
 | [], _ => by simp [dvXs, pXs]
 | _ :: _, [] => by simp [dvXs, pXs]
 | d :: l, F :: Fs => by have := pXs_zip l Fs; simp only [dvXs, pXs] at this; simp [dvXs, pXs, pX, this]
def CbP (σ : St) (E : AV) (f : Nat) (caps : List AV) (q : Dv → Bool) : Prop :=
 ∀ (τ : St) (p : Dv × AV), Sn p → σ.n ≤ τ.n → (∀ k, k < σ.n → Oth E k → τ.ob k = σ.ob k) → HC prog f (pX p :: caps) τ (fun r τ' => r = .bool (q p.1) ∧ AsD τ τ')
theorem delP_set {L K : List (Dv × AV)} {i : Nat} {v : Dv × AV} (hi : i = K.length) (hil : i < L.length) : (pXs K ++ (pXs L).drop i).set i (pX v) = pXs (K ++ [v]) ++ (pXs L).drop (i + 1) := by
 subst hi
 have h1 : (pXs K).length = K.length := pXs_length K
 rw [List.set_append_right _ _ (by omega), h1, Nat.sub_self, List.drop_eq_getElem_cons (by rw [pXs_length]; exact hil), List.set_cons_zero, pXs_app]
 simp [pXs]
theorem delP_get {L K : List (Dv × AV)} {i j : Nat} (hi : i = K.length) (hij : i ≤ j) : (pXs K ++ (pXs L).drop i)[j]? = (L[j]?).map pX := by
 subst hi
 have h1 : (pXs K).length = K.length := pXs_length K
 rw [List.getElem?_append_right (by omega), List.getElem?_drop, h1, pXs_get]
 congr 2; omega
theorem filtP_lt {α : Type} {q : α → Bool} {L : List α} {i0 j : Nat} (h : L[i0]?.any q = true) (hj : i0 < j) (hjl : j ≤ L.length) : ((L.take j).filter fun x => !q x).length < j := by
 have h1 : ((L.take j).filter fun x => !q x).length < (L.take j).length := by
  rw [List.length_filter_lt_length_iff_exists]
  rw [Option.any_eq_true] at h
  obtain ⟨x, hx, hq⟩ := h
  exact ⟨x, by rw [List.mem_take_iff_getElem]; obtain ⟨h2, h3⟩ := List.getElem?_eq_some_iff.1 hx; exact ⟨i0, by omega, h3⟩, by simp [hq]⟩
 rw [List.length_take] at h1; omega
theorem filtP_snoc {α : Type} {q : α → Bool} {L : List α} {j : Nat} (hj : j < L.length) : (L.take (j + 1)).filter (fun x => !q x) = (L.take j).filter (fun x => !q x) ++ (if q L[j] then [] else [L[j]]) := by
 rw [List.take_add_one, List.getElem?_eq_getElem hj, List.filter_append]
 cases h : q L[j] <;> simp [h]
theorem filtP_pre {α : Type} {q : α → Bool} {L : List α} {i : Nat} (h : ∀ j, j < i → ∀ y, L[j]? = some y → q y = false) : (L.take i).filter (fun x => !q x) = L.take i := by
 rw [List.filter_eq_self]
 intro a ha
 rw [List.mem_take_iff_getElem] at ha
 obtain ⟨j, hj, rfl⟩ := ha
 simp [h j (by omega) _ (List.getElem?_eq_getElem (by omega))]
def SlP (τ : St) (P : List (Dv × AV)) (r : AV) : Prop := ((r = .nil ∨ r = .list 7 []) ∧ P = []) ∨ ∃ id g L, r = .sl id g 7 0 P.length ∧ id < τ.n ∧ τ.ob id = some ⟨g, 7, tyDv, false, true, L⟩ ∧ P.length ≤ L.length ∧ L.take P.length = pXs P
theorem SlP.of {τ : St} {P : List (Dv × AV)} {E : AV} (h : SlR 7 tyDv τ (pXs P) E) : SlP τ P E := by
 rcases h with ⟨h1, h2⟩ | ⟨id, g, h1, h2, h3⟩
 ·exact .inl ⟨.inl h1, by simpa [pXs] using h2⟩
 ·exact .inr ⟨id, g, pXs P, by rw [h1, pXs_length], h2, h3, by rw [pXs_length]; exact Nat.le_refl _, List.take_of_length_le (by rw [pXs_length]; exact Nat.le_refl _)⟩
theorem hcP_slices_IndexFunc__Deviation (σ : St) (E : AV) (P : List (Dv × AV)) (f : Nat) (caps : List AV) (q : Dv → Bool) (hE : SlR 7 tyDv σ (pXs P) E) (hS : ∀ p ∈ P, Sn p) (hl : P.length ≤ 1000000) (hcb : CbP σ E f caps q) :
  HC prog n_slices_IndexFunc__Deviation [E, .func f caps] σ (fun r τ => r = .int .i64 (match P.findIdx? (fun p => q p.1) with | some i => (i : Int) | none => -1) ∧ AsD σ τ) := by
 rcases hE with ⟨rfl, hn⟩ | ⟨id, g, rfl, hid, hob⟩
 ·obtain rfl : P = [] := by simpa [pXs] using hn
  refine HC_of_body b_slices_IndexFunc__Deviation (by simp) ?_
  simp only [c_slices_IndexFunc__Deviation, go_sem, jA, jB, jC, jD, jE, jF, jG, jH, jI, jJ, ↓reduceIte, reduceCtorEq, jP]
  try simp (disch := omega) only [go_sem, jA, jB, jC, jD, jE, jF, jG, jH, jI, jJ, ↓reduceIte, reduceCtorEq, jO, jM, jN, jK, jL]
  refine awp_upG [4, 5, 8, 9, 10, 11, 12, 13, 14, 15, 16, 17, 18] (by kernel_rfl) 0 (fun k e τ => e 8 = .int .i64 k ∧ τ = σ) ?_ ?_
  ·exact ⟨(by first | rfl | (simp (disch := omega) only [go_sem, jA, jB, jC, jD, jE, jF, jG, jH, jI, jJ, ↓reduceIte, reduceCtorEq, jP, jO, jM, jN]; try rfl)), rfl⟩
  rintro k fe ob m c2 hk hm ⟨hki, h2⟩
  obtain rfl : k = 0 := by omega
  simp (maxSteps := 1000000) only [go_sem, jA, jB, jC, jD, jE, jF, jG, jH, jI, jJ, ↓reduceIte, reduceCtorEq, jP] at hki
  try simp (disch := omega) only [go_sem, jA, jB, jC, jD, jE, jF, jG, jH, jI, jJ, ↓reduceIte, reduceCtorEq, jO, jM, jN, jK, jL, hki]
  exact ⟨rfl, by rw [h2]; exact ⟨Nat.le_refl _, fun _ _ => rfl⟩⟩
 obtain ⟨ob0, n0, c0⟩ := σ
 simp only at hob hid
 refine HC_of_body b_slices_IndexFunc__Deviation (by simp) ?_
 simp only [c_slices_IndexFunc__Deviation, go_sem, jA, jB, jC, jD, jE, jF, jG, jH, jI, jJ, ↓reduceIte, reduceCtorEq, jP]
 try simp (disch := omega) only [go_sem, jA, jB, jC, jD, jE, jF, jG, jH, jI, jJ, ↓reduceIte, reduceCtorEq, jO, jM, jN, jK, jL, pXs_length]
 refine awp_upG [4, 5, 8, 9, 10, 11, 12, 13, 14, 15, 16, 17, 18] (by kernel_rfl) P.length (fun k e τ => e 8 = .int .i64 k ∧ n0 ≤ τ.n ∧ (∀ i, i < n0 → τ.ob i = ob0 i) ∧ ∀ j, j < k → ∀ y, P[j]? = some y → q y.1 = false) ?_ ?_
 ·exact ⟨(by first | rfl | (simp (disch := omega) only [go_sem, jA, jB, jC, jD, jE, jF, jG, jH, jI, jJ, ↓reduceIte, reduceCtorEq, jP, jO, jM, jN]; try rfl)), Nat.le_refl _, fun _ _ => rfl, fun j hj => by omega⟩
 rintro k fe ob m c2 hk hm ⟨hki, hm1, ho, hj⟩
 simp (maxSteps := 1000000) only [go_sem, jA, jB, jC, jD, jE, jF, jG, jH, jI, jJ, ↓reduceIte, reduceCtorEq, jP] at hki hm hm1 ho
 have hob' := (ho id hid).trans hob
 try simp (disch := omega) only [go_sem, jA, jB, jC, jD, jE, jF, jG, jH, jI, jJ, ↓reduceIte, reduceCtorEq, jO, jM, jN, jK, jL, hki, pXs_length]
 refine cond_d (fun hlt => ?_) (fun hge => ?_)
 ·have hkl : k < P.length := by omega
  have hk2 : P[k]? = some P[k] := List.getElem?_eq_getElem hkl
  have hnx := idx_nextD (q := fun p : Dv × AV => q p.1) hk2 hj
  have hfi : q P[k].1 = true → P.findIdx? (fun p => q p.1) = some k := fun h => by
   rw [List.findIdx?_eq_some_iff_getElem]
   exact ⟨hkl, h, fun j hjk => by have := hj j hjk P[j] (List.getElem?_eq_getElem (by omega)); simpa using this⟩
  have hSk := hS _ (List.getElem_mem hkl)
  have hcx := hcb ⟨ob, m, c2⟩ P[k] hSk hm1 fun i hi _ => ho i hi
  generalize P[k] = y at *
  obtain ⟨s1, s2, s3⟩ := hSk
  simp only [pX, dvX] at hcx
  try simp (disch := omega) only [go_sem, jA, jB, jC, jD, jE, jF, jG, jH, jI, jJ, ↓reduceIte, reduceCtorEq, jO, jM, jN, jK, jL, hki, pXs_length, hob', pXs_get, hk2, Option.map_some, pX, dvX, s1, s2, s3]
  refine ⟨by omega, by omega, hcx.mono ?_⟩
  rintro r ⟨ob2, m2, c3⟩ ⟨rfl, hA1, hA2⟩
  simp only at hA1 hA2
  try simp (disch := omega) only [go_sem, jA, jB, jC, jD, jE, jF, jG, jH, jI, jJ, ↓reduceIte, reduceCtorEq, jO, jM, jN, jK, jL]
  refine cond_split (fun hq => ?_) (fun hq => ?_) <;> try simp (disch := omega) only [go_sem, jA, jB, jC, jD, jE, jF, jG, jH, jI, jJ, ↓reduceIte, reduceCtorEq, jO, jM, jN, jK, jL, hki]
  ·rw [hfi hq]
   exact ⟨rfl, by simp only; omega, fun i hi => by simp only at hi ⊢; rw [hA2 i (by omega), ho i hi]⟩
  ·exact up_nextG m2 hkl (by omega) ⟨(by first | rfl | (simp (disch := omega) only [go_sem, jA, jB, jC, jD, jE, jF, jG, jH, jI, jJ, ↓reduceIte, reduceCtorEq, jP, jO, jM, jN]; try rfl)), by simp only [St.trunc]; omega, fun i hi => by rw [tr_ob (by omega), hA2 i (by omega), ho i hi], hnx hq⟩
 ·obtain rfl : k = P.length := by omega
  try simp (disch := omega) only [go_sem, jA, jB, jC, jD, jE, jF, jG, jH, jI, jJ, ↓reduceIte, reduceCtorEq, jO, jM, jN, jK, jL]
  have : P.findIdx? (fun p => q p.1) = none := by
   rw [List.findIdx?_eq_none_iff]
   intro x hx
   obtain ⟨i, hi⟩ := List.getElem?_of_mem hx
   exact hj i (List.getElem?_eq_some_iff.1 hi).1 x hi
  rw [this]
  exact ⟨rfl, hm1, ho⟩
theorem hc_slices_DeleteFunc__Deviation (σ : St) (E : AV) (l : List (Dv × AV)) (f : Nat) (caps : List AV) (q : Dv → Bool) (hE : SlR 7 tyDv σ (pXs l) E) (hS : ∀ p ∈ l, Sn p) (hl : l.length ≤ 1000000) (hcb : CbP σ E f caps q) :
  HC prog n_slices_DeleteFunc__Deviation [E, .func f caps] σ (fun r τ => SlP τ (l.filter fun p => !q p.1) r ∧ Kp σ E τ r) := by
 have hIF := hcP_slices_IndexFunc__Deviation σ E l f caps q hE hS hl hcb
 obtain ⟨ob0, n0, c0⟩ := σ
 refine HC_of_body b_slices_DeleteFunc__Deviation (by simp) ?_
 simp only [c_slices_DeleteFunc__Deviation, go_sem, jA, jB, jC, jD, jE, jF, jG, jH, jI, jJ, ↓reduceIte, reduceCtorEq, jP]
 try simp (disch := omega) only [go_sem, jA, jB, jC, jD, jE, jF, jG, jH, jI, jJ, ↓reduceIte, reduceCtorEq, jO, jM, jN, jK, jL]
 refine hIF.mono ?_
 rintro r ⟨ob1, n1, c1⟩ ⟨rfl, hA1, hA2⟩
 simp only at hA1 hA2
 try simp (disch := omega) only [go_sem, jA, jB, jC, jD, jE, jF, jG, jH, jI, jJ, ↓reduceIte, reduceCtorEq, jO, jM, jN, jK, jL]
 have hE1 : SlR 7 tyDv ⟨ob1, n1, c1⟩ (pXs l) E := hE.move hA1 fun i hi _ => hA2 i hi
 cases hfi : l.findIdx? (fun p => q p.1) with
 | none =>
  have hall : l.filter (fun p => !q p.1) = l := by
   rw [List.findIdx?_eq_none_iff] at hfi
   rw [List.filter_eq_self]; intro a ha; simp [hfi a ha]
  try simp (disch := omega) only [go_sem, jA, jB, jC, jD, jE, jF, jG, jH, jI, jJ, ↓reduceIte, reduceCtorEq, jO, jM, jN, jK, jL]
  rw [hall]
  exact ⟨SlP.of hE1, hA1, fun i hi _ => hA2 i hi, fun i _ h => h⟩
 | some i0 =>
  rw [List.findIdx?_eq_some_iff_getElem] at hfi
  obtain ⟨hi0, hq0, hpre⟩ := hfi
  have hany : l[i0]?.any (fun p => q p.1) = true := by rw [List.getElem?_eq_getElem hi0]; exact hq0
  have hne : ¬ ((i0 : Int) = -1) := by omega
  try simp (disch := omega) only [go_sem, jA, jB, jC, jD, jE, jF, jG, jH, jI, jJ, ↓reduceIte, reduceCtorEq, jO, jM, jN, jK, jL, hne]
  rcases hE1 with ⟨rfl, hn⟩ | ⟨id, g, rfl, hid, hob⟩
  ·have : l = [] := by simpa [pXs] using hn
   subst this; simp at hi0
  simp only at hid hob
  have hid0 : id < n0 := by
   rcases hE with ⟨h, _⟩ | ⟨id2, g2, h, h2, _⟩
   ·cases h
   ·cases h; exact h2
  rw [pXs_length] at *
  refine awp_upG [5, 6, 7, 16, 17, 18, 19, 20, 21, 22, 23, 24, 25, 26, 27, 28, 29, 30, 31, 32, 33, 34, 35] (by kernel_rfl) (l.length - (i0 + 1)) (fun k e τ => e 6 = .int .i64 ((i0 + 1 + k : Nat) : Int) ∧ n1 ≤ τ.n ∧ (∀ i, i < n1 → i ≠ id → τ.ob i = ob1 i) ∧ e 5 = .int .i64 (((l.take (i0 + 1 + k)).filter fun p => !q p.1).length : Int) ∧
   τ.ob id = some ⟨g, 7, tyDv, false, true, pXs ((l.take (i0 + 1 + k)).filter fun p => !q p.1) ++ (pXs l).drop ((l.take (i0 + 1 + k)).filter fun p => !q p.1).length⟩) ?_ ?_
  ·have h1 : (l.take (i0 + 1 + 0)).filter (fun p => !q p.1) = l.take i0 := by
    rw [Nat.add_zero, filtP_snoc (q := fun p : Dv × AV => q p.1) hi0, hq0, if_pos rfl, List.append_nil, filtP_pre (q := fun p : Dv × AV => q p.1) fun j hj y hy => by
     have := hpre j hj
     rw [List.getElem?_eq_getElem (by omega)] at hy
     obtain rfl := Option.some.inj hy
     simpa using this]
   rw [h1]
   have h2 : (l.take i0).length = i0 := by rw [List.length_take]; omega
   refine ⟨(by first | rfl | (simp (disch := omega) only [go_sem, jA, jB, jC, jD, jE, jF, jG, jH, jI, jJ, ↓reduceIte, reduceCtorEq, jP, jO, jM, jN]; try rfl)), Nat.le_refl _, fun _ _ _ => rfl, by rw [h2]; try simp (disch := omega) only [go_sem, jA, jB, jC, jD, jE, jF, jG, jH, jI, jJ, ↓reduceIte, reduceCtorEq, jO, jM, jN, jK, jL], ?_⟩
   rw [h2, show pXs (l.take i0) = (pXs l).take i0 by simp [pXs], List.take_append_drop]; exact hob
  rintro k fe ob m c2 hk hm ⟨h6, hm1, ho, h5, hK⟩
  simp (maxSteps := 1000000) only [go_sem, jA, jB, jC, jD, jE, jF, jG, jH, jI, jJ, ↓reduceIte, reduceCtorEq, jP] at h6 hm hm1 ho h5 hK
  have hlt1 := filtP_lt (q := fun p : Dv × AV => q p.1) (j := i0 + 1 + k) hany (by omega) (by omega)
  try simp (disch := omega) only [go_sem, jA, jB, jC, jD, jE, jF, jG, jH, jI, jJ, ↓reduceIte, reduceCtorEq, jO, jM, jN, jK, jL, h6]
  refine cond_d (fun hlt => ?_) (fun hge => ?_)
  ·have hjl : i0 + 1 + k < l.length := by omega
   have hsn := filtP_snoc (q := fun p : Dv × AV => q p.1) hjl
   have hgt := delP_get (L := l) (K := (l.take (i0 + 1 + k)).filter fun p => !q p.1) (j := i0 + 1 + k) rfl (by omega)
   rw [List.getElem?_eq_getElem hjl] at hgt
   have hst := delP_set (L := l) (K := (l.take (i0 + 1 + k)).filter fun p => !q p.1) (v := l[i0 + 1 + k]) rfl (by omega)
   have hKl : (pXs ((l.take (i0 + 1 + k)).filter fun p => !q p.1) ++ (pXs l).drop ((l.take (i0 + 1 + k)).filter fun p => !q p.1).length).length = l.length := by simp [pXs_length]; omega
   have hSy := hS _ (List.getElem_mem hjl)
   generalize l[i0 + 1 + k] = y at *
   generalize (l.take (i0 + 1 + k)).filter (fun p => !q p.1) = K at *
   have hcx := fun ob' c' h => hcb ⟨ob', m + 1, c'⟩ y hSy (by simp only; omega) h
   obtain ⟨s1, s2, s3⟩ := hSy
   have z1 : ¬ id = m := by omega
   have z2 : ¬ m = id := by omega
   have hjn : ((i0 + 1 + k : Nat) : Int).toNat = i0 + 1 + k := by omega
   try simp (disch := omega) only [go_sem, jA, jB, jC, jD, jE, jF, jG, jH, jI, jJ, ↓reduceIte, reduceCtorEq, jO, jM, jN, jK, jL, h6, hK, hgt, Option.map_some, pX, dvX, z1, z2, hjn, s1, s2, s3]
   simp only [pX, dvX] at hcx
   refine ⟨by omega, by omega, (hcx _ _ fun i hi ho2 => ?_).mono ?_⟩
   ·have := ho2.ne
    rw [upd_ne _ _ _ _ (by omega), upd_ne _ _ _ _ (by omega), ho i (by omega) (by omega), hA2 i hi]
   rintro r ⟨ob3, m3, c3⟩ ⟨rfl, hB1, hB2⟩
   simp only at hB1 hB2
   have w1 := hB2 m (by omega)
   rw [upd_same] at w1
   have w2 := ((hB2 id (by omega)).trans (by rw [upd_ne _ _ _ _ z1, upd_ne _ _ _ _ z1])).trans hK
   have hfr : ∀ i, i < n1 → i ≠ id → ob3 i = ob1 i := fun i hi hne => by
    rw [hB2 i (by omega), upd_ne _ _ _ _ (by omega), upd_ne _ _ _ _ (by omega), ho i hi hne]
   try simp (disch := omega) only [go_sem, jA, jB, jC, jD, jE, jF, jG, jH, jI, jJ, ↓reduceIte, reduceCtorEq, jO, jM, jN, jK, jL]
   cases hq : q y.1
   ·simp only [hq] at hsn
    simp only [Bool.false_eq_true, if_false] at hsn
    have hKn : (K.length : Int).toNat = K.length := by omega
    have hgk : (pXs K ++ (pXs l).drop K.length)[K.length]? = some ((pXs l)[K.length]'(by rw [pXs_length]; omega)) := by
     rw [List.getElem?_append_right (by rw [pXs_length]; omega), pXs_length, Nat.sub_self, List.getElem?_drop, Nat.add_zero, List.getElem?_eq_getElem]
    have hflat : ∀ x ∈ pXs l, setc 0 (pX y) x = pX y := fun x hx => by
     simp only [pXs, List.mem_map] at hx
     obtain ⟨z, _, rfl⟩ := hx
     rfl
    have hfl2 := hflat _ (List.getElem_mem (by rw [pXs_length]; omega : K.length < (pXs l).length))
    simp only [pX, dvX] at w1 w2 hst hfl2
    try simp (disch := omega) only [go_sem, jA, jB, jC, jD, jE, jF, jG, jH, jI, jJ, ↓reduceIte, reduceCtorEq, jO, jM, jN, jK, jL, h5, h6, w1, w2, z1, z2, hKn, hgk, hfl2, hst, s1, s2, s3]
    refine ⟨by omega, by omega, ?_⟩
    try simp (disch := omega) only [go_sem, jA, jB, jC, jD, jE, jF, jG, jH, jI, jJ, ↓reduceIte, reduceCtorEq, jO, jM, jN, jK, jL, h5, h6, w1, w2, z1, z2, hKn, hgk, hfl2, hst, s1, s2, s3]
    refine up_nextG m3 (by omega) (by omega) ⟨by try simp (disch := omega) only [go_sem, jA, jB, jC, jD, jE, jF, jG, jH, jI, jJ, ↓reduceIte, reduceCtorEq, jO, jM, jN, jK, jL]; congr 1, by simp only [St.trunc]; omega, fun i hi hne => ?_, ?_, ?_⟩
    ·rw [tr_ob (by omega), upd_ne _ _ _ _ hne, hfr i hi hne]
    ·rw [show i0 + 1 + (k + 1) = i0 + 1 + k + 1 by omega, hsn]; try simp (disch := omega) only [go_sem, jA, jB, jC, jD, jE, jF, jG, jH, jI, jJ, ↓reduceIte, reduceCtorEq, jO, jM, jN, jK, jL]; simp
    ·rw [tr_ob (by omega), upd_same, show i0 + 1 + (k + 1) = i0 + 1 + k + 1 by omega, hsn]; simp
   ·simp only [hq] at hsn
    simp only [if_true, List.append_nil] at hsn
    try simp (disch := omega) only [go_sem, jA, jB, jC, jD, jE, jF, jG, jH, jI, jJ, ↓reduceIte, reduceCtorEq, jO, jM, jN, jK, jL, h5, h6]
    refine up_nextG m3 (by omega) (by omega) ⟨by try simp (disch := omega) only [go_sem, jA, jB, jC, jD, jE, jF, jG, jH, jI, jJ, ↓reduceIte, reduceCtorEq, jO, jM, jN, jK, jL]; congr 1, by simp only [St.trunc]; omega, fun i hi hne => ?_, ?_, ?_⟩
    ·rw [tr_ob (by omega), hfr i hi hne]
    ·rw [show i0 + 1 + (k + 1) = i0 + 1 + k + 1 by omega, hsn]; try simp (disch := omega) only [go_sem, jA, jB, jC, jD, jE, jF, jG, jH, jI, jJ, ↓reduceIte, reduceCtorEq, jO, jM, jN, jK, jL, h5]
    ·rw [tr_ob (by omega), show i0 + 1 + (k + 1) = i0 + 1 + k + 1 by omega, hsn]; exact w2
  ·have hkn : i0 + 1 + k = l.length := by omega
   rw [hkn, List.take_length] at hK h5 hlt1
   generalize l.filter (fun p => !q p.1) = K at *
   have hKn : (K.length : Int).toNat = K.length := by omega
   have hKl : (pXs K ++ (pXs l).drop K.length).length = l.length := by simp [pXs_length]; omega
   try simp (disch := omega) only [go_sem, jA, jB, jC, jD, jE, jF, jG, jH, jI, jJ, ↓reduceIte, reduceCtorEq, jO, jM, jN, jK, jL, h5, hK, hKn]
   refine ⟨by omega, by omega, fun h => absurd h (by omega), fun _ => ?_⟩
   try simp (disch := omega) only [go_sem, jA, jB, jC, jD, jE, jF, jG, jH, jI, jJ, ↓reduceIte, reduceCtorEq, jO, jM, jN, jK, jL, h5, hK, hKn, hKl]
   refine ⟨by omega, ?_⟩
   try simp (disch := omega) only [go_sem, jA, jB, jC, jD, jE, jF, jG, jH, jI, jJ, ↓reduceIte, reduceCtorEq, jO, jM, jN, jK, jL]
   refine ⟨by omega, by omega, fun h0 => ?_, fun h0 => ?_⟩
   ·have : K = [] := List.eq_nil_of_length_eq_zero (by omega)
    subst this
    try simp (disch := omega) only [go_sem, jA, jB, jC, jD, jE, jF, jG, jH, jI, jJ, ↓reduceIte, reduceCtorEq, jO, jM, jN, jK, jL]
    exact ⟨.inl ⟨.inr rfl, rfl⟩, by simp only; omega, fun i hi hh => by have := hh.ne; simp only at hi ⊢; rw [upd_ne _ _ _ _ (by omega), ho i (by omega) (by omega), hA2 i hi], fun i _ _ => fun _ _ _ _ h => by cases h⟩
   ·try simp (disch := omega) only [go_sem, jA, jB, jC, jD, jE, jF, jG, jH, jI, jJ, ↓reduceIte, reduceCtorEq, jO, jM, jN, jK, jL]
    refine ⟨.inr ⟨id, g, _, rfl, by simp only; omega, upd_same _ _ _, ?_, ?_⟩, by simp only; omega, fun i hi hh => by have := hh.ne; simp only at hi ⊢; rw [upd_ne _ _ _ _ (by omega), ho i (by omega) (by omega), hA2 i hi], fun i _ hh => Oth.sl hh.ne⟩
    ·simp [pXs_length]
    ·simp [pXs_length]
def clrD (now : Int) (d : Dv) : Bool := d.wd || decide (d.to < now)
def clrS (K : Dk) (now : Int) : Dk × Int := if chkD K = false then (dk0, 50) else (⟨K.ps, K.nx, K.ds.filter fun d => !clrD now d⟩, 0)
theorem zip_fst {α β : Type} (q : α → Bool) : ∀ (l : List α) (r : List β), l.length = r.length → ((l.zip r).filter fun p => q p.1).map Prod.fst = l.filter q
 | [], _, _ => by simp
 | _ :: _, [], h => by simp at h
 | a :: l, b :: r, h => by
  have := zip_fst q l r (by simpa using h)
  simp only [List.zip_cons_cons, List.filter_cons]
  cases q a <;> simp [this]
theorem zip_mem {es : Nat} {ty : TypeId} {σ : St} {ds : List Dv} {Fs : List AV} (h : IC es ty σ Fs (inS ds)) {p : Dv × AV} (hp : p ∈ ds.zip Fs) : SlR es ty σ (ints p.1.sg) p.2 ∧ p.2 ∈ Fs := by
 obtain ⟨i, hi⟩ := List.getElem?_of_mem hp
 rw [List.getElem?_zip_eq_some] at hi
 exact ⟨h.2 i p.2 _ hi.2 (by simp [inS, hi.1]), List.mem_of_getElem? hi.2⟩
theorem SlR.sn {es : Nat} {ty : TypeId} {σ : St} {L : List AV} {p : Dv × AV} (h : SlR es ty σ L p.2) : Sn p := ⟨h.flat, h.cells, h.one⟩
theorem pub_pX {σ : St} {p : Dv × AV} (h : SlR 1 tySg σ (ints p.1.sg) p.2) : Pub σ (pX p) (dvv p.1) :=
 Pub.ag (.cons (Pub.e rfl) (.cons (Pub.e rfl) (.cons (Pub.e rfl) (.cons (Pub.e rfl) (.cons (Pub.e rfl) (.cons (h.pub (fun _ _ _ => rfl) (ints_pur _) (ints_ok _)) (.cons (Pub.e rfl) .nil)))))))
theorem pub_slp {σ : St} {P : List (Dv × AV)} {r : AV} (h : SlP σ P r) (hp : ∀ p ∈ P, SlR 1 tySg σ (ints p.1.sg) p.2) : Pub σ r (.list 7 (dvs (P.map Prod.fst))) := by
 rcases h with ⟨h1 | h1, rfl⟩ | ⟨id, g, L, rfl, h2, h3, h4, h5⟩
 ·subst h1; exact .nl 7
 ·subst h1; exact .pure rfl
 ·refine .sl h3 rfl rfl (by simpa using h4) ?_ (fun i x y hx hy => ?_) (dvs_ok _)
  ·rw [List.drop_zero, h5, pXs_length, dvs_length, List.length_map]
  ·rw [List.drop_zero, h5, pXs_get] at hx
   rw [dvs_get, List.getElem?_map] at hy
   obtain ⟨p, hq, rfl⟩ := Option.map_eq_some_iff.1 hx
   rw [hq] at hy
   obtain rfl := Option.some.inj hy
   exact pub_pX (hp p (List.mem_of_getElem? hq))
theorem pub_dkP {σ : St} {ps : List Pn} {P : List (Dv × AV)} {n : Int} {XP r : AV} (hP : SlR 3 tyPn σ (pns ps) XP) (h : SlP σ P r) (hp : ∀ p ∈ P, SlR 1 tySg σ (ints p.1.sg) p.2) : Pub σ (.agg [XP, .int .i64 n, r]) (dkv ⟨ps, n, P.map Prod.fst⟩) :=
 Pub.ag (.cons (hP.pub (fun _ _ _ => rfl) (pns_pur _) (pns_ok _)) (.cons (Pub.e rfl) (.cons (pub_slp h hp) .nil)))
theorem SlP.one {σ : St} {P : List (Dv × AV)} {r : AV} (h : SlP σ P r) : r.flat = true ∧ r.cells = [r] ∧ r.one = true := by
 rcases h with ⟨h1 | h1, rfl⟩ | ⟨id, g, L, rfl, h2, h3, h4, h5⟩
 ·subst h1; exact ⟨rfl, rfl, rfl⟩
 ·subst h1; exact ⟨rfl, rfl, rfl⟩
 ·exact ⟨rfl, rfl, rfl⟩
theorem SlP.move {σ τ : St} {P : List (Dv × AV)} {r : AV} (h : SlP σ P r) (hn : σ.n ≤ τ.n) (ho : ∀ i, i < σ.n → ¬ Oth r i → τ.ob i = σ.ob i) : SlP τ P r := by
 rcases h with h | ⟨id, g, L, rfl, h2, h3, h4, h5⟩
 ·exact .inl h
 ·exact .inr ⟨id, g, L, rfl, by omega, (ho id h2 fun h => h _ _ _ _ rfl).trans h3, h4, h5⟩
theorem cb_deviation_Clear_1 (σ : St) (E : AV) (b g : Nat) (ty : TypeId) (ro ap : Bool) (now : Int) (hob : σ.ob b = some ⟨g, 1, ty, ro, ap, [.int .i64 now]⟩) (hb : b < σ.n) (hE : Oth E b) : CbP σ E n_deviation_Clear_1 [.ptr b g 1 0 0] (clrD now) := by
 rintro ⟨ob, m, c⟩ p ⟨s1, s2, s3⟩ hn ho
 simp only at hn ho
 refine HC_of_body b_deviation_Clear_1 (by simp) ?_
 simp only [c_deviation_Clear_1, pX, dvX]
 have h1 := (ho b hb hE).trans hob
 have h2 : ¬ b = m := by omega
 have hfr : AsD ⟨ob, m, c⟩ ⟨upd ob m (some ⟨c, 7, 43, false, true, [.agg [.int .i64 p.1.id, .int .i64 p.1.site, .int .i64 p.1.fr, .int .i64 p.1.to, .int .i64 p.1.rel, p.2, .bool p.1.wd]]⟩), m + 1, c + 1⟩ := ⟨by simp only; omega, fun i hi => by simp only at hi ⊢; rw [upd_ne _ _ _ _ (by omega)]⟩
 cases hw : p.1.wd
 ·rw [hw] at hfr
  try simp (disch := omega) only [go_sem, jA, jB, jC, jD, jE, jF, jG, jH, jI, jJ, ↓reduceIte, reduceCtorEq, jO, jM, jN, jK, jL, h1, h2, s1, s2, s3]
  exact ⟨by simp [clrD, hw], hfr⟩
 ·rw [hw] at hfr
  try simp (disch := omega) only [go_sem, jA, jB, jC, jD, jE, jF, jG, jH, jI, jJ, ↓reduceIte, reduceCtorEq, jO, jM, jN, jK, jL, h1, h2, s1, s2, s3]
  exact ⟨by simp [clrD, hw], hfr⟩
theorem ok_deviation_Clear (K : Dk) (hB : DkS K) (now : Int) : PC prog n_deviation_Clear [dkv K, .int .i64 now] (.tuple [dkv (clrS K now).1, .int .i64 (clrS K now).2]) := by
 have hKp := dkv_pur K
 refine PC_of_body b_deviation_Clear (by simp) ?_
 simp only [c_deviation_Clear]
 try simp (disch := omega) only [go_sem, jA, jB, jC, jD, jE, jF, jG, jH, jI, jJ, ↓reduceIte, reduceCtorEq, jO, jM, jN, jK, jL, dkv_flat, dkv_len, dkv_tk, dkv_dt]
 refine call_pc (ok_deviation_valid K hB) (by simp [hKp]) ?_
 cases hc : chkD K
 ·try simp (disch := omega) only [go_sem, jA, jB, jC, jD, jE, jF, jG, jH, jI, jJ, ↓reduceIte, reduceCtorEq, jO, jM, jN, jK, jL]
  rw [clrS, if_pos hc]
  exact Pub.tu (.cons pub_dk0 (.cons (Pub.e rfl) .nil))
 have hnx := chkD_nx hc
 try simp (disch := omega) only [go_sem, jA, jB, jC, jD, jE, jF, jG, jH, jI, jJ, ↓reduceIte, reduceCtorEq, jO, jM, jN, jK, jL, dkv_flat, dkv_len, dkv_tk, dkv_dt]
 refine (hc_deviation_twin _ K (by omega) (by omega) fun d hd => by have := chkD_sg hc hd; omega).mono ?_
 rintro r ⟨ob1, n1, c1⟩ ⟨XP, XA, Fs, l1, rfl, hl1, hl2, hP, hPl, hA, hI, hG, hfr⟩
 simp only at hl1 hl2 hPl hfr
 have u1 := hfr 1 (by omega)
 have u2 := hfr 2 (by omega)
 try simp (disch := omega) only [go_sem, jA, jB, jC, jD, jE, jF, jG, jH, jI, jJ, ↓reduceIte, reduceCtorEq, jO, jM, jN, jK, jL] at u1
 try simp (disch := omega) only [go_sem, jA, jB, jC, jD, jE, jF, jG, jH, jI, jJ, ↓reduceIte, reduceCtorEq, jO, jM, jN, jK, jL] at u2
 have hFl : Fs.length = K.ds.length := by have := hI.1; simpa [inS] using this
 rw [pXs_zip] at hA
 have oX : ∀ i, i < l1 → Oth XA i := fun i hi => Oth.em fun h => by have := (hG.low i h).1; omega
 have oXm : Oth XA n1 := hA.oth (Nat.le_refl _)
 have hfr2 : ∀ i, i < n1 → ∀ (x y : Option AObj), upd (upd ob1 n1 x) n1 y i = ob1 i := fun i hi x y => by rw [upd_ne _ _ _ _ (by omega), upd_ne _ _ _ _ (by omega)]
 try simp (disch := omega) only [go_sem, jA, jB, jC, jD, jE, jF, jG, jH, jI, jJ, ↓reduceIte, reduceCtorEq, jO, jM, jN, jK, jL, hP.flat, hP.cells, hP.one, hA.flat, hA.cells, hA.one]
 refine (hc_slices_DeleteFunc__Deviation _ XA (K.ds.zip Fs) n_deviation_Clear_1 _ (clrD now) (hA.move (by simp only; omega) fun i hi _ => hfr2 i hi _ _) (fun p hp => (zip_mem hI hp).1.sn) (by rw [List.length_zip]; omega)
  (cb_deviation_Clear_1 _ XA 1 1 3 false true now ((hfr2 1 (by omega) _ _).trans u1) (by simp only; omega) (oX 1 (by omega)))).mono ?_
 rintro r ⟨ob3, m3, c3⟩ ⟨hR, kR⟩
 have hm3 : n1 + 1 ≤ m3 := kR.1
 have q2 : ∀ i, i < n1 → Oth XA i → ob3 i = ob1 i := fun i hi ho => (kR.2.1 i (by simp only; omega) ho).trans (hfr2 i hi _ _)
 have qm := kR.2.1 n1 (by simp only; omega) oXm
 have w2 := (q2 2 (by omega) (oX 2 (by omega))).trans u2
 try simp (disch := omega) only [go_sem, jA, jB, jC, jD, jE, jF, jG, jH, jI, jJ, ↓reduceIte, reduceCtorEq, jO, jM, jN, jK, jL] at qm
 obtain ⟨r1, r2, r3⟩ := hR.one
 have z1 : ¬ 2 = n1 := by omega
 have z2 : ¬ n1 = 2 := by omega
 try simp (disch := omega) only [go_sem, jA, jB, jC, jD, jE, jF, jG, jH, jI, jJ, ↓reduceIte, reduceCtorEq, jO, jM, jN, jK, jL, qm, w2, z1, z2, r1, r2, r3, hP.flat, hP.cells, hP.one]
 have hz := zip_fst (fun d => !clrD now d) K.ds Fs hFl.symm
 rw [clrS, if_neg (by simp [hc])]
 simp only
 rw [← hz]
 have oR : ∀ i, i < n1 → Oth XA i → Oth r i := fun i hi ho => kR.2.2 i (by simp only; omega) ho
 have oRm : Oth r n1 := kR.2.2 n1 (by simp only; omega) oXm
 refine Pub.tu (.cons (pub_dkP (hP.move (by simp only; omega) fun i hi hh => ?_) (hR.move (Nat.le_refl _) fun i hi hh => ?_) fun p hp => ?_) (.cons (Pub.e rfl) .nil))
 ·have h9 := hPl i hh
  simp only at hi ⊢
  rw [upd_ne _ _ _ _ (by omega), upd_ne _ _ _ _ (by omega), q2 i hi (oX i h9.2)]
 ·have hx1 : i ≠ n1 := fun h => hh (h ▸ oRm)
  have hx2 : i ≠ 2 := fun h => hh (h ▸ oR 2 (by omega) (oX 2 (by omega)))
  simp only
  rw [upd_ne _ _ _ _ hx2, upd_ne _ _ _ _ hx1]
 ·obtain ⟨hs, hF⟩ := zip_mem hI (List.mem_filter.1 hp).1
  refine hs.move (by simp only; omega) fun i hi hh => ?_
  have h9 := (hG.loE p.2 hF i hh).1
  simp only at hi ⊢
  rw [upd_ne _ _ _ _ (by omega), upd_ne _ _ _ _ (by omega), q2 i hi (hG.sep p.2 hF i hh)]
theorem ok_ref26_InForce (K : Dk) (hB : DkS K) (site time : Int) : PC prog n_ref26_InForce [dkv K, .int .i64 site, .int .i64 time] (.tuple [dvv (infS K site time).1, .bool (infS K site time).2]) := by
 have hKp := dkv_pur K
 have hlp := hB.lp
 have hld := hB.ld
 refine PC_of_body b_ref26_InForce (by simp) ?_
 simp only [c_ref26_InForce]
 try simp (disch := omega) only [go_sem, jA, jB, jC, jD, jE, jF, jG, jH, jI, jJ, ↓reduceIte, reduceCtorEq, jO, jM, jN, jK, jL, dkv_flat, dkv_len, dkv_tk, dkv_dt]
 refine call_pc (ok_ref26_Check K (by omega) (by omega)) (by simp [hKp]) ?_
 rw [chkDS]
 cases hc : chkD K
 ·try simp (disch := omega) only [go_sem, jA, jB, jC, jD, jE, jF, jG, jH, jI, jJ, ↓reduceIte, reduceCtorEq, jO, jM, jN, jK, jL]
  rw [infS, if_pos hc]
  exact Pub.tu (.cons pub_dv0 (.cons (Pub.e rfl) .nil))
 have hnx := chkD_nx hc
 try simp (disch := omega) only [go_sem, jA, jB, jC, jD, jE, jF, jG, jH, jI, jJ, ↓reduceIte, reduceCtorEq, jO, jM, jN, jK, jL, dkv_flat, dkv_len, dkv_tk, dkv_dt]
 refine (hc_ref26_Copy _ K (by omega) (by omega) fun d hd => by have := chkD_sg hc hd; omega).mono ?_
 rintro r ⟨ob1, n1, c1⟩ ⟨XP, XA, Fs, l1, rfl, hl1, hl2, hP, hPl, hA, hI, hG, hfr⟩
 simp only at hl1 hl2 hPl hfr
 have u0 := hfr 0 (by omega)
 have u1 := hfr 1 (by omega)
 try simp (disch := omega) only [go_sem, jA, jB, jC, jD, jE, jF, jG, jH, jI, jJ, ↓reduceIte, reduceCtorEq, jO, jM, jN, jK, jL] at u0
 try simp (disch := omega) only [go_sem, jA, jB, jC, jD, jE, jF, jG, jH, jI, jJ, ↓reduceIte, reduceCtorEq, jO, jM, jN, jK, jL] at u1
 have hFl : Fs.length = K.ds.length := by have := hI.1; simpa [inS] using this
 rw [pXs_zip] at hA
 have hzl : (K.ds.zip Fs).length = K.ds.length := by rw [List.length_zip]; omega
 have hXAl : ∀ {τ : St} {C : AV → St → Prop}, lenC XA τ C = C (.int .i64 (K.ds.length : Int)) τ := by
  intro τ C
  rcases hA with ⟨rfl, h⟩ | ⟨id, g, rfl, _, _⟩
  ·have := congrArg List.length h; rw [pXs_length, hzl] at this
   rw [w_len_n, this]; rfl
  ·rw [w_len_s, pXs_length, hzl]
 try simp (disch := omega) only [go_sem, jA, jB, jC, jD, jE, jF, jG, jH, jI, jJ, ↓reduceIte, reduceCtorEq, jO, jM, jN, jK, jL, u0, hP.flat, hP.cells, hP.one, hA.flat, hA.cells, hA.one, dk_put, hXAl]
 have hcv : (∀ d : Dv, hitD site time d = (decide (d.site = site) && decide (d.sg.length = 2) && !d.wd && decide (d.fr ≤ time) && decide (time ≤ d.to))) := fun _ => rfl
 refine awp_upG [7, 8, 9, 20, 21, 22, 23, 24, 25, 26, 27, 28, 29, 30, 31, 32, 33, 34, 35, 36, 37, 38, 39, 40, 41, 42, 43, 44, 45, 46, 47, 48, 49, 50, 51, 52, 53, 54, 55, 56] (by kernel_rfl) K.ds.length (fun k e σ => e 8 = .int .i64 ((K.ds.length : Int) - 1 - k) ∧ n1 ≤ σ.n ∧ (∀ i, i < n1 → i ≠ 0 → σ.ob i = ob1 i) ∧ σ.ob 0 = some ⟨0, 3, 31, false, true, [.agg [XP, .int .i64 K.nx, XA]]⟩ ∧ Mis K.ds site time k) ?_ ?_
 ·exact ⟨by try simp (disch := omega) only [go_sem, jA, jB, jC, jD, jE, jF, jG, jH, jI, jJ, ↓reduceIte, reduceCtorEq, jO, jM, jN, jK, jL]; congr 1; omega, Nat.le_refl _, fun i hi hne => upd_ne _ _ _ _ hne, by try simp (disch := omega) only [go_sem, jA, jB, jC, jD, jE, jF, jG, jH, jI, jJ, ↓reduceIte, reduceCtorEq, jO, jM, jN, jK, jL], fun j hj => by omega⟩
 rintro k fe ob m c hk hm ⟨h8, hm1, ho, v0, hmis⟩
 simp (maxSteps := 1000000) only [go_sem, jA, jB, jC, jD, jE, jF, jG, jH, jI, jJ, ↓reduceIte, reduceCtorEq, jP] at h8 hm hm1 ho v0
 try simp (disch := omega) only [go_sem, jA, jB, jC, jD, jE, jF, jG, jH, jI, jJ, ↓reduceIte, reduceCtorEq, jO, jM, jN, jK, jL, h8]
 refine cond_d (fun hlt => ?_) (fun hge => ?_)
 ·have hkl : k < K.ds.length := by omega
  have hg := gD_get (l := K.ds) (i := K.ds.length - 1 - k) (by omega)
  have hj : ((K.ds.length : Int) - 1 - k).toNat = K.ds.length - 1 - k := by omega
  have hFg : Fs[K.ds.length - 1 - k]? = some Fs[K.ds.length - 1 - k] := List.getElem?_eq_getElem (by omega)
  have hzg : (K.ds.zip Fs)[K.ds.length - 1 - k]? = some (gD K.ds (K.ds.length - 1 - k), Fs[K.ds.length - 1 - k]) := by rw [List.getElem?_zip_eq_some]; exact ⟨hg, hFg⟩
  have hsl := hI.2 _ _ _ hFg (show (inS K.ds)[K.ds.length - 1 - k]? = some (ints (gD K.ds (K.ds.length - 1 - k)).sg) by simp [inS, hg])
  have hFm := List.mem_of_getElem? hFg
  have hsm := inf_some (site := site) (time := time) hc hkl hmis
  have hmn : hitD site time (gD K.ds (K.ds.length - 1 - k)) = false → Mis K.ds site time (k + 1) := fun h j hj => by
   by_cases e : j = k
   ·subst e; exact h
   ·exact hmis j (by omega)
  generalize Fs[K.ds.length - 1 - k] = F at *
  generalize gD K.ds (K.ds.length - 1 - k) = d at *
  rcases hA with ⟨rfl, h⟩ | ⟨ia, ga, rfl, hia, hoa⟩
  ·have := congrArg List.length h; rw [pXs_length, hzl, List.length_nil] at this; omega
  simp only at hia hoa
  have hal := (hG.low ia fun h => h _ _ _ _ rfl).1
  have va := (ho ia hia (by omega)).trans hoa
  have z0 : ¬ 0 = m := by omega
  have z1 : ¬ 1 = m := by omega
  have z2 : ¬ m = 1 := by omega
  have v1 := (ho 1 (by omega) (by omega)).trans u1
  rw [pXs_length, hzl] at *
  try simp (disch := omega) only [go_sem, jA, jB, jC, jD, jE, jF, jG, jH, jI, jJ, ↓reduceIte, reduceCtorEq, jO, jM, jN, jK, jL, h8, v0, va, hj, pXs_get, pXs_length, hzl, hzg, Option.map_some, pX, dvX, z0, z1, z2, hsl.flat, hsl.cells, hsl.one, hP.flat, hP.cells, hP.one]
  refine ⟨by omega, by omega, ?_⟩
  refine gd_td rfl (fun g1 => ?_) (fun g1 => ?_) <;> try simp (disch := omega) only [go_sem, jA, jB, jC, jD, jE, jF, jG, jH, jI, jJ, ↓reduceIte, reduceCtorEq, jO, jM, jN, jK, jL, h8, z0, z1, v0, v1]
  case refine_2 =>
   refine up_nextG m hkl (by omega) ⟨by try simp (disch := omega) only [go_sem, jA, jB, jC, jD, jE, jF, jG, jH, jI, jJ, ↓reduceIte, reduceCtorEq, jO, jM, jN, jK, jL]; congr 1; omega, by simp only [St.trunc]; omega, fun i hi hne => ?_, ?_, hmn (by rw [hcv]; simp [g1])⟩
   ·simp only [St.trunc]; rw [if_pos (by omega), upd_ne _ _ _ _ (by omega), upd_ne _ _ _ _ (by omega)]; exact ho i hi hne
   ·simp only [St.trunc]; rw [if_pos (by omega), upd_ne _ _ _ _ (by omega), upd_ne _ _ _ _ (by omega)]; exact v0
  refine hsl.lenC ?_
  try simp (disch := omega) only [go_sem, jA, jB, jC, jD, jE, jF, jG, jH, jI, jJ, ↓reduceIte, reduceCtorEq, jO, jM, jN, jK, jL, ints_length]
  refine gd_td rfl (fun g2 => ?_) (fun g2 => ?_) <;> try simp (disch := omega) only [go_sem, jA, jB, jC, jD, jE, jF, jG, jH, jI, jJ, ↓reduceIte, reduceCtorEq, jO, jM, jN, jK, jL, h8, z0, z1, v0, v1]
  case refine_2 =>
   have g2' : ¬ d.sg.length = 2 := by omega
   refine up_nextG m hkl (by omega) ⟨by try simp (disch := omega) only [go_sem, jA, jB, jC, jD, jE, jF, jG, jH, jI, jJ, ↓reduceIte, reduceCtorEq, jO, jM, jN, jK, jL]; congr 1; omega, by simp only [St.trunc]; omega, fun i hi hne => ?_, ?_, hmn (by rw [hcv]; simp [g2'])⟩
   ·simp only [St.trunc]; rw [if_pos (by omega), upd_ne _ _ _ _ (by omega), upd_ne _ _ _ _ (by omega)]; exact ho i hi hne
   ·simp only [St.trunc]; rw [if_pos (by omega), upd_ne _ _ _ _ (by omega), upd_ne _ _ _ _ (by omega)]; exact v0
  cases hw : d.wd
  case true =>
   try simp (disch := omega) only [go_sem, jA, jB, jC, jD, jE, jF, jG, jH, jI, jJ, ↓reduceIte, reduceCtorEq, jO, jM, jN, jK, jL, h8, z0, z1, v0, v1]
   refine up_nextG m hkl (by omega) ⟨by try simp (disch := omega) only [go_sem, jA, jB, jC, jD, jE, jF, jG, jH, jI, jJ, ↓reduceIte, reduceCtorEq, jO, jM, jN, jK, jL]; congr 1; omega, by simp only [St.trunc]; omega, fun i hi hne => ?_, ?_, hmn (by rw [hcv]; simp [hw])⟩
   ·simp only [St.trunc]; rw [if_pos (by omega), upd_ne _ _ _ _ (by omega), upd_ne _ _ _ _ (by omega)]; exact ho i hi hne
   ·simp only [St.trunc]; rw [if_pos (by omega), upd_ne _ _ _ _ (by omega), upd_ne _ _ _ _ (by omega)]; exact v0
  try simp (disch := omega) only [go_sem, jA, jB, jC, jD, jE, jF, jG, jH, jI, jJ, ↓reduceIte, reduceCtorEq, jO, jM, jN, jK, jL, h8, z0, z1, v0, v1]
  refine gd_td rfl (fun g3 => ?_) (fun g3 => ?_) <;> try simp (disch := omega) only [go_sem, jA, jB, jC, jD, jE, jF, jG, jH, jI, jJ, ↓reduceIte, reduceCtorEq, jO, jM, jN, jK, jL, h8, z0, z1, v0, v1]
  case refine_2 =>
   refine up_nextG m hkl (by omega) ⟨by try simp (disch := omega) only [go_sem, jA, jB, jC, jD, jE, jF, jG, jH, jI, jJ, ↓reduceIte, reduceCtorEq, jO, jM, jN, jK, jL]; congr 1; omega, by simp only [St.trunc]; omega, fun i hi hne => ?_, ?_, hmn (by rw [hcv]; simp [g3])⟩
   ·simp only [St.trunc]; rw [if_pos (by omega), upd_ne _ _ _ _ (by omega), upd_ne _ _ _ _ (by omega)]; exact ho i hi hne
   ·simp only [St.trunc]; rw [if_pos (by omega), upd_ne _ _ _ _ (by omega), upd_ne _ _ _ _ (by omega)]; exact v0
  refine cond_d (fun g4 => ?_) (fun g4 => ?_) <;> try simp (disch := omega) only [go_sem, jA, jB, jC, jD, jE, jF, jG, jH, jI, jJ, ↓reduceIte, reduceCtorEq, jO, jM, jN, jK, jL, h8, z0, z1, z2, v0, v1, hsl.flat, hsl.cells, hsl.one]
  case refine_2 =>
   refine up_nextG m hkl (by omega) ⟨by try simp (disch := omega) only [go_sem, jA, jB, jC, jD, jE, jF, jG, jH, jI, jJ, ↓reduceIte, reduceCtorEq, jO, jM, jN, jK, jL]; congr 1; omega, by simp only [St.trunc]; omega, fun i hi hne => ?_, ?_, hmn (by rw [hcv]; simp [g4])⟩
   ·simp only [St.trunc]; rw [if_pos (by omega), upd_ne _ _ _ _ (by omega), upd_ne _ _ _ _ (by omega)]; exact ho i hi hne
   ·simp only [St.trunc]; rw [if_pos (by omega), upd_ne _ _ _ _ (by omega), upd_ne _ _ _ _ (by omega)]; exact v0
  rw [hsm (by rw [hcv]; simp [g1, hw, g3, g4]; omega)]
  have hsl2 : SlR 1 tySg ⟨upd (upd (upd ob m (some ⟨c, 7, 43, false, true, [.agg [.int .i64 0, .int .i64 0, .int .i64 0, .int .i64 0, .int .i64 0, .nil, .bool false]]⟩)) m (some ⟨c, 7, 43, false, true, [.agg [.int .i64 d.id, .int .i64 d.site, .int .i64 d.fr, .int .i64 d.to, .int .i64 d.rel, F, .bool false]]⟩)) 1 (some ⟨1, 7, 43, false, true, [.agg [.int .i64 d.id, .int .i64 d.site, .int .i64 d.fr, .int .i64 d.to, .int .i64 d.rel, F, .bool false]]⟩), m + 1, c + 1⟩ (ints d.sg) F := hsl.move (by simp only; omega) fun i hi hh => by
   have h9 := hG.loE F hFm i hh
   simp only at hi ⊢
   rw [upd_ne _ _ _ _ (by omega), upd_ne _ _ _ _ (by omega), upd_ne _ _ _ _ (by omega), ho i hi (by omega)]
  have hp := pub_pX (p := (d, F)) hsl2
  simp only [pX, dvX, hw] at hp
  exact Pub.tu (.cons hp (.cons (Pub.e rfl) .nil))
 ·obtain rfl : k = K.ds.length := by omega
  have v1 := (ho 1 (by omega) (by omega)).trans u1
  try simp (disch := omega) only [go_sem, jA, jB, jC, jD, jE, jF, jG, jH, jI, jJ, ↓reduceIte, reduceCtorEq, jO, jM, jN, jK, jL, v1]
  rw [inf_none hc hmis]
  exact Pub.tu (.cons pub_dv0 (.cons (Pub.e rfl) .nil))
theorem ok_ref26_Clear (K : Dk) (hB : DkS K) (now : Int) : PC prog n_ref26_Clear [dkv K, .int .i64 now] (.tuple [dkv (clrS K now).1, .int .i64 (clrS K now).2]) := by
 have hKp := dkv_pur K
 have hlp := hB.lp
 have hld := hB.ld
 refine PC_of_body b_ref26_Clear (by simp) ?_
 simp only [c_ref26_Clear]
 try simp (disch := omega) only [go_sem, jA, jB, jC, jD, jE, jF, jG, jH, jI, jJ, ↓reduceIte, reduceCtorEq, jO, jM, jN, jK, jL, dkv_flat, dkv_len, dkv_tk, dkv_dt]
 refine call_pc (ok_ref26_Check K (by omega) (by omega)) (by simp [hKp]) ?_
 rw [chkDS]
 cases hc : chkD K
 ·try simp (disch := omega) only [go_sem, jA, jB, jC, jD, jE, jF, jG, jH, jI, jJ, ↓reduceIte, reduceCtorEq, jO, jM, jN, jK, jL]
  rw [clrS, if_pos hc]
  exact Pub.tu (.cons pub_dk0 (.cons (Pub.e rfl) .nil))
 have hnx := chkD_nx hc
 try simp (disch := omega) only [go_sem, jA, jB, jC, jD, jE, jF, jG, jH, jI, jJ, ↓reduceIte, reduceCtorEq, jO, jM, jN, jK, jL, dkv_flat, dkv_len, dkv_tk, dkv_dt]
 refine (hc_ref26_Copy _ K (by omega) (by omega) fun d hd => by have := chkD_sg hc hd; omega).mono ?_
 rintro r ⟨ob1, n1, c1⟩ ⟨XP, XA, Fs, l1, rfl, hl1, hl2, hP, hPl, hA, hI, hG, hfr⟩
 simp only at hl1 hl2 hPl hfr
 have u0 := hfr 0 (by omega)
 have u1 := hfr 1 (by omega)
 try simp (disch := omega) only [go_sem, jA, jB, jC, jD, jE, jF, jG, jH, jI, jJ, ↓reduceIte, reduceCtorEq, jO, jM, jN, jK, jL] at u0
 try simp (disch := omega) only [go_sem, jA, jB, jC, jD, jE, jF, jG, jH, jI, jJ, ↓reduceIte, reduceCtorEq, jO, jM, jN, jK, jL] at u1
 have hFl : Fs.length = K.ds.length := by have := hI.1; simpa [inS] using this
 rw [pXs_zip] at hA
 have hzl : (K.ds.zip Fs).length = K.ds.length := by rw [List.length_zip]; omega
 have hz := zip_fst (fun d => !clrD now d) K.ds Fs hFl.symm
 have hmem := fun p (hp : p ∈ K.ds.zip Fs) => zip_mem hI hp
 have hXAl : ∀ {τ : St} {C : AV → St → Prop}, lenC XA τ C = C (.int .i64 ((K.ds.zip Fs).length : Int)) τ := by
  intro τ C
  rcases hA with ⟨rfl, h⟩ | ⟨id, g, rfl, _, _⟩
  ·have := congrArg List.length h; rw [pXs_length, List.length_nil] at this
   rw [w_len_n, this]; rfl
  ·rw [w_len_s, pXs_length]
 have hlow : ∀ i, ¬ Oth XA i → l1 ≤ i := fun i hi => (hG.low i hi).1
 have hFlow : ∀ p ∈ K.ds.zip Fs, ∀ i, ¬ Oth p.2 i → 2 ≤ i := fun p hp i hi => by have := (hG.loE p.2 (hmem p hp).2 i hi).1; omega
 generalize K.ds.zip Fs = P at *
 try simp (disch := omega) only [go_sem, jA, jB, jC, jD, jE, jF, jG, jH, jI, jJ, ↓reduceIte, reduceCtorEq, jO, jM, jN, jK, jL, u0, hP.flat, hP.cells, hP.one, hA.flat, hA.cells, hA.one, dk_put, hXAl]
 refine awp_upG [6, 8, 18, 19, 20, 21, 22, 23, 24, 25, 26, 27, 28, 29, 30, 31, 32, 33, 34, 35] (by kernel_rfl) P.length (fun k e σ => e 18 = .int .i64 k ∧ n1 ≤ σ.n ∧ (∀ i, i < n1 → i ≠ 0 → σ.ob i = ob1 i) ∧ σ.ob 0 = some ⟨0, 3, 31, false, true, [.agg [XP, .int .i64 K.nx, XA]]⟩ ∧
  ∃ Y, At e 6 Y ∧ SlR 7 tyDv σ (pXs ((P.take k).filter fun p => !clrD now p.1)) Y ∧ ∀ i, i < n1 → Oth Y i) ?_ ?_
 ·exact ⟨(by first | rfl | (simp (disch := omega) only [go_sem, jA, jB, jC, jD, jE, jF, jG, jH, jI, jJ, ↓reduceIte, reduceCtorEq, jP, jO, jM, jN]; try rfl)), Nat.le_refl _, fun i hi hne => upd_ne _ _ _ _ hne, by try simp (disch := omega) only [go_sem, jA, jB, jC, jD, jE, jF, jG, jH, jI, jJ, ↓reduceIte, reduceCtorEq, jO, jM, jN, jK, jL], .nil, (by simp only [At]; try simp (disch := omega) only [go_sem, jA, jB, jC, jD, jE, jF, jG, jH, jI, jJ, ↓reduceIte, reduceCtorEq, jO, jM, jN, jK, jL]), by simp [pXs]; exact SlR.nil, fun i _ => Oth.nil i⟩
 rintro k fe ob m c hk hm ⟨h18, hm1, ho, v0, Y, h6, hY, hYo⟩
 simp (maxSteps := 1000000) only [go_sem, jA, jB, jC, jD, jE, jF, jG, jH, jI, jJ, ↓reduceIte, reduceCtorEq, jP, At] at h18 hm hm1 ho v0 h6
 try simp (disch := omega) only [go_sem, jA, jB, jC, jD, jE, jF, jG, jH, jI, jJ, ↓reduceIte, reduceCtorEq, jO, jM, jN, jK, jL, h18]
 refine cond_d (fun hlt => ?_) (fun hge => ?_)
 ·have hkl : k < P.length := by omega
  have hk2 : P[k]? = some P[k] := List.getElem?_eq_getElem hkl
  have hsn := filtP_snoc (q := fun p : Dv × AV => clrD now p.1) hkl
  have hSk := hmem _ (List.getElem_mem hkl)
  generalize P[k] = p at *
  obtain ⟨s1, s2, s3⟩ := hSk.1.sn
  rcases hA with ⟨rfl, h⟩ | ⟨ia, ga, rfl, hia, hoa⟩
  ·have := congrArg List.length h; rw [pXs_length, List.length_nil] at this; omega
  simp only at hia hoa
  have hal := hlow ia fun h => h _ _ _ _ rfl
  have va := (ho ia hia (by omega)).trans hoa
  have z0 : ¬ 0 = m := by omega
  rw [pXs_length] at v0
  have hpl : (pXs ((P.take k).filter fun p => !clrD now p.1)).length ≤ 64 := by
   rw [pXs_length]
   have := List.length_filter_le (fun p : Dv × AV => !clrD now p.1) (P.take k)
   rw [List.length_take] at this; omega
  try simp (disch := omega) only [go_sem, jA, jB, jC, jD, jE, jF, jG, jH, jI, jJ, ↓reduceIte, reduceCtorEq, jO, jM, jN, jK, jL, h18, v0, va, pXs_get, pXs_length, hk2, Option.map_some, pX, dvX, z0, s1, s2, s3]
  refine ⟨by omega, by omega, ?_⟩
  cases hw : p.1.wd
  case true =>
   try simp (disch := omega) only [go_sem, jA, jB, jC, jD, jE, jF, jG, jH, jI, jJ, ↓reduceIte, reduceCtorEq, jO, jM, jN, jK, jL, h18]
   refine up_nextG m hkl (by omega) ⟨(by first | rfl | (simp (disch := omega) only [go_sem, jA, jB, jC, jD, jE, jF, jG, jH, jI, jJ, ↓reduceIte, reduceCtorEq, jP, jO, jM, jN]; try rfl)), by simp only [St.trunc]; omega, fun i hi hne => ?_, ?_, Y, (by simp only [At]; try simp (disch := omega) only [go_sem, jA, jB, jC, jD, jE, jF, jG, jH, jI, jJ, ↓reduceIte, reduceCtorEq, jO, jM, jN, jK, jL, h6]), ?_, hYo⟩
   ·simp only [St.trunc]; rw [if_pos (by omega), upd_ne _ _ _ _ (by omega), upd_ne _ _ _ _ (by omega)]; exact ho i hi hne
   ·simp only [St.trunc]; rw [if_pos (by omega), upd_ne _ _ _ _ (by omega), upd_ne _ _ _ _ (by omega)]; exact v0
   ·rw [hsn, if_pos (by simp [clrD, hw]), List.append_nil]
    exact hY.move (by simp only [St.trunc]; omega) fun i hi _ => by simp only at hi; simp only [St.trunc]; rw [if_pos (by omega), upd_ne _ _ _ _ (by omega), upd_ne _ _ _ _ (by omega)]
  try simp (disch := omega) only [go_sem, jA, jB, jC, jD, jE, jF, jG, jH, jI, jJ, ↓reduceIte, reduceCtorEq, jO, jM, jN, jK, jL, h18]
  refine cond_d (fun g1 => ?_) (fun g1 => ?_)
  case refine_2 =>
   try simp (disch := omega) only [go_sem, jA, jB, jC, jD, jE, jF, jG, jH, jI, jJ, ↓reduceIte, reduceCtorEq, jO, jM, jN, jK, jL, h18]
   refine up_nextG m hkl (by omega) ⟨(by first | rfl | (simp (disch := omega) only [go_sem, jA, jB, jC, jD, jE, jF, jG, jH, jI, jJ, ↓reduceIte, reduceCtorEq, jP, jO, jM, jN]; try rfl)), by simp only [St.trunc]; omega, fun i hi hne => ?_, ?_, Y, (by simp only [At]; try simp (disch := omega) only [go_sem, jA, jB, jC, jD, jE, jF, jG, jH, jI, jJ, ↓reduceIte, reduceCtorEq, jO, jM, jN, jK, jL, h6]), ?_, hYo⟩
   ·simp only [St.trunc]; rw [if_pos (by omega), upd_ne _ _ _ _ (by omega), upd_ne _ _ _ _ (by omega)]; exact ho i hi hne
   ·simp only [St.trunc]; rw [if_pos (by omega), upd_ne _ _ _ _ (by omega), upd_ne _ _ _ _ (by omega)]; exact v0
   ·rw [hsn, if_pos (by simp [clrD, hw]; omega), List.append_nil]
    exact hY.move (by simp only [St.trunc]; omega) fun i hi _ => by simp only at hi; simp only [St.trunc]; rw [if_pos (by omega), upd_ne _ _ _ _ (by omega), upd_ne _ _ _ _ (by omega)]
  try simp (disch := omega) only [go_sem, jA, jB, jC, jD, jE, jF, jG, jH, jI, jJ, ↓reduceIte, reduceCtorEq, jO, jM, jN, jK, jL, h18, h6, z0, s1, s2, s3]
  have hcl : clrD now p.1 = false := by simp [clrD, hw]; omega
  rw [hcl, if_neg (by simp)] at hsn
  have hpx : AV.agg [.int .i64 p.1.id, .int .i64 p.1.site, .int .i64 p.1.fr, .int .i64 p.1.to, .int .i64 p.1.rel, p.2, .bool false] = pX p := by rw [← hw]; rfl
  rw [hpx]
  refine app_er (ER.of_sl (L := [pX p]) (upd_same _ _ _) (Nat.lt_succ_self _)) ?_
  refine app_slr (b := 72) (hY.move (by simp only; omega) fun i hi hh => ?_) (by omega) (by omega) fun Y' τ2 hY2 kY => ?_
  ·simp only at hi ⊢
   rw [upd_ne _ _ _ _ (by omega), upd_ne _ _ _ _ (by omega), upd_ne _ _ _ _ (by omega)]
  obtain ⟨ob7, m7, c7⟩ := τ2
  have q1 : m + 1 + 1 ≤ m7 := kY.1
  have q2 : ∀ i, i < m → Oth Y i → ob7 i = ob i := fun i hi h => (kY.2.1 i (by simp only; omega) h).trans (by simp only; rw [upd_ne _ _ _ _ (by omega), upd_ne _ _ _ _ (by omega), upd_ne _ _ _ _ (by omega)])
  try simp (disch := omega) only [go_sem, jA, jB, jC, jD, jE, jF, jG, jH, jI, jJ, ↓reduceIte, reduceCtorEq, jO, jM, jN, jK, jL, h18]
  refine up_nextG m7 hkl (by omega) ⟨(by first | rfl | (simp (disch := omega) only [go_sem, jA, jB, jC, jD, jE, jF, jG, jH, jI, jJ, ↓reduceIte, reduceCtorEq, jP, jO, jM, jN]; try rfl)), by simp only [St.trunc]; omega, fun i hi hne => ?_, ?_, Y', (by simp only [At]; try simp (disch := omega) only [go_sem, jA, jB, jC, jD, jE, jF, jG, jH, jI, jJ, ↓reduceIte, reduceCtorEq, jO, jM, jN, jK, jL]), ?_, fun i hi => kY.2.2 i (by simp only; omega) (hYo i hi)⟩
  ·rw [tr_ob (by omega), q2 i (by omega) (hYo i hi)]; exact ho i hi hne
  ·rw [tr_ob (by omega), q2 0 (by omega) (hYo 0 (by omega))]; exact v0
  ·rw [hsn, pXs_app]
   exact hY2.tr
 ·obtain rfl : k = P.length := by omega
  rw [List.take_length] at hY
  have v1 := (ho 1 (by omega) (by omega)).trans u1
  try simp (disch := omega) only [go_sem, jA, jB, jC, jD, jE, jF, jG, jH, jI, jJ, ↓reduceIte, reduceCtorEq, jO, jM, jN, jK, jL, v0, v1, h6, hP.flat, hP.cells, hP.one, hA.flat, hA.cells, hA.one, hY.flat, hY.cells, hY.one]
  rw [clrS, if_neg (by simp [hc])]
  simp only
  rw [← hz]
  refine Pub.tu (.cons (pub_dkP (hP.move (by simp only; omega) fun i hi hh => ?_) ((SlP.of hY).move (Nat.le_refl _) fun i hi hh => ?_) fun p hp => ?_) (.cons (Pub.e rfl) .nil))
  ·have h9 := hPl i hh
   simp only at hi ⊢
   rw [upd_ne _ _ _ _ (by omega), upd_ne _ _ _ _ (by omega), ho i hi (by omega)]
  ·have h9 : n1 ≤ i := Nat.le_of_not_lt fun h => hh (hYo i h)
   simp only
   rw [upd_ne _ _ _ _ (by omega), upd_ne _ _ _ _ (by omega)]
  ·have hp1 := (List.mem_filter.1 hp).1
   refine (hmem p hp1).1.move (by simp only; omega) fun i hi hh => ?_
   have h9 := hFlow p hp1 i hh
   simp only at hi ⊢
   rw [upd_ne _ _ _ _ (by omega), upd_ne _ _ _ _ (by omega), ho i hi (by omega)]
def kS0 : Dk := ⟨[⟨1, 1, 5⟩, ⟨2, 2, 6⟩], 1, []⟩
def xS0 : Dv := ⟨1, 0, 3, 9, 40, [], false⟩
def kS1 : Dk := ⟨[⟨1, 1, 5⟩, ⟨2, 2, 6⟩], 2, [xS0]⟩
def kS2 : Dk := ⟨[⟨1, 1, 5⟩, ⟨2, 2, 6⟩], 2, [⟨1, 0, 3, 9, 40, [1], false⟩]⟩
def kS3 : Dk := ⟨[⟨1, 1, 5⟩, ⟨2, 2, 6⟩], 2, [⟨1, 0, 3, 9, 40, [1, 2], false⟩]⟩
theorem sS1 : reqS kS0 0 3 9 40 = (kS1, 1, 0) := by decide +kernel
theorem sS2 : infS kS1 0 5 = (dv0, false) := by decide +kernel
theorem sS3 : sgnS kS1 1 1 (codeS 5 1 xS0) 3 = (kS2, 0) := by decide +kernel
theorem sS4 : sgnS kS2 1 2 (codeS 6 1 xS0) 3 = (kS3, 0) := by decide +kernel
theorem sS5 : infS kS3 0 5 = (⟨1, 0, 3, 9, 40, [1, 2], false⟩, true) := by decide +kernel
theorem sS6 : codeS 1 1 dv0 = 230903379 := by decide +kernel
theorem dv0_nl : NlR (.agg [.int .i64 0, .int .i64 0, .int .i64 0, .int .i64 0, .int .i64 0, .nil, .bool false]) (dvv dv0) :=
 .agg (.cons .rfl (.cons .rfl (.cons .rfl (.cons .rfl (.cons .rfl (.cons (.nil 1) (.cons .rfl .nil)))))))
theorem ok_law26_sane : PC prog n_law26_sane [] (.bool true) := by
 have h1 := ok_deviation_Request kS0 ⟨by decide, by decide⟩ 0 3 9 40
 have h2 := ok_deviation_InForce kS1 ⟨by decide, by decide⟩ 0 5
 have h3 := ok_deviation_Code 5 1 xS0
 have h4 := ok_deviation_Sign kS1 ⟨by decide, by decide⟩ 1 1 (codeS 5 1 xS0) 3
 have h5 := ok_deviation_Code 6 1 xS0
 have h6 := ok_deviation_Sign kS2 ⟨by decide, by decide⟩ 1 2 (codeS 6 1 xS0) 3
 have h7 := ok_deviation_InForce kS3 ⟨by decide, by decide⟩ 0 5
 have h8 := pc_nl (ok_deviation_Code 1 1 dv0) (.cons .rfl (.cons .rfl (.cons dv0_nl .nil)))
 rw [sS1] at h1
 rw [sS2] at h2
 rw [sS3] at h4
 rw [sS4] at h6
 rw [sS5] at h7
 rw [sS6] at h8
 have h1 := pc_nl (args := [.agg [.list 3 [.agg [.int .i64 1, .int .i64 1, .int .i64 5], .agg [.int .i64 2, .int .i64 2, .int .i64 6]], .int .i64 1, .nil], .int .i64 0, .int .i64 3, .int .i64 9, .int .i64 40]) h1 (.cons (.agg (.cons .rfl (.cons .rfl (.cons (.nil 7) .nil)))) (NlRs.refl _))
 generalize codeS 5 1 xS0 = k1 at *
 generalize codeS 6 1 xS0 = k2 at *
 simp only [dkv, kS1, kS2, kS3, xS0, pns, dvs, dvv, dvX, pnv, ints, List.map_cons, List.map_nil, dv0] at h1 h2 h3 h4 h5 h6 h7
 refine PC_of_body b_law26_sane (by simp) ?_
 simp only [c_law26_sane, go_sem, jA, jB, jC, jD, jE, jF, jG, jH, jI, jJ, ↓reduceIte, reduceCtorEq, jP]
 try simp (disch := omega) only [go_sem, jA, jB, jC, jD, jE, jF, jG, jH, jI, jJ, ↓reduceIte, reduceCtorEq, jO, jM, jN, jK, jL]
 refine call_pc h1 (by simp [go_sem]) ?_
 try simp (disch := omega) only [go_sem, jA, jB, jC, jD, jE, jF, jG, jH, jI, jJ, ↓reduceIte, reduceCtorEq, jO, jM, jN, jK, jL]
 refine call_pc h2 (by simp [go_sem]) ?_
 try simp (disch := omega) only [go_sem, jA, jB, jC, jD, jE, jF, jG, jH, jI, jJ, ↓reduceIte, reduceCtorEq, jO, jM, jN, jK, jL]
 refine call_pc h3 (by simp [go_sem]) ?_
 try simp (disch := omega) only [go_sem, jA, jB, jC, jD, jE, jF, jG, jH, jI, jJ, ↓reduceIte, reduceCtorEq, jO, jM, jN, jK, jL]
 refine call_pc h4 (by simp [go_sem]) ?_
 try simp (disch := omega) only [go_sem, jA, jB, jC, jD, jE, jF, jG, jH, jI, jJ, ↓reduceIte, reduceCtorEq, jO, jM, jN, jK, jL]
 refine call_pc h5 (by simp [go_sem]) ?_
 try simp (disch := omega) only [go_sem, jA, jB, jC, jD, jE, jF, jG, jH, jI, jJ, ↓reduceIte, reduceCtorEq, jO, jM, jN, jK, jL]
 refine call_pc h6 (by simp [go_sem]) ?_
 try simp (disch := omega) only [go_sem, jA, jB, jC, jD, jE, jF, jG, jH, jI, jJ, ↓reduceIte, reduceCtorEq, jO, jM, jN, jK, jL]
 refine call_pc h7 (by simp [go_sem]) ?_
 try simp (disch := omega) only [go_sem, jA, jB, jC, jD, jE, jF, jG, jH, jI, jJ, ↓reduceIte, reduceCtorEq, jO, jM, jN, jK, jL]
 refine call_pc h8 (by simp [go_sem]) ?_
 try simp (disch := omega) only [go_sem, jA, jB, jC, jD, jE, jF, jG, jH, jI, jJ, ↓reduceIte, reduceCtorEq, jO, jM, jN, jK, jL]
 exact Pub.pure rfl
abbrev shI26 : Sh := .int .i64
abbrev shPn : Sh := .struct (.fc shI26 (.fc shI26 (.fc shI26 .f0)))
abbrev shDv : Sh := .struct (.fc shI26 (.fc shI26 (.fc shI26 (.fc shI26 (.fc shI26 (.fc (.slice 1 shI26) (.fc .bool .f0)))))))
abbrev shDk : Sh := .struct (.fc (.slice 3 shPn) (.fc shI26 (.fc (.slice 7 shDv) .f0)))
theorem shPnR {c : List AV} (h : shPn.R c) : ∃ b : Pn, shPn.mk1 c = pnv b := by
 obtain ⟨x1, y1, rfl, ⟨a, rfl, _⟩, x2, y2, rfl, ⟨b, rfl, _⟩, x3, y3, rfl, ⟨d, rfl, _⟩, rfl⟩ := h
 exact ⟨⟨a, b, d⟩, rfl⟩
theorem shDvR {c : List AV} (h : shDv.R c) : ∃ b : Dv, b.sg.length ≤ 9223372036854775807 ∧ shDv.mk1 c = dvv b := by
 obtain ⟨x1, y1, rfl, ⟨a1, rfl, _⟩, x2, y2, rfl, ⟨a2, rfl, _⟩, x3, y3, rfl, ⟨a3, rfl, _⟩, x4, y4, rfl, ⟨a4, rfl, _⟩, x5, y5, rfl, ⟨a5, rfl, _⟩, x6, y6, rfl, h6, x7, y7, rfl, ⟨a7, rfl⟩, rfl⟩ := h
 obtain ⟨l, rfl, hl, _⟩ := shInts h6
 exact ⟨⟨a1, a2, a3, a4, a5, l, a7⟩, hl, rfl⟩
theorem shPnsR {c : List AV} (h : (Sh.slice 3 shPn).R c) : ∃ L : List Pn, c = [.list 3 (pns L)] ∧ L.length ≤ 9223372036854775807 := by
 obtain ⟨xs, rfl, hl, h⟩ := h
 obtain ⟨L, rfl, hL⟩ := exists_map (f := pnv) (Q := fun _ => True) fun x hx => by
  obtain ⟨cs, hr, _, rfl⟩ := h x hx
  obtain ⟨b, hb⟩ := shPnR hr
  exact ⟨b, trivial, hb⟩
 exact ⟨L, rfl, by simpa using hl⟩
theorem shDvsR {c : List AV} (h : (Sh.slice 7 shDv).R c) : ∃ L : List Dv, c = [.list 7 (dvs L)] ∧ L.length ≤ 9223372036854775807 ∧ ∀ d ∈ L, d.sg.length ≤ 9223372036854775807 := by
 obtain ⟨xs, rfl, hl, h⟩ := h
 obtain ⟨L, rfl, hL⟩ := exists_map (f := dvv) (Q := fun d => d.sg.length ≤ 9223372036854775807) fun x hx => by
  obtain ⟨cs, hr, _, rfl⟩ := h x hx
  obtain ⟨b, hb1, hb⟩ := shDvR hr
  exact ⟨b, hb1, hb⟩
 exact ⟨L, rfl, by simpa using hl, hL⟩
theorem shDkR {c : List AV} (h : shDk.R c) : ∃ K : Dk, shDk.mk1 c = dkv K ∧ K.ps.length ≤ 9223372036854775807 ∧ K.ds.length ≤ 9223372036854775807 ∧ ∀ d ∈ K.ds, d.sg.length ≤ 9223372036854775807 := by
 obtain ⟨x1, y1, rfl, h1, x2, y2, rfl, ⟨n, rfl, _⟩, x3, y3, rfl, h3, rfl⟩ := h
 obtain ⟨L1, rfl, l1⟩ := shPnsR h1
 obtain ⟨L3, rfl, l3, m3⟩ := shDvsR h3
 exact ⟨⟨L1, n, L3⟩, rfl, l1, l3, m3⟩
def sumW : Int → List Dv → Int
 | c, [] => c
 | c, d :: l => sumW (IntKind.i64.wrap (c + d.sg.length)) l
def smlS (K : Dk) : Bool := decide (IntKind.i64.wrap (IntKind.i64.wrap ((K.ps.length : Int) + K.ds.length) + sumW 0 K.ds) < 300)
theorem ok_law26_small (K : Dk) (hL : DkL K) : PC prog n_law26_small [dkv K] (.bool (smlS K)) := by
 have hlp := hL.s.lp
 have hld := hL.s.ld
 refine PC_of_body b_law26_small (by simp) ?_
 simp only [c_law26_small, dkv]
 try simp (disch := omega) only [go_sem, jA, jB, jC, jD, jE, jF, jG, jH, jI, jJ, ↓reduceIte, reduceCtorEq, jO, jM, jN, jK, jL, dvs_length]
 refine awp_upG [3, 5, 9, 10, 11, 12, 13, 14, 15, 16, 17, 18] (by kernel_rfl) K.ds.length (fun i e σ => e 9 = .int .i64 i ∧ (∃ c, e 3 = .int .i64 c ∧ sumW 0 K.ds = sumW c (K.ds.drop i)) ∧ σ.ob 0 = some ⟨0, 3, 31, false, true, [.agg [.list 3 (pns K.ps), .int .i64 K.nx, .list 7 (dvs K.ds)]]⟩) ?_ ?_
 ·exact ⟨(by first | rfl | (simp (disch := omega) only [go_sem, jA, jB, jC, jD, jE, jF, jG, jH, jI, jJ, ↓reduceIte, reduceCtorEq, jP, jO, jM, jN]; try rfl)), ⟨0, (by first | rfl | (simp (disch := omega) only [go_sem, jA, jB, jC, jD, jE, jF, jG, jH, jI, jJ, ↓reduceIte, reduceCtorEq, jP, jO, jM, jN]; try rfl)), rfl⟩, by try simp (disch := omega) only [go_sem, jA, jB, jC, jD, jE, jF, jG, jH, jI, jJ, ↓reduceIte, reduceCtorEq, jO, jM, jN, jK, jL]⟩
 rintro i fe ob m c hi hm ⟨h9, ⟨x, h3, hx⟩, v0⟩
 simp (maxSteps := 1000000) only [go_sem, jA, jB, jC, jD, jE, jF, jG, jH, jI, jJ, ↓reduceIte, reduceCtorEq, jP] at h9 h3 v0 hm
 try simp (disch := omega) only [go_sem, jA, jB, jC, jD, jE, jF, jG, jH, jI, jJ, ↓reduceIte, reduceCtorEq, jO, jM, jN, jK, jL, h9]
 refine cond_d (fun hlt => ?_) (fun hge => ?_)
 ·have hil : i < K.ds.length := by omega
  have hg : K.ds[i]? = some K.ds[i] := List.getElem?_eq_getElem hil
  rw [List.drop_eq_getElem_cons hil, sumW] at hx
  generalize K.ds[i] = d at *
  try simp (disch := omega) only [go_sem, jA, jB, jC, jD, jE, jF, jG, jH, jI, jJ, ↓reduceIte, reduceCtorEq, jO, jM, jN, jK, jL, h9, h3, dvs_length, dvs_get, hg, Option.map_some, dvv, dvX, ints_length]
  refine ⟨by omega, by omega, ?_⟩
  refine up_nextG m hil (by omega) ⟨(by first | rfl | (simp (disch := omega) only [go_sem, jA, jB, jC, jD, jE, jF, jG, jH, jI, jJ, ↓reduceIte, reduceCtorEq, jP, jO, jM, jN]; try rfl)), ⟨_, by try simp (disch := omega) only [go_sem, jA, jB, jC, jD, jE, jF, jG, jH, jI, jJ, ↓reduceIte, reduceCtorEq, jO, jM, jN, jK, jL, h3], hx⟩, ?_⟩
  simp only [St.trunc]; rw [if_pos (by omega), upd_ne _ _ _ _ (by omega), upd_ne _ _ _ _ (by omega)]; exact v0
 obtain rfl : i = K.ds.length := by omega
 rw [List.drop_length, sumW] at hx
 try simp (disch := omega) only [go_sem, jA, jB, jC, jD, jE, jF, jG, jH, jI, jJ, ↓reduceIte, reduceCtorEq, jO, jM, jN, jK, jL, v0, h3, pns_length, dvs_length]
 rw [smlS, hx]
 exact Pub.pure rfl
theorem DkB.l {K : Dk} (h : DkB K) : DkL K := ⟨h.s, fun d hd => by have := (h.kd d hd).2.2; omega⟩
theorem dk0_l : DkL dk0 := dk0_b.l
theorem DkL.clr {K : Dk} (h : DkL K) (now : Int) : DkL (clrS K now).1 := by
 unfold clrS
 split
 ·exact dk0_l
 ·refine ⟨⟨h.s.lp, ?_⟩, fun d hd => h.sg d (List.mem_filter.1 hd).1⟩
  have := List.length_filter_le (fun d => !clrD now d) K.ds
  have := h.s.ld
  simp only; omega
theorem inf_sg {K : Dk} (site time : Int) : (infS K site time).1.sg.length ≤ 2 := by
 unfold infS
 cases hc : chkD K
 ·simp [dv0]
 ·simp only [Bool.true_eq_false, if_false]
  cases hf : K.ds.reverse.find? (hitD site time) with
  | none => simp [dv0]
  | some d => exact chkD_sg hc (List.mem_reverse.1 (List.mem_of_find?_eq_some hf))
theorem two_dk {a b : Dk} {i : Nat} (hi : i < 2) (ha : DkL a) (hb : DkL b) : ∃ M, [dkv a, dkv b][i]? = some (dkv M) ∧ DkL M := by
 rcases (show i = 0 ∨ i = 1 by omega) with rfl | rfl
 ·exact ⟨a, rfl, ha⟩
 ·exact ⟨b, rfl, hb⟩
theorem two_int {a b : Int} {i : Nat} (hi : i < 2) : ∃ s : Int, [AV.int .i64 a, .int .i64 b][i]? = some (.int .i64 s) := by
 rcases (show i = 0 ∨ i = 1 by omega) with rfl | rfl
 ·exact ⟨a, rfl⟩
 ·exact ⟨b, rfl⟩
theorem dkv_p1 (K : Dk) : (dkv K).cells.all AV.pur1 = true := by simp [dkv, AV.cells, go_sem, AV.pur1, pns_pur, dvs_pur]
set_option maxHeartbeats 8000000 in
theorem ok_law26_DeviationTells (t : List Int) (raw : Dk) (d : Dv) (key kind site time : Int) (hL : DkL raw) : PC prog n_law26_DeviationTells [.list 1 (ints t), dkv raw, dvv d, .int .i64 key, .int .i64 kind, .int .i64 site, .int .i64 time] (.bool true) := by
 refine PC_of_body b_law26_DeviationTells (by simp) ?_
 simp only [c_law26_DeviationTells]
 try simp (disch := omega) only [go_sem, jA, jB, jC, jD, jE, jF, jG, jH, jI, jJ, ↓reduceIte, reduceCtorEq, jO, jM, jN, jK, jL, dkv_flat, dkv_len, dkv_tk, dkv_dt, dvv_flat, dvv_len, dvv_tk, dvv_dt]
 refine call_pc ok_law26_sane (by simp) ?_
 try simp (disch := omega) only [go_sem, jA, jB, jC, jD, jE, jF, jG, jH, jI, jJ, ↓reduceIte, reduceCtorEq, jO, jM, jN, jK, jL]
 refine call_pc (ok_mk_Few t) (by simp [go_sem]) ?_
 cases hfew : fewB t
 ·try simp (disch := omega) only [go_sem, jA, jB, jC, jD, jE, jF, jG, jH, jI, jJ, ↓reduceIte, reduceCtorEq, jO, jM, jN, jK, jL]
  exact Pub.of_eq rfl rfl
 have hlt : t.length ≤ 9223372036854775807 := by simp [fewB] at hfew; omega
 try simp (disch := omega) only [go_sem, jA, jB, jC, jD, jE, jF, jG, jH, jI, jJ, ↓reduceIte, reduceCtorEq, jO, jM, jN, jK, jL, dkv_flat, dkv_len, dkv_tk, dkv_dt]
 refine call_pc (ok_law26_small raw hL) (by simp [dkv_pur]) ?_
 cases hsm : smlS raw
 ·try simp (disch := omega) only [go_sem, jA, jB, jC, jD, jE, jF, jG, jH, jI, jJ, ↓reduceIte, reduceCtorEq, jO, jM, jN, jK, jL]
  exact Pub.of_eq rfl rfl
 try simp (disch := omega) only [go_sem, jA, jB, jC, jD, jE, jF, jG, jH, jI, jJ, ↓reduceIte, reduceCtorEq, jO, jM, jN, jK, jL]
 refine call_hc (ok_mk_New _ t) ?_
 try simp (disch := omega) only [go_sem, jA, jB, jC, jD, jE, jF, jG, jH, jI, jJ, ↓reduceIte, reduceCtorEq, jO, jM, jN, jK, jL]
 refine (hc_flow_Desk _ 2 2 t 0 hlt (by simp only [St.push]; omega) (by try simp (disch := omega) only [go_sem, jA, jB, jC, jD, jE, jF, jG, jH, jI, jJ, ↓reduceIte, reduceCtorEq, jO, jM, jN, jK, jL])).mono ?_
 intro r τ hD
 obtain ⟨⟨K, rfl, hK⟩, hn, ⟨at1, hd1⟩, hf⟩ := hD.use (by simp only [St.push]; omega)
 obtain ⟨ob, m, c⟩ := τ
 simp only [St.push] at hn hd1 hf
 subst hn
 clear hD
 have v0 := hf 0 (by omega) (by omega)
 have v1 := hf 1 (by omega) (by omega)
 try simp (disch := omega) only [go_sem, jA, jB, jC, jD, jE, jF, jG, jH, jI, jJ, ↓reduceIte, reduceCtorEq, jO, jM, jN, jK, jL] at v0
 try simp (disch := omega) only [go_sem, jA, jB, jC, jD, jE, jF, jG, jH, jI, jJ, ↓reduceIte, reduceCtorEq, jO, jM, jN, jK, jL] at v1
 have hKL := hK.l
 try simp (disch := omega) only [go_sem, jA, jB, jC, jD, jE, jF, jG, jH, jI, jJ, ↓reduceIte, reduceCtorEq, jO, jM, jN, jK, jL, v0, v1, dkv_flat, dkv_len, dkv_tk, dkv_dt, dkv_ct, dkv_ca, dkv_one, dkv_p1]
 have hPair := fun i (hi : i < 2) => two_dk (i := i) hi hL hKL
 have hPl : [dkv raw, dkv K].length = 2 := rfl
 generalize [dkv raw, dkv K] = PL at *
 refine awp_upG [14, 17, 19, 21, 22, 23, 24, 25, 26, 27, 28, 29, 47, 48, 49, 50, 51, 52, 53, 54, 55, 56, 57, 58, 59, 60, 61, 62, 63, 64, 65, 66, 67, 68, 69, 70, 71, 72, 73, 74, 75, 76, 77, 78, 79, 80, 81, 82, 83, 84, 85, 86, 87, 88, 89, 90, 91, 92, 93, 94, 95, 96, 97, 98, 99, 100, 101, 102, 103, 104, 105, 106, 107, 108, 109, 110, 111, 112, 113, 114, 115, 116, 117, 118, 119, 120, 121, 122, 123, 124, 125, 126, 127, 128, 129] (by kernel_rfl) 2 (fun i e σ => e 47 = .int .i64 i ∧ 4 ≤ σ.n ∧ σ.ob 3 = some ⟨c, 3, 31, false, true, [dkv K]⟩ ∧ σ.ob 1 = some ⟨1, 7, 43, false, true, [dvv d]⟩) ?_ ?_
 ·exact ⟨(by first | rfl | (simp (disch := omega) only [go_sem, jA, jB, jC, jD, jE, jF, jG, jH, jI, jJ, ↓reduceIte, reduceCtorEq, jP, jO, jM, jN]; try rfl)), Nat.le_refl _, by try simp (disch := omega) only [go_sem, jA, jB, jC, jD, jE, jF, jG, jH, jI, jJ, ↓reduceIte, reduceCtorEq, jO, jM, jN, jK, jL], by try simp (disch := omega) only [go_sem, jA, jB, jC, jD, jE, jF, jG, jH, jI, jJ, ↓reduceIte, reduceCtorEq, jO, jM, jN, jK, jL]; exact v1⟩
 clear v0 v1 hd1 hf
 rintro i fe ob1 q1 c1 hi hq1 ⟨hii, hq2, w3, w1⟩
 simp (maxSteps := 1000000) only [go_sem, jA, jB, jC, jD, jE, jF, jG, jH, jI, jJ, ↓reduceIte, reduceCtorEq, jP] at hii hq1 hq2 w3 w1
 try simp (disch := omega) only [go_sem, jA, jB, jC, jD, jE, jF, jG, jH, jI, jJ, ↓reduceIte, reduceCtorEq, jO, jM, jN, jK, jL, hii]
 refine cond_d (fun hlt1 => ?_) (fun hge1 => ?_)
 ·have hil : i < 2 := by omega
  obtain ⟨M, hM, hML⟩ := hPair i hil
  have a1 := ok_deviation_Check M hML.s
  have a2 := ok_ref26_Check M hML.s.lp hML.s.ld
  have a3 := ok_deviation_Same M K hML
  have a4 := ok_ref26_Same M K hML
  have a5 := ok_deviation_Clear M hML.s time
  have a6 := ok_ref26_Clear M hML.s time
  have a7 := ok_ref26_Same (clrS M time).1 (clrS M time).1 (hML.clr time)
  rw [decide_eq_true rfl] at a7
  have a8 := fun s t => ok_deviation_InForce M hML.s s t
  have a9 := fun s t => ok_ref26_InForce M hML.s s t
  have aA := fun s t => ok_ref26_SameDeviation (infS M s t).1 (infS M s t).1 (by have := inf_sg (K := M) s t; omega)
  have z3 : ¬ 3 = q1 := by omega
  try simp (disch := omega) only [go_sem, jA, jB, jC, jD, jE, jF, jG, jH, jI, jJ, ↓reduceIte, reduceCtorEq, jO, jM, jN, jK, jL, hii, hM, hPl, dkv_flat, dkv_len, dkv_tk, dkv_dt, dkv_ct, dkv_ca, z3, w3]
  refine ⟨by omega, by omega, ?_⟩
  refine ⟨dkv_one M, ?_⟩
  refine call_pc a1 (by simp [dkv_pur]) ?_
  try simp (disch := omega) only [go_sem, jA, jB, jC, jD, jE, jF, jG, jH, jI, jJ, ↓reduceIte, reduceCtorEq, jO, jM, jN, jK, jL]
  refine call_pc a2 (by simp [dkv_pur]) ?_
  try simp (disch := omega) only [go_sem, jA, jB, jC, jD, jE, jF, jG, jH, jI, jJ, ↓reduceIte, reduceCtorEq, jO, jM, jN, jK, jL, z3, w3, dkv_flat, dkv_len, dkv_tk, dkv_dt, dkv_ct, dkv_ca]
  refine call_pc a3 (by simp [dkv_pur]) ?_
  try simp (disch := omega) only [go_sem, jA, jB, jC, jD, jE, jF, jG, jH, jI, jJ, ↓reduceIte, reduceCtorEq, jO, jM, jN, jK, jL, z3, w3, dkv_flat, dkv_len, dkv_tk, dkv_dt, dkv_ct, dkv_ca]
  refine call_pc a4 (by simp [dkv_pur]) ?_
  have e1 : ∀ x : Bool, decide (x = x) = true := fun x => by simp
  try simp (disch := omega) only [go_sem, jA, jB, jC, jD, jE, jF, jG, jH, jI, jJ, ↓reduceIte, reduceCtorEq, jO, jM, jN, jK, jL, e1, Bool.not_true]
  refine call_pc (ok_mk_Mod site 3 (by omega) (by omega)) (by simp [go_sem]) ?_
  try simp (disch := omega) only [go_sem, jA, jB, jC, jD, jE, jF, jG, jH, jI, jJ, ↓reduceIte, reduceCtorEq, jO, jM, jN, jK, jL]
  have hSp := fun i (hi : i < 2) => two_int (a := site) (b := site % 3) (i := i) hi
  have hSl : [AV.int .i64 site, .int .i64 (site % 3)].length = 2 := rfl
  generalize [AV.int .i64 site, .int .i64 (site % 3)] = SL at *
  refine awp_upG [14, 19, 21, 22, 23, 24, 25, 70, 71, 72, 73, 74, 75, 76, 77, 78, 79, 80, 81, 82, 83, 84, 85, 86, 87, 88, 89, 90, 91, 92, 93, 94, 95, 96, 97, 98, 99, 100, 101, 102, 103, 104, 105, 106, 107] (by kernel_rfl) 2 (fun j e σ => e 70 = .int .i64 j ∧ q1 + 1 ≤ σ.n ∧ σ.ob 3 = some ⟨c, 3, 31, false, true, [dkv K]⟩ ∧ σ.ob 1 = some ⟨1, 7, 43, false, true, [dvv d]⟩ ∧ σ.ob q1 = some ⟨c1, 3, 31, false, true, [dkv M]⟩) ?_ ?_
  ·exact ⟨(by first | rfl | (simp (disch := omega) only [go_sem, jA, jB, jC, jD, jE, jF, jG, jH, jI, jJ, ↓reduceIte, reduceCtorEq, jP, jO, jM, jN]; try rfl)), Nat.le_refl _, by try simp (disch := omega) only [go_sem, jA, jB, jC, jD, jE, jF, jG, jH, jI, jJ, ↓reduceIte, reduceCtorEq, jO, jM, jN, jK, jL, z3]; exact w3, by simp only; rw [upd_ne _ _ _ _ (by omega), upd_ne _ _ _ _ (by omega)]; exact w1, by try simp (disch := omega) only [go_sem, jA, jB, jC, jD, jE, jF, jG, jH, jI, jJ, ↓reduceIte, reduceCtorEq, jO, jM, jN, jK, jL]⟩
  rintro j fe2 ob2 q2 c2 hj hq3 ⟨hjj, hq4, x3, x1, xq⟩
  simp (maxSteps := 1000000) only [go_sem, jA, jB, jC, jD, jE, jF, jG, jH, jI, jJ, ↓reduceIte, reduceCtorEq, jP] at hjj hq3 hq4 x3 x1 xq
  try simp (disch := omega) only [go_sem, jA, jB, jC, jD, jE, jF, jG, jH, jI, jJ, ↓reduceIte, reduceCtorEq, jO, jM, jN, jK, jL, hjj]
  refine cond_d (fun hlt2 => ?_) (fun hge2 => ?_)
  ·have hjl : j < 2 := by omega
   obtain ⟨s, hs⟩ := hSp j hjl
   try simp (disch := omega) only [go_sem, jA, jB, jC, jD, jE, jF, jG, jH, jI, jJ, ↓reduceIte, reduceCtorEq, jO, jM, jN, jK, jL, hjj, hs, hSl]
   refine ⟨by omega, by omega, ?_⟩
   refine call_pc (ok_mk_Mod time 24 (by omega) (by omega)) (by simp [go_sem]) ?_
   try simp (disch := omega) only [go_sem, jA, jB, jC, jD, jE, jF, jG, jH, jI, jJ, ↓reduceIte, reduceCtorEq, jO, jM, jN, jK, jL]
   have hTp := fun i (hi : i < 2) => two_int (a := time) (b := time % 24) (i := i) hi
   have hTl : [AV.int .i64 time, .int .i64 (time % 24)].length = 2 := rfl
   generalize [AV.int .i64 time, .int .i64 (time % 24)] = TL at *
   refine awp_upG [14, 21, 22, 23, 24, 25, 79, 80, 81, 82, 83, 84, 85, 86, 87, 88, 89, 90, 91, 92, 93, 94, 95, 96, 97, 98, 99, 100, 101, 102, 103, 104, 105, 106] (by kernel_rfl) 2 (fun j e σ => e 79 = .int .i64 j ∧ q2 ≤ σ.n ∧ σ.ob 3 = some ⟨c, 3, 31, false, true, [dkv K]⟩ ∧ σ.ob 1 = some ⟨1, 7, 43, false, true, [dvv d]⟩ ∧ σ.ob q1 = some ⟨c1, 3, 31, false, true, [dkv M]⟩) ?_ ?_
   ·exact ⟨(by first | rfl | (simp (disch := omega) only [go_sem, jA, jB, jC, jD, jE, jF, jG, jH, jI, jJ, ↓reduceIte, reduceCtorEq, jP, jO, jM, jN]; try rfl)), Nat.le_refl _, x3, x1, xq⟩
   rintro k fe3 ob3 q5 c3 hk hq6 ⟨hkk, hq7, y3, y1, yq⟩
   simp (maxSteps := 1000000) only [go_sem, jA, jB, jC, jD, jE, jF, jG, jH, jI, jJ, ↓reduceIte, reduceCtorEq, jP] at hkk hq6 hq7 y3 y1 yq
   try simp (disch := omega) only [go_sem, jA, jB, jC, jD, jE, jF, jG, jH, jI, jJ, ↓reduceIte, reduceCtorEq, jO, jM, jN, jK, jL, hkk]
   refine cond_d (fun hlt3 => ?_) (fun hge3 => ?_)
   ·have hkl : k < 2 := by omega
    obtain ⟨u, hu⟩ := hTp k hkl
    have b1 := a8 s u
    have b2 := a9 s u
    have b3 := aA s u
    rw [decide_eq_true rfl] at b3
    generalize infS M s u = R at *
    obtain ⟨R1, R2⟩ := R
    have zq : ¬ q1 = q5 := by omega
    have zq2 : ¬ q5 = q5 + 1 := by omega
    try simp (disch := omega) only [go_sem, jA, jB, jC, jD, jE, jF, jG, jH, jI, jJ, ↓reduceIte, reduceCtorEq, jO, jM, jN, jK, jL, hkk, hu, hTl, yq, dkv_flat, dkv_len, dkv_tk, dkv_dt, dkv_ct, dkv_ca]
    refine ⟨by omega, by omega, ?_⟩
    refine call_pc b1 (by simp [dkv_pur, go_sem]) ?_
    try simp (disch := omega) only [go_sem, jA, jB, jC, jD, jE, jF, jG, jH, jI, jJ, ↓reduceIte, reduceCtorEq, jO, jM, jN, jK, jL, yq, zq, dkv_flat, dkv_len, dkv_tk, dkv_dt, dkv_ct, dkv_ca, dvv_flat, dvv_len, dvv_tk, dvv_dt, dvv_ct, dvv_ca]
    refine call_pc b2 (by simp [dkv_pur, go_sem]) ?_
    try simp (disch := omega) only [go_sem, jA, jB, jC, jD, jE, jF, jG, jH, jI, jJ, ↓reduceIte, reduceCtorEq, jO, jM, jN, jK, jL, yq, zq, zq2, e1, Bool.not_true, dvv_flat, dvv_len, dvv_tk, dvv_dt, dvv_ct, dvv_ca]
    refine call_pc b3 (by simp [dvv_pur]) ?_
    try simp (disch := omega) only [go_sem, jA, jB, jC, jD, jE, jF, jG, jH, jI, jJ, ↓reduceIte, reduceCtorEq, jO, jM, jN, jK, jL, hkk]
    refine up_nextG q5 hkl (by omega) ⟨(by first | rfl | (simp (disch := omega) only [go_sem, jA, jB, jC, jD, jE, jF, jG, jH, jI, jJ, ↓reduceIte, reduceCtorEq, jP, jO, jM, jN]; try rfl)), by simp only [St.trunc]; omega, ?_, ?_, ?_⟩
    ·simp only [St.trunc]; rw [if_pos (by omega)]; repeat rw [upd_ne _ _ _ _ (by omega)]
     exact y3
    ·simp only [St.trunc]; rw [if_pos (by omega)]; repeat rw [upd_ne _ _ _ _ (by omega)]
     exact y1
    ·simp only [St.trunc]; rw [if_pos (by omega)]; repeat rw [upd_ne _ _ _ _ (by omega)]
     exact yq
   clear hge3 hkk hk
   try simp (disch := omega) only [go_sem, jA, jB, jC, jD, jE, jF, jG, jH, jI, jJ, ↓reduceIte, reduceCtorEq, jO, jM, jN, jK, jL, hjj]
   exact up_nextG q5 hjl (by omega) ⟨(by first | rfl | (simp (disch := omega) only [go_sem, jA, jB, jC, jD, jE, jF, jG, jH, jI, jJ, ↓reduceIte, reduceCtorEq, jP, jO, jM, jN]; try rfl)), by simp only [St.trunc]; omega, by simp only [St.trunc]; rw [if_pos (by omega)]; exact y3, by simp only [St.trunc]; rw [if_pos (by omega)]; exact y1, by simp only [St.trunc]; rw [if_pos (by omega)]; exact yq⟩
  clear hge2 hjj hj
  generalize clrS M time = R at *
  obtain ⟨R1, R2⟩ := R
  have zq : ¬ q1 = q2 := by omega
  have zq2 : ¬ q2 = q2 + 1 := by omega
  try simp (disch := omega) only [go_sem, jA, jB, jC, jD, jE, jF, jG, jH, jI, jJ, ↓reduceIte, reduceCtorEq, jO, jM, jN, jK, jL, xq, dkv_flat, dkv_len, dkv_tk, dkv_dt, dkv_ct, dkv_ca]
  refine call_pc a5 (by simp [dkv_pur, go_sem]) ?_
  try simp (disch := omega) only [go_sem, jA, jB, jC, jD, jE, jF, jG, jH, jI, jJ, ↓reduceIte, reduceCtorEq, jO, jM, jN, jK, jL, xq, zq, dkv_flat, dkv_len, dkv_tk, dkv_dt, dkv_ct, dkv_ca]
  refine call_pc a6 (by simp [dkv_pur, go_sem]) ?_
  try simp (disch := omega) only [go_sem, jA, jB, jC, jD, jE, jF, jG, jH, jI, jJ, ↓reduceIte, reduceCtorEq, jO, jM, jN, jK, jL, xq, zq, zq2, dkv_flat, dkv_len, dkv_tk, dkv_dt, dkv_ct, dkv_ca]
  refine call_pc a7 (by simp [dkv_pur]) ?_
  try simp (disch := omega) only [go_sem, jA, jB, jC, jD, jE, jF, jG, jH, jI, jJ, ↓reduceIte, reduceCtorEq, jO, jM, jN, jK, jL, hii]
  refine up_nextG q2 hil (by omega) ⟨(by first | rfl | (simp (disch := omega) only [go_sem, jA, jB, jC, jD, jE, jF, jG, jH, jI, jJ, ↓reduceIte, reduceCtorEq, jP, jO, jM, jN]; try rfl)), by simp only [St.trunc]; omega, ?_, ?_⟩
  ·simp only [St.trunc]; rw [if_pos (by omega)]; repeat rw [upd_ne _ _ _ _ (by omega)]
   exact x3
  ·simp only [St.trunc]; rw [if_pos (by omega)]; repeat rw [upd_ne _ _ _ _ (by omega)]
   exact x1
 ·try simp (disch := omega) only [go_sem, jA, jB, jC, jD, jE, jF, jG, jH, jI, jJ, ↓reduceIte, reduceCtorEq, jO, jM, jN, jK, jL, w1, dvv_flat, dvv_len, dvv_tk, dvv_dt, dvv_ct, dvv_ca]
  refine call_pc (ok_deviation_Code key kind d) (by simp [dvv_pur, go_sem]) ?_
  try simp (disch := omega) only [go_sem, jA, jB, jC, jD, jE, jF, jG, jH, jI, jJ, ↓reduceIte, reduceCtorEq, jO, jM, jN, jK, jL, w1, dvv_flat, dvv_len, dvv_tk, dvv_dt, dvv_ct, dvv_ca]
  refine call_pc (ok_ref26_Code key kind d) (by simp [dvv_pur, go_sem]) ?_
  try simp (disch := omega) only [go_sem, jA, jB, jC, jD, jE, jF, jG, jH, jI, jJ, ↓reduceIte, reduceCtorEq, jO, jM, jN, jK, jL]
  exact Pub.of_eq (by simp) rfl
theorem law_law26_DeviationTells {c0 c1 c2 c3 c4 c5 c6 : List AV} (s0 : (Sh.slice 1 (.int .i64)).R c0) (s1 : shDk.R c1) (s2 : shDv.R c2) (s3 : (Sh.int .i64).R c3) (s4 : (Sh.int .i64).R c4) (s5 : (Sh.int .i64).R c5) (s6 : (Sh.int .i64).R c6) :
  PC prog n_law26_DeviationTells [(Sh.slice 1 (.int .i64)).mk1 c0, shDk.mk1 c1, shDv.mk1 c2, (Sh.int .i64).mk1 c3, (Sh.int .i64).mk1 c4, (Sh.int .i64).mk1 c5, (Sh.int .i64).mk1 c6] (.bool true) := by
 obtain ⟨l0, rfl, _, _⟩ := shInts s0
 obtain ⟨K, hK, h1, h2, h3⟩ := shDkR s1
 obtain ⟨d, _, hd⟩ := shDvR s2
 obtain ⟨a3, rfl, w3⟩ := s3
 obtain ⟨a4, rfl, w4⟩ := s4
 obtain ⟨a5, rfl, w5⟩ := s5
 obtain ⟨a6, rfl, w6⟩ := s6
 rw [hK, hd]
 exact ok_law26_DeviationTells l0 K d a3 a4 a5 a6 ⟨⟨h1, h2⟩, h3⟩
end Go.Proofs.Try
