/- OWN WORK, put together by tools/asm.py, seat.py, mini.py. -/
import Derived.Test.YtmjcbljjnhmmnaaLibC
set_option linter.unusedSimpArgs false
set_option linter.unusedVariables false
set_option maxRecDepth 100000
set_option maxHeartbeats 1000000
namespace Go.Proofs.Try
open Go.Ab Go
open Int renaming reduceEq → jA, reduceLT → jB, reduceLE → jC, reduceToNat → jD
open Go.Ab renaming w_ite_ne → jM, w_ite_lt → jN, wrap_id → jO, w_app_nl → jP
open Nat renaming reduceLT → jE, reduceEqDiff → jF, reduceAdd → jG, reduceLeDiff → jH, reduceSub → jI, reduceMul → jJ, sub_zero → jK, sub_self → jL
def plI (l : List Wn) (p : Int) : Nat := l.findIdx fun w => decide (p ≤ w.p)
def plB (l : List Wn) (p : Int) : Bool := (l[plI l p]?).any fun w => decide (w.p = p)
def hsI (l : List Cs) (c : Cs) : Nat := l.findIdx fun x => !csL x c
def hsB (l : List Cs) (c : Cs) : Bool := (l[hsI l c]?).any fun x => decide (x = c)
theorem idx_at {α : Type} {q : α → Bool} {l : List α} {k : Nat} (hk : k < l.length) (h : ∀ j, j < k → ∀ y, l[j]? = some y → q y = false) (hq : q l[k] = true) : l.findIdx q = k := by
 rw [List.findIdx_eq hk]
 exact ⟨hq, fun j hj => by have := h j hj l[j] (List.getElem?_eq_getElem (by omega)); simp [this]⟩
theorem idx_no {α : Type} {q : α → Bool} {l : List α} (h : ∀ j, j < l.length → ∀ y, l[j]? = some y → q y = false) : l.findIdx q = l.length := by
 rw [List.findIdx_eq_length]
 intro x hx
 obtain ⟨i, hi⟩ := List.getElem?_of_mem hx
 rw [h i (List.getElem?_eq_some_iff.1 hi).1 x hi]
theorem idx_next {α : Type} {q : α → Bool} {l : List α} {k : Nat} {x : α} (hx : l[k]? = some x) (h : ∀ j, j < k → ∀ y, l[j]? = some y → q y = false) (hq : q x = false) : ∀ j, j < k + 1 → ∀ y, l[j]? = some y → q y = false := fun j hj y hy => by
 by_cases e : j = k
 ·subst e; rw [hx] at hy; obtain rfl := Option.some.inj hy; exact hq
 ·exact h j (by omega) y hy
theorem ok_ref37_place (b : Bo) (p : Int) (h : BoL b) : PC prog n_ref37_place [bov b, .int .i64 p] (.tuple [.int .i64 (plI b.ac p), .bool (plB b.ac p)]) := by
 refine PC_of_body b_ref37_place (by simp) ?_
 simp only [c_ref37_place, go_sem, jA, jB, jC, jD, jE, jF, jG, jH, jI, jJ, ↓reduceIte, reduceCtorEq, jP, bov, wns_length]
 have hl := h.a
 refine awp_upG [4, 5, 6, 7, 11, 12, 13, 14, 15, 16, 17, 18, 19, 20, 21, 22, 23, 24, 25] (by kernel_rfl) b.ac.length (fun k e σ => e 11 = .int .i64 k ∧ σ.ob 0 = some ⟨0, 3, 31, false, true, [.agg [.list 4 (wts b.ps), .list 1 (lls b.pa), .list 4 (wns b.ac)]]⟩ ∧ ∀ j, j < k → ∀ y, b.ac[j]? = some y → decide (p ≤ y.p) = false) ?_ ?_
 ·exact ⟨(by first | rfl | (simp (disch := omega) only [go_sem, jA, jB, jC, jD, jE, jF, jG, jH, jI, jJ, ↓reduceIte, reduceCtorEq, jP, jO, jM, jN]; try rfl)), (by first | rfl | (simp (disch := omega) only [go_sem, jA, jB, jC, jD, jE, jF, jG, jH, jI, jJ, ↓reduceIte, reduceCtorEq, jP, jO, jM, jN]; try rfl)), fun j hj => by omega⟩
 rintro k fe ob m c hk hm ⟨hki, ho, hj⟩
 simp (maxSteps := 1000000) only [go_sem, jA, jB, jC, jD, jE, jF, jG, jH, jI, jJ, ↓reduceIte, reduceCtorEq, jP] at hki hm ho
 try simp (disch := omega) only [go_sem, jA, jB, jC, jD, jE, jF, jG, jH, jI, jJ, ↓reduceIte, reduceCtorEq, jO, jM, jN, jK, jL, hki, wns_length]
 refine cond_d (fun hlt => ?_) (fun hge => ?_)
 ·have hkl : k < b.ac.length := by omega
  have hk2 : b.ac[k]? = some b.ac[k] := List.getElem?_eq_getElem hkl
  have hat := idx_at hkl hj
  have hnx := idx_next hk2 hj
  generalize b.ac[k] = x at *
  have z0 : ¬ 0 = m := by omega
  try simp (disch := omega) only [go_sem, jA, jB, jC, jD, jE, jF, jG, jH, jI, jJ, ↓reduceIte, reduceCtorEq, jO, jM, jN, jK, jL, hki, wns_length, wns_get, hk2, Option.map_some, wnv, ho, z0]
  refine ⟨by omega, by omega, ?_⟩
  refine cond_d (fun hp => ?_) (fun hp => ?_) <;> try simp (disch := omega) only [go_sem, jA, jB, jC, jD, jE, jF, jG, jH, jI, jJ, ↓reduceIte, reduceCtorEq, jO, jM, jN, jK, jL, hki, ho, z0]
  ·have e1 : plI b.ac p = k := hat (by simpa using hp)
   rw [plB, e1, hk2]
   exact Pub.pure rfl
  ·exact up_nextG (m + 1) hkl (by omega) ⟨(by first | rfl | (simp (disch := omega) only [go_sem, jA, jB, jC, jD, jE, jF, jG, jH, jI, jJ, ↓reduceIte, reduceCtorEq, jP, jO, jM, jN]; try rfl)), by try simp (disch := omega) only [go_sem, jA, jB, jC, jD, jE, jF, jG, jH, jI, jJ, ↓reduceIte, reduceCtorEq, jO, jM, jN, jK, jL, z0]; exact ho, hnx (by simpa using hp)⟩
 ·obtain rfl : k = b.ac.length := by omega
  have e1 : plI b.ac p = b.ac.length := idx_no hj
  try simp (disch := omega) only [go_sem, jA, jB, jC, jD, jE, jF, jG, jH, jI, jJ, ↓reduceIte, reduceCtorEq, jO, jM, jN, jK, jL, ho, wns_length]
  rw [plB, e1, List.getElem?_eq_none (Nat.le_refl _)]
  exact Pub.pure rfl
theorem ok_ref37_has (l : List Cs) (x : Cs) (hl : l.length ≤ 9223372036854775807) : PC prog n_ref37_has [.list 2 (css l), csv x] (.tuple [.int .i64 (hsI l x), .bool (hsB l x)]) := by
 refine PC_of_body b_ref37_has (by simp) ?_
 simp only [c_ref37_has, go_sem, jA, jB, jC, jD, jE, jF, jG, jH, jI, jJ, ↓reduceIte, reduceCtorEq, jP, csv, css_length]
 refine awp_upG [4, 5, 6, 7, 10, 11, 12, 13, 14, 15, 16, 17, 18, 19, 20, 21, 22, 23] (by kernel_rfl) l.length (fun k e σ => e 10 = .int .i64 k ∧ σ.ob 0 = some ⟨0, 2, 39, false, true, [csv x]⟩ ∧ ∀ j, j < k → ∀ y, l[j]? = some y → (!csL y x) = false) ?_ ?_
 ·exact ⟨(by first | rfl | (simp (disch := omega) only [go_sem, jA, jB, jC, jD, jE, jF, jG, jH, jI, jJ, ↓reduceIte, reduceCtorEq, jP, jO, jM, jN]; try rfl)), (by first | rfl | (simp (disch := omega) only [go_sem, jA, jB, jC, jD, jE, jF, jG, jH, jI, jJ, ↓reduceIte, reduceCtorEq, jP, jO, jM, jN]; try rfl)), fun j hj => by omega⟩
 rintro k fe ob m c hk hm ⟨hki, ho, hj⟩
 simp (maxSteps := 1000000) only [go_sem, jA, jB, jC, jD, jE, jF, jG, jH, jI, jJ, ↓reduceIte, reduceCtorEq, jP] at hki hm ho
 try simp (disch := omega) only [go_sem, jA, jB, jC, jD, jE, jF, jG, jH, jI, jJ, ↓reduceIte, reduceCtorEq, jO, jM, jN, jK, jL, hki, css_length]
 refine cond_d (fun hlt => ?_) (fun hge => ?_)
 ·have hkl : k < l.length := by omega
  have hk2 : l[k]? = some l[k] := List.getElem?_eq_getElem hkl
  have hat := idx_at hkl hj
  have hnx := idx_next hk2 hj
  have hB := ok_ref36_Before l[k] x
  generalize l[k] = y at *
  have z0 : ¬ 0 = m := by omega
  simp only [csv] at hB ho
  try simp (disch := omega) only [go_sem, jA, jB, jC, jD, jE, jF, jG, jH, jI, jJ, ↓reduceIte, reduceCtorEq, jO, jM, jN, jK, jL, hki, css_length, css_get, hk2, Option.map_some, csv, ho, z0]
  refine ⟨by omega, by omega, ?_⟩
  refine call_pc hB (by simp [go_sem]) ?_
  cases hb : csL y x <;> try simp (disch := omega) only [go_sem, jA, jB, jC, jD, jE, jF, jG, jH, jI, jJ, ↓reduceIte, reduceCtorEq, jO, jM, jN, jK, jL, hki, ho, z0]
  ·have e1 : hsI l x = k := hat (by simp [hb])
   rw [hsB, e1, hk2]
   rw [show Option.any (fun z => decide (z = x)) (some y) = (decide (y.k = x.k) && decide (y.s = x.s)) by rw [Bool.eq_iff_iff]; simp [cs_eq]]
   exact Pub.pure rfl
  ·exact up_nextG (m + 1) hkl (by omega) ⟨(by first | rfl | (simp (disch := omega) only [go_sem, jA, jB, jC, jD, jE, jF, jG, jH, jI, jJ, ↓reduceIte, reduceCtorEq, jP, jO, jM, jN]; try rfl)), by try simp (disch := omega) only [go_sem, jA, jB, jC, jD, jE, jF, jG, jH, jI, jJ, ↓reduceIte, reduceCtorEq, jO, jM, jN, jK, jL, z0, csv]; exact ho, hnx (by simp [hb])⟩
 ·obtain rfl : k = l.length := by omega
  have e1 : hsI l x = l.length := idx_no hj
  try simp (disch := omega) only [go_sem, jA, jB, jC, jD, jE, jF, jG, jH, jI, jJ, ↓reduceIte, reduceCtorEq, jO, jM, jN, jK, jL, css_length]
  rw [hsB, e1, List.getElem?_eq_none (Nat.le_refl _)]
  exact Pub.pure rfl
def addC (l : List Cs) (c : Cs) : List Cs := if hsB l c then l else l.take (hsI l c) ++ c :: l.drop (hsI l c)
def gA (l : List Wn) (i : Nat) : Wn := l.getD i wnZ
def wAt (l : List Wn) (p t : Int) : Wn := if plB l p then gA l (plI l p) else ⟨p, t, [], 0⟩
def jAt (l : List Wn) (p : Int) : Nat := if plB l p then plI l p + 1 else plI l p
def issL (l : List Wn) (p t : Int) (c : Cs) : List Wn := l.take (plI l p) ++ ⟨(wAt l p t).p, (wAt l p t).t, addC (wAt l p t).cs c, 0⟩ :: l.drop (jAt l p)
def issE (b : Bo) (p t : Int) (c : Cs) : Int := if vdB b = false then 50 else if p < 0 ∨ b.ps.length ≤ p then 52 else if t < 0 ∨ 16777216 < t then 6 else cauE c
def issB (b : Bo) (p t : Int) (c : Cs) : Bo := ⟨b.ps, b.pa, issL b.ac p t c⟩
def issR (b : Bo) (p t : Int) (c : Cs) : Bo := if issE b p t c = 0 then issB b p t c else boZ
def issV (b : Bo) (p t : Int) (c : Cs) : AV := .tuple [bov (issR b p t c), .int .i64 (issE b p t c)]
theorem iss_bad {b : Bo} {p t n : Int} {c : Cs} (h : issE b p t c = n) (hn : n ≠ 0) {σ : St} : Pub σ (.tuple [.agg [.nil, .nil, .nil], .int .i64 n]) (issV b p t c) := by
 rw [issV, h, issR, if_neg (by rw [h]; exact hn)]
 exact Pub.tu (.cons pub_boZ (.cons (Pub.e rfl) .nil))
theorem plI_le (l : List Wn) (p : Int) : plI l p ≤ l.length := List.findIdx_le_length
theorem hsI_le (l : List Cs) (c : Cs) : hsI l c ≤ l.length := List.findIdx_le_length
theorem plB_get {l : List Wn} {p : Int} (h : plB l p = true) : plI l p < l.length ∧ l[plI l p]? = some (gA l (plI l p)) ∧ (gA l (plI l p)).p = p := by
 rw [plB, Option.any_eq_true] at h
 obtain ⟨w, hw, hp⟩ := h
 have h1 := (List.getElem?_eq_some_iff.1 hw).1
 have h2 : gA l (plI l p) = w := by rw [gA, List.getD_eq_getElem?_getD, hw]; rfl
 rw [h2]
 exact ⟨h1, hw, by simpa using hp⟩
structure Iss (b : Bo) (p t : Int) (c : Cs) (i : Nat) (pre post : List Wn) (w : Wn) : Prop where
 i : pre.length = i
 n : pre.length + post.length ≤ 8
 r : issL b.ac p t c = pre ++ ⟨w.p, w.t, addC w.cs c, 0⟩ :: post
 c : w.cs.length ≤ 29
theorem Iss.get {b : Bo} {p t : Int} {c : Cs} {i : Nat} {pre post : List Wn} {w : Wn} (h : Iss b p t c i pre post w) {x : AV} : (wns pre ++ x :: wns post)[i]? = some x := by
 rw [List.getElem?_append_right (by rw [wns_length, h.i]; omega), wns_length, h.i]; simp
theorem Iss.set {b : Bo} {p t : Int} {c : Cs} {i : Nat} {pre post : List Wn} {w : Wn} (h : Iss b p t c i pre post w) {x y : AV} : (wns pre ++ x :: wns post).set i y = wns pre ++ y :: wns post := by
 rw [List.set_append_right _ _ (by rw [wns_length, h.i]; omega), wns_length, h.i]; simp
theorem take_mid {α : Type} {l : List α} {i : Nat} {x : α} (h : l[i]? = some x) : l.take i ++ x :: l.drop (i + 1) = l := by
 obtain ⟨hi, rfl⟩ := List.getElem?_eq_some_iff.1 h
 rw [List.getElem_cons_drop, List.take_append_drop]
theorem wns_app (a b : List Wn) : wns (a ++ b) = wns a ++ wns b := by simp [wns]
theorem wns_take (l : List Wn) (k : Nat) : (wns l).take k = wns (l.take k) := by simp [wns, List.map_take]
theorem wns_drop (l : List Wn) (k : Nat) : (wns l).drop k = wns (l.drop k) := by simp [wns, List.map_drop]
theorem css_take (l : List Cs) (k : Nat) : (css l).take k = css (l.take k) := by simp [css, List.map_take]
theorem css_drop (l : List Cs) (k : Nat) : (css l).drop k = css (l.drop k) := by simp [css, List.map_drop]
theorem css_app (a b : List Cs) : css (a ++ b) = css a ++ css b := by simp [css]
theorem ok_ref37_Issue (b : Bo) (p t : Int) (c : Cs) (h : BoL b) : PC prog n_ref37_Issue [bov b, .int .i64 p, .int .i64 t, csv c] (issV b p t c) := by
 refine PC_of_body b_ref37_Issue (by simp) ?_
 simp only [c_ref37_Issue, bov, csv]
 try simp (disch := omega) only [go_sem, jA, jB, jC, jD, jE, jF, jG, jH, jI, jJ, ↓reduceIte, reduceCtorEq, jO, jM, jN, jK, jL]
 have hC := ok_ref36_Check b h
 simp only [bov] at hC
 refine call_pc hC (by simp [go_sem, wts_pur, lls_pur, wns_pur]) ?_
 cases hv : vdB b <;> try simp (disch := omega) only [go_sem, jA, jB, jC, jD, jE, jF, jG, jH, jI, jJ, ↓reduceIte, reduceCtorEq, jO, jM, jN, jK, jL, chkE, hv, wts_length]
 ·exact iss_bad (by rw [issE, if_pos hv]) (by omega)
 have hV := vdB_iff.1 hv
 have hp8 := hV.p
 refine gd_fd rfl (fun g1 => ?_) (fun g1 => ?_) <;> try simp (disch := omega) only [go_sem, jA, jB, jC, jD, jE, jF, jG, jH, jI, jJ, ↓reduceIte, reduceCtorEq, jO, jM, jN, jK, jL, wts_length]
 ·exact iss_bad (by rw [issE, if_neg (by simp [hv]), if_pos (.inl g1)]) (by omega)
 refine cond_d (fun g2 => ?_) (fun g2 => ?_) <;> try simp (disch := omega) only [go_sem, jA, jB, jC, jD, jE, jF, jG, jH, jI, jJ, ↓reduceIte, reduceCtorEq, jO, jM, jN, jK, jL, wts_length]
 ·exact iss_bad (by rw [issE, if_neg (by simp [hv]), if_pos (.inr g2)]) (by omega)
 have gp : ¬ (p < 0 ∨ (b.ps.length : Int) ≤ p) := by omega
 refine gd_fd rfl (fun g3 => ?_) (fun g3 => ?_) <;> try simp (disch := omega) only [go_sem, jA, jB, jC, jD, jE, jF, jG, jH, jI, jJ, ↓reduceIte, reduceCtorEq, jO, jM, jN, jK, jL, wts_length]
 ·exact iss_bad (by rw [issE, if_neg (by simp [hv]), if_neg gp, if_pos (.inl g3)]) (by omega)
 refine cond_d (fun g4 => ?_) (fun g4 => ?_) <;> try simp (disch := omega) only [go_sem, jA, jB, jC, jD, jE, jF, jG, jH, jI, jJ, ↓reduceIte, reduceCtorEq, jO, jM, jN, jK, jL, wts_length]
 ·exact iss_bad (by rw [issE, if_neg (by simp [hv]), if_neg gp, if_pos (.inr g4)]) (by omega)
 have hcau := ok_ref36_Cause c
 simp only [csv] at hcau
 refine call_pc hcau (by simp [go_sem]) ?_
 try simp (disch := omega) only [go_sem, jA, jB, jC, jD, jE, jF, jG, jH, jI, jJ, ↓reduceIte, reduceCtorEq, jO, jM, jN, jK, jL]
 have hE : issE b p t c = cauE c := by rw [issE, if_neg (by simp [hv]), if_neg gp, if_neg (by omega)]
 refine cond_n (fun g5 => ?_) (fun g5 => ?_) <;> try simp (disch := omega) only [go_sem, jA, jB, jC, jD, jE, jF, jG, jH, jI, jJ, ↓reduceIte, reduceCtorEq, jO, jM, jN, jK, jL, g5]
 ·exact iss_bad hE g5
 have hcp := fun σ => hV.copy (hcA_ref36_Copy σ b)
 simp only [bov] at hcp
 refine (hcp _).mono ?_
 rintro r ⟨ob1, n1, c1⟩ ⟨X, rfl, hX0, hn1, hXn, ho1⟩
 have u0 := ho1 0 (by simp only; omega)
 have u1 := ho1 1 (by simp only; omega)
 have u2 := ho1 2 (by simp only; omega)
 try simp (disch := omega) only [go_sem, jA, jB, jC, jD, jE, jF, jG, jH, jI, jJ, ↓reduceIte, reduceCtorEq, jO, jM, jN, jK, jL] at u0
 try simp (disch := omega) only [go_sem, jA, jB, jC, jD, jE, jF, jG, jH, jI, jJ, ↓reduceIte, reduceCtorEq, jO, jM, jN, jK, jL] at u1
 try simp (disch := omega) only [go_sem, jA, jB, jC, jD, jE, jF, jG, jH, jI, jJ, ↓reduceIte, reduceCtorEq, jO, jM, jN, jK, jL] at u2
 try simp (disch := omega) only [go_sem, jA, jB, jC, jD, jE, jF, jG, jH, jI, jJ, ↓reduceIte, reduceCtorEq, jO, jM, jN, jK, jL] at hn1
 try simp (disch := omega) only [go_sem, jA, jB, jC, jD, jE, jF, jG, jH, jI, jJ, ↓reduceIte, reduceCtorEq, jO, jM, jN, jK, jL] at hXn
 try simp (disch := omega) only [go_sem, jA, jB, jC, jD, jE, jF, jG, jH, jI, jJ, ↓reduceIte, reduceCtorEq, jO, jM, jN, jK, jL, hX0.flat, hX0.cells, hX0.one]
 have ox1 : Oth X n1 := hX0.oth (Nat.le_refl _)
 have hag : ∀ i, i < n1 → upd (upd ob1 n1 (some (⟨c1, 3, 31, false, true, [.agg [.nil, .nil, .nil]]⟩ : AObj))) n1 (some ⟨c1, 3, 31, false, true, [.agg [.list 4 (wts b.ps), .list 1 (lls b.pa), X]]⟩) i = ob1 i := fun i hi => by
  rw [upd_ne _ _ _ _ (by omega), upd_ne _ _ _ _ (by omega)]
 have hX : SlR 4 tyA ⟨upd (upd ob1 n1 (some (⟨c1, 3, 31, false, true, [.agg [.nil, .nil, .nil]]⟩ : AObj))) n1 (some ⟨c1, 3, 31, false, true, [.agg [.list 4 (wts b.ps), .list 1 (lls b.pa), X]]⟩), n1 + 1, c1 + 1⟩ (wns b.ac) X := hX0.move (by simp only; omega) fun i hi _ => hag i hi
 have hP := ok_ref37_place b p h
 simp only [bov] at hP
 refine call_lent hP (.cons (Pub.ag (.cons (Pub.e rfl) (.cons (Pub.e rfl) (.cons (hX.pub (fun _ _ _ => rfl) (wns_pur _) (wns_ok _)) .nil)))) (.cons (.pure rfl) .nil)) rfl ?_
 try simp (disch := omega) only [go_sem, jA, jB, jC, jD, jE, jF, jG, jH, jI, jJ, ↓reduceIte, reduceCtorEq, jO, jM, jN, jK, jL]
 have ha8 := hV.a1
 have hpi := plI_le b.ac p
 refine cond_cut [14, 56, 57, 58, 59, 60, 61, 62, 63, 64, 65, 66, 67, 68, 69, 70, 71, 72, 73] (by kernel_rfl) (fun e σ => n1 < σ.n ∧ (∀ i, i < 3 → σ.ob i = ob1 i) ∧ ∃ X' pre post w E, SlR 4 tyA σ (wns pre ++ .agg [.int .i64 w.p, .int .i64 w.t, E, .int .i64 w.cm] :: wns post) X' ∧ Iss b p t c (plI b.ac p) pre post w ∧ ER 2 ⟨fun _ => none, 0, 0⟩ (css w.cs) E ∧ σ.ob n1 = some ⟨c1, 3, 31, false, true, [.agg [.list 4 (wts b.ps), .list 1 (lls b.pa), X']]⟩ ∧ (∀ i, ¬ Oth X' i → 3 ≤ i ∧ i ≠ n1)) ?_ ?_
 ·generalize hob : upd (upd ob1 n1 (some (⟨c1, 3, 31, false, true, [.agg [.nil, .nil, .nil]]⟩ : AObj))) n1 (some ⟨c1, 3, 31, false, true, [.agg [.list 4 (wts b.ps), .list 1 (lls b.pa), X]]⟩) = ob2 at hX
  have u3 : ob2 n1 = some ⟨c1, 3, 31, false, true, [.agg [.list 4 (wts b.ps), .list 1 (lls b.pa), X]]⟩ := by rw [← hob, upd_same]
  have uu : ∀ i, i < 3 → ob2 i = ob1 i := fun i hi => by rw [← hob]; exact hag i (by omega)
  cases hb : plB b.ac p <;> try simp (disch := omega) only [go_sem, jA, jB, jC, jD, jE, jF, jG, jH, jI, jJ, ↓reduceIte, reduceCtorEq, jO, jM, jN, jK, jL, u3]
  ·refine ER.take (k := plI b.ac p) (ER.of_slr hX) rfl (by rw [wns_length]; omega) fun E1 hE1 _ => ?_
   try simp (disch := omega) only [go_sem, jA, jB, jC, jD, jE, jF, jG, jH, jI, jJ, ↓reduceIte, reduceCtorEq, jO, jM, jN, jK, jL]
   refine app_er hE1 ?_
   rw [wns_take]
   have l1 : (wns (b.ac.take (plI b.ac p))).length = plI b.ac p := by rw [wns_length, List.length_take]; omega
   refine app_slrs (M := wns (b.ac.take (plI b.ac p))) (b := 48) SlR.nil (by rw [l1]; simp; omega) (by rw [l1]; simp; omega) fun Y τ hY kY => ?_
   obtain ⟨ob3, m3, c3⟩ := τ
   simp only [List.nil_append] at hY
   have q1 : n1 + 1 ≤ m3 := kY.1
   have q2 : ∀ i, i < n1 + 1 → ob3 i = ob2 i := fun i hi => kY.2.1 i hi (Oth.nil i)
   try simp (disch := omega) only [go_sem, jA, jB, jC, jD, jE, jF, jG, jH, jI, jJ, ↓reduceIte, reduceCtorEq, jO, jM, jN, jK, jL]
   refine app_slr (b := 48) hY (by rw [l1]; omega) (by rw [l1]; omega) fun Z τ hZ kZ => ?_
   obtain ⟨ob4, m4, c4⟩ := τ
   have r1 : m3 ≤ m4 := kZ.1
   have r2 : ∀ i, i < n1 + 1 → ob4 i = ob2 i := fun i hi => (kZ.2.1 i (by simp only; omega) (kY.2.2 i hi (Oth.nil i))).trans (q2 i hi)
   have oZ : ∀ i, i < n1 + 1 → Oth Z i := fun i hi => kZ.2.2 i (by simp only; omega) (kY.2.2 i hi (Oth.nil i))
   have u4 := (r2 n1 (by omega)).trans u3
   try simp (disch := omega) only [go_sem, jA, jB, jC, jD, jE, jF, jG, jH, jI, jJ, ↓reduceIte, reduceCtorEq, jO, jM, jN, jK, jL, u4]
   have hX4 : SlR 4 tyA ⟨ob4, m4, c4⟩ (wns b.ac) X := hX.move (by simp only; omega) fun i hi _ => r2 i hi
   refine ER.drop (k := plI b.ac p) (ER.of_slr hX4) rfl (by rw [wns_length]; omega) fun E2 hE2 _ => ?_
   try simp (disch := omega) only [go_sem, jA, jB, jC, jD, jE, jF, jG, jH, jI, jJ, ↓reduceIte, reduceCtorEq, jO, jM, jN, jK, jL]
   refine app_er hE2 ?_
   rw [wns_drop]
   have l2 : (wns (b.ac.drop (plI b.ac p))).length = b.ac.length - plI b.ac p := by rw [wns_length, List.length_drop]
   refine app_slrs (M := wns (b.ac.drop (plI b.ac p))) (b := 48) hZ (by rw [l2, List.length_append, l1]; simp; omega) (by rw [l2, List.length_append, l1]; simp; omega) fun W τ hW kW => ?_
   obtain ⟨ob5, m5, c5⟩ := τ
   have s1 : m4 ≤ m5 := kW.1
   have s2 : ∀ i, i < n1 + 1 → ob5 i = ob2 i := fun i hi => (kW.2.1 i (by simp only; omega) (oZ i hi)).trans (r2 i hi)
   have oW : ∀ i, i < n1 + 1 → Oth W i := fun i hi => kW.2.2 i (by simp only; omega) (oZ i hi)
   have u5 := (s2 n1 (by omega)).trans u3
   try simp (disch := omega) only [go_sem, jA, jB, jC, jD, jE, jF, jG, jH, jI, jJ, ↓reduceIte, reduceCtorEq, jO, jM, jN, jK, jL, u5, hW.flat, hW.cells, hW.one]
   refine ⟨by omega, fun i hi => by rw [if_neg (by omega)]; exact (s2 i (by omega)).trans (uu i hi), W, b.ac.take (plI b.ac p), b.ac.drop (plI b.ac p), ⟨p, t, [], 0⟩, .nil, ?_, ?_, .inl ⟨rfl, rfl⟩, rfl, fun i hi => ?_⟩
   ·rw [List.append_assoc] at hW
    refine hW.move (by simp only; omega) fun i hi hh => ?_
    simp only
    rw [upd_ne _ _ _ _ (fun e => hh (oW i (by omega)))]
   ·exact ⟨by rw [List.length_take]; omega, by rw [List.length_take, List.length_drop]; omega, by simp [issL, wAt, jAt, hb], by simp⟩
   ·have : ¬ i < n1 + 1 := fun e => hi (oW i e)
    omega
  ·obtain ⟨h1, h2, h3⟩ := plB_get hb
   have hcl := wnB_cs (hV.wn _ (List.mem_of_getElem? h2))
   refine ⟨by omega, fun i hi => uu i hi, X, b.ac.take (plI b.ac p), b.ac.drop (plI b.ac p + 1), gA b.ac (plI b.ac p), .list 2 (css (gA b.ac (plI b.ac p)).cs), ?_, ?_, .inr (.inl rfl), rfl, fun i hi => ?_⟩
   ·rw [show wns (b.ac.take (plI b.ac p)) ++ AV.agg [.int .i64 (gA b.ac (plI b.ac p)).p, .int .i64 (gA b.ac (plI b.ac p)).t, .list 2 (css (gA b.ac (plI b.ac p)).cs), .int .i64 (gA b.ac (plI b.ac p)).cm] :: wns (b.ac.drop (plI b.ac p + 1)) = wns b.ac from (by
     conv => rhs; rw [← take_mid h2, wns_app]
     rfl)]
    exact hX
   ·exact ⟨by rw [List.length_take]; omega, by rw [List.length_take, List.length_drop]; omega, by simp [issL, wAt, jAt, hb], hcl⟩
   ·exact ⟨hXn i hi, fun e => hi (e ▸ ox1)⟩
 ·rintro fe ⟨ob2, n2, c2⟩ ⟨hn2, hlo, X', pre, post, w, E, hX', hI, hE', hob, hXo⟩
  have hg := fun {x} => hI.get (x := x)
  have hs := fun {x y} => hI.set (x := x) (y := y)
  rcases hX' with ⟨_, h0⟩ | ⟨id, g, rfl, hid, hoX⟩
  ·simp at h0
  simp only at hid hoX hob hlo hn2
  obtain ⟨hid3, hidn⟩ := hXo id fun h => h _ _ _ _ rfl
  have z1 : ¬ 1 = id := by omega
  have z2 : ¬ 2 = id := by omega
  have z3 : ¬ n1 = id := fun e => hidn e.symm
  have v1 := (hlo 1 (by omega)).trans u1
  have v2 := (hlo 2 (by omega)).trans u2
  have hil : plI b.ac p < (wns pre ++ AV.agg [.int .i64 w.p, .int .i64 w.t, E, .int .i64 w.cm] :: wns post).length := by
   rw [List.length_append, List.length_cons, wns_length, wns_length, hI.i]; omega
  try simp (disch := omega) only [go_sem, jA, jB, jC, jD, jE, jF, jG, jH, jI, jJ, ↓reduceIte, reduceCtorEq, jO, jM, jN, jK, jL, hob, hoX, hg, hs, z1, z2, z3, v1, v2]
  refine ⟨by omega, by omega, ?_⟩
  have hH := ok_ref37_has w.cs c (by have := hI.c; omega)
  simp only [csv] at hH
  refine call_lent hH (.cons (hE'.pub (css_pur _) (css_ok _) fun i hi => absurd hi (Nat.not_lt_zero i)) (.cons (.pure rfl) .nil)) rfl ?_
  have hEm : ∀ σ : St, ER 2 σ (css w.cs) E := fun σ => by
   rcases hE' with h | h | ⟨_, _, _, _, _, h, _⟩
   ·exact .inl h
   ·exact .inr (.inl h)
   ·exact absurd h (Nat.not_lt_zero _)
  have hE1 := (hEm ⟨fun _ => none, 0, 0⟩).one
  have hE2 := (hEm ⟨fun _ => none, 0, 0⟩).flat
  have hE3 := (hEm ⟨fun _ => none, 0, 0⟩).cells
  have hk := hsI_le w.cs c
  have hc29 := hI.c
  have hR : issR b p t c = issB b p t c := by rw [issR, if_pos (by rw [hE, g5])]
  have hfin : ∀ (σ : St) (F : AV), σ.ob id = some ⟨g, 4, tyA, false, true, wns pre ++ .agg [.int .i64 w.p, .int .i64 w.t, F, .int .i64 0] :: wns post⟩ → Pub σ F (.list 2 (css (addC w.cs c))) →
    Pub σ (.tuple [.agg [.list 4 (wts b.ps), .list 1 (lls b.pa), .sl id g 4 0 (wns pre ++ AV.agg [.int .i64 w.p, .int .i64 w.t, E, .int .i64 w.cm] :: wns post).length], .int .i64 0]) (issV b p t c) := fun σ F hF hp => by
   rw [issV, hE, g5, hR]
   refine Pub.tu (.cons (Pub.ag (.cons (Pub.e rfl) (.cons (Pub.e rfl) (.cons ?_ .nil)))) (.cons (Pub.e rfl) .nil))
   show Pub σ _ (.list 4 (wns (issL b.ac p t c)))
   rw [hI.r, wns_app]
   refine .sl hF rfl rfl (by simp) (by simp [wns]) (fun i x y hx hy => ?_) (by rw [← wns_app]; exact wns_ok _)
   rw [List.drop_zero, List.take_of_length_le (by simp [wns])] at hx
   simp only at hx
   by_cases hi : i < (wns pre).length
   ·rw [List.getElem?_append_left hi] at hx hy
    rw [hx] at hy
    obtain rfl := Option.some.inj hy
    exact Pub.e (wns_pur _ _ (List.mem_of_getElem? hx))
   ·rw [List.getElem?_append_right (by omega)] at hx hy
    cases e : i - (wns pre).length with
    | zero =>
     rw [e] at hx hy
     obtain rfl := Option.some.inj hx
     obtain rfl := Option.some.inj hy
     exact Pub.ag (.cons (Pub.e rfl) (.cons (Pub.e rfl) (.cons hp (.cons (Pub.e rfl) .nil))))
    | succ n =>
     rw [e, List.getElem?_cons_succ] at hx
     rw [e] at hy
     simp only [wns, List.map_cons, List.getElem?_cons_succ] at hx hy
     rw [hx] at hy
     obtain rfl := Option.some.inj hy
     exact Pub.e (wns_pur _ _ (List.mem_of_getElem? hx))
  cases hb : hsB w.cs c <;> try simp (disch := omega) only [go_sem, jA, jB, jC, jD, jE, jF, jG, jH, jI, jJ, ↓reduceIte, reduceCtorEq, jO, jM, jN, jK, jL, hob, hoX, hg, hs, z1, z2, z3, v1, v2, hE3]
  ·refine ER.take (k := hsI w.cs c) (hEm _) rfl (by rw [css_length]; omega) fun F1 hF1 _ => ?_
   try simp (disch := omega) only [go_sem, jA, jB, jC, jD, jE, jF, jG, jH, jI, jJ, ↓reduceIte, reduceCtorEq, jO, jM, jN, jK, jL]
   refine app_er hF1 ?_
   rw [css_take]
   have l1 : (css (w.cs.take (hsI w.cs c))).length = hsI w.cs c := by rw [css_length, List.length_take]; omega
   refine app_slrs (M := css (w.cs.take (hsI w.cs c))) (b := 16) SlR.nil (by rw [l1]; simp; omega) (by rw [l1]; simp; omega) fun Y τ hY kY => ?_
   obtain ⟨ob3, m3, c3⟩ := τ
   simp only [List.nil_append] at hY
   have q1 : n2 ≤ m3 := kY.1
   have q2 : ∀ i, i < n2 → ob3 i = upd ob2 id (some ⟨g, 4, tyA, false, true, wns pre ++ .agg [.int .i64 w.p, .int .i64 w.t, E, .int .i64 0] :: wns post⟩) i := fun i hi => kY.2.1 i hi (Oth.nil i)
   have oE : E.oid = [] := by rcases hE' with ⟨rfl, _⟩ | rfl | ⟨_, _, _, _, _, h, _⟩ <;> first | rfl | exact absurd h (Nat.not_lt_zero _)
   refine ⟨fun x hx => ?_, ?_⟩
   ·simp only [oE, tagR, List.map_nil, List.mem_cons, List.not_mem_nil, or_false] at hx
    rcases hx with rfl | rfl
    ·exact .inr (q2 1 (by omega))
    ·exact .inl (by simp)
   try simp (disch := omega) only [go_sem, jA, jB, jC, jD, jE, jF, jG, jH, jI, jJ, ↓reduceIte, reduceCtorEq, jO, jM, jN, jK, jL]
   refine app_slr (b := 16) hY (by rw [l1]; omega) (by rw [l1]; omega) fun Z τ hZ kZ => ?_
   obtain ⟨ob4, m4, c4⟩ := τ
   have r1 : m3 ≤ m4 := kZ.1
   have r2 : ∀ i, i < n2 → ob4 i = ob3 i := fun i hi => kZ.2.1 i (by simp only; omega) (kY.2.2 i hi (Oth.nil i))
   refine ⟨fun x hx => ?_, ?_⟩
   ·simp only [oE, tagR, List.map_nil, List.mem_cons, List.not_mem_nil, or_false] at hx
    rcases hx with rfl | rfl <;> exact .inl (by simp)
   have w0 : ob4 id = some ⟨g, 4, tyA, false, true, wns pre ++ .agg [.int .i64 w.p, .int .i64 w.t, E, .int .i64 0] :: wns post⟩ := by
    rw [r2 id hid, q2 id hid, upd_same]
   have wr : ∀ i, i < n2 → ¬ i = id → ob4 i = ob2 i := fun i hi hne => by rw [r2 i hi, q2 i hi, upd_ne _ _ _ _ hne]
   try simp (disch := omega) only [go_sem, jA, jB, jC, jD, jE, jF, jG, jH, jI, jJ, ↓reduceIte, reduceCtorEq, jO, jM, jN, jK, jL, w0, hg, hE3]
   refine ER.drop (k := hsI w.cs c) (hEm _) rfl (by rw [css_length]; omega) fun F2 hF2 _ => ?_
   try simp (disch := omega) only [go_sem, jA, jB, jC, jD, jE, jF, jG, jH, jI, jJ, ↓reduceIte, reduceCtorEq, jO, jM, jN, jK, jL]
   refine app_er hF2 ?_
   rw [css_drop]
   have l2 : (css (w.cs.drop (hsI w.cs c))).length = w.cs.length - hsI w.cs c := by rw [css_length, List.length_drop]
   refine app_slrs (M := css (w.cs.drop (hsI w.cs c))) (b := 16) hZ (by rw [l2, List.length_append, l1]; simp; omega) (by rw [l2, List.length_append, l1]; simp; omega) fun W τ hW kW => ?_
   obtain ⟨ob5, m5, c5⟩ := τ
   have oZ : ∀ i, i < n2 → Oth Z i := fun i hi => kZ.2.2 i (by simp only; omega) (kY.2.2 i hi (Oth.nil i))
   have s1 : m4 ≤ m5 := kW.1
   have s2 : ∀ i, i < n2 → ob5 i = ob4 i := fun i hi => kW.2.1 i (by simp only; omega) (oZ i hi)
   have oW : ∀ i, i < n2 → Oth W i := fun i hi => kW.2.2 i (by simp only; omega) (oZ i hi)
   have x0 := (s2 id hid).trans w0
   have x1 := (s2 n1 hn2).trans ((wr n1 hn2 z3).trans hob)
   have x2 := (s2 2 (by omega)).trans ((wr 2 (by omega) z2).trans v2)
   try simp (disch := omega) only [go_sem, jA, jB, jC, jD, jE, jF, jG, jH, jI, jJ, ↓reduceIte, reduceCtorEq, jO, jM, jN, jK, jL, x0, x1, x2, z2, z3, hg, hs, hW.flat, hW.cells, hW.one]
   refine hfin _ W ?_ ?_
   ·simp only
    rw [upd_ne _ _ _ _ (fun e => z2 e.symm), upd_same]
   ·have hcc : css (addC w.cs c) = css (w.cs.take (hsI w.cs c)) ++ [.agg [.int .i64 c.k, .int .i64 c.s]] ++ css (w.cs.drop (hsI w.cs c)) := by
     rw [addC, if_neg (by simp [hb])]
     simp [css, csv]
    rw [← hcc] at hW
    refine hW.pub (fun i hi hh => ?_) (css_pur _) (css_ok _)
    have : ¬ i < n2 := fun e => hh (oW i e)
    simp only
    rw [upd_ne _ _ _ _ (by omega), upd_ne _ _ _ _ (by omega)]
  ·refine hfin _ E ?_ (by rw [addC, if_pos hb]; exact ER.pub' (hEm _) (css_pur _) (css_ok _))
   simp only
   rw [upd_ne _ _ _ _ (fun e => z2 e.symm), upd_same]
theorem tr_ob {ob : Nat → Option AObj} {n c i : Nat} (h : i < n) : ((⟨ob, n, c⟩ : St).trunc n).ob i = ob i := by simp only [St.trunc, if_pos h]
theorem SlR.tr {es : Nat} {ty : TypeId} {ob : Nat → Option AObj} {n c : Nat} {L : List AV} {X : AV} (h : SlR es ty ⟨ob, n, c⟩ L X) : SlR es ty ((⟨ob, n, c⟩ : St).trunc n) L X :=
 h.move (by simp only [St.trunc]; omega) fun i hi _ => by simp only at hi; simp only [St.trunc, if_pos hi]
theorem pub_mid {σ : St} {id g n : Nat} {ro ap : Bool} {ty : TypeId} {pre post : List Wn} {w : Wn} {F : AV} (hF : σ.ob id = some ⟨g, 4, ty, ro, ap, wns pre ++ .agg [.int .i64 w.p, .int .i64 w.t, F, .int .i64 w.cm] :: wns post⟩)
  (hn : n = pre.length + 1 + post.length) (hp : Pub σ F (.list 2 (css w.cs))) : Pub σ (.sl id g 4 0 n) (.list 4 (wns (pre ++ w :: post))) := by
 subst hn
 rw [wns_app]
 refine .sl hF rfl rfl (by simp [wns]; omega) (by simp [wns]; omega) (fun i x y hx hy => ?_) (by rw [← wns_app]; exact wns_ok _)
 rw [List.drop_zero, List.take_of_length_le (by simp [wns]; omega)] at hx
 simp only at hx
 by_cases hi : i < (wns pre).length
 ·rw [List.getElem?_append_left hi] at hx hy
  rw [hx] at hy
  obtain rfl := Option.some.inj hy
  exact Pub.e (wns_pur _ _ (List.mem_of_getElem? hx))
 ·rw [List.getElem?_append_right (by omega)] at hx hy
  cases e : i - (wns pre).length with
  | zero =>
   rw [e] at hx hy
   obtain rfl := Option.some.inj hx
   obtain rfl := Option.some.inj hy
   exact Pub.ag (.cons (Pub.e rfl) (.cons (Pub.e rfl) (.cons hp (.cons (Pub.e rfl) .nil))))
  | succ n =>
   rw [e, List.getElem?_cons_succ] at hx
   rw [e] at hy
   simp only [wns, List.map_cons, List.getElem?_cons_succ] at hx hy
   rw [hx] at hy
   obtain rfl := Option.some.inj hy
   exact Pub.e (wns_pur _ _ (List.mem_of_getElem? hx))
def inK (ks : List Cs) (c : Cs) : Bool := ks.any fun x => decide (x = c)
def putC (l : List Wn) (i : Nat) (cs : List Cs) : List Wn := l.take i ++ ⟨(gA l i).p, (gA l i).t, cs, (gA l i).cm⟩ :: l.drop (i + 1)
def keepL (l : List Wn) (p : Int) (ks : List Cs) : List Wn := if plB l p then putC l (plI l p) ((gA l (plI l p)).cs.filter (inK ks)) else l
def keepE (b : Bo) (p : Int) : Int := if vdB b = false then 50 else if p < 0 ∨ b.ps.length ≤ p then 52 else 0
def keepB (b : Bo) (p : Int) (ks : List Cs) : Bo := ⟨b.ps, b.pa, keepL b.ac p ks⟩
def keepR (b : Bo) (p : Int) (ks : List Cs) : Bo := if keepE b p = 0 then keepB b p ks else boZ
def keepV (b : Bo) (p : Int) (ks : List Cs) : AV := .tuple [bov (keepR b p ks), .int .i64 (keepE b p)]
theorem keep_bad {b : Bo} {p n : Int} {ks : List Cs} (h : keepE b p = n) (hn : n ≠ 0) {σ : St} : Pub σ (.tuple [.agg [.nil, .nil, .nil], .int .i64 n]) (keepV b p ks) := by
 rw [keepV, h, keepR, if_neg (by rw [h]; exact hn)]
 exact Pub.tu (.cons pub_boZ (.cons (Pub.e rfl) .nil))
theorem any_snoc {α : Type} {q : α → Bool} {l : List α} {k : Nat} {x : α} (h : l[k]? = some x) : (l.take (k + 1)).any q = ((l.take k).any q || q x) := by
 rw [List.take_add_one, h]; simp
theorem filter_snoc {α : Type} {q : α → Bool} {l : List α} {k : Nat} {x : α} (h : l[k]? = some x) : (l.take (k + 1)).filter q = (l.take k).filter q ++ (if q x then [x] else []) := by
 rw [List.take_add_one, h, List.filter_append]; simp [List.filter_cons]
theorem ok_ref37_Keep (b : Bo) (p : Int) (ks : List Cs) (h : BoL b) (hk : ks.length ≤ 9223372036854775807) : PC prog n_ref37_Keep [bov b, .int .i64 p, .list 2 (css ks)] (keepV b p ks) := by
 refine PC_of_body b_ref37_Keep (by simp) ?_
 simp only [c_ref37_Keep, bov]
 try simp (disch := omega) only [go_sem, jA, jB, jC, jD, jE, jF, jG, jH, jI, jJ, ↓reduceIte, reduceCtorEq, jO, jM, jN, jK, jL]
 have hC := ok_ref36_Check b h
 simp only [bov] at hC
 refine call_pc hC (by simp [go_sem, wts_pur, lls_pur, wns_pur]) ?_
 cases hv : vdB b <;> try simp (disch := omega) only [go_sem, jA, jB, jC, jD, jE, jF, jG, jH, jI, jJ, ↓reduceIte, reduceCtorEq, jO, jM, jN, jK, jL, chkE, hv, wts_length]
 ·exact keep_bad (by rw [keepE, if_pos hv]) (by omega)
 have hV := vdB_iff.1 hv
 have hp8 := hV.p
 refine gd_fd rfl (fun g1 => ?_) (fun g1 => ?_) <;> try simp (disch := omega) only [go_sem, jA, jB, jC, jD, jE, jF, jG, jH, jI, jJ, ↓reduceIte, reduceCtorEq, jO, jM, jN, jK, jL, wts_length]
 ·exact keep_bad (by rw [keepE, if_neg (by simp [hv]), if_pos (.inl g1)]) (by omega)
 refine cond_d (fun g2 => ?_) (fun g2 => ?_) <;> try simp (disch := omega) only [go_sem, jA, jB, jC, jD, jE, jF, jG, jH, jI, jJ, ↓reduceIte, reduceCtorEq, jO, jM, jN, jK, jL, wts_length]
 ·exact keep_bad (by rw [keepE, if_neg (by simp [hv]), if_pos (.inr g2)]) (by omega)
 have hE : keepE b p = 0 := by rw [keepE, if_neg (by simp [hv]), if_neg (by omega)]
 have hR : keepR b p ks = keepB b p ks := by rw [keepR, if_pos hE]
 have hcp := fun σ => hV.copy (hcA_ref36_Copy σ b)
 simp only [bov] at hcp
 refine (hcp _).mono ?_
 rintro r ⟨ob1, n1, c1⟩ ⟨X, rfl, hX0, hn1, hXn, ho1⟩
 have u1 := ho1 1 (by simp only; omega)
 try simp (disch := omega) only [go_sem, jA, jB, jC, jD, jE, jF, jG, jH, jI, jJ, ↓reduceIte, reduceCtorEq, jO, jM, jN, jK, jL] at u1
 try simp (disch := omega) only [go_sem, jA, jB, jC, jD, jE, jF, jG, jH, jI, jJ, ↓reduceIte, reduceCtorEq, jO, jM, jN, jK, jL] at hn1
 try simp (disch := omega) only [go_sem, jA, jB, jC, jD, jE, jF, jG, jH, jI, jJ, ↓reduceIte, reduceCtorEq, jO, jM, jN, jK, jL] at hXn
 have z1 : ¬ 1 = n1 := by omega
 try simp (disch := omega) only [go_sem, jA, jB, jC, jD, jE, jF, jG, jH, jI, jJ, ↓reduceIte, reduceCtorEq, jO, jM, jN, jK, jL, hX0.flat, hX0.cells, hX0.one]
 have hag : ∀ i, i < n1 → upd (upd ob1 n1 (some (⟨c1, 3, 31, false, true, [.agg [.nil, .nil, .nil]]⟩ : AObj))) n1 (some ⟨c1, 3, 31, false, true, [.agg [.list 4 (wts b.ps), .list 1 (lls b.pa), X]]⟩) i = ob1 i := fun i hi => by
  rw [upd_ne _ _ _ _ (by omega), upd_ne _ _ _ _ (by omega)]
 have hX : SlR 4 tyA ⟨upd (upd ob1 n1 (some (⟨c1, 3, 31, false, true, [.agg [.nil, .nil, .nil]]⟩ : AObj))) n1 (some ⟨c1, 3, 31, false, true, [.agg [.list 4 (wts b.ps), .list 1 (lls b.pa), X]]⟩), n1 + 1, c1 + 1⟩ (wns b.ac) X := hX0.move (by simp only; omega) fun i hi _ => hag i hi
 generalize hob : upd (upd ob1 n1 (some (⟨c1, 3, 31, false, true, [.agg [.nil, .nil, .nil]]⟩ : AObj))) n1 (some ⟨c1, 3, 31, false, true, [.agg [.list 4 (wts b.ps), .list 1 (lls b.pa), X]]⟩) = ob2 at hX
 have u3 : ob2 n1 = some ⟨c1, 3, 31, false, true, [.agg [.list 4 (wts b.ps), .list 1 (lls b.pa), X]]⟩ := by rw [← hob, upd_same]
 have u1 : ob2 1 = some ⟨1, 3, 31, false, true, [.agg [.nil, .nil, .nil]]⟩ := by rw [← hob, hag 1 (by omega), u1]
 have hP := ok_ref37_place b p h
 simp only [bov] at hP
 refine call_lent hP (.cons (Pub.ag (.cons (Pub.e rfl) (.cons (Pub.e rfl) (.cons (hX.pub (fun _ _ _ => rfl) (wns_pur _) (wns_ok _)) .nil)))) (.cons (.pure rfl) .nil)) rfl ?_
 have ha8 := hV.a1
 cases hb : plB b.ac p <;> try simp (disch := omega) only [go_sem, jA, jB, jC, jD, jE, jF, jG, jH, jI, jJ, ↓reduceIte, reduceCtorEq, jO, jM, jN, jK, jL]
 ·try simp (disch := omega) only [go_sem, jA, jB, jC, jD, jE, jF, jG, jH, jI, jJ, ↓reduceIte, reduceCtorEq, jO, jM, jN, jK, jL, u1, u3, z1, hX.one]
  rw [keepV, hE, hR, keepB, keepL, hb, if_neg (by simp)]
  refine Pub.tu (.cons (Pub.ag (.cons (Pub.e rfl) (.cons (Pub.e rfl) (.cons (hX.pub (fun i _ hh => ?_) (wns_pur _) (wns_ok _)) .nil)))) (.cons (Pub.e rfl) .nil))
  have := hXn i hh
  simp only
  rw [upd_ne _ _ _ _ (by omega)]
 obtain ⟨h1, h2, h3⟩ := plB_get hb
 have hcl := wnB_cs (hV.wn _ (List.mem_of_getElem? h2))
 rcases hX with ⟨_, h0⟩ | ⟨id, g, rfl, hid, hoX⟩
 ·have : b.ac.length = 0 := by rw [← wns_length, h0]; rfl
  omega
 have hid3 := hXn id fun h => h _ _ _ _ rfl
 simp only at hid hoX
 have hXl := hX0.lt (i := id) fun h => h _ _ _ _ rfl
 simp only at hXl
 have z2 : ¬ 1 = id := by omega
 have z3 : ¬ n1 = id := by omega
 have z4 : ¬ id = n1 := by omega
 try simp (disch := omega) only [go_sem, jA, jB, jC, jD, jE, jF, jG, jH, jI, jJ, ↓reduceIte, reduceCtorEq, jO, jM, jN, jK, jL, hoX, u3, z4, wns_length, wns_get, h2, Option.map_some, wnv]
 have hwl := wns_length b.ac
 have hgi : (wns b.ac)[plI b.ac p]? = some (wnv (gA b.ac (plI b.ac p))) := by rw [wns_get, h2]; rfl
 have hmid : wns b.ac = wns (b.ac.take (plI b.ac p)) ++ wnv (gA b.ac (plI b.ac p)) :: wns (b.ac.drop (plI b.ac p + 1)) := by
  conv => lhs; rw [← take_mid h2, wns_app]
  rfl
 have hset : ∀ y : AV, (wns b.ac).set (plI b.ac p) y = wns (b.ac.take (plI b.ac p)) ++ y :: wns (b.ac.drop (plI b.ac p + 1)) := fun y => by
  have e1 : (wns (b.ac.take (plI b.ac p))).length = plI b.ac p := by rw [wns_length, List.length_take]; omega
  rw [hmid, List.set_append_right _ _ (by omega), e1]; simp
 have hKL : keepL b.ac p ks = putC b.ac (plI b.ac p) ((gA b.ac (plI b.ac p)).cs.filter (inK ks)) := by rw [keepL, if_pos hb]
 rw [putC] at hKL
 generalize gA b.ac (plI b.ac p) = x at *
 have hil : plI b.ac p < b.ac.length := h1
 refine ⟨by omega, by omega, ?_⟩
 try simp (disch := omega) only [go_sem, jA, jB, jC, jD, jE, jF, jG, jH, jI, jJ, ↓reduceIte, reduceCtorEq, jO, jM, jN, jK, jL, css_length]
 refine awp_upG [11, 13, 14, 16, 49, 50, 51, 52, 53, 54, 55, 56, 57, 58, 59, 60, 61, 62, 63, 64, 65, 66, 67, 68, 69, 70, 71] (by kernel_rfl) x.cs.length (fun k e σ => e 49 = .int .i64 k ∧ n1 + 1 ≤ σ.n ∧ (∀ i, i < n1 + 1 → σ.ob i = ob2 i) ∧ ∃ L, At e 11 L ∧ SlR 2 tyC σ (css ((x.cs.take k).filter (inK ks))) L ∧ (∀ i, ¬ Oth L i → n1 + 1 ≤ i)) ?_ ?_
 ·exact ⟨(by first | rfl | (simp (disch := omega) only [go_sem, jA, jB, jC, jD, jE, jF, jG, jH, jI, jJ, ↓reduceIte, reduceCtorEq, jP, jO, jM, jN]; try rfl)), Nat.le_refl _, fun i _ => rfl, .nil, (by simp only [At]; try simp (disch := omega) only [go_sem, jA, jB, jC, jD, jE, jF, jG, jH, jI, jJ, ↓reduceIte, reduceCtorEq, jO, jM, jN, jK, jL]), SlR.nil, fun i hi => absurd (Oth.nil i) hi⟩
 rintro k fe ob m c hk hm ⟨h49, hm1, ho, L, hL11, hL, hLn⟩
 simp (maxSteps := 1000000) only [go_sem, jA, jB, jC, jD, jE, jF, jG, jH, jI, jJ, ↓reduceIte, reduceCtorEq, jP, At] at h49 hm hm1 ho hL11
 try simp (disch := omega) only [go_sem, jA, jB, jC, jD, jE, jF, jG, jH, jI, jJ, ↓reduceIte, reduceCtorEq, jO, jM, jN, jK, jL, h49, css_length]
 refine cond_d (fun hlt => ?_) (fun hge => ?_)
 ·have hkl : k < x.cs.length := by omega
  have hk2 : x.cs[k]? = some x.cs[k] := List.getElem?_eq_getElem hkl
  have hfs := filter_snoc (q := inK ks) hk2
  generalize x.cs[k] = y at *
  try simp (disch := omega) only [go_sem, jA, jB, jC, jD, jE, jF, jG, jH, jI, jJ, ↓reduceIte, reduceCtorEq, jO, jM, jN, jK, jL, h49, css_length, css_get, hk2, Option.map_some, csv]
  refine ⟨by omega, by omega, ?_⟩
  refine awp_upG [14, 16, 55, 56, 57, 58, 59, 60, 61, 62, 63, 64, 65] (by kernel_rfl) ks.length (fun j e σ => e 55 = .int .i64 j ∧ m + 1 ≤ σ.n ∧ (∀ i, i < m → σ.ob i = ob i) ∧ σ.ob m = some ⟨c, 2, tyC, false, true, [csv y]⟩ ∧ e 14 = .bool ((ks.take j).any fun z => decide (z = y))) ?_ ?_
  ·refine ⟨(by first | rfl | (simp (disch := omega) only [go_sem, jA, jB, jC, jD, jE, jF, jG, jH, jI, jJ, ↓reduceIte, reduceCtorEq, jP, jO, jM, jN]; try rfl)), Nat.le_refl _, fun i hi => ?_, ?_, (by first | rfl | (simp (disch := omega) only [go_sem, jA, jB, jC, jD, jE, jF, jG, jH, jI, jJ, ↓reduceIte, reduceCtorEq, jP, jO, jM, jN]; try rfl))⟩
   ·simp only; rw [upd_ne _ _ _ _ (by omega), upd_ne _ _ _ _ (by omega)]
   ·exact upd_same _ _ _
  rintro j fe2 ob3 m3 c3 hj hm3 ⟨h55, hm4, ho3, hy3, h14⟩
  simp (maxSteps := 1000000) only [go_sem, jA, jB, jC, jD, jE, jF, jG, jH, jI, jJ, ↓reduceIte, reduceCtorEq, jP, csv] at h55 hm3 hm4 ho3 hy3 h14
  try simp (disch := omega) only [go_sem, jA, jB, jC, jD, jE, jF, jG, jH, jI, jJ, ↓reduceIte, reduceCtorEq, jO, jM, jN, jK, jL, h55, css_length]
  refine cond_d (fun hlt2 => ?_) (fun hge2 => ?_)
  ·have hjl : j < ks.length := by omega
   have hj2 : ks[j]? = some ks[j] := List.getElem?_eq_getElem hjl
   have has := any_snoc (q := fun z => decide (z = y)) hj2
   generalize ks[j] = z at *
   have zm : ¬ m = m3 := by omega
   try simp (disch := omega) only [go_sem, jA, jB, jC, jD, jE, jF, jG, jH, jI, jJ, ↓reduceIte, reduceCtorEq, jO, jM, jN, jK, jL, h55, css_length, css_get, hj2, Option.map_some, csv, h14]
   refine ⟨by omega, by omega, ?_⟩
   refine gd_f rfl (fun hf => ?_) (fun hf => ?_) <;> try simp (disch := omega) only [go_sem, jA, jB, jC, jD, jE, jF, jG, jH, jI, jJ, ↓reduceIte, reduceCtorEq, jO, jM, jN, jK, jL, zm, hy3]
   ·exact up_nextG (m3 + 1) hjl (by omega) ⟨(by first | rfl | (simp (disch := omega) only [go_sem, jA, jB, jC, jD, jE, jF, jG, jH, jI, jJ, ↓reduceIte, reduceCtorEq, jP, jO, jM, jN]; try rfl)), by simp only [St.trunc]; omega, fun i hi => by simp only [St.trunc, if_pos (show i < m3 + 1 by omega)]; rw [upd_ne _ _ _ _ (by omega), upd_ne _ _ _ _ (by omega), ho3 i hi], by try simp (disch := omega) only [go_sem, jA, jB, jC, jD, jE, jF, jG, jH, jI, jJ, ↓reduceIte, reduceCtorEq, jO, jM, jN, jK, jL, zm, csv]; exact hy3, by try simp (disch := omega) only [go_sem, jA, jB, jC, jD, jE, jF, jG, jH, jI, jJ, ↓reduceIte, reduceCtorEq, jO, jM, jN, jK, jL]; rw [has, hf]; rfl⟩
   ·refine up_nextG (m3 + 1) hjl (by omega) ⟨(by first | rfl | (simp (disch := omega) only [go_sem, jA, jB, jC, jD, jE, jF, jG, jH, jI, jJ, ↓reduceIte, reduceCtorEq, jP, jO, jM, jN]; try rfl)), by simp only [St.trunc]; omega, fun i hi => by simp only [St.trunc, if_pos (show i < m3 + 1 by omega)]; rw [upd_ne _ _ _ _ (by omega), upd_ne _ _ _ _ (by omega), ho3 i hi], by try simp (disch := omega) only [go_sem, jA, jB, jC, jD, jE, jF, jG, jH, jI, jJ, ↓reduceIte, reduceCtorEq, jO, jM, jN, jK, jL, zm, csv]; exact hy3, ?_⟩
    try simp (disch := omega) only [go_sem, jA, jB, jC, jD, jE, jF, jG, jH, jI, jJ, ↓reduceIte, reduceCtorEq, jO, jM, jN, jK, jL]
    rw [has, hf, Bool.false_or]
    congr 1
    rw [Bool.eq_iff_iff]
    simp [cs_eq]
  ·obtain rfl : j = ks.length := by omega
   rw [List.take_length] at h14
   have h14' : fe2 14 = .bool (inK ks y) := h14
   have oL : ∀ i, ¬ Oth L i → n1 + 1 ≤ i ∧ i < m := fun i hi => ⟨hLn i hi, hL.lt hi⟩
   have hL3 : SlR 2 tyC ⟨ob3, m3, c3⟩ (css ((x.cs.take k).filter (inK ks))) L := hL.move (by simp only; omega) fun i hi _ => ho3 i hi
   cases hf : inK ks y <;> try simp (disch := omega) only [go_sem, jA, jB, jC, jD, jE, jF, jG, jH, jI, jJ, ↓reduceIte, reduceCtorEq, jO, jM, jN, jK, jL, h14', hf, hy3, hL11]
   ·refine up_nextG m3 hkl (by omega) ⟨(by first | rfl | (simp (disch := omega) only [go_sem, jA, jB, jC, jD, jE, jF, jG, jH, jI, jJ, ↓reduceIte, reduceCtorEq, jP, jO, jM, jN]; try rfl)), by simp only [St.trunc]; omega, fun i hi => by rw [tr_ob (by omega), ho3 i (by omega), ho i hi], L, (by simp only [At]; try simp (disch := omega) only [go_sem, jA, jB, jC, jD, jE, jF, jG, jH, jI, jJ, ↓reduceIte, reduceCtorEq, jO, jM, jN, jK, jL, hL11]), ?_, hLn⟩
    rw [hfs, hf, if_neg (by simp), List.append_nil]
    exact hL3.tr
   ·have hll : (css ((x.cs.take k).filter (inK ks))).length ≤ k := by rw [css_length]; exact Nat.le_trans (List.length_filter_le _ _) (by simp; omega)
    refine app_slr (b := 16) hL3 (by omega) (by omega) fun Z τ hZ kZ => ?_
    obtain ⟨ob4, m4, c4⟩ := τ
    have r1 : m3 ≤ m4 := kZ.1
    have oLl : ∀ i, i < n1 + 1 → Oth L i := fun i hi => Oth.em fun hh => by have := hLn i hh; omega
    try simp (disch := omega) only [go_sem, jA, jB, jC, jD, jE, jF, jG, jH, jI, jJ, ↓reduceIte, reduceCtorEq, jO, jM, jN, jK, jL]
    refine up_nextG m4 hkl (by omega) ⟨(by first | rfl | (simp (disch := omega) only [go_sem, jA, jB, jC, jD, jE, jF, jG, jH, jI, jJ, ↓reduceIte, reduceCtorEq, jP, jO, jM, jN]; try rfl)), by simp only [St.trunc]; omega, fun i hi => by rw [tr_ob (by omega), show ob4 i = ob3 i from kZ.2.1 i (by simp only; omega) (oLl i hi), ho3 i (by omega), ho i hi], Z, (by simp only [At]; try simp (disch := omega) only [go_sem, jA, jB, jC, jD, jE, jF, jG, jH, jI, jJ, ↓reduceIte, reduceCtorEq, jO, jM, jN, jK, jL]), ?_, fun i hi => Nat.le_of_not_lt fun hh => hi (kZ.2.2 i (by simp only; omega) (oLl i hh))⟩
    rw [hfs, hf, if_pos rfl, css_app]
    exact hZ.tr
 ·obtain rfl : k = x.cs.length := by omega
  rw [List.take_length] at hL
  have v1 := (ho 1 (by omega)).trans u1
  have v3 := (ho n1 (by omega)).trans u3
  have vX := (ho id hid).trans hoX
  try simp (disch := omega) only [go_sem, jA, jB, jC, jD, jE, jF, jG, jH, jI, jJ, ↓reduceIte, reduceCtorEq, jO, jM, jN, jK, jL, v3, vX, hgi, hset, hL11, wnv, z2, z3, z4, v1, wns_length, hL.flat, hL.cells, hL.one]
  refine ⟨by omega, by omega, ?_⟩
  rw [keepV, hE, hR]
  refine Pub.tu (.cons (Pub.ag (.cons (Pub.e rfl) (.cons (Pub.e rfl) (.cons ?_ .nil)))) (.cons (Pub.e rfl) .nil))
  show Pub _ _ (.list 4 (wns (keepL b.ac p ks)))
  rw [hKL]
  refine pub_mid (g := g) (ty := tyA) (ro := false) (ap := true) (w := ⟨x.p, x.t, x.cs.filter (inK ks), x.cm⟩) (F := L) ?_ (by rw [List.length_take, List.length_drop]; omega) (hL.pub (fun i hi hh => ?_) (css_pur _) (css_ok _))
  ·simp only
   rw [upd_ne _ _ _ _ (fun e => z2 e.symm), upd_same]
  ·have := hLn i hh
   simp only
   rw [upd_ne _ _ _ _ (by omega), upd_ne _ _ _ _ (by omega)]
def bls (l : List Bool) : List AV := l.map .bool
theorem bls_length (l : List Bool) : (bls l).length = l.length := by simp [bls]
theorem bls_get (l : List Bool) (i : Nat) : (bls l)[i]? = (l[i]?).map .bool := by simp [bls]
theorem bls_pur (l : List Bool) : ∀ x ∈ bls l, x.pur = true := fun x hx => by obtain ⟨b, _, rfl⟩ := List.mem_map.1 hx; rfl
theorem bls_ok (l : List Bool) : ∀ x ∈ bls l, okE 1 x := fun x hx => by obtain ⟨b, _, rfl⟩ := List.mem_map.1 hx; exact ⟨rfl, rfl⟩
def calmS (q : List Bool) (w : Wn) : Int := if w.cs ≠ [] ∨ q.getD w.p.toNat false = false then 0 else w.cm + 1
def goneS (q : List Bool) (h : Int) (w : Wn) : Bool := decide (w.cs = []) && q.getD w.p.toNat false && decide (h ≤ w.cm + 1)
def tickL (l : List Wn) (q : List Bool) (h : Int) : List Wn := (l.filter fun w => !goneS q h w).map fun w => ⟨w.p, w.t, w.cs, calmS q w⟩
def goneL (l : List Wn) (q : List Bool) (h : Int) : List Int := (l.filter (goneS q h)).map Wn.p
def tickE (b : Bo) (q : List Bool) (h : Int) : Int := if vdB b = false then 50 else if q.length ≠ b.ps.length then 3 else if h < 1 ∨ 96 < h then 1 else 0
def tickB (b : Bo) (q : List Bool) (h : Int) : Bo := ⟨b.ps, b.pa, tickL b.ac q h⟩
def tickR (b : Bo) (q : List Bool) (h : Int) : Bo × List Int := if tickE b q h = 0 then (tickB b q h, goneL b.ac q h) else (boZ, [])
def tickV (b : Bo) (q : List Bool) (h : Int) : AV := .tuple [bov (tickR b q h).1, .list 1 (ints (tickR b q h).2), .int .i64 (tickE b q h)]
theorem tick_bad {b : Bo} {q : List Bool} {h n : Int} (e : tickE b q h = n) (hn : n ≠ 0) {σ : St} : Pub σ (.tuple [.agg [.nil, .nil, .nil], .nil, .int .i64 n]) (tickV b q h) := by
 rw [tickV, e, tickR, if_neg (by rw [e]; exact hn)]
 exact Pub.tu (.cons pub_boZ (.cons (.nl 1) (.cons (Pub.e rfl) .nil)))
theorem tickL_snoc {l : List Wn} {q : List Bool} {h : Int} {k : Nat} {w : Wn} (e : l[k]? = some w) : tickL (l.take (k + 1)) q h = tickL (l.take k) q h ++ (if goneS q h w then [] else [⟨w.p, w.t, w.cs, calmS q w⟩]) := by
 rw [tickL, filter_snoc e, List.map_append, tickL]; cases goneS q h w <;> simp
theorem goneL_snoc {l : List Wn} {q : List Bool} {h : Int} {k : Nat} {w : Wn} (e : l[k]? = some w) : goneL (l.take (k + 1)) q h = goneL (l.take k) q h ++ (if goneS q h w then [w.p] else []) := by
 rw [goneL, filter_snoc e, List.map_append, goneL]; cases goneS q h w <;> simp
theorem tickL_len (l : List Wn) (q : List Bool) (h : Int) : (tickL l q h).length ≤ l.length := by
 rw [tickL, List.length_map]; exact List.length_filter_le _ _
theorem goneL_len (l : List Wn) (q : List Bool) (h : Int) : (goneL l q h).length ≤ l.length := by
 rw [goneL, List.length_map]; exact List.length_filter_le _ _
theorem ok_ref37_Tick (b : Bo) (q : List Bool) (hd : Int) (h : BoL b) (hq : q.length ≤ 9223372036854775807) : PC prog n_ref37_Tick [bov b, .list 1 (bls q), .int .i64 hd] (tickV b q hd) := by
 refine PC_of_body b_ref37_Tick (by simp) ?_
 simp only [c_ref37_Tick, bov]
 try simp (disch := omega) only [go_sem, jA, jB, jC, jD, jE, jF, jG, jH, jI, jJ, ↓reduceIte, reduceCtorEq, jO, jM, jN, jK, jL]
 have hC := ok_ref36_Check b h
 simp only [bov] at hC
 refine call_pc hC (by simp [go_sem, wts_pur, lls_pur, wns_pur]) ?_
 cases hv : vdB b <;> try simp (disch := omega) only [go_sem, jA, jB, jC, jD, jE, jF, jG, jH, jI, jJ, ↓reduceIte, reduceCtorEq, jO, jM, jN, jK, jL, chkE, hv, wts_length, bls_length]
 ·exact tick_bad (by rw [tickE, if_pos hv]) (by omega)
 have hV := vdB_iff.1 hv
 have hp8 := hV.p
 refine cond_n (fun g1 => ?_) (fun g1 => ?_) <;> try simp (disch := omega) only [go_sem, jA, jB, jC, jD, jE, jF, jG, jH, jI, jJ, ↓reduceIte, reduceCtorEq, jO, jM, jN, jK, jL, wts_length, bls_length]
 ·exact tick_bad (by rw [tickE, if_neg (by simp [hv]), if_pos (by omega)]) (by omega)
 refine gd_fd rfl (fun g2 => ?_) (fun g2 => ?_) <;> try simp (disch := omega) only [go_sem, jA, jB, jC, jD, jE, jF, jG, jH, jI, jJ, ↓reduceIte, reduceCtorEq, jO, jM, jN, jK, jL, wts_length]
 ·exact tick_bad (by rw [tickE, if_neg (by simp [hv]), if_neg (by omega), if_pos (.inl g2)]) (by omega)
 refine cond_d (fun g3 => ?_) (fun g3 => ?_) <;> try simp (disch := omega) only [go_sem, jA, jB, jC, jD, jE, jF, jG, jH, jI, jJ, ↓reduceIte, reduceCtorEq, jO, jM, jN, jK, jL, wts_length]
 ·exact tick_bad (by rw [tickE, if_neg (by simp [hv]), if_neg (by omega), if_pos (.inr g3)]) (by omega)
 have hE : tickE b q hd = 0 := by rw [tickE, if_neg (by simp [hv]), if_neg (by omega), if_neg (by omega)]
 have hcp := hV.copy (ok_ref36_Copy b)
 simp only [bov] at hcp
 refine call_pc hcp (by simp [go_sem, wts_pur, lls_pur, wns_pur]) ?_
 try simp (disch := omega) only [go_sem, jA, jB, jC, jD, jE, jF, jG, jH, jI, jJ, ↓reduceIte, reduceCtorEq, jO, jM, jN, jK, jL]
 refine call_pc hcp (by simp [go_sem, wts_pur, lls_pur, wns_pur]) ?_
 have ha8 := hV.a1
 try simp (disch := omega) only [go_sem, jA, jB, jC, jD, jE, jF, jG, jH, jI, jJ, ↓reduceIte, reduceCtorEq, jO, jM, jN, jK, jL, wns_length]
 refine awp_upG [10, 12, 38, 39, 40, 41, 42, 43, 44, 45, 46, 47, 48, 49, 50, 51, 52, 53, 54, 55, 56, 57, 58, 59, 60, 61, 62, 63, 64, 65, 66, 67, 68, 69, 70, 71, 72, 73, 74, 75] (by kernel_rfl) b.ac.length (fun k e σ => e 38 = .int .i64 k ∧ 3 ≤ σ.n ∧ σ.ob 1 = some ⟨1, 3, 31, false, true, [.agg [.nil, .nil, .nil]]⟩ ∧
  ∃ A G, At e 10 G ∧ σ.ob 2 = some ⟨2, 3, 31, false, true, [.agg [.list 4 (wts b.ps), .list 1 (lls b.pa), A]]⟩ ∧ SlR 4 tyA σ (wns (tickL (b.ac.take k) q hd)) A ∧ SlR 1 3 σ (ints (goneL (b.ac.take k) q hd)) G ∧ (∀ i, ¬ Oth A i → 3 ≤ i ∧ Oth G i) ∧ (∀ i, ¬ Oth G i → 3 ≤ i)) ?_ ?_
 ·exact ⟨(by first | rfl | (simp (disch := omega) only [go_sem, jA, jB, jC, jD, jE, jF, jG, jH, jI, jJ, ↓reduceIte, reduceCtorEq, jP, jO, jM, jN]; try rfl)), Nat.le_refl _, (by first | rfl | (simp (disch := omega) only [go_sem, jA, jB, jC, jD, jE, jF, jG, jH, jI, jJ, ↓reduceIte, reduceCtorEq, jP, jO, jM, jN]; try rfl)), .nil, .nil, (by simp only [At]; try simp (disch := omega) only [go_sem, jA, jB, jC, jD, jE, jF, jG, jH, jI, jJ, ↓reduceIte, reduceCtorEq, jO, jM, jN, jK, jL]), (by first | rfl | (simp (disch := omega) only [go_sem, jA, jB, jC, jD, jE, jF, jG, jH, jI, jJ, ↓reduceIte, reduceCtorEq, jP, jO, jM, jN]; try rfl)), SlR.nil, SlR.nil, fun i hi => absurd (Oth.nil i) hi, fun i hi => absurd (Oth.nil i) hi⟩
 rintro k fe ob m c hk hm ⟨h38, hm1, ho1, A, G, h10, ho2, hA, hG, hAn, hGn⟩
 simp (maxSteps := 1000000) only [go_sem, jA, jB, jC, jD, jE, jF, jG, jH, jI, jJ, ↓reduceIte, reduceCtorEq, jP, At] at h38 hm hm1 ho1 ho2 h10
 have lt1 := tickL_len (b.ac.take k) q hd
 have lg1 := goneL_len (b.ac.take k) q hd
 rw [List.length_take] at lt1 lg1
 try simp (disch := omega) only [go_sem, jA, jB, jC, jD, jE, jF, jG, jH, jI, jJ, ↓reduceIte, reduceCtorEq, jO, jM, jN, jK, jL, h38, wns_length]
 refine cond_d (fun hlt => ?_) (fun hge => ?_)
 ·have hkl : k < b.ac.length := by omega
  have hk2 : b.ac[k]? = some b.ac[k] := List.getElem?_eq_getElem hkl
  have hts := tickL_snoc (q := q) (h := hd) hk2
  have hgs := goneL_snoc (q := q) (h := hd) hk2
  have hpl := hV.lo _ (List.mem_of_getElem? hk2)
  have hwb := wnB_bd (hV.wn _ (List.mem_of_getElem? hk2))
  have hcl := wnB_cs (hV.wn _ (List.mem_of_getElem? hk2))
  generalize b.ac[k] = w at *
  have z1 : ¬ 1 = m := by omega
  have z2 : ¬ 2 = m := by omega
  have hqk : q[w.p.toNat]? = some (q.getD w.p.toNat false) := by
   have : w.p.toNat < q.length := by omega
   simp [List.getD_eq_getElem?_getD, List.getElem?_eq_getElem this]
  have oG : ∀ i, i < 3 → Oth G i := fun i hi => Oth.em fun h => by have := hGn i h; omega
  have oA : ∀ i, i < 3 → Oth A i := fun i hi => Oth.em fun h => by have := (hAn i h).1; omega
  have hcz : (0 < (w.cs.length : Int)) ↔ w.cs ≠ [] := by rw [← List.length_pos_iff]; omega
  try simp (disch := omega) only [go_sem, jA, jB, jC, jD, jE, jF, jG, jH, jI, jJ, ↓reduceIte, reduceCtorEq, jO, jM, jN, jK, jL, h38, wns_length, wns_get, hk2, Option.map_some, wnv, z1, z2, css_length]
  refine ⟨by omega, by omega, ?_⟩
  refine gd_fd rfl (fun g4 => ?_) (fun g4 => ?_)
  ·have hcs := hcz.1 g4
   have hcv : calmS q w = 0 := by rw [calmS, if_pos (.inl hcs)]
   have hng : goneS q hd w = false := by simp [goneS, hcs]
   try simp (disch := omega) only [go_sem, jA, jB, jC, jD, jE, jF, jG, jH, jI, jJ, ↓reduceIte, reduceCtorEq, jO, jM, jN, jK, jL, z1, z2]
   try simp (disch := omega) only [go_sem, jA, jB, jC, jD, jE, jF, jG, jH, jI, jJ, ↓reduceIte, reduceCtorEq, jO, jM, jN, jK, jL, ho2, z2, z1]
   have hfr : ∀ (ob' : Nat → Option AObj) (i : Nat), i < m → upd (upd (upd ob m (some ⟨c, 4, tyA, false, true, [.agg [.int .i64 0, .int .i64 0, .nil, .int .i64 0]]⟩)) m (some ⟨c, 4, tyA, false, true, [.agg [.int .i64 w.p, .int .i64 w.t, .list 2 (css w.cs), .int .i64 w.cm]]⟩)) m (some ⟨c, 4, tyA, false, true, [.agg [.int .i64 w.p, .int .i64 w.t, .list 2 (css w.cs), .int .i64 (0)]]⟩) i = ob i := fun _ i hi => by
    rw [upd_ne _ _ _ _ (by omega), upd_ne _ _ _ _ (by omega), upd_ne _ _ _ _ (by omega)]
   refine app_slr (L := wns (tickL (b.ac.take k) q hd)) (b := 48) (hA.move (by simp only; omega) fun i hi _ => hfr ob i hi) (by rw [wns_length]; omega) (by rw [wns_length]; omega) fun A' τ hA' kA => ?_
   obtain ⟨ob4, m4, c4⟩ := τ
   have q1 : m + 1 ≤ m4 := kA.1
   have q2 : ∀ i, i < m → Oth A i → ob4 i = ob i := fun i hi hh => (kA.2.1 i (by simp only; omega) hh).trans (hfr ob i hi)
   have v2 := (q2 2 (by omega) (oA 2 (by omega))).trans ho2
   have v1 := (q2 1 (by omega) (oA 1 (by omega))).trans ho1
   have hA3 : ∀ i, ¬ Oth A' i → 3 ≤ i ∧ Oth G i := fun i hi => by
    by_cases him : i < m
    ·exact hAn i fun hh => hi (kA.2.2 i (by simp only; omega) hh)
    ·exact ⟨by omega, hG.oth (by simp only; omega)⟩
   try simp (disch := omega) only [go_sem, jA, jB, jC, jD, jE, jF, jG, jH, jI, jJ, ↓reduceIte, reduceCtorEq, jO, jM, jN, jK, jL, v2, z1, z2, hA'.flat, hA'.cells, hA'.one]
   refine up_nextG m4 hkl (by omega) ⟨(by first | rfl | (simp (disch := omega) only [go_sem, jA, jB, jC, jD, jE, jF, jG, jH, jI, jJ, ↓reduceIte, reduceCtorEq, jP, jO, jM, jN]; try rfl)), by simp only [St.trunc]; omega, ?_, A', G, (by simp only [At]; try simp (disch := omega) only [go_sem, jA, jB, jC, jD, jE, jF, jG, jH, jI, jJ, ↓reduceIte, reduceCtorEq, jO, jM, jN, jK, jL, h10]), ?_, ?_, ?_, hA3, hGn⟩
   ·rw [tr_ob (by omega), upd_ne _ _ _ _ (by omega), v1]
   ·rw [tr_ob (by omega), upd_same]
   ·rw [hts, hng, if_neg (by simp), ← wns_snoc, wnv, hcv]
    refine SlR.tr (ob := _) (n := m4) (c := c4) (hA'.move (by simp only; omega) fun i hi hh => ?_)
    have := (hA3 i hh).1
    simp only
    rw [upd_ne _ _ _ _ (by omega)]
   ·rw [hgs, hng, if_neg (by simp), List.append_nil]
    refine (SlR.tr (ob := _) (n := m4) (c := c4) (hG.move (by simp only; omega) fun i hi hh => ?_))
    have h3 := hGn i hh
    simp only at hi ⊢
    rw [upd_ne _ _ _ _ (by omega), q2 i hi (Oth.em fun h => hh (hAn i h).2)]
  ·have hcs : w.cs = [] := Classical.byContradiction fun h => g4 (hcz.2 h)
   try simp (disch := omega) only [go_sem, jA, jB, jC, jD, jE, jF, jG, jH, jI, jJ, ↓reduceIte, reduceCtorEq, jO, jM, jN, jK, jL, z1, z2, bls_length, bls_get, hqk, Option.map_some]
   refine ⟨by omega, by omega, ?_⟩
   cases hqq : q.getD w.p.toNat false
   ·have hcv : calmS q w = 0 := by rw [calmS, if_pos (.inr hqq)]
    have hng : goneS q hd w = false := by rw [goneS, hqq]; simp
    try simp (disch := omega) only [go_sem, jA, jB, jC, jD, jE, jF, jG, jH, jI, jJ, ↓reduceIte, reduceCtorEq, jO, jM, jN, jK, jL, z1, z2]
    try simp (disch := omega) only [go_sem, jA, jB, jC, jD, jE, jF, jG, jH, jI, jJ, ↓reduceIte, reduceCtorEq, jO, jM, jN, jK, jL, ho2, z2, z1]
    have hfr : ∀ (ob' : Nat → Option AObj) (i : Nat), i < m → upd (upd (upd ob m (some ⟨c, 4, tyA, false, true, [.agg [.int .i64 0, .int .i64 0, .nil, .int .i64 0]]⟩)) m (some ⟨c, 4, tyA, false, true, [.agg [.int .i64 w.p, .int .i64 w.t, .list 2 (css w.cs), .int .i64 w.cm]]⟩)) m (some ⟨c, 4, tyA, false, true, [.agg [.int .i64 w.p, .int .i64 w.t, .list 2 (css w.cs), .int .i64 (0)]]⟩) i = ob i := fun _ i hi => by
     rw [upd_ne _ _ _ _ (by omega), upd_ne _ _ _ _ (by omega), upd_ne _ _ _ _ (by omega)]
    refine app_slr (L := wns (tickL (b.ac.take k) q hd)) (b := 48) (hA.move (by simp only; omega) fun i hi _ => hfr ob i hi) (by rw [wns_length]; omega) (by rw [wns_length]; omega) fun A' τ hA' kA => ?_
    obtain ⟨ob4, m4, c4⟩ := τ
    have q1 : m + 1 ≤ m4 := kA.1
    have q2 : ∀ i, i < m → Oth A i → ob4 i = ob i := fun i hi hh => (kA.2.1 i (by simp only; omega) hh).trans (hfr ob i hi)
    have v2 := (q2 2 (by omega) (oA 2 (by omega))).trans ho2
    have v1 := (q2 1 (by omega) (oA 1 (by omega))).trans ho1
    have hA3 : ∀ i, ¬ Oth A' i → 3 ≤ i ∧ Oth G i := fun i hi => by
     by_cases him : i < m
     ·exact hAn i fun hh => hi (kA.2.2 i (by simp only; omega) hh)
     ·exact ⟨by omega, hG.oth (by simp only; omega)⟩
    try simp (disch := omega) only [go_sem, jA, jB, jC, jD, jE, jF, jG, jH, jI, jJ, ↓reduceIte, reduceCtorEq, jO, jM, jN, jK, jL, v2, z1, z2, hA'.flat, hA'.cells, hA'.one]
    refine up_nextG m4 hkl (by omega) ⟨(by first | rfl | (simp (disch := omega) only [go_sem, jA, jB, jC, jD, jE, jF, jG, jH, jI, jJ, ↓reduceIte, reduceCtorEq, jP, jO, jM, jN]; try rfl)), by simp only [St.trunc]; omega, ?_, A', G, (by simp only [At]; try simp (disch := omega) only [go_sem, jA, jB, jC, jD, jE, jF, jG, jH, jI, jJ, ↓reduceIte, reduceCtorEq, jO, jM, jN, jK, jL, h10]), ?_, ?_, ?_, hA3, hGn⟩
    ·rw [tr_ob (by omega), upd_ne _ _ _ _ (by omega), v1]
    ·rw [tr_ob (by omega), upd_same]
    ·rw [hts, hng, if_neg (by simp), ← wns_snoc, wnv, hcv]
     refine SlR.tr (ob := _) (n := m4) (c := c4) (hA'.move (by simp only; omega) fun i hi hh => ?_)
     have := (hA3 i hh).1
     simp only
     rw [upd_ne _ _ _ _ (by omega)]
    ·rw [hgs, hng, if_neg (by simp), List.append_nil]
     refine (SlR.tr (ob := _) (n := m4) (c := c4) (hG.move (by simp only; omega) fun i hi hh => ?_))
     have h3 := hGn i hh
     simp only at hi ⊢
     rw [upd_ne _ _ _ _ (by omega), q2 i hi (Oth.em fun h => hh (hAn i h).2)]
   ·have hcv : calmS q w = w.cm + 1 := by rw [calmS, if_neg (by rw [hqq]; simp [hcs])]
    try simp (disch := omega) only [go_sem, jA, jB, jC, jD, jE, jF, jG, jH, jI, jJ, ↓reduceIte, reduceCtorEq, jO, jM, jN, jK, jL, z1, z2]
    refine cond_d (fun g5 => ?_) (fun g5 => ?_)
    ·have hng : goneS q hd w = true := by rw [goneS, hqq]; simp [hcs]; omega
     try simp (disch := omega) only [go_sem, jA, jB, jC, jD, jE, jF, jG, jH, jI, jJ, ↓reduceIte, reduceCtorEq, jO, jM, jN, jK, jL, h10, z1, z2]
     have hfr : ∀ (i : Nat), i < m → upd (upd (upd ob m (some ⟨c, 4, tyA, false, true, [.agg [.int .i64 0, .int .i64 0, .nil, .int .i64 0]]⟩)) m (some ⟨c, 4, tyA, false, true, [.agg [.int .i64 w.p, .int .i64 w.t, .list 2 (css w.cs), .int .i64 w.cm]]⟩)) m (some ⟨c, 4, tyA, false, true, [.agg [.int .i64 w.p, .int .i64 w.t, .list 2 (css w.cs), .int .i64 (w.cm + 1)]]⟩) i = ob i := fun i hi => by
      rw [upd_ne _ _ _ _ (by omega), upd_ne _ _ _ _ (by omega), upd_ne _ _ _ _ (by omega)]
     refine app_slr (L := ints (goneL (b.ac.take k) q hd)) (b := 8) (hG.move (by simp only; omega) fun i hi _ => hfr i hi) (by rw [ints_length]; omega) (by rw [ints_length]; omega) fun G' τ hG' kG => ?_
     obtain ⟨ob4, m4, c4⟩ := τ
     have q1 : m + 1 ≤ m4 := kG.1
     have q2 : ∀ i, i < m → Oth G i → ob4 i = ob i := fun i hi hh => (kG.2.1 i (by simp only; omega) hh).trans (hfr i hi)
     have v2 := (q2 2 (by omega) (oG 2 (by omega))).trans ho2
     have v1 := (q2 1 (by omega) (oG 1 (by omega))).trans ho1
     try simp (disch := omega) only [go_sem, jA, jB, jC, jD, jE, jF, jG, jH, jI, jJ, ↓reduceIte, reduceCtorEq, jO, jM, jN, jK, jL]
     refine up_nextG m4 hkl (by omega) ⟨(by first | rfl | (simp (disch := omega) only [go_sem, jA, jB, jC, jD, jE, jF, jG, jH, jI, jJ, ↓reduceIte, reduceCtorEq, jP, jO, jM, jN]; try rfl)), by simp only [St.trunc]; omega, ?_, A, G', (by simp only [At]; try simp (disch := omega) only [go_sem, jA, jB, jC, jD, jE, jF, jG, jH, jI, jJ, ↓reduceIte, reduceCtorEq, jO, jM, jN, jK, jL]), ?_, ?_, ?_, fun i hi => ⟨(hAn i hi).1, kG.2.2 i (by simp only; have := hA.lt hi; simp only at this; omega) (hAn i hi).2⟩, fun i hi => Nat.le_of_not_lt fun hh => hi (kG.2.2 i (by simp only; omega) (oG i hh))⟩
     ·rw [tr_ob (by omega), v1]
     ·rw [tr_ob (by omega), v2]
     ·rw [hts, hng, if_pos rfl, List.append_nil]
      refine SlR.tr (ob := _) (n := m4) (c := c4) (hA.move (by simp only; omega) fun i hi hh => ?_)
      exact q2 i hi (hAn i hh).2
     ·rw [hgs, hng, if_pos rfl, ← ints_append]
      exact SlR.tr hG'
    ·have hng : goneS q hd w = false := by rw [goneS, hqq]; simp; omega
     try simp (disch := omega) only [go_sem, jA, jB, jC, jD, jE, jF, jG, jH, jI, jJ, ↓reduceIte, reduceCtorEq, jO, jM, jN, jK, jL, z1, z2]
     try simp (disch := omega) only [go_sem, jA, jB, jC, jD, jE, jF, jG, jH, jI, jJ, ↓reduceIte, reduceCtorEq, jO, jM, jN, jK, jL, ho2, z2, z1]
     have hfr : ∀ (ob' : Nat → Option AObj) (i : Nat), i < m → upd (upd (upd ob m (some ⟨c, 4, tyA, false, true, [.agg [.int .i64 0, .int .i64 0, .nil, .int .i64 0]]⟩)) m (some ⟨c, 4, tyA, false, true, [.agg [.int .i64 w.p, .int .i64 w.t, .list 2 (css w.cs), .int .i64 w.cm]]⟩)) m (some ⟨c, 4, tyA, false, true, [.agg [.int .i64 w.p, .int .i64 w.t, .list 2 (css w.cs), .int .i64 (w.cm + 1)]]⟩) i = ob i := fun _ i hi => by
      rw [upd_ne _ _ _ _ (by omega), upd_ne _ _ _ _ (by omega), upd_ne _ _ _ _ (by omega)]
     refine app_slr (L := wns (tickL (b.ac.take k) q hd)) (b := 48) (hA.move (by simp only; omega) fun i hi _ => hfr ob i hi) (by rw [wns_length]; omega) (by rw [wns_length]; omega) fun A' τ hA' kA => ?_
     obtain ⟨ob4, m4, c4⟩ := τ
     have q1 : m + 1 ≤ m4 := kA.1
     have q2 : ∀ i, i < m → Oth A i → ob4 i = ob i := fun i hi hh => (kA.2.1 i (by simp only; omega) hh).trans (hfr ob i hi)
     have v2 := (q2 2 (by omega) (oA 2 (by omega))).trans ho2
     have v1 := (q2 1 (by omega) (oA 1 (by omega))).trans ho1
     have hA3 : ∀ i, ¬ Oth A' i → 3 ≤ i ∧ Oth G i := fun i hi => by
      by_cases him : i < m
      ·exact hAn i fun hh => hi (kA.2.2 i (by simp only; omega) hh)
      ·exact ⟨by omega, hG.oth (by simp only; omega)⟩
     try simp (disch := omega) only [go_sem, jA, jB, jC, jD, jE, jF, jG, jH, jI, jJ, ↓reduceIte, reduceCtorEq, jO, jM, jN, jK, jL, v2, z1, z2, hA'.flat, hA'.cells, hA'.one]
     refine up_nextG m4 hkl (by omega) ⟨(by first | rfl | (simp (disch := omega) only [go_sem, jA, jB, jC, jD, jE, jF, jG, jH, jI, jJ, ↓reduceIte, reduceCtorEq, jP, jO, jM, jN]; try rfl)), by simp only [St.trunc]; omega, ?_, A', G, (by simp only [At]; try simp (disch := omega) only [go_sem, jA, jB, jC, jD, jE, jF, jG, jH, jI, jJ, ↓reduceIte, reduceCtorEq, jO, jM, jN, jK, jL, h10]), ?_, ?_, ?_, hA3, hGn⟩
     ·rw [tr_ob (by omega), upd_ne _ _ _ _ (by omega), v1]
     ·rw [tr_ob (by omega), upd_same]
     ·rw [hts, hng, if_neg (by simp), ← wns_snoc, wnv, hcv]
      refine SlR.tr (ob := _) (n := m4) (c := c4) (hA'.move (by simp only; omega) fun i hi hh => ?_)
      have := (hA3 i hh).1
      simp only
      rw [upd_ne _ _ _ _ (by omega)]
     ·rw [hgs, hng, if_neg (by simp), List.append_nil]
      refine (SlR.tr (ob := _) (n := m4) (c := c4) (hG.move (by simp only; omega) fun i hi hh => ?_))
      have h3 := hGn i hh
      simp only at hi ⊢
      rw [upd_ne _ _ _ _ (by omega), q2 i hi (Oth.em fun h => hh (hAn i h).2)]
 ·obtain rfl : k = b.ac.length := by omega
  rw [List.take_length] at hA hG
  try simp (disch := omega) only [go_sem, jA, jB, jC, jD, jE, jF, jG, jH, jI, jJ, ↓reduceIte, reduceCtorEq, jO, jM, jN, jK, jL, ho1, ho2, h10, hA.one, hG.one]
  rw [tickV, hE, tickR, if_pos hE]
  refine Pub.tu (.cons (Pub.ag (.cons (Pub.e rfl) (.cons (Pub.e rfl) (.cons (hA.pub (fun i hi hh => ?_) (wns_pur _) (wns_ok _)) .nil)))) (.cons (hG.pub (fun i _ hh => ?_) (ints_pur _) (ints_ok _)) (.cons (Pub.e rfl) .nil)))
  ·have := (hAn i hh).1
   simp only
   rw [upd_ne _ _ _ _ (by omega)]
  ·have := hGn i hh
   simp only
   rw [upd_ne _ _ _ _ (by omega)]
end Go.Proofs.Try
