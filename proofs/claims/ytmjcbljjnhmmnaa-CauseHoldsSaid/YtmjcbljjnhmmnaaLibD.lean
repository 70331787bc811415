/- OWN WORK, put together by tools/asm.py, seat.py, mini.py. -/
import Derived.Test.YtmjcbljjnhmmnaaLibC
import Derived.Lib.Overlaps
set_option linter.unusedSimpArgs false
set_option linter.unusedVariables false
set_option maxRecDepth 100000
set_option maxHeartbeats 1000000
namespace Go.Proofs.Try
open Go.Ab Go
open Int renaming reduceEq → jA, reduceLT → jB, reduceLE → jC, reduceToNat → jD
open Go.Ab renaming w_ite_ne → jM, w_ite_lt → jN, wrap_id → jO, w_app_nl → jP
open Nat renaming reduceLT → jE, reduceEqDiff → jF, reduceAdd → jG, reduceLeDiff → jH, reduceSub → jI, reduceMul → jJ, sub_zero → jK, sub_self → jL
def plI (l : List Wn) (p : Int) : Nat := l.findIdx fun w => decide (p ≤ w.p)
def plB (l : List Wn) (p : Int) : Bool := (l[plI l p]?).any fun w => decide (w.p = p)
def hsI (l : List Cs) (c : Cs) : Nat := l.findIdx fun x => !csL x c
def hsB (l : List Cs) (c : Cs) : Bool := (l[hsI l c]?).any fun x => decide (x = c)
theorem idx_at {α : Type} {q : α → Bool} {l : List α} {k : Nat} (hk : k < l.length) (h : ∀ j, j < k → ∀ y, l[j]? = some y → q y = false) (hq : q l[k] = true) : l.findIdx q = k := by
 rw [List.findIdx_eq hk]
 exact ⟨hq, fun j hj => by have := h j hj l[j] (List.getElem?_eq_getElem (by omega)); simp [this]⟩
theorem idx_no {α : Type} {q : α → Bool} {l : List α} (h : ∀ j, j < l.length → ∀ y, l[j]? = some y → q y = false) : l.findIdx q = l.length := by
 rw [List.findIdx_eq_length]
 intro x hx
 obtain ⟨i, hi⟩ := List.getElem?_of_mem hx
 rw [h i (List.getElem?_eq_some_iff.1 hi).1 x hi]
theorem idx_next {α : Type} {q : α → Bool} {l : List α} {k : Nat} {x : α} (hx : l[k]? = some x) (h : ∀ j, j < k → ∀ y, l[j]? = some y → q y = false) (hq : q x = false) : ∀ j, j < k + 1 → ∀ y, l[j]? = some y → q y = false := fun j hj y hy => by
 by_cases e : j = k
 ·subst e; rw [hx] at hy; obtain rfl := Option.some.inj hy; exact hq
 ·exact h j (by omega) y hy
theorem ok_ref37_place (b : Bo) (p : Int) (h : BoL b) : PC prog n_ref37_place [bov b, .int .i64 p] (.tuple [.int .i64 (plI b.ac p), .bool (plB b.ac p)]) := by
 refine PC_of_body b_ref37_place (by simp) ?_
 simp only [c_ref37_place, go_sem, jA, jB, jC, jD, jE, jF, jG, jH, jI, jJ, ↓reduceIte, reduceCtorEq, jP, bov, wns_length]
 have hl := h.a
 refine awp_upG [4, 5, 6, 7, 11, 12, 13, 14, 15, 16, 17, 18, 19, 20, 21, 22, 23, 24, 25] (by kernel_rfl) b.ac.length (fun k e σ => e 11 = .int .i64 k ∧ σ.ob 0 = some ⟨0, 3, 31, false, true, [.agg [.list 4 (wts b.ps), .list 1 (lls b.pa), .list 4 (wns b.ac)]]⟩ ∧ ∀ j, j < k → ∀ y, b.ac[j]? = some y → decide (p ≤ y.p) = false) ?_ ?_
 ·exact ⟨(by first | rfl | (simp (disch := omega) only [go_sem, jA, jB, jC, jD, jE, jF, jG, jH, jI, jJ, ↓reduceIte, reduceCtorEq, jP, jO, jM, jN]; try rfl)), (by first | rfl | (simp (disch := omega) only [go_sem, jA, jB, jC, jD, jE, jF, jG, jH, jI, jJ, ↓reduceIte, reduceCtorEq, jP, jO, jM, jN]; try rfl)), fun j hj => by omega⟩
 rintro k fe ob m c hk hm ⟨hki, ho, hj⟩
 simp (maxSteps := 1000000) only [go_sem, jA, jB, jC, jD, jE, jF, jG, jH, jI, jJ, ↓reduceIte, reduceCtorEq, jP] at hki hm ho
 try simp (disch := omega) only [go_sem, jA, jB, jC, jD, jE, jF, jG, jH, jI, jJ, ↓reduceIte, reduceCtorEq, jO, jM, jN, jK, jL, hki, wns_length]
 refine cond_d (fun hlt => ?_) (fun hge => ?_)
 ·have hkl : k < b.ac.length := by omega
  have hk2 : b.ac[k]? = some b.ac[k] := List.getElem?_eq_getElem hkl
  have hat := idx_at hkl hj
  have hnx := idx_next hk2 hj
  generalize b.ac[k] = x at *
  have z0 : ¬ 0 = m := by omega
  try simp (disch := omega) only [go_sem, jA, jB, jC, jD, jE, jF, jG, jH, jI, jJ, ↓reduceIte, reduceCtorEq, jO, jM, jN, jK, jL, hki, wns_length, wns_get, hk2, Option.map_some, wnv, ho, z0]
  refine ⟨by omega, by omega, ?_⟩
  refine cond_d (fun hp => ?_) (fun hp => ?_) <;> try simp (disch := omega) only [go_sem, jA, jB, jC, jD, jE, jF, jG, jH, jI, jJ, ↓reduceIte, reduceCtorEq, jO, jM, jN, jK, jL, hki, ho, z0]
  ·have e1 : plI b.ac p = k := hat (by simpa using hp)
   rw [plB, e1, hk2]
   exact Pub.pure rfl
  ·exact up_nextG (m + 1) hkl (by omega) ⟨(by first | rfl | (simp (disch := omega) only [go_sem, jA, jB, jC, jD, jE, jF, jG, jH, jI, jJ, ↓reduceIte, reduceCtorEq, jP, jO, jM, jN]; try rfl)), by try simp (disch := omega) only [go_sem, jA, jB, jC, jD, jE, jF, jG, jH, jI, jJ, ↓reduceIte, reduceCtorEq, jO, jM, jN, jK, jL, z0]; exact ho, hnx (by simpa using hp)⟩
 ·obtain rfl : k = b.ac.length := by omega
  have e1 : plI b.ac p = b.ac.length := idx_no hj
  try simp (disch := omega) only [go_sem, jA, jB, jC, jD, jE, jF, jG, jH, jI, jJ, ↓reduceIte, reduceCtorEq, jO, jM, jN, jK, jL, ho, wns_length]
  rw [plB, e1, List.getElem?_eq_none (Nat.le_refl _)]
  exact Pub.pure rfl
theorem ok_ref37_has (l : List Cs) (x : Cs) (hl : l.length ≤ 9223372036854775807) : PC prog n_ref37_has [.list 2 (css l), csv x] (.tuple [.int .i64 (hsI l x), .bool (hsB l x)]) := by
 refine PC_of_body b_ref37_has (by simp) ?_
 simp only [c_ref37_has, go_sem, jA, jB, jC, jD, jE, jF, jG, jH, jI, jJ, ↓reduceIte, reduceCtorEq, jP, csv, css_length]
 refine awp_upG [4, 5, 6, 7, 10, 11, 12, 13, 14, 15, 16, 17, 18, 19, 20, 21, 22, 23] (by kernel_rfl) l.length (fun k e σ => e 10 = .int .i64 k ∧ σ.ob 0 = some ⟨0, 2, 39, false, true, [csv x]⟩ ∧ ∀ j, j < k → ∀ y, l[j]? = some y → (!csL y x) = false) ?_ ?_
 ·exact ⟨(by first | rfl | (simp (disch := omega) only [go_sem, jA, jB, jC, jD, jE, jF, jG, jH, jI, jJ, ↓reduceIte, reduceCtorEq, jP, jO, jM, jN]; try rfl)), (by first | rfl | (simp (disch := omega) only [go_sem, jA, jB, jC, jD, jE, jF, jG, jH, jI, jJ, ↓reduceIte, reduceCtorEq, jP, jO, jM, jN]; try rfl)), fun j hj => by omega⟩
 rintro k fe ob m c hk hm ⟨hki, ho, hj⟩
 simp (maxSteps := 1000000) only [go_sem, jA, jB, jC, jD, jE, jF, jG, jH, jI, jJ, ↓reduceIte, reduceCtorEq, jP] at hki hm ho
 try simp (disch := omega) only [go_sem, jA, jB, jC, jD, jE, jF, jG, jH, jI, jJ, ↓reduceIte, reduceCtorEq, jO, jM, jN, jK, jL, hki, css_length]
 refine cond_d (fun hlt => ?_) (fun hge => ?_)
 ·have hkl : k < l.length := by omega
  have hk2 : l[k]? = some l[k] := List.getElem?_eq_getElem hkl
  have hat := idx_at hkl hj
  have hnx := idx_next hk2 hj
  have hB := ok_ref36_Before l[k] x
  generalize l[k] = y at *
  have z0 : ¬ 0 = m := by omega
  simp only [csv] at hB ho
  try simp (disch := omega) only [go_sem, jA, jB, jC, jD, jE, jF, jG, jH, jI, jJ, ↓reduceIte, reduceCtorEq, jO, jM, jN, jK, jL, hki, css_length, css_get, hk2, Option.map_some, csv, ho, z0]
  refine ⟨by omega, by omega, ?_⟩
  refine call_pc hB (by simp [go_sem]) ?_
  cases hb : csL y x <;> try simp (disch := omega) only [go_sem, jA, jB, jC, jD, jE, jF, jG, jH, jI, jJ, ↓reduceIte, reduceCtorEq, jO, jM, jN, jK, jL, hki, ho, z0]
  ·have e1 : hsI l x = k := hat (by simp [hb])
   rw [hsB, e1, hk2]
   rw [show Option.any (fun z => decide (z = x)) (some y) = (decide (y.k = x.k) && decide (y.s = x.s)) by rw [Bool.eq_iff_iff]; simp [cs_eq]]
   exact Pub.pure rfl
  ·exact up_nextG (m + 1) hkl (by omega) ⟨(by first | rfl | (simp (disch := omega) only [go_sem, jA, jB, jC, jD, jE, jF, jG, jH, jI, jJ, ↓reduceIte, reduceCtorEq, jP, jO, jM, jN]; try rfl)), by try simp (disch := omega) only [go_sem, jA, jB, jC, jD, jE, jF, jG, jH, jI, jJ, ↓reduceIte, reduceCtorEq, jO, jM, jN, jK, jL, z0, csv]; exact ho, hnx (by simp [hb])⟩
 ·obtain rfl : k = l.length := by omega
  have e1 : hsI l x = l.length := idx_no hj
  try simp (disch := omega) only [go_sem, jA, jB, jC, jD, jE, jF, jG, jH, jI, jJ, ↓reduceIte, reduceCtorEq, jO, jM, jN, jK, jL, css_length]
  rw [hsB, e1, List.getElem?_eq_none (Nat.le_refl _)]
  exact Pub.pure rfl
def addC (l : List Cs) (c : Cs) : List Cs := if hsB l c then l else l.take (hsI l c) ++ c :: l.drop (hsI l c)
def gA (l : List Wn) (i : Nat) : Wn := l.getD i wnZ
def wAt (l : List Wn) (p t : Int) : Wn := if plB l p then gA l (plI l p) else ⟨p, t, [], 0⟩
def jAt (l : List Wn) (p : Int) : Nat := if plB l p then plI l p + 1 else plI l p
def issL (l : List Wn) (p t : Int) (c : Cs) : List Wn := l.take (plI l p) ++ ⟨(wAt l p t).p, (wAt l p t).t, addC (wAt l p t).cs c, 0⟩ :: l.drop (jAt l p)
def issE (b : Bo) (p t : Int) (c : Cs) : Int := if vdB b = false then 50 else if p < 0 ∨ b.ps.length ≤ p then 52 else if t < 0 ∨ 16777216 < t then 6 else cauE c
def issB (b : Bo) (p t : Int) (c : Cs) : Bo := ⟨b.ps, b.pa, issL b.ac p t c⟩
def issR (b : Bo) (p t : Int) (c : Cs) : Bo := if issE b p t c = 0 then issB b p t c else boZ
def issV (b : Bo) (p t : Int) (c : Cs) : AV := .tuple [bov (issR b p t c), .int .i64 (issE b p t c)]
theorem iss_bad {b : Bo} {p t n : Int} {c : Cs} (h : issE b p t c = n) (hn : n ≠ 0) {σ : St} : Pub σ (.tuple [.agg [.nil, .nil, .nil], .int .i64 n]) (issV b p t c) := by
 rw [issV, h, issR, if_neg (by rw [h]; exact hn)]
 exact Pub.tu (.cons pub_boZ (.cons (Pub.e rfl) .nil))
theorem plI_le (l : List Wn) (p : Int) : plI l p ≤ l.length := List.findIdx_le_length
theorem hsI_le (l : List Cs) (c : Cs) : hsI l c ≤ l.length := List.findIdx_le_length
theorem plB_get {l : List Wn} {p : Int} (h : plB l p = true) : plI l p < l.length ∧ l[plI l p]? = some (gA l (plI l p)) ∧ (gA l (plI l p)).p = p := by
 rw [plB, Option.any_eq_true] at h
 obtain ⟨w, hw, hp⟩ := h
 have h1 := (List.getElem?_eq_some_iff.1 hw).1
 have h2 : gA l (plI l p) = w := by rw [gA, List.getD_eq_getElem?_getD, hw]; rfl
 rw [h2]
 exact ⟨h1, hw, by simpa using hp⟩
structure Iss (b : Bo) (p t : Int) (c : Cs) (i : Nat) (pre post : List Wn) (w : Wn) : Prop where
 i : pre.length = i
 n : pre.length + post.length ≤ 8
 r : issL b.ac p t c = pre ++ ⟨w.p, w.t, addC w.cs c, 0⟩ :: post
 c : w.cs.length ≤ 29
theorem Iss.get {b : Bo} {p t : Int} {c : Cs} {i : Nat} {pre post : List Wn} {w : Wn} (h : Iss b p t c i pre post w) {x : AV} : (wns pre ++ x :: wns post)[i]? = some x := by
 rw [List.getElem?_append_right (by rw [wns_length, h.i]; omega), wns_length, h.i]; simp
theorem Iss.set {b : Bo} {p t : Int} {c : Cs} {i : Nat} {pre post : List Wn} {w : Wn} (h : Iss b p t c i pre post w) {x y : AV} : (wns pre ++ x :: wns post).set i y = wns pre ++ y :: wns post := by
 rw [List.set_append_right _ _ (by rw [wns_length, h.i]; omega), wns_length, h.i]; simp
theorem take_mid {α : Type} {l : List α} {i : Nat} {x : α} (h : l[i]? = some x) : l.take i ++ x :: l.drop (i + 1) = l := by
 obtain ⟨hi, rfl⟩ := List.getElem?_eq_some_iff.1 h
 rw [List.getElem_cons_drop, List.take_append_drop]
theorem wns_app (a b : List Wn) : wns (a ++ b) = wns a ++ wns b := by simp [wns]
theorem wns_take (l : List Wn) (k : Nat) : (wns l).take k = wns (l.take k) := by simp [wns, List.map_take]
theorem wns_drop (l : List Wn) (k : Nat) : (wns l).drop k = wns (l.drop k) := by simp [wns, List.map_drop]
theorem css_take (l : List Cs) (k : Nat) : (css l).take k = css (l.take k) := by simp [css, List.map_take]
theorem css_drop (l : List Cs) (k : Nat) : (css l).drop k = css (l.drop k) := by simp [css, List.map_drop]
theorem css_app (a b : List Cs) : css (a ++ b) = css a ++ css b := by simp [css]
theorem ok_ref37_Issue (b : Bo) (p t : Int) (c : Cs) (h : BoL b) : PC prog n_ref37_Issue [bov b, .int .i64 p, .int .i64 t, csv c] (issV b p t c) := by
 refine PC_of_body b_ref37_Issue (by simp) ?_
 simp only [c_ref37_Issue, bov, csv]
 try simp (disch := omega) only [go_sem, jA, jB, jC, jD, jE, jF, jG, jH, jI, jJ, ↓reduceIte, reduceCtorEq, jO, jM, jN, jK, jL]
 have hC := ok_ref36_Check b h
 simp only [bov] at hC
 refine call_pc hC (by simp [go_sem, wts_pur, lls_pur, wns_pur]) ?_
 cases hv : vdB b <;> try simp (disch := omega) only [go_sem, jA, jB, jC, jD, jE, jF, jG, jH, jI, jJ, ↓reduceIte, reduceCtorEq, jO, jM, jN, jK, jL, chkE, hv, wts_length]
 ·exact iss_bad (by rw [issE, if_pos hv]) (by omega)
 have hV := vdB_iff.1 hv
 have hp8 := hV.p
 refine gd_fd rfl (fun g1 => ?_) (fun g1 => ?_) <;> try simp (disch := omega) only [go_sem, jA, jB, jC, jD, jE, jF, jG, jH, jI, jJ, ↓reduceIte, reduceCtorEq, jO, jM, jN, jK, jL, wts_length]
 ·exact iss_bad (by rw [issE, if_neg (by simp [hv]), if_pos (.inl g1)]) (by omega)
 refine cond_d (fun g2 => ?_) (fun g2 => ?_) <;> try simp (disch := omega) only [go_sem, jA, jB, jC, jD, jE, jF, jG, jH, jI, jJ, ↓reduceIte, reduceCtorEq, jO, jM, jN, jK, jL, wts_length]
 ·exact iss_bad (by rw [issE, if_neg (by simp [hv]), if_pos (.inr g2)]) (by omega)
 have gp : ¬ (p < 0 ∨ (b.ps.length : Int) ≤ p) := by omega
 refine gd_fd rfl (fun g3 => ?_) (fun g3 => ?_) <;> try simp (disch := omega) only [go_sem, jA, jB, jC, jD, jE, jF, jG, jH, jI, jJ, ↓reduceIte, reduceCtorEq, jO, jM, jN, jK, jL, wts_length]
 ·exact iss_bad (by rw [issE, if_neg (by simp [hv]), if_neg gp, if_pos (.inl g3)]) (by omega)
 refine cond_d (fun g4 => ?_) (fun g4 => ?_) <;> try simp (disch := omega) only [go_sem, jA, jB, jC, jD, jE, jF, jG, jH, jI, jJ, ↓reduceIte, reduceCtorEq, jO, jM, jN, jK, jL, wts_length]
 ·exact iss_bad (by rw [issE, if_neg (by simp [hv]), if_neg gp, if_pos (.inr g4)]) (by omega)
 have hcau := ok_ref36_Cause c
 simp only [csv] at hcau
 refine call_pc hcau (by simp [go_sem]) ?_
 try simp (disch := omega) only [go_sem, jA, jB, jC, jD, jE, jF, jG, jH, jI, jJ, ↓reduceIte, reduceCtorEq, jO, jM, jN, jK, jL]
 have hE : issE b p t c = cauE c := by rw [issE, if_neg (by simp [hv]), if_neg gp, if_neg (by omega)]
 refine cond_n (fun g5 => ?_) (fun g5 => ?_) <;> try simp (disch := omega) only [go_sem, jA, jB, jC, jD, jE, jF, jG, jH, jI, jJ, ↓reduceIte, reduceCtorEq, jO, jM, jN, jK, jL, g5]
 ·exact iss_bad hE g5
 have hcp := fun σ => hV.copy (hcA_ref36_Copy σ b)
 simp only [bov] at hcp
 refine (hcp _).mono ?_
 rintro r ⟨ob1, n1, c1⟩ ⟨X, rfl, hX0, hn1, hXn, ho1⟩
 have u0 := ho1 0 (by simp only; omega)
 have u1 := ho1 1 (by simp only; omega)
 have u2 := ho1 2 (by simp only; omega)
 try simp (disch := omega) only [go_sem, jA, jB, jC, jD, jE, jF, jG, jH, jI, jJ, ↓reduceIte, reduceCtorEq, jO, jM, jN, jK, jL] at u0
 try simp (disch := omega) only [go_sem, jA, jB, jC, jD, jE, jF, jG, jH, jI, jJ, ↓reduceIte, reduceCtorEq, jO, jM, jN, jK, jL] at u1
 try simp (disch := omega) only [go_sem, jA, jB, jC, jD, jE, jF, jG, jH, jI, jJ, ↓reduceIte, reduceCtorEq, jO, jM, jN, jK, jL] at u2
 try simp (disch := omega) only [go_sem, jA, jB, jC, jD, jE, jF, jG, jH, jI, jJ, ↓reduceIte, reduceCtorEq, jO, jM, jN, jK, jL] at hn1
 try simp (disch := omega) only [go_sem, jA, jB, jC, jD, jE, jF, jG, jH, jI, jJ, ↓reduceIte, reduceCtorEq, jO, jM, jN, jK, jL] at hXn
 try simp (disch := omega) only [go_sem, jA, jB, jC, jD, jE, jF, jG, jH, jI, jJ, ↓reduceIte, reduceCtorEq, jO, jM, jN, jK, jL, hX0.flat, hX0.cells, hX0.one]
 have ox1 : Oth X n1 := hX0.oth (Nat.le_refl _)
 have hag : ∀ i, i < n1 → upd (upd ob1 n1 (some (⟨c1, 3, 31, false, true, [.agg [.nil, .nil, .nil]]⟩ : AObj))) n1 (some ⟨c1, 3, 31, false, true, [.agg [.list 4 (wts b.ps), .list 1 (lls b.pa), X]]⟩) i = ob1 i := fun i hi => by
  rw [upd_ne _ _ _ _ (by omega), upd_ne _ _ _ _ (by omega)]
 have hX : SlR 4 tyA ⟨upd (upd ob1 n1 (some (⟨c1, 3, 31, false, true, [.agg [.nil, .nil, .nil]]⟩ : AObj))) n1 (some ⟨c1, 3, 31, false, true, [.agg [.list 4 (wts b.ps), .list 1 (lls b.pa), X]]⟩), n1 + 1, c1 + 1⟩ (wns b.ac) X := hX0.move (by simp only; omega) fun i hi _ => hag i hi
 have hP := ok_ref37_place b p h
 simp only [bov] at hP
 refine call_lent hP (.cons (Pub.ag (.cons (Pub.e rfl) (.cons (Pub.e rfl) (.cons (hX.pub (fun _ _ _ => rfl) (wns_pur _) (wns_ok _)) .nil)))) (.cons (.pure rfl) .nil)) rfl ?_
 try simp (disch := omega) only [go_sem, jA, jB, jC, jD, jE, jF, jG, jH, jI, jJ, ↓reduceIte, reduceCtorEq, jO, jM, jN, jK, jL]
 have ha8 := hV.a1
 have hpi := plI_le b.ac p
 refine cond_cut [14, 56, 57, 58, 59, 60, 61, 62, 63, 64, 65, 66, 67, 68, 69, 70, 71, 72, 73] (by kernel_rfl) (fun e σ => n1 < σ.n ∧ (∀ i, i < 3 → σ.ob i = ob1 i) ∧ ∃ X' pre post w E, SlR 4 tyA σ (wns pre ++ .agg [.int .i64 w.p, .int .i64 w.t, E, .int .i64 w.cm] :: wns post) X' ∧ Iss b p t c (plI b.ac p) pre post w ∧ ER 2 ⟨fun _ => none, 0, 0⟩ (css w.cs) E ∧ σ.ob n1 = some ⟨c1, 3, 31, false, true, [.agg [.list 4 (wts b.ps), .list 1 (lls b.pa), X']]⟩ ∧ (∀ i, ¬ Oth X' i → 3 ≤ i ∧ i ≠ n1)) ?_ ?_
 ·generalize hob : upd (upd ob1 n1 (some (⟨c1, 3, 31, false, true, [.agg [.nil, .nil, .nil]]⟩ : AObj))) n1 (some ⟨c1, 3, 31, false, true, [.agg [.list 4 (wts b.ps), .list 1 (lls b.pa), X]]⟩) = ob2 at hX
  have u3 : ob2 n1 = some ⟨c1, 3, 31, false, true, [.agg [.list 4 (wts b.ps), .list 1 (lls b.pa), X]]⟩ := by rw [← hob, upd_same]
  have uu : ∀ i, i < 3 → ob2 i = ob1 i := fun i hi => by rw [← hob]; exact hag i (by omega)
  cases hb : plB b.ac p <;> try simp (disch := omega) only [go_sem, jA, jB, jC, jD, jE, jF, jG, jH, jI, jJ, ↓reduceIte, reduceCtorEq, jO, jM, jN, jK, jL, u3]
  ·refine ER.take (k := plI b.ac p) (ER.of_slr hX) rfl (by rw [wns_length]; omega) fun E1 hE1 _ => ?_
   try simp (disch := omega) only [go_sem, jA, jB, jC, jD, jE, jF, jG, jH, jI, jJ, ↓reduceIte, reduceCtorEq, jO, jM, jN, jK, jL]
   refine app_er hE1 ?_
   rw [wns_take]
   have l1 : (wns (b.ac.take (plI b.ac p))).length = plI b.ac p := by rw [wns_length, List.length_take]; omega
   refine app_slrs (M := wns (b.ac.take (plI b.ac p))) (b := 48) SlR.nil (by rw [l1]; simp; omega) (by rw [l1]; simp; omega) fun Y τ hY kY => ?_
   obtain ⟨ob3, m3, c3⟩ := τ
   simp only [List.nil_append] at hY
   have q1 : n1 + 1 ≤ m3 := kY.1
   have q2 : ∀ i, i < n1 + 1 → ob3 i = ob2 i := fun i hi => kY.2.1 i hi (Oth.nil i)
   try simp (disch := omega) only [go_sem, jA, jB, jC, jD, jE, jF, jG, jH, jI, jJ, ↓reduceIte, reduceCtorEq, jO, jM, jN, jK, jL]
   refine app_slr (b := 48) hY (by rw [l1]; omega) (by rw [l1]; omega) fun Z τ hZ kZ => ?_
   obtain ⟨ob4, m4, c4⟩ := τ
   have r1 : m3 ≤ m4 := kZ.1
   have r2 : ∀ i, i < n1 + 1 → ob4 i = ob2 i := fun i hi => (kZ.2.1 i (by simp only; omega) (kY.2.2 i hi (Oth.nil i))).trans (q2 i hi)
   have oZ : ∀ i, i < n1 + 1 → Oth Z i := fun i hi => kZ.2.2 i (by simp only; omega) (kY.2.2 i hi (Oth.nil i))
   have u4 := (r2 n1 (by omega)).trans u3
   try simp (disch := omega) only [go_sem, jA, jB, jC, jD, jE, jF, jG, jH, jI, jJ, ↓reduceIte, reduceCtorEq, jO, jM, jN, jK, jL, u4]
   have hX4 : SlR 4 tyA ⟨ob4, m4, c4⟩ (wns b.ac) X := hX.move (by simp only; omega) fun i hi _ => r2 i hi
   refine ER.drop (k := plI b.ac p) (ER.of_slr hX4) rfl (by rw [wns_length]; omega) fun E2 hE2 _ => ?_
   try simp (disch := omega) only [go_sem, jA, jB, jC, jD, jE, jF, jG, jH, jI, jJ, ↓reduceIte, reduceCtorEq, jO, jM, jN, jK, jL]
   refine app_er hE2 ?_
   rw [wns_drop]
   have l2 : (wns (b.ac.drop (plI b.ac p))).length = b.ac.length - plI b.ac p := by rw [wns_length, List.length_drop]
   refine app_slrs (M := wns (b.ac.drop (plI b.ac p))) (b := 48) hZ (by rw [l2, List.length_append, l1]; simp; omega) (by rw [l2, List.length_append, l1]; simp; omega) fun W τ hW kW => ?_
   obtain ⟨ob5, m5, c5⟩ := τ
   have s1 : m4 ≤ m5 := kW.1
   have s2 : ∀ i, i < n1 + 1 → ob5 i = ob2 i := fun i hi => (kW.2.1 i (by simp only; omega) (oZ i hi)).trans (r2 i hi)
   have oW : ∀ i, i < n1 + 1 → Oth W i := fun i hi => kW.2.2 i (by simp only; omega) (oZ i hi)
   have u5 := (s2 n1 (by omega)).trans u3
   try simp (disch := omega) only [go_sem, jA, jB, jC, jD, jE, jF, jG, jH, jI, jJ, ↓reduceIte, reduceCtorEq, jO, jM, jN, jK, jL, u5, hW.flat, hW.cells, hW.one]
   refine ⟨by omega, fun i hi => by rw [if_neg (by omega)]; exact (s2 i (by omega)).trans (uu i hi), W, b.ac.take (plI b.ac p), b.ac.drop (plI b.ac p), ⟨p, t, [], 0⟩, .nil, ?_, ?_, .inl ⟨rfl, rfl⟩, rfl, fun i hi => ?_⟩
   ·rw [List.append_assoc] at hW
    refine hW.move (by simp only; omega) fun i hi hh => ?_
    simp only
    rw [upd_ne _ _ _ _ (fun e => hh (oW i (by omega)))]
   ·exact ⟨by rw [List.length_take]; omega, by rw [List.length_take, List.length_drop]; omega, by simp [issL, wAt, jAt, hb], by simp⟩
   ·have : ¬ i < n1 + 1 := fun e => hi (oW i e)
    omega
  ·obtain ⟨h1, h2, h3⟩ := plB_get hb
   have hcl := wnB_cs (hV.wn _ (List.mem_of_getElem? h2))
   refine ⟨by omega, fun i hi => uu i hi, X, b.ac.take (plI b.ac p), b.ac.drop (plI b.ac p + 1), gA b.ac (plI b.ac p), .list 2 (css (gA b.ac (plI b.ac p)).cs), ?_, ?_, .inr (.inl rfl), rfl, fun i hi => ?_⟩
   ·rw [show wns (b.ac.take (plI b.ac p)) ++ AV.agg [.int .i64 (gA b.ac (plI b.ac p)).p, .int .i64 (gA b.ac (plI b.ac p)).t, .list 2 (css (gA b.ac (plI b.ac p)).cs), .int .i64 (gA b.ac (plI b.ac p)).cm] :: wns (b.ac.drop (plI b.ac p + 1)) = wns b.ac from (by
     conv => rhs; rw [← take_mid h2, wns_app]
     rfl)]
    exact hX
   ·exact ⟨by rw [List.length_take]; omega, by rw [List.length_take, List.length_drop]; omega, by simp [issL, wAt, jAt, hb], hcl⟩
   ·exact ⟨hXn i hi, fun e => hi (e ▸ ox1)⟩
 ·rintro fe ⟨ob2, n2, c2⟩ ⟨hn2, hlo, X', pre, post, w, E, hX', hI, hE', hob, hXo⟩
  have hg := fun {x} => hI.get (x := x)
  have hs := fun {x y} => hI.set (x := x) (y := y)
  rcases hX' with ⟨_, h0⟩ | ⟨id, g, rfl, hid, hoX⟩
  ·simp at h0
  simp only at hid hoX hob hlo hn2
  obtain ⟨hid3, hidn⟩ := hXo id fun h => h _ _ _ _ rfl
  have z1 : ¬ 1 = id := by omega
  have z2 : ¬ 2 = id := by omega
  have z3 : ¬ n1 = id := fun e => hidn e.symm
  have v1 := (hlo 1 (by omega)).trans u1
  have v2 := (hlo 2 (by omega)).trans u2
  have hil : plI b.ac p < (wns pre ++ AV.agg [.int .i64 w.p, .int .i64 w.t, E, .int .i64 w.cm] :: wns post).length := by
   rw [List.length_append, List.length_cons, wns_length, wns_length, hI.i]; omega
  try simp (disch := omega) only [go_sem, jA, jB, jC, jD, jE, jF, jG, jH, jI, jJ, ↓reduceIte, reduceCtorEq, jO, jM, jN, jK, jL, hob, hoX, hg, hs, z1, z2, z3, v1, v2]
  refine ⟨by omega, by omega, ?_⟩
  have hH := ok_ref37_has w.cs c (by have := hI.c; omega)
  simp only [csv] at hH
  refine call_lent hH (.cons (hE'.pub (css_pur _) (css_ok _) fun i hi => absurd hi (Nat.not_lt_zero i)) (.cons (.pure rfl) .nil)) rfl ?_
  have hEm : ∀ σ : St, ER 2 σ (css w.cs) E := fun σ => by
   rcases hE' with h | h | ⟨_, _, _, _, _, h, _⟩
   ·exact .inl h
   ·exact .inr (.inl h)
   ·exact absurd h (Nat.not_lt_zero _)
  have hE1 := (hEm ⟨fun _ => none, 0, 0⟩).one
  have hE2 := (hEm ⟨fun _ => none, 0, 0⟩).flat
  have hE3 := (hEm ⟨fun _ => none, 0, 0⟩).cells
  have hk := hsI_le w.cs c
  have hc29 := hI.c
  have hR : issR b p t c = issB b p t c := by rw [issR, if_pos (by rw [hE, g5])]
  have hfin : ∀ (σ : St) (F : AV), σ.ob id = some ⟨g, 4, tyA, false, true, wns pre ++ .agg [.int .i64 w.p, .int .i64 w.t, F, .int .i64 0] :: wns post⟩ → Pub σ F (.list 2 (css (addC w.cs c))) →
    Pub σ (.tuple [.agg [.list 4 (wts b.ps), .list 1 (lls b.pa), .sl id g 4 0 (wns pre ++ AV.agg [.int .i64 w.p, .int .i64 w.t, E, .int .i64 w.cm] :: wns post).length], .int .i64 0]) (issV b p t c) := fun σ F hF hp => by
   rw [issV, hE, g5, hR]
   refine Pub.tu (.cons (Pub.ag (.cons (Pub.e rfl) (.cons (Pub.e rfl) (.cons ?_ .nil)))) (.cons (Pub.e rfl) .nil))
   show Pub σ _ (.list 4 (wns (issL b.ac p t c)))
   rw [hI.r, wns_app]
   refine .sl hF rfl rfl (by simp) (by simp [wns]) (fun i x y hx hy => ?_) (by rw [← wns_app]; exact wns_ok _)
   rw [List.drop_zero, List.take_of_length_le (by simp [wns])] at hx
   simp only at hx
   by_cases hi : i < (wns pre).length
   ·rw [List.getElem?_append_left hi] at hx hy
    rw [hx] at hy
    obtain rfl := Option.some.inj hy
    exact Pub.e (wns_pur _ _ (List.mem_of_getElem? hx))
   ·rw [List.getElem?_append_right (by omega)] at hx hy
    cases e : i - (wns pre).length with
    | zero =>
     rw [e] at hx hy
     obtain rfl := Option.some.inj hx
     obtain rfl := Option.some.inj hy
     exact Pub.ag (.cons (Pub.e rfl) (.cons (Pub.e rfl) (.cons hp (.cons (Pub.e rfl) .nil))))
    | succ n =>
     rw [e, List.getElem?_cons_succ] at hx
     rw [e] at hy
     simp only [wns, List.map_cons, List.getElem?_cons_succ] at hx hy
     rw [hx] at hy
     obtain rfl := Option.some.inj hy
     exact Pub.e (wns_pur _ _ (List.mem_of_getElem? hx))
  cases hb : hsB w.cs c <;> try simp (disch := omega) only [go_sem, jA, jB, jC, jD, jE, jF, jG, jH, jI, jJ, ↓reduceIte, reduceCtorEq, jO, jM, jN, jK, jL, hob, hoX, hg, hs, z1, z2, z3, v1, v2, hE3]
  ·refine ER.take (k := hsI w.cs c) (hEm _) rfl (by rw [css_length]; omega) fun F1 hF1 _ => ?_
   try simp (disch := omega) only [go_sem, jA, jB, jC, jD, jE, jF, jG, jH, jI, jJ, ↓reduceIte, reduceCtorEq, jO, jM, jN, jK, jL]
   refine app_er hF1 ?_
   rw [css_take]
   have l1 : (css (w.cs.take (hsI w.cs c))).length = hsI w.cs c := by rw [css_length, List.length_take]; omega
   refine app_slrs (M := css (w.cs.take (hsI w.cs c))) (b := 16) SlR.nil (by rw [l1]; simp; omega) (by rw [l1]; simp; omega) fun Y τ hY kY => ?_
   obtain ⟨ob3, m3, c3⟩ := τ
   simp only [List.nil_append] at hY
   have q1 : n2 ≤ m3 := kY.1
   have q2 : ∀ i, i < n2 → ob3 i = upd ob2 id (some ⟨g, 4, tyA, false, true, wns pre ++ .agg [.int .i64 w.p, .int .i64 w.t, E, .int .i64 0] :: wns post⟩) i := fun i hi => kY.2.1 i hi (Oth.nil i)
   have oE : E.oid = [] := by rcases hE' with ⟨rfl, _⟩ | rfl | ⟨_, _, _, _, _, h, _⟩ <;> first | rfl | exact absurd h (Nat.not_lt_zero _)
   refine ⟨fun x hx => ?_, ?_⟩
   ·simp only [oE, tagR, List.map_nil, List.mem_cons, List.not_mem_nil, or_false] at hx
    rcases hx with rfl | rfl
    ·exact .inr (q2 1 (by omega))
    ·exact .inl (by simp)
   try simp (disch := omega) only [go_sem, jA, jB, jC, jD, jE, jF, jG, jH, jI, jJ, ↓reduceIte, reduceCtorEq, jO, jM, jN, jK, jL]
   refine app_slr (b := 16) hY (by rw [l1]; omega) (by rw [l1]; omega) fun Z τ hZ kZ => ?_
   obtain ⟨ob4, m4, c4⟩ := τ
   have r1 : m3 ≤ m4 := kZ.1
   have r2 : ∀ i, i < n2 → ob4 i = ob3 i := fun i hi => kZ.2.1 i (by simp only; omega) (kY.2.2 i hi (Oth.nil i))
   refine ⟨fun x hx => ?_, ?_⟩
   ·simp only [oE, tagR, List.map_nil, List.mem_cons, List.not_mem_nil, or_false] at hx
    rcases hx with rfl | rfl <;> exact .inl (by simp)
   have w0 : ob4 id = some ⟨g, 4, tyA, false, true, wns pre ++ .agg [.int .i64 w.p, .int .i64 w.t, E, .int .i64 0] :: wns post⟩ := by
    rw [r2 id hid, q2 id hid, upd_same]
   have wr : ∀ i, i < n2 → ¬ i = id → ob4 i = ob2 i := fun i hi hne => by rw [r2 i hi, q2 i hi, upd_ne _ _ _ _ hne]
   try simp (disch := omega) only [go_sem, jA, jB, jC, jD, jE, jF, jG, jH, jI, jJ, ↓reduceIte, reduceCtorEq, jO, jM, jN, jK, jL, w0, hg, hE3]
   refine ER.drop (k := hsI w.cs c) (hEm _) rfl (by rw [css_length]; omega) fun F2 hF2 _ => ?_
   try simp (disch := omega) only [go_sem, jA, jB, jC, jD, jE, jF, jG, jH, jI, jJ, ↓reduceIte, reduceCtorEq, jO, jM, jN, jK, jL]
   refine app_er hF2 ?_
   rw [css_drop]
   have l2 : (css (w.cs.drop (hsI w.cs c))).length = w.cs.length - hsI w.cs c := by rw [css_length, List.length_drop]
   refine app_slrs (M := css (w.cs.drop (hsI w.cs c))) (b := 16) hZ (by rw [l2, List.length_append, l1]; simp; omega) (by rw [l2, List.length_append, l1]; simp; omega) fun W τ hW kW => ?_
   obtain ⟨ob5, m5, c5⟩ := τ
   have oZ : ∀ i, i < n2 → Oth Z i := fun i hi => kZ.2.2 i (by simp only; omega) (kY.2.2 i hi (Oth.nil i))
   have s1 : m4 ≤ m5 := kW.1
   have s2 : ∀ i, i < n2 → ob5 i = ob4 i := fun i hi => kW.2.1 i (by simp only; omega) (oZ i hi)
   have oW : ∀ i, i < n2 → Oth W i := fun i hi => kW.2.2 i (by simp only; omega) (oZ i hi)
   have x0 := (s2 id hid).trans w0
   have x1 := (s2 n1 hn2).trans ((wr n1 hn2 z3).trans hob)
   have x2 := (s2 2 (by omega)).trans ((wr 2 (by omega) z2).trans v2)
   try simp (disch := omega) only [go_sem, jA, jB, jC, jD, jE, jF, jG, jH, jI, jJ, ↓reduceIte, reduceCtorEq, jO, jM, jN, jK, jL, x0, x1, x2, z2, z3, hg, hs, hW.flat, hW.cells, hW.one]
   refine hfin _ W ?_ ?_
   ·simp only
    rw [upd_ne _ _ _ _ (fun e => z2 e.symm), upd_same]
   ·have hcc : css (addC w.cs c) = css (w.cs.take (hsI w.cs c)) ++ [.agg [.int .i64 c.k, .int .i64 c.s]] ++ css (w.cs.drop (hsI w.cs c)) := by
     rw [addC, if_neg (by simp [hb])]
     simp [css, csv]
    rw [← hcc] at hW
    refine hW.pub (fun i hi hh => ?_) (css_pur _) (css_ok _)
    have : ¬ i < n2 := fun e => hh (oW i e)
    simp only
    rw [upd_ne _ _ _ _ (by omega), upd_ne _ _ _ _ (by omega)]
  ·refine hfin _ E ?_ (by rw [addC, if_pos hb]; exact ER.pub' (hEm _) (css_pur _) (css_ok _))
   simp only
   rw [upd_ne _ _ _ _ (fun e => z2 e.symm), upd_same]
theorem tr_ob {ob : Nat → Option AObj} {n c i : Nat} (h : i < n) : ((⟨ob, n, c⟩ : St).trunc n).ob i = ob i := by simp only [St.trunc, if_pos h]
theorem SlR.tr {es : Nat} {ty : TypeId} {ob : Nat → Option AObj} {n c : Nat} {L : List AV} {X : AV} (h : SlR es ty ⟨ob, n, c⟩ L X) : SlR es ty ((⟨ob, n, c⟩ : St).trunc n) L X :=
 h.move (by simp only [St.trunc]; omega) fun i hi _ => by simp only at hi; simp only [St.trunc, if_pos hi]
theorem pub_mid {σ : St} {id g n : Nat} {ro ap : Bool} {ty : TypeId} {pre post : List Wn} {w : Wn} {F : AV} (hF : σ.ob id = some ⟨g, 4, ty, ro, ap, wns pre ++ .agg [.int .i64 w.p, .int .i64 w.t, F, .int .i64 w.cm] :: wns post⟩)
  (hn : n = pre.length + 1 + post.length) (hp : Pub σ F (.list 2 (css w.cs))) : Pub σ (.sl id g 4 0 n) (.list 4 (wns (pre ++ w :: post))) := by
 subst hn
 rw [wns_app]
 refine .sl hF rfl rfl (by simp [wns]; omega) (by simp [wns]; omega) (fun i x y hx hy => ?_) (by rw [← wns_app]; exact wns_ok _)
 rw [List.drop_zero, List.take_of_length_le (by simp [wns]; omega)] at hx
 simp only at hx
 by_cases hi : i < (wns pre).length
 ·rw [List.getElem?_append_left hi] at hx hy
  rw [hx] at hy
  obtain rfl := Option.some.inj hy
  exact Pub.e (wns_pur _ _ (List.mem_of_getElem? hx))
 ·rw [List.getElem?_append_right (by omega)] at hx hy
  cases e : i - (wns pre).length with
  | zero =>
   rw [e] at hx hy
   obtain rfl := Option.some.inj hx
   obtain rfl := Option.some.inj hy
   exact Pub.ag (.cons (Pub.e rfl) (.cons (Pub.e rfl) (.cons hp (.cons (Pub.e rfl) .nil))))
  | succ n =>
   rw [e, List.getElem?_cons_succ] at hx
   rw [e] at hy
   simp only [wns, List.map_cons, List.getElem?_cons_succ] at hx hy
   rw [hx] at hy
   obtain rfl := Option.some.inj hy
   exact Pub.e (wns_pur _ _ (List.mem_of_getElem? hx))
def inK (ks : List Cs) (c : Cs) : Bool := ks.any fun x => decide (x = c)
def putC (l : List Wn) (i : Nat) (cs : List Cs) : List Wn := l.take i ++ ⟨(gA l i).p, (gA l i).t, cs, (gA l i).cm⟩ :: l.drop (i + 1)
def keepL (l : List Wn) (p : Int) (ks : List Cs) : List Wn := if plB l p then putC l (plI l p) ((gA l (plI l p)).cs.filter (inK ks)) else l
def keepE (b : Bo) (p : Int) : Int := if vdB b = false then 50 else if p < 0 ∨ b.ps.length ≤ p then 52 else 0
def keepB (b : Bo) (p : Int) (ks : List Cs) : Bo := ⟨b.ps, b.pa, keepL b.ac p ks⟩
def keepR (b : Bo) (p : Int) (ks : List Cs) : Bo := if keepE b p = 0 then keepB b p ks else boZ
def keepV (b : Bo) (p : Int) (ks : List Cs) : AV := .tuple [bov (keepR b p ks), .int .i64 (keepE b p)]
theorem keep_bad {b : Bo} {p n : Int} {ks : List Cs} (h : keepE b p = n) (hn : n ≠ 0) {σ : St} : Pub σ (.tuple [.agg [.nil, .nil, .nil], .int .i64 n]) (keepV b p ks) := by
 rw [keepV, h, keepR, if_neg (by rw [h]; exact hn)]
 exact Pub.tu (.cons pub_boZ (.cons (Pub.e rfl) .nil))
theorem any_snoc {α : Type} {q : α → Bool} {l : List α} {k : Nat} {x : α} (h : l[k]? = some x) : (l.take (k + 1)).any q = ((l.take k).any q || q x) := by
 rw [List.take_add_one, h]; simp
theorem filter_snoc {α : Type} {q : α → Bool} {l : List α} {k : Nat} {x : α} (h : l[k]? = some x) : (l.take (k + 1)).filter q = (l.take k).filter q ++ (if q x then [x] else []) := by
 rw [List.take_add_one, h, List.filter_append]; simp [List.filter_cons]
theorem ok_ref37_Keep (b : Bo) (p : Int) (ks : List Cs) (h : BoL b) (hk : ks.length ≤ 9223372036854775807) : PC prog n_ref37_Keep [bov b, .int .i64 p, .list 2 (css ks)] (keepV b p ks) := by
 refine PC_of_body b_ref37_Keep (by simp) ?_
 simp only [c_ref37_Keep, bov]
 try simp (disch := omega) only [go_sem, jA, jB, jC, jD, jE, jF, jG, jH, jI, jJ, ↓reduceIte, reduceCtorEq, jO, jM, jN, jK, jL]
 have hC := ok_ref36_Check b h
 simp only [bov] at hC
 refine call_pc hC (by simp [go_sem, wts_pur, lls_pur, wns_pur]) ?_
 cases hv : vdB b <;> try simp (disch := omega) only [go_sem, jA, jB, jC, jD, jE, jF, jG, jH, jI, jJ, ↓reduceIte, reduceCtorEq, jO, jM, jN, jK, jL, chkE, hv, wts_length]
 ·exact keep_bad (by rw [keepE, if_pos hv]) (by omega)
 have hV := vdB_iff.1 hv
 have hp8 := hV.p
 refine gd_fd rfl (fun g1 => ?_) (fun g1 => ?_) <;> try simp (disch := omega) only [go_sem, jA, jB, jC, jD, jE, jF, jG, jH, jI, jJ, ↓reduceIte, reduceCtorEq, jO, jM, jN, jK, jL, wts_length]
 ·exact keep_bad (by rw [keepE, if_neg (by simp [hv]), if_pos (.inl g1)]) (by omega)
 refine cond_d (fun g2 => ?_) (fun g2 => ?_) <;> try simp (disch := omega) only [go_sem, jA, jB, jC, jD, jE, jF, jG, jH, jI, jJ, ↓reduceIte, reduceCtorEq, jO, jM, jN, jK, jL, wts_length]
 ·exact keep_bad (by rw [keepE, if_neg (by simp [hv]), if_pos (.inr g2)]) (by omega)
 have hE : keepE b p = 0 := by rw [keepE, if_neg (by simp [hv]), if_neg (by omega)]
 have hR : keepR b p ks = keepB b p ks := by rw [keepR, if_pos hE]
 have hcp := fun σ => hV.copy (hcA_ref36_Copy σ b)
 simp only [bov] at hcp
 refine (hcp _).mono ?_
 rintro r ⟨ob1, n1, c1⟩ ⟨X, rfl, hX0, hn1, hXn, ho1⟩
 have u1 := ho1 1 (by simp only; omega)
 try simp (disch := omega) only [go_sem, jA, jB, jC, jD, jE, jF, jG, jH, jI, jJ, ↓reduceIte, reduceCtorEq, jO, jM, jN, jK, jL] at u1
 try simp (disch := omega) only [go_sem, jA, jB, jC, jD, jE, jF, jG, jH, jI, jJ, ↓reduceIte, reduceCtorEq, jO, jM, jN, jK, jL] at hn1
 try simp (disch := omega) only [go_sem, jA, jB, jC, jD, jE, jF, jG, jH, jI, jJ, ↓reduceIte, reduceCtorEq, jO, jM, jN, jK, jL] at hXn
 have z1 : ¬ 1 = n1 := by omega
 try simp (disch := omega) only [go_sem, jA, jB, jC, jD, jE, jF, jG, jH, jI, jJ, ↓reduceIte, reduceCtorEq, jO, jM, jN, jK, jL, hX0.flat, hX0.cells, hX0.one]
 have hag : ∀ i, i < n1 → upd (upd ob1 n1 (some (⟨c1, 3, 31, false, true, [.agg [.nil, .nil, .nil]]⟩ : AObj))) n1 (some ⟨c1, 3, 31, false, true, [.agg [.list 4 (wts b.ps), .list 1 (lls b.pa), X]]⟩) i = ob1 i := fun i hi => by
  rw [upd_ne _ _ _ _ (by omega), upd_ne _ _ _ _ (by omega)]
 have hX : SlR 4 tyA ⟨upd (upd ob1 n1 (some (⟨c1, 3, 31, false, true, [.agg [.nil, .nil, .nil]]⟩ : AObj))) n1 (some ⟨c1, 3, 31, false, true, [.agg [.list 4 (wts b.ps), .list 1 (lls b.pa), X]]⟩), n1 + 1, c1 + 1⟩ (wns b.ac) X := hX0.move (by simp only; omega) fun i hi _ => hag i hi
 generalize hob : upd (upd ob1 n1 (some (⟨c1, 3, 31, false, true, [.agg [.nil, .nil, .nil]]⟩ : AObj))) n1 (some ⟨c1, 3, 31, false, true, [.agg [.list 4 (wts b.ps), .list 1 (lls b.pa), X]]⟩) = ob2 at hX
 have u3 : ob2 n1 = some ⟨c1, 3, 31, false, true, [.agg [.list 4 (wts b.ps), .list 1 (lls b.pa), X]]⟩ := by rw [← hob, upd_same]
 have u1 : ob2 1 = some ⟨1, 3, 31, false, true, [.agg [.nil, .nil, .nil]]⟩ := by rw [← hob, hag 1 (by omega), u1]
 have hP := ok_ref37_place b p h
 simp only [bov] at hP
 refine call_lent hP (.cons (Pub.ag (.cons (Pub.e rfl) (.cons (Pub.e rfl) (.cons (hX.pub (fun _ _ _ => rfl) (wns_pur _) (wns_ok _)) .nil)))) (.cons (.pure rfl) .nil)) rfl ?_
 have ha8 := hV.a1
 cases hb : plB b.ac p <;> try simp (disch := omega) only [go_sem, jA, jB, jC, jD, jE, jF, jG, jH, jI, jJ, ↓reduceIte, reduceCtorEq, jO, jM, jN, jK, jL]
 ·try simp (disch := omega) only [go_sem, jA, jB, jC, jD, jE, jF, jG, jH, jI, jJ, ↓reduceIte, reduceCtorEq, jO, jM, jN, jK, jL, u1, u3, z1, hX.one]
  rw [keepV, hE, hR, keepB, keepL, hb, if_neg (by simp)]
  refine Pub.tu (.cons (Pub.ag (.cons (Pub.e rfl) (.cons (Pub.e rfl) (.cons (hX.pub (fun i _ hh => ?_) (wns_pur _) (wns_ok _)) .nil)))) (.cons (Pub.e rfl) .nil))
  have := hXn i hh
  simp only
  rw [upd_ne _ _ _ _ (by omega)]
 obtain ⟨h1, h2, h3⟩ := plB_get hb
 have hcl := wnB_cs (hV.wn _ (List.mem_of_getElem? h2))
 rcases hX with ⟨_, h0⟩ | ⟨id, g, rfl, hid, hoX⟩
 ·have : b.ac.length = 0 := by rw [← wns_length, h0]; rfl
  omega
 have hid3 := hXn id fun h => h _ _ _ _ rfl
 simp only at hid hoX
 have hXl := hX0.lt (i := id) fun h => h _ _ _ _ rfl
 simp only at hXl
 have z2 : ¬ 1 = id := by omega
 have z3 : ¬ n1 = id := by omega
 have z4 : ¬ id = n1 := by omega
 try simp (disch := omega) only [go_sem, jA, jB, jC, jD, jE, jF, jG, jH, jI, jJ, ↓reduceIte, reduceCtorEq, jO, jM, jN, jK, jL, hoX, u3, z4, wns_length, wns_get, h2, Option.map_some, wnv]
 have hwl := wns_length b.ac
 have hgi : (wns b.ac)[plI b.ac p]? = some (wnv (gA b.ac (plI b.ac p))) := by rw [wns_get, h2]; rfl
 have hmid : wns b.ac = wns (b.ac.take (plI b.ac p)) ++ wnv (gA b.ac (plI b.ac p)) :: wns (b.ac.drop (plI b.ac p + 1)) := by
  conv => lhs; rw [← take_mid h2, wns_app]
  rfl
 have hset : ∀ y : AV, (wns b.ac).set (plI b.ac p) y = wns (b.ac.take (plI b.ac p)) ++ y :: wns (b.ac.drop (plI b.ac p + 1)) := fun y => by
  have e1 : (wns (b.ac.take (plI b.ac p))).length = plI b.ac p := by rw [wns_length, List.length_take]; omega
  rw [hmid, List.set_append_right _ _ (by omega), e1]; simp
 have hKL : keepL b.ac p ks = putC b.ac (plI b.ac p) ((gA b.ac (plI b.ac p)).cs.filter (inK ks)) := by rw [keepL, if_pos hb]
 rw [putC] at hKL
 generalize gA b.ac (plI b.ac p) = x at *
 have hil : plI b.ac p < b.ac.length := h1
 refine ⟨by omega, by omega, ?_⟩
 try simp (disch := omega) only [go_sem, jA, jB, jC, jD, jE, jF, jG, jH, jI, jJ, ↓reduceIte, reduceCtorEq, jO, jM, jN, jK, jL, css_length]
 refine awp_upG [11, 13, 14, 16, 49, 50, 51, 52, 53, 54, 55, 56, 57, 58, 59, 60, 61, 62, 63, 64, 65, 66, 67, 68, 69, 70, 71] (by kernel_rfl) x.cs.length (fun k e σ => e 49 = .int .i64 k ∧ n1 + 1 ≤ σ.n ∧ (∀ i, i < n1 + 1 → σ.ob i = ob2 i) ∧ ∃ L, At e 11 L ∧ SlR 2 tyC σ (css ((x.cs.take k).filter (inK ks))) L ∧ (∀ i, ¬ Oth L i → n1 + 1 ≤ i)) ?_ ?_
 ·exact ⟨(by first | rfl | (simp (disch := omega) only [go_sem, jA, jB, jC, jD, jE, jF, jG, jH, jI, jJ, ↓reduceIte, reduceCtorEq, jP, jO, jM, jN]; try rfl)), Nat.le_refl _, fun i _ => rfl, .nil, (by simp only [At]; try simp (disch := omega) only [go_sem, jA, jB, jC, jD, jE, jF, jG, jH, jI, jJ, ↓reduceIte, reduceCtorEq, jO, jM, jN, jK, jL]), SlR.nil, fun i hi => absurd (Oth.nil i) hi⟩
 rintro k fe ob m c hk hm ⟨h49, hm1, ho, L, hL11, hL, hLn⟩
 simp (maxSteps := 1000000) only [go_sem, jA, jB, jC, jD, jE, jF, jG, jH, jI, jJ, ↓reduceIte, reduceCtorEq, jP, At] at h49 hm hm1 ho hL11
 try simp (disch := omega) only [go_sem, jA, jB, jC, jD, jE, jF, jG, jH, jI, jJ, ↓reduceIte, reduceCtorEq, jO, jM, jN, jK, jL, h49, css_length]
 refine cond_d (fun hlt => ?_) (fun hge => ?_)
 ·have hkl : k < x.cs.length := by omega
  have hk2 : x.cs[k]? = some x.cs[k] := List.getElem?_eq_getElem hkl
  have hfs := filter_snoc (q := inK ks) hk2
  generalize x.cs[k] = y at *
  try simp (disch := omega) only [go_sem, jA, jB, jC, jD, jE, jF, jG, jH, jI, jJ, ↓reduceIte, reduceCtorEq, jO, jM, jN, jK, jL, h49, css_length, css_get, hk2, Option.map_some, csv]
  refine ⟨by omega, by omega, ?_⟩
  refine awp_upG [14, 16, 55, 56, 57, 58, 59, 60, 61, 62, 63, 64, 65] (by kernel_rfl) ks.length (fun j e σ => e 55 = .int .i64 j ∧ m + 1 ≤ σ.n ∧ (∀ i, i < m → σ.ob i = ob i) ∧ σ.ob m = some ⟨c, 2, tyC, false, true, [csv y]⟩ ∧ e 14 = .bool ((ks.take j).any fun z => decide (z = y))) ?_ ?_
  ·refine ⟨(by first | rfl | (simp (disch := omega) only [go_sem, jA, jB, jC, jD, jE, jF, jG, jH, jI, jJ, ↓reduceIte, reduceCtorEq, jP, jO, jM, jN]; try rfl)), Nat.le_refl _, fun i hi => ?_, ?_, (by first | rfl | (simp (disch := omega) only [go_sem, jA, jB, jC, jD, jE, jF, jG, jH, jI, jJ, ↓reduceIte, reduceCtorEq, jP, jO, jM, jN]; try rfl))⟩
   ·simp only; rw [upd_ne _ _ _ _ (by omega), upd_ne _ _ _ _ (by omega)]
   ·exact upd_same _ _ _
  rintro j fe2 ob3 m3 c3 hj hm3 ⟨h55, hm4, ho3, hy3, h14⟩
  simp (maxSteps := 1000000) only [go_sem, jA, jB, jC, jD, jE, jF, jG, jH, jI, jJ, ↓reduceIte, reduceCtorEq, jP, csv] at h55 hm3 hm4 ho3 hy3 h14
  try simp (disch := omega) only [go_sem, jA, jB, jC, jD, jE, jF, jG, jH, jI, jJ, ↓reduceIte, reduceCtorEq, jO, jM, jN, jK, jL, h55, css_length]
  refine cond_d (fun hlt2 => ?_) (fun hge2 => ?_)
  ·have hjl : j < ks.length := by omega
   have hj2 : ks[j]? = some ks[j] := List.getElem?_eq_getElem hjl
   have has := any_snoc (q := fun z => decide (z = y)) hj2
   generalize ks[j] = z at *
   have zm : ¬ m = m3 := by omega
   try simp (disch := omega) only [go_sem, jA, jB, jC, jD, jE, jF, jG, jH, jI, jJ, ↓reduceIte, reduceCtorEq, jO, jM, jN, jK, jL, h55, css_length, css_get, hj2, Option.map_some, csv, h14]
   refine ⟨by omega, by omega, ?_⟩
   refine gd_f rfl (fun hf => ?_) (fun hf => ?_) <;> try simp (disch := omega) only [go_sem, jA, jB, jC, jD, jE, jF, jG, jH, jI, jJ, ↓reduceIte, reduceCtorEq, jO, jM, jN, jK, jL, zm, hy3]
   ·exact up_nextG (m3 + 1) hjl (by omega) ⟨(by first | rfl | (simp (disch := omega) only [go_sem, jA, jB, jC, jD, jE, jF, jG, jH, jI, jJ, ↓reduceIte, reduceCtorEq, jP, jO, jM, jN]; try rfl)), by simp only [St.trunc]; omega, fun i hi => by simp only [St.trunc, if_pos (show i < m3 + 1 by omega)]; rw [upd_ne _ _ _ _ (by omega), upd_ne _ _ _ _ (by omega), ho3 i hi], by try simp (disch := omega) only [go_sem, jA, jB, jC, jD, jE, jF, jG, jH, jI, jJ, ↓reduceIte, reduceCtorEq, jO, jM, jN, jK, jL, zm, csv]; exact hy3, by try simp (disch := omega) only [go_sem, jA, jB, jC, jD, jE, jF, jG, jH, jI, jJ, ↓reduceIte, reduceCtorEq, jO, jM, jN, jK, jL]; rw [has, hf]; rfl⟩
   ·refine up_nextG (m3 + 1) hjl (by omega) ⟨(by first | rfl | (simp (disch := omega) only [go_sem, jA, jB, jC, jD, jE, jF, jG, jH, jI, jJ, ↓reduceIte, reduceCtorEq, jP, jO, jM, jN]; try rfl)), by simp only [St.trunc]; omega, fun i hi => by simp only [St.trunc, if_pos (show i < m3 + 1 by omega)]; rw [upd_ne _ _ _ _ (by omega), upd_ne _ _ _ _ (by omega), ho3 i hi], by try simp (disch := omega) only [go_sem, jA, jB, jC, jD, jE, jF, jG, jH, jI, jJ, ↓reduceIte, reduceCtorEq, jO, jM, jN, jK, jL, zm, csv]; exact hy3, ?_⟩
    try simp (disch := omega) only [go_sem, jA, jB, jC, jD, jE, jF, jG, jH, jI, jJ, ↓reduceIte, reduceCtorEq, jO, jM, jN, jK, jL]
    rw [has, hf, Bool.false_or]
    congr 1
    rw [Bool.eq_iff_iff]
    simp [cs_eq]
  ·obtain rfl : j = ks.length := by omega
   rw [List.take_length] at h14
   have h14' : fe2 14 = .bool (inK ks y) := h14
   have oL : ∀ i, ¬ Oth L i → n1 + 1 ≤ i ∧ i < m := fun i hi => ⟨hLn i hi, hL.lt hi⟩
   have hL3 : SlR 2 tyC ⟨ob3, m3, c3⟩ (css ((x.cs.take k).filter (inK ks))) L := hL.move (by simp only; omega) fun i hi _ => ho3 i hi
   cases hf : inK ks y <;> try simp (disch := omega) only [go_sem, jA, jB, jC, jD, jE, jF, jG, jH, jI, jJ, ↓reduceIte, reduceCtorEq, jO, jM, jN, jK, jL, h14', hf, hy3, hL11]
   ·refine up_nextG m3 hkl (by omega) ⟨(by first | rfl | (simp (disch := omega) only [go_sem, jA, jB, jC, jD, jE, jF, jG, jH, jI, jJ, ↓reduceIte, reduceCtorEq, jP, jO, jM, jN]; try rfl)), by simp only [St.trunc]; omega, fun i hi => by rw [tr_ob (by omega), ho3 i (by omega), ho i hi], L, (by simp only [At]; try simp (disch := omega) only [go_sem, jA, jB, jC, jD, jE, jF, jG, jH, jI, jJ, ↓reduceIte, reduceCtorEq, jO, jM, jN, jK, jL, hL11]), ?_, hLn⟩
    rw [hfs, hf, if_neg (by simp), List.append_nil]
    exact hL3.tr
   ·have hll : (css ((x.cs.take k).filter (inK ks))).length ≤ k := by rw [css_length]; exact Nat.le_trans (List.length_filter_le _ _) (by simp; omega)
    refine app_slr (b := 16) hL3 (by omega) (by omega) fun Z τ hZ kZ => ?_
    obtain ⟨ob4, m4, c4⟩ := τ
    have r1 : m3 ≤ m4 := kZ.1
    have oLl : ∀ i, i < n1 + 1 → Oth L i := fun i hi => Oth.em fun hh => by have := hLn i hh; omega
    try simp (disch := omega) only [go_sem, jA, jB, jC, jD, jE, jF, jG, jH, jI, jJ, ↓reduceIte, reduceCtorEq, jO, jM, jN, jK, jL]
    refine up_nextG m4 hkl (by omega) ⟨(by first | rfl | (simp (disch := omega) only [go_sem, jA, jB, jC, jD, jE, jF, jG, jH, jI, jJ, ↓reduceIte, reduceCtorEq, jP, jO, jM, jN]; try rfl)), by simp only [St.trunc]; omega, fun i hi => by rw [tr_ob (by omega), show ob4 i = ob3 i from kZ.2.1 i (by simp only; omega) (oLl i hi), ho3 i (by omega), ho i hi], Z, (by simp only [At]; try simp (disch := omega) only [go_sem, jA, jB, jC, jD, jE, jF, jG, jH, jI, jJ, ↓reduceIte, reduceCtorEq, jO, jM, jN, jK, jL]), ?_, fun i hi => Nat.le_of_not_lt fun hh => hi (kZ.2.2 i (by simp only; omega) (oLl i hh))⟩
    rw [hfs, hf, if_pos rfl, css_app]
    exact hZ.tr
 ·obtain rfl : k = x.cs.length := by omega
  rw [List.take_length] at hL
  have v1 := (ho 1 (by omega)).trans u1
  have v3 := (ho n1 (by omega)).trans u3
  have vX := (ho id hid).trans hoX
  try simp (disch := omega) only [go_sem, jA, jB, jC, jD, jE, jF, jG, jH, jI, jJ, ↓reduceIte, reduceCtorEq, jO, jM, jN, jK, jL, v3, vX, hgi, hset, hL11, wnv, z2, z3, z4, v1, wns_length, hL.flat, hL.cells, hL.one]
  refine ⟨by omega, by omega, ?_⟩
  rw [keepV, hE, hR]
  refine Pub.tu (.cons (Pub.ag (.cons (Pub.e rfl) (.cons (Pub.e rfl) (.cons ?_ .nil)))) (.cons (Pub.e rfl) .nil))
  show Pub _ _ (.list 4 (wns (keepL b.ac p ks)))
  rw [hKL]
  refine pub_mid (g := g) (ty := tyA) (ro := false) (ap := true) (w := ⟨x.p, x.t, x.cs.filter (inK ks), x.cm⟩) (F := L) ?_ (by rw [List.length_take, List.length_drop]; omega) (hL.pub (fun i hi hh => ?_) (css_pur _) (css_ok _))
  ·simp only
   rw [upd_ne _ _ _ _ (fun e => z2 e.symm), upd_same]
  ·have := hLn i hh
   simp only
   rw [upd_ne _ _ _ _ (by omega), upd_ne _ _ _ _ (by omega)]
def bls (l : List Bool) : List AV := l.map .bool
theorem bls_length (l : List Bool) : (bls l).length = l.length := by simp [bls]
theorem bls_get (l : List Bool) (i : Nat) : (bls l)[i]? = (l[i]?).map .bool := by simp [bls]
theorem bls_pur (l : List Bool) : ∀ x ∈ bls l, x.pur = true := fun x hx => by obtain ⟨b, _, rfl⟩ := List.mem_map.1 hx; rfl
theorem bls_ok (l : List Bool) : ∀ x ∈ bls l, okE 1 x := fun x hx => by obtain ⟨b, _, rfl⟩ := List.mem_map.1 hx; exact ⟨rfl, rfl⟩
def calmS (q : List Bool) (w : Wn) : Int := if w.cs ≠ [] ∨ q.getD w.p.toNat false = false then 0 else w.cm + 1
def goneS (q : List Bool) (h : Int) (w : Wn) : Bool := decide (w.cs = []) && q.getD w.p.toNat false && decide (h ≤ w.cm + 1)
def tickL (l : List Wn) (q : List Bool) (h : Int) : List Wn := (l.filter fun w => !goneS q h w).map fun w => ⟨w.p, w.t, w.cs, calmS q w⟩
def goneL (l : List Wn) (q : List Bool) (h : Int) : List Int := (l.filter (goneS q h)).map Wn.p
def tickE (b : Bo) (q : List Bool) (h : Int) : Int := if vdB b = false then 50 else if q.length ≠ b.ps.length then 3 else if h < 1 ∨ 96 < h then 1 else 0
def tickB (b : Bo) (q : List Bool) (h : Int) : Bo := ⟨b.ps, b.pa, tickL b.ac q h⟩
def tickR (b : Bo) (q : List Bool) (h : Int) : Bo × List Int := if tickE b q h = 0 then (tickB b q h, goneL b.ac q h) else (boZ, [])
def tickV (b : Bo) (q : List Bool) (h : Int) : AV := .tuple [bov (tickR b q h).1, .list 1 (ints (tickR b q h).2), .int .i64 (tickE b q h)]
theorem tick_bad {b : Bo} {q : List Bool} {h n : Int} (e : tickE b q h = n) (hn : n ≠ 0) {σ : St} : Pub σ (.tuple [.agg [.nil, .nil, .nil], .nil, .int .i64 n]) (tickV b q h) := by
 rw [tickV, e, tickR, if_neg (by rw [e]; exact hn)]
 exact Pub.tu (.cons pub_boZ (.cons (.nl 1) (.cons (Pub.e rfl) .nil)))
theorem tickL_snoc {l : List Wn} {q : List Bool} {h : Int} {k : Nat} {w : Wn} (e : l[k]? = some w) : tickL (l.take (k + 1)) q h = tickL (l.take k) q h ++ (if goneS q h w then [] else [⟨w.p, w.t, w.cs, calmS q w⟩]) := by
 rw [tickL, filter_snoc e, List.map_append, tickL]; cases goneS q h w <;> simp
theorem goneL_snoc {l : List Wn} {q : List Bool} {h : Int} {k : Nat} {w : Wn} (e : l[k]? = some w) : goneL (l.take (k + 1)) q h = goneL (l.take k) q h ++ (if goneS q h w then [w.p] else []) := by
 rw [goneL, filter_snoc e, List.map_append, goneL]; cases goneS q h w <;> simp
theorem tickL_len (l : List Wn) (q : List Bool) (h : Int) : (tickL l q h).length ≤ l.length := by
 rw [tickL, List.length_map]; exact List.length_filter_le _ _
theorem goneL_len (l : List Wn) (q : List Bool) (h : Int) : (goneL l q h).length ≤ l.length := by
 rw [goneL, List.length_map]; exact List.length_filter_le _ _
theorem ok_ref37_Tick (b : Bo) (q : List Bool) (hd : Int) (h : BoL b) (hq : q.length ≤ 9223372036854775807) : PC prog n_ref37_Tick [bov b, .list 1 (bls q), .int .i64 hd] (tickV b q hd) := by
 refine PC_of_body b_ref37_Tick (by simp) ?_
 simp only [c_ref37_Tick, bov]
 try simp (disch := omega) only [go_sem, jA, jB, jC, jD, jE, jF, jG, jH, jI, jJ, ↓reduceIte, reduceCtorEq, jO, jM, jN, jK, jL]
 have hC := ok_ref36_Check b h
 simp only [bov] at hC
 refine call_pc hC (by simp [go_sem, wts_pur, lls_pur, wns_pur]) ?_
 cases hv : vdB b <;> try simp (disch := omega) only [go_sem, jA, jB, jC, jD, jE, jF, jG, jH, jI, jJ, ↓reduceIte, reduceCtorEq, jO, jM, jN, jK, jL, chkE, hv, wts_length, bls_length]
 ·exact tick_bad (by rw [tickE, if_pos hv]) (by omega)
 have hV := vdB_iff.1 hv
 have hp8 := hV.p
 refine cond_n (fun g1 => ?_) (fun g1 => ?_) <;> try simp (disch := omega) only [go_sem, jA, jB, jC, jD, jE, jF, jG, jH, jI, jJ, ↓reduceIte, reduceCtorEq, jO, jM, jN, jK, jL, wts_length, bls_length]
 ·exact tick_bad (by rw [tickE, if_neg (by simp [hv]), if_pos (by omega)]) (by omega)
 refine gd_fd rfl (fun g2 => ?_) (fun g2 => ?_) <;> try simp (disch := omega) only [go_sem, jA, jB, jC, jD, jE, jF, jG, jH, jI, jJ, ↓reduceIte, reduceCtorEq, jO, jM, jN, jK, jL, wts_length]
 ·exact tick_bad (by rw [tickE, if_neg (by simp [hv]), if_neg (by omega), if_pos (.inl g2)]) (by omega)
 refine cond_d (fun g3 => ?_) (fun g3 => ?_) <;> try simp (disch := omega) only [go_sem, jA, jB, jC, jD, jE, jF, jG, jH, jI, jJ, ↓reduceIte, reduceCtorEq, jO, jM, jN, jK, jL, wts_length]
 ·exact tick_bad (by rw [tickE, if_neg (by simp [hv]), if_neg (by omega), if_pos (.inr g3)]) (by omega)
 have hE : tickE b q hd = 0 := by rw [tickE, if_neg (by simp [hv]), if_neg (by omega), if_neg (by omega)]
 have hcp := hV.copy (ok_ref36_Copy b)
 simp only [bov] at hcp
 refine call_pc hcp (by simp [go_sem, wts_pur, lls_pur, wns_pur]) ?_
 try simp (disch := omega) only [go_sem, jA, jB, jC, jD, jE, jF, jG, jH, jI, jJ, ↓reduceIte, reduceCtorEq, jO, jM, jN, jK, jL]
 refine call_pc hcp (by simp [go_sem, wts_pur, lls_pur, wns_pur]) ?_
 have ha8 := hV.a1
 try simp (disch := omega) only [go_sem, jA, jB, jC, jD, jE, jF, jG, jH, jI, jJ, ↓reduceIte, reduceCtorEq, jO, jM, jN, jK, jL, wns_length]
 refine awp_upG [10, 12, 38, 39, 40, 41, 42, 43, 44, 45, 46, 47, 48, 49, 50, 51, 52, 53, 54, 55, 56, 57, 58, 59, 60, 61, 62, 63, 64, 65, 66, 67, 68, 69, 70, 71, 72, 73, 74, 75] (by kernel_rfl) b.ac.length (fun k e σ => e 38 = .int .i64 k ∧ 3 ≤ σ.n ∧ σ.ob 1 = some ⟨1, 3, 31, false, true, [.agg [.nil, .nil, .nil]]⟩ ∧
  ∃ A G, At e 10 G ∧ σ.ob 2 = some ⟨2, 3, 31, false, true, [.agg [.list 4 (wts b.ps), .list 1 (lls b.pa), A]]⟩ ∧ SlR 4 tyA σ (wns (tickL (b.ac.take k) q hd)) A ∧ SlR 1 3 σ (ints (goneL (b.ac.take k) q hd)) G ∧ (∀ i, ¬ Oth A i → 3 ≤ i ∧ Oth G i) ∧ (∀ i, ¬ Oth G i → 3 ≤ i)) ?_ ?_
 ·exact ⟨(by first | rfl | (simp (disch := omega) only [go_sem, jA, jB, jC, jD, jE, jF, jG, jH, jI, jJ, ↓reduceIte, reduceCtorEq, jP, jO, jM, jN]; try rfl)), Nat.le_refl _, (by first | rfl | (simp (disch := omega) only [go_sem, jA, jB, jC, jD, jE, jF, jG, jH, jI, jJ, ↓reduceIte, reduceCtorEq, jP, jO, jM, jN]; try rfl)), .nil, .nil, (by simp only [At]; try simp (disch := omega) only [go_sem, jA, jB, jC, jD, jE, jF, jG, jH, jI, jJ, ↓reduceIte, reduceCtorEq, jO, jM, jN, jK, jL]), (by first | rfl | (simp (disch := omega) only [go_sem, jA, jB, jC, jD, jE, jF, jG, jH, jI, jJ, ↓reduceIte, reduceCtorEq, jP, jO, jM, jN]; try rfl)), SlR.nil, SlR.nil, fun i hi => absurd (Oth.nil i) hi, fun i hi => absurd (Oth.nil i) hi⟩
 rintro k fe ob m c hk hm ⟨h38, hm1, ho1, A, G, h10, ho2, hA, hG, hAn, hGn⟩
 simp (maxSteps := 1000000) only [go_sem, jA, jB, jC, jD, jE, jF, jG, jH, jI, jJ, ↓reduceIte, reduceCtorEq, jP, At] at h38 hm hm1 ho1 ho2 h10
 have lt1 := tickL_len (b.ac.take k) q hd
 have lg1 := goneL_len (b.ac.take k) q hd
 rw [List.length_take] at lt1 lg1
 try simp (disch := omega) only [go_sem, jA, jB, jC, jD, jE, jF, jG, jH, jI, jJ, ↓reduceIte, reduceCtorEq, jO, jM, jN, jK, jL, h38, wns_length]
 refine cond_d (fun hlt => ?_) (fun hge => ?_)
 ·have hkl : k < b.ac.length := by omega
  have hk2 : b.ac[k]? = some b.ac[k] := List.getElem?_eq_getElem hkl
  have hts := tickL_snoc (q := q) (h := hd) hk2
  have hgs := goneL_snoc (q := q) (h := hd) hk2
  have hpl := hV.lo _ (List.mem_of_getElem? hk2)
  have hwb := wnB_bd (hV.wn _ (List.mem_of_getElem? hk2))
  have hcl := wnB_cs (hV.wn _ (List.mem_of_getElem? hk2))
  generalize b.ac[k] = w at *
  have z1 : ¬ 1 = m := by omega
  have z2 : ¬ 2 = m := by omega
  have hqk : q[w.p.toNat]? = some (q.getD w.p.toNat false) := by
   have : w.p.toNat < q.length := by omega
   simp [List.getD_eq_getElem?_getD, List.getElem?_eq_getElem this]
  have oG : ∀ i, i < 3 → Oth G i := fun i hi => Oth.em fun h => by have := hGn i h; omega
  have oA : ∀ i, i < 3 → Oth A i := fun i hi => Oth.em fun h => by have := (hAn i h).1; omega
  have hcz : (0 < (w.cs.length : Int)) ↔ w.cs ≠ [] := by rw [← List.length_pos_iff]; omega
  try simp (disch := omega) only [go_sem, jA, jB, jC, jD, jE, jF, jG, jH, jI, jJ, ↓reduceIte, reduceCtorEq, jO, jM, jN, jK, jL, h38, wns_length, wns_get, hk2, Option.map_some, wnv, z1, z2, css_length]
  refine ⟨by omega, by omega, ?_⟩
  refine gd_fd rfl (fun g4 => ?_) (fun g4 => ?_)
  ·have hcs := hcz.1 g4
   have hcv : calmS q w = 0 := by rw [calmS, if_pos (.inl hcs)]
   have hng : goneS q hd w = false := by simp [goneS, hcs]
   try simp (disch := omega) only [go_sem, jA, jB, jC, jD, jE, jF, jG, jH, jI, jJ, ↓reduceIte, reduceCtorEq, jO, jM, jN, jK, jL, z1, z2]
   try simp (disch := omega) only [go_sem, jA, jB, jC, jD, jE, jF, jG, jH, jI, jJ, ↓reduceIte, reduceCtorEq, jO, jM, jN, jK, jL, ho2, z2, z1]
   have hfr : ∀ (ob' : Nat → Option AObj) (i : Nat), i < m → upd (upd (upd ob m (some ⟨c, 4, tyA, false, true, [.agg [.int .i64 0, .int .i64 0, .nil, .int .i64 0]]⟩)) m (some ⟨c, 4, tyA, false, true, [.agg [.int .i64 w.p, .int .i64 w.t, .list 2 (css w.cs), .int .i64 w.cm]]⟩)) m (some ⟨c, 4, tyA, false, true, [.agg [.int .i64 w.p, .int .i64 w.t, .list 2 (css w.cs), .int .i64 (0)]]⟩) i = ob i := fun _ i hi => by
    rw [upd_ne _ _ _ _ (by omega), upd_ne _ _ _ _ (by omega), upd_ne _ _ _ _ (by omega)]
   refine app_slr (L := wns (tickL (b.ac.take k) q hd)) (b := 48) (hA.move (by simp only; omega) fun i hi _ => hfr ob i hi) (by rw [wns_length]; omega) (by rw [wns_length]; omega) fun A' τ hA' kA => ?_
   obtain ⟨ob4, m4, c4⟩ := τ
   have q1 : m + 1 ≤ m4 := kA.1
   have q2 : ∀ i, i < m → Oth A i → ob4 i = ob i := fun i hi hh => (kA.2.1 i (by simp only; omega) hh).trans (hfr ob i hi)
   have v2 := (q2 2 (by omega) (oA 2 (by omega))).trans ho2
   have v1 := (q2 1 (by omega) (oA 1 (by omega))).trans ho1
   have hA3 : ∀ i, ¬ Oth A' i → 3 ≤ i ∧ Oth G i := fun i hi => by
    by_cases him : i < m
    ·exact hAn i fun hh => hi (kA.2.2 i (by simp only; omega) hh)
    ·exact ⟨by omega, hG.oth (by simp only; omega)⟩
   try simp (disch := omega) only [go_sem, jA, jB, jC, jD, jE, jF, jG, jH, jI, jJ, ↓reduceIte, reduceCtorEq, jO, jM, jN, jK, jL, v2, z1, z2, hA'.flat, hA'.cells, hA'.one]
   refine up_nextG m4 hkl (by omega) ⟨(by first | rfl | (simp (disch := omega) only [go_sem, jA, jB, jC, jD, jE, jF, jG, jH, jI, jJ, ↓reduceIte, reduceCtorEq, jP, jO, jM, jN]; try rfl)), by simp only [St.trunc]; omega, ?_, A', G, (by simp only [At]; try simp (disch := omega) only [go_sem, jA, jB, jC, jD, jE, jF, jG, jH, jI, jJ, ↓reduceIte, reduceCtorEq, jO, jM, jN, jK, jL, h10]), ?_, ?_, ?_, hA3, hGn⟩
   ·rw [tr_ob (by omega), upd_ne _ _ _ _ (by omega), v1]
   ·rw [tr_ob (by omega), upd_same]
   ·rw [hts, hng, if_neg (by simp), ← wns_snoc, wnv, hcv]
    refine SlR.tr (ob := _) (n := m4) (c := c4) (hA'.move (by simp only; omega) fun i hi hh => ?_)
    have := (hA3 i hh).1
    simp only
    rw [upd_ne _ _ _ _ (by omega)]
   ·rw [hgs, hng, if_neg (by simp), List.append_nil]
    refine (SlR.tr (ob := _) (n := m4) (c := c4) (hG.move (by simp only; omega) fun i hi hh => ?_))
    have h3 := hGn i hh
    simp only at hi ⊢
    rw [upd_ne _ _ _ _ (by omega), q2 i hi (Oth.em fun h => hh (hAn i h).2)]
  ·have hcs : w.cs = [] := Classical.byContradiction fun h => g4 (hcz.2 h)
   try simp (disch := omega) only [go_sem, jA, jB, jC, jD, jE, jF, jG, jH, jI, jJ, ↓reduceIte, reduceCtorEq, jO, jM, jN, jK, jL, z1, z2, bls_length, bls_get, hqk, Option.map_some]
   refine ⟨by omega, by omega, ?_⟩
   cases hqq : q.getD w.p.toNat false
   ·have hcv : calmS q w = 0 := by rw [calmS, if_pos (.inr hqq)]
    have hng : goneS q hd w = false := by rw [goneS, hqq]; simp
    try simp (disch := omega) only [go_sem, jA, jB, jC, jD, jE, jF, jG, jH, jI, jJ, ↓reduceIte, reduceCtorEq, jO, jM, jN, jK, jL, z1, z2]
    try simp (disch := omega) only [go_sem, jA, jB, jC, jD, jE, jF, jG, jH, jI, jJ, ↓reduceIte, reduceCtorEq, jO, jM, jN, jK, jL, ho2, z2, z1]
    have hfr : ∀ (ob' : Nat → Option AObj) (i : Nat), i < m → upd (upd (upd ob m (some ⟨c, 4, tyA, false, true, [.agg [.int .i64 0, .int .i64 0, .nil, .int .i64 0]]⟩)) m (some ⟨c, 4, tyA, false, true, [.agg [.int .i64 w.p, .int .i64 w.t, .list 2 (css w.cs), .int .i64 w.cm]]⟩)) m (some ⟨c, 4, tyA, false, true, [.agg [.int .i64 w.p, .int .i64 w.t, .list 2 (css w.cs), .int .i64 (0)]]⟩) i = ob i := fun _ i hi => by
     rw [upd_ne _ _ _ _ (by omega), upd_ne _ _ _ _ (by omega), upd_ne _ _ _ _ (by omega)]
    refine app_slr (L := wns (tickL (b.ac.take k) q hd)) (b := 48) (hA.move (by simp only; omega) fun i hi _ => hfr ob i hi) (by rw [wns_length]; omega) (by rw [wns_length]; omega) fun A' τ hA' kA => ?_
    obtain ⟨ob4, m4, c4⟩ := τ
    have q1 : m + 1 ≤ m4 := kA.1
    have q2 : ∀ i, i < m → Oth A i → ob4 i = ob i := fun i hi hh => (kA.2.1 i (by simp only; omega) hh).trans (hfr ob i hi)
    have v2 := (q2 2 (by omega) (oA 2 (by omega))).trans ho2
    have v1 := (q2 1 (by omega) (oA 1 (by omega))).trans ho1
    have hA3 : ∀ i, ¬ Oth A' i → 3 ≤ i ∧ Oth G i := fun i hi => by
     by_cases him : i < m
     ·exact hAn i fun hh => hi (kA.2.2 i (by simp only; omega) hh)
     ·exact ⟨by omega, hG.oth (by simp only; omega)⟩
    try simp (disch := omega) only [go_sem, jA, jB, jC, jD, jE, jF, jG, jH, jI, jJ, ↓reduceIte, reduceCtorEq, jO, jM, jN, jK, jL, v2, z1, z2, hA'.flat, hA'.cells, hA'.one]
    refine up_nextG m4 hkl (by omega) ⟨(by first | rfl | (simp (disch := omega) only [go_sem, jA, jB, jC, jD, jE, jF, jG, jH, jI, jJ, ↓reduceIte, reduceCtorEq, jP, jO, jM, jN]; try rfl)), by simp only [St.trunc]; omega, ?_, A', G, (by simp only [At]; try simp (disch := omega) only [go_sem, jA, jB, jC, jD, jE, jF, jG, jH, jI, jJ, ↓reduceIte, reduceCtorEq, jO, jM, jN, jK, jL, h10]), ?_, ?_, ?_, hA3, hGn⟩
    ·rw [tr_ob (by omega), upd_ne _ _ _ _ (by omega), v1]
    ·rw [tr_ob (by omega), upd_same]
    ·rw [hts, hng, if_neg (by simp), ← wns_snoc, wnv, hcv]
     refine SlR.tr (ob := _) (n := m4) (c := c4) (hA'.move (by simp only; omega) fun i hi hh => ?_)
     have := (hA3 i hh).1
     simp only
     rw [upd_ne _ _ _ _ (by omega)]
    ·rw [hgs, hng, if_neg (by simp), List.append_nil]
     refine (SlR.tr (ob := _) (n := m4) (c := c4) (hG.move (by simp only; omega) fun i hi hh => ?_))
     have h3 := hGn i hh
     simp only at hi ⊢
     rw [upd_ne _ _ _ _ (by omega), q2 i hi (Oth.em fun h => hh (hAn i h).2)]
   ·have hcv : calmS q w = w.cm + 1 := by rw [calmS, if_neg (by rw [hqq]; simp [hcs])]
    try simp (disch := omega) only [go_sem, jA, jB, jC, jD, jE, jF, jG, jH, jI, jJ, ↓reduceIte, reduceCtorEq, jO, jM, jN, jK, jL, z1, z2]
    refine cond_d (fun g5 => ?_) (fun g5 => ?_)
    ·have hng : goneS q hd w = true := by rw [goneS, hqq]; simp [hcs]; omega
     try simp (disch := omega) only [go_sem, jA, jB, jC, jD, jE, jF, jG, jH, jI, jJ, ↓reduceIte, reduceCtorEq, jO, jM, jN, jK, jL, h10, z1, z2]
     have hfr : ∀ (i : Nat), i < m → upd (upd (upd ob m (some ⟨c, 4, tyA, false, true, [.agg [.int .i64 0, .int .i64 0, .nil, .int .i64 0]]⟩)) m (some ⟨c, 4, tyA, false, true, [.agg [.int .i64 w.p, .int .i64 w.t, .list 2 (css w.cs), .int .i64 w.cm]]⟩)) m (some ⟨c, 4, tyA, false, true, [.agg [.int .i64 w.p, .int .i64 w.t, .list 2 (css w.cs), .int .i64 (w.cm + 1)]]⟩) i = ob i := fun i hi => by
      rw [upd_ne _ _ _ _ (by omega), upd_ne _ _ _ _ (by omega), upd_ne _ _ _ _ (by omega)]
     refine app_slr (L := ints (goneL (b.ac.take k) q hd)) (b := 8) (hG.move (by simp only; omega) fun i hi _ => hfr i hi) (by rw [ints_length]; omega) (by rw [ints_length]; omega) fun G' τ hG' kG => ?_
     obtain ⟨ob4, m4, c4⟩ := τ
     have q1 : m + 1 ≤ m4 := kG.1
     have q2 : ∀ i, i < m → Oth G i → ob4 i = ob i := fun i hi hh => (kG.2.1 i (by simp only; omega) hh).trans (hfr i hi)
     have v2 := (q2 2 (by omega) (oG 2 (by omega))).trans ho2
     have v1 := (q2 1 (by omega) (oG 1 (by omega))).trans ho1
     try simp (disch := omega) only [go_sem, jA, jB, jC, jD, jE, jF, jG, jH, jI, jJ, ↓reduceIte, reduceCtorEq, jO, jM, jN, jK, jL]
     refine up_nextG m4 hkl (by omega) ⟨(by first | rfl | (simp (disch := omega) only [go_sem, jA, jB, jC, jD, jE, jF, jG, jH, jI, jJ, ↓reduceIte, reduceCtorEq, jP, jO, jM, jN]; try rfl)), by simp only [St.trunc]; omega, ?_, A, G', (by simp only [At]; try simp (disch := omega) only [go_sem, jA, jB, jC, jD, jE, jF, jG, jH, jI, jJ, ↓reduceIte, reduceCtorEq, jO, jM, jN, jK, jL]), ?_, ?_, ?_, fun i hi => ⟨(hAn i hi).1, kG.2.2 i (by simp only; have := hA.lt hi; simp only at this; omega) (hAn i hi).2⟩, fun i hi => Nat.le_of_not_lt fun hh => hi (kG.2.2 i (by simp only; omega) (oG i hh))⟩
     ·rw [tr_ob (by omega), v1]
     ·rw [tr_ob (by omega), v2]
     ·rw [hts, hng, if_pos rfl, List.append_nil]
      refine SlR.tr (ob := _) (n := m4) (c := c4) (hA.move (by simp only; omega) fun i hi hh => ?_)
      exact q2 i hi (hAn i hh).2
     ·rw [hgs, hng, if_pos rfl, ← ints_append]
      exact SlR.tr hG'
    ·have hng : goneS q hd w = false := by rw [goneS, hqq]; simp; omega
     try simp (disch := omega) only [go_sem, jA, jB, jC, jD, jE, jF, jG, jH, jI, jJ, ↓reduceIte, reduceCtorEq, jO, jM, jN, jK, jL, z1, z2]
     try simp (disch := omega) only [go_sem, jA, jB, jC, jD, jE, jF, jG, jH, jI, jJ, ↓reduceIte, reduceCtorEq, jO, jM, jN, jK, jL, ho2, z2, z1]
     have hfr : ∀ (ob' : Nat → Option AObj) (i : Nat), i < m → upd (upd (upd ob m (some ⟨c, 4, tyA, false, true, [.agg [.int .i64 0, .int .i64 0, .nil, .int .i64 0]]⟩)) m (some ⟨c, 4, tyA, false, true, [.agg [.int .i64 w.p, .int .i64 w.t, .list 2 (css w.cs), .int .i64 w.cm]]⟩)) m (some ⟨c, 4, tyA, false, true, [.agg [.int .i64 w.p, .int .i64 w.t, .list 2 (css w.cs), .int .i64 (w.cm + 1)]]⟩) i = ob i := fun _ i hi => by
      rw [upd_ne _ _ _ _ (by omega), upd_ne _ _ _ _ (by omega), upd_ne _ _ _ _ (by omega)]
     refine app_slr (L := wns (tickL (b.ac.take k) q hd)) (b := 48) (hA.move (by simp only; omega) fun i hi _ => hfr ob i hi) (by rw [wns_length]; omega) (by rw [wns_length]; omega) fun A' τ hA' kA => ?_
     obtain ⟨ob4, m4, c4⟩ := τ
     have q1 : m + 1 ≤ m4 := kA.1
     have q2 : ∀ i, i < m → Oth A i → ob4 i = ob i := fun i hi hh => (kA.2.1 i (by simp only; omega) hh).trans (hfr ob i hi)
     have v2 := (q2 2 (by omega) (oA 2 (by omega))).trans ho2
     have v1 := (q2 1 (by omega) (oA 1 (by omega))).trans ho1
     have hA3 : ∀ i, ¬ Oth A' i → 3 ≤ i ∧ Oth G i := fun i hi => by
      by_cases him : i < m
      ·exact hAn i fun hh => hi (kA.2.2 i (by simp only; omega) hh)
      ·exact ⟨by omega, hG.oth (by simp only; omega)⟩
     try simp (disch := omega) only [go_sem, jA, jB, jC, jD, jE, jF, jG, jH, jI, jJ, ↓reduceIte, reduceCtorEq, jO, jM, jN, jK, jL, v2, z1, z2, hA'.flat, hA'.cells, hA'.one]
     refine up_nextG m4 hkl (by omega) ⟨(by first | rfl | (simp (disch := omega) only [go_sem, jA, jB, jC, jD, jE, jF, jG, jH, jI, jJ, ↓reduceIte, reduceCtorEq, jP, jO, jM, jN]; try rfl)), by simp only [St.trunc]; omega, ?_, A', G, (by simp only [At]; try simp (disch := omega) only [go_sem, jA, jB, jC, jD, jE, jF, jG, jH, jI, jJ, ↓reduceIte, reduceCtorEq, jO, jM, jN, jK, jL, h10]), ?_, ?_, ?_, hA3, hGn⟩
     ·rw [tr_ob (by omega), upd_ne _ _ _ _ (by omega), v1]
     ·rw [tr_ob (by omega), upd_same]
     ·rw [hts, hng, if_neg (by simp), ← wns_snoc, wnv, hcv]
      refine SlR.tr (ob := _) (n := m4) (c := c4) (hA'.move (by simp only; omega) fun i hi hh => ?_)
      have := (hA3 i hh).1
      simp only
      rw [upd_ne _ _ _ _ (by omega)]
     ·rw [hgs, hng, if_neg (by simp), List.append_nil]
      refine (SlR.tr (ob := _) (n := m4) (c := c4) (hG.move (by simp only; omega) fun i hi hh => ?_))
      have h3 := hGn i hh
      simp only at hi ⊢
      rw [upd_ne _ _ _ _ (by omega), q2 i hi (Oth.em fun h => hh (hAn i h).2)]
 ·obtain rfl : k = b.ac.length := by omega
  rw [List.take_length] at hA hG
  try simp (disch := omega) only [go_sem, jA, jB, jC, jD, jE, jF, jG, jH, jI, jJ, ↓reduceIte, reduceCtorEq, jO, jM, jN, jK, jL, ho1, ho2, h10, hA.one, hG.one]
  rw [tickV, hE, tickR, if_pos hE]
  refine Pub.tu (.cons (Pub.ag (.cons (Pub.e rfl) (.cons (Pub.e rfl) (.cons (hA.pub (fun i hi hh => ?_) (wns_pur _) (wns_ok _)) .nil)))) (.cons (hG.pub (fun i _ hh => ?_) (ints_pur _) (ints_ok _)) (.cons (Pub.e rfl) .nil)))
  ·have := (hAn i hh).1
   simp only
   rw [upd_ne _ _ _ _ (by omega)]
  ·have := hGn i hh
   simp only
   rw [upd_ne _ _ _ _ (by omega)]
theorem chB_iff {α : Type} {R : α → α → Bool} {P : α → Prop} {L : α → α → Prop} (hR : ∀ a b, R a b = true ↔ L a b ∧ P b) (ht : ∀ a b c, L a b → L b c → L a c) :
  ∀ (l : List α) (s : α), chB R s l = true ↔ (∀ x ∈ l, L s x ∧ P x) ∧ l.Pairwise L
 | [], s => by simp [chB]
 | o :: r, s => by
  rw [chB, Bool.and_eq_true, hR, chB_iff hR ht r o, List.pairwise_cons]
  constructor
  ·rintro ⟨⟨h1, h2⟩, h3, h4⟩
   refine ⟨fun x hx => ?_, fun x hx => (h3 x hx).1, h4⟩
   rcases List.mem_cons.1 hx with rfl | hx
   ·exact ⟨h1, h2⟩
   ·exact ⟨ht _ _ _ h1 (h3 x hx).1, (h3 x hx).2⟩
  ·rintro ⟨h1, h2, h3⟩
   exact ⟨h1 o (List.mem_cons_self ..), fun x hx => ⟨h2 x hx, (h1 x (List.mem_cons_of_mem _ hx)).2⟩, h3⟩
theorem csL_iff {a b : Cs} : csL a b = true ↔ a.k < b.k ∨ (a.k = b.k ∧ a.s < b.s) := by simp [csL]
theorem csL_tr (a b c : Cs) (h : csL a b = true) (k : csL b c = true) : csL a c = true := by rw [csL_iff] at *; omega
theorem csL_tot {a b : Cs} (h : csL a b = false) (hn : a ≠ b) : csL b a = true := by
 rw [← Bool.not_eq_true, csL_iff] at h
 rw [csL_iff]
 rw [ne_eq, cs_eq] at hn
 omega
theorem cau_iff {l : List Cs} : cauB l = true ↔ (∀ c ∈ l, csB c = true) ∧ l.Pairwise fun a b => csL a b = true := by
 rw [cauB, chB_iff (P := fun c => csB c = true) (L := fun a b => csL a b = true) (fun a b => by rw [csR, Bool.and_eq_true, And.comm]) csL_tr]
 constructor
 ·rintro ⟨h1, h2⟩
  exact ⟨fun c hc => (h1 c hc).2, h2⟩
 ·rintro ⟨h1, h2⟩
  refine ⟨fun c hc => ⟨?_, h1 c hc⟩, h2⟩
  have := h1 c hc
  simp only [csB, inW, Bool.and_eq_true, decide_eq_true_eq] at this
  rw [csL_iff]
  simp only
  omega
theorem ac_iff {n : Nat} {l : List Wn} : chB (wnR n) wn0 l = true ↔ (∀ w ∈ l, 0 ≤ w.p ∧ w.p < (n : Int) ∧ wnB w = true) ∧ l.Pairwise fun a b => a.p < b.p := by
 rw [chB_iff (P := fun w => w.p < (n : Int) ∧ wnB w = true) (L := fun a b => a.p < b.p) (fun a b => by simp [wnR, and_assoc]) fun a b c h k => by omega]
 constructor
 ·rintro ⟨h1, h2⟩
  exact ⟨fun w hw => by have := h1 w hw; simp only [wn0] at this; exact ⟨by omega, this.2⟩, h2⟩
 ·rintro ⟨h1, h2⟩
  exact ⟨fun w hw => by have := h1 w hw; simp only [wn0]; exact ⟨by omega, this.2⟩, h2⟩
theorem idx_lt {α : Type} {q : α → Bool} {l : List α} : ∀ a ∈ l.take (l.findIdx q), q a = false := fun a ha => by
 obtain ⟨i, hi⟩ := List.getElem?_of_mem ha
 have h1 := (List.getElem?_eq_some_iff.1 hi).1
 rw [List.length_take] at h1
 rw [List.getElem?_take, if_pos (by omega)] at hi
 obtain ⟨h2, rfl⟩ := List.getElem?_eq_some_iff.1 hi
 simpa using List.not_of_lt_findIdx (p := q) (xs := l) (i := i) (by omega)
theorem pw_get {α : Type} {L : α → α → Prop} {l : List α} (h : l.Pairwise L) {i j : Nat} {x y : α} (hx : l[i]? = some x) (hy : l[j]? = some y) (hij : i < j) : L x y := by
 obtain ⟨hi, rfl⟩ := List.getElem?_eq_some_iff.1 hx
 obtain ⟨hj, rfl⟩ := List.getElem?_eq_some_iff.1 hy
 exact List.pairwise_iff_getElem.1 h i j hi hj hij
theorem idx_ge {α : Type} {q : α → Bool} {L : α → α → Prop} {l : List α} (h : l.Pairwise L) : ∀ b ∈ l.drop (l.findIdx q), ∃ y, l[l.findIdx q]? = some y ∧ q y = true ∧ (b = y ∨ L y b) := fun b hb => by
 obtain ⟨i, hi⟩ := List.getElem?_of_mem hb
 rw [List.getElem?_drop] at hi
 have h1 := (List.getElem?_eq_some_iff.1 hi).1
 have h2 : l.findIdx q < l.length := by omega
 have h3 : l[l.findIdx q]? = some l[l.findIdx q] := List.getElem?_eq_getElem h2
 refine ⟨_, h3, List.findIdx_getElem, ?_⟩
 cases i with
 | zero => rw [Nat.add_zero, h3] at hi; exact .inl (Option.some.inj hi).symm
 | succ i => exact .inr (pw_get h h3 hi (by omega))
theorem idx_gt {α : Type} {k : Nat} {L : α → α → Prop} {l : List α} {y : α} (h : l.Pairwise L) (hy : l[k]? = some y) : ∀ b ∈ l.drop (k + 1), L y b := fun b hb => by
 obtain ⟨i, hi⟩ := List.getElem?_of_mem hb
 rw [List.getElem?_drop] at hi
 exact pw_get h hy hi (by omega)
theorem pw_ins {α : Type} {L : α → α → Prop} {l : List α} {i j : Nat} {x : α} (h : l.Pairwise L) (hij : i ≤ j) (h1 : ∀ a ∈ l.take i, L a x) (h2 : ∀ b ∈ l.drop j, L x b) : (l.take i ++ x :: l.drop j).Pairwise L := by
 rw [List.pairwise_append, List.pairwise_cons]
 refine ⟨h.sublist (List.take_sublist ..), ⟨h2, h.sublist (List.drop_sublist ..)⟩, fun a ha b hb => ?_⟩
 rcases List.mem_cons.1 hb with rfl | hb
 ·exact h1 a ha
 ·have h3 : (l.take i ++ l.drop j).Pairwise L := by
   refine h.sublist ?_
   conv => rhs; rw [← List.take_append_drop i l]
   refine List.Sublist.append (List.Sublist.refl _) ?_
   rw [show j = i + (j - i) by omega, ← List.drop_drop]
   exact List.drop_sublist ..
  exact (List.pairwise_append.1 h3).2.2 a ha b hb
theorem addC_ok {l : List Cs} {c : Cs} (h : cauB l = true) (hc : csB c = true) : cauB (addC l c) = true := by
 rw [addC]
 cases hb : hsB l c
 ·rw [if_neg (by simp)]
  rw [cau_iff] at h ⊢
  refine ⟨fun x hx => ?_, pw_ins h.2 (Nat.le_refl _) (fun a ha => ?_) fun b hbm => ?_⟩
  ·rcases List.mem_append.1 hx with hx | hx
   ·exact h.1 x (List.mem_of_mem_take hx)
   ·rcases List.mem_cons.1 hx with rfl | hx
    ·exact hc
    ·exact h.1 x (List.mem_of_mem_drop hx)
  ·have := idx_lt a ha; simpa using this
  ·obtain ⟨y, hy, hq, hr⟩ := idx_ge h.2 b hbm
   have hyc : y ≠ c := fun e => by
    rw [hsB, hsI, hy] at hb
    simp [e] at hb
   have h3 : csL c y = true := csL_tot (by simpa using hq) hyc
   rcases hr with rfl | hr
   ·exact h3
   ·exact csL_tr _ _ _ h3 hr
 ·rw [if_pos rfl]; exact h
theorem cauE_csB {c : Cs} : cauE c = 0 ↔ csB c = true := by
 rw [cauE, csB]
 cases inW c.k 1 4 <;> cases inW c.s 0 5 <;> simp
theorem Vb.ac_pw {b : Bo} (h : Vb b) : b.ac.Pairwise fun a b => a.p < b.p := (ac_iff.1 h.c).2
theorem Vb.mk_ac {b : Bo} (h : Vb b) {l : List Wn} (h1 : ∀ w ∈ l, 0 ≤ w.p ∧ w.p < b.ps.length ∧ wnB w = true) (h2 : l.Pairwise fun a b => a.p < b.p) : Vb ⟨b.ps, b.pa, l⟩ :=
 ⟨h.p, h.q, h.w, h.l, ac_iff.2 ⟨h1, h2⟩⟩
theorem plI_ins {l : List Wn} {p : Int} (h : l.Pairwise fun a b => a.p < b.p) : (∀ a ∈ l.take (plI l p), a.p < p) ∧ ∀ b ∈ l.drop (jAt l p), p < b.p := by
 refine ⟨fun a ha => by have := idx_lt a ha; simpa using this, fun b hb => ?_⟩
 rw [jAt] at hb
 cases e : plB l p
 ·rw [e, if_neg (by simp)] at hb
  obtain ⟨y, hy, hq, hr⟩ := idx_ge h b hb
  have hyp : y.p ≠ p := fun e2 => by rw [plB, plI, hy] at e; simp [e2] at e
  have : p ≤ y.p := by simpa using hq
  rcases hr with rfl | hr <;> omega
 ·rw [e, if_pos rfl] at hb
  obtain ⟨h1, h2, h3⟩ := plB_get e
  have := idx_gt h h2 b hb
  omega
theorem wAt_p (l : List Wn) (p t : Int) : (wAt l p t).p = p := by
 rw [wAt]
 cases e : plB l p
 ·rfl
 ·exact (plB_get e).2.2
theorem Vb.iss {b : Bo} {p t : Int} {c : Cs} (h : Vb b) (hp : 0 ≤ p ∧ p < b.ps.length) (ht : 0 ≤ t ∧ t ≤ 16777216) (hc : csB c = true) : Vb (issB b p t c) := by
 have hpw := h.ac_pw
 have hal := (ac_iff.1 h.c).1
 obtain ⟨h1, h2⟩ := plI_ins (p := p) hpw
 refine h.mk_ac (fun w hw => ?_) ?_
 ·rcases List.mem_append.1 hw with hw | hw
  ·exact hal w (List.mem_of_mem_take hw)
  ·rcases List.mem_cons.1 hw with rfl | hw
   ·have hcs : cauB (wAt b.ac p t).cs = true ∧ 0 ≤ (wAt b.ac p t).t ∧ (wAt b.ac p t).t ≤ 16777216 := by
     rw [wAt]
     cases e : plB b.ac p
     ·exact ⟨rfl, ht.1, ht.2⟩
     ·have h5 := wnB_bd (h.wn _ (List.mem_of_getElem? (plB_get e).2.1))
      exact ⟨h5.2.2.2.2.1, h5.1, h5.2.1⟩
    refine ⟨by simp only [wAt_p]; omega, by simp only [wAt_p]; omega, ?_⟩
    simp [wnB, inW, addC_ok hcs.1 hc, hcs.2.1, hcs.2.2]
   ·exact hal w (List.mem_of_mem_drop hw)
 ·refine pw_ins hpw (by rw [jAt]; split <;> omega) (fun a ha => ?_) fun x hx => ?_
  ·simp only [wAt_p]; exact h1 a ha
  ·simp only [wAt_p]; exact h2 x hx
theorem Vb.keep {b : Bo} {p : Int} {ks : List Cs} (h : Vb b) : Vb (keepB b p ks) := by
 have hpw := h.ac_pw
 have hal := (ac_iff.1 h.c).1
 rw [keepB, keepL]
 cases e : plB b.ac p
 ·exact h
 ·obtain ⟨h1, h2, h3⟩ := plB_get e
  have hw := hal _ (List.mem_of_getElem? h2)
  have hb := wnB_bd hw.2.2
  rw [if_pos rfl, putC]
  generalize gA b.ac (plI b.ac p) = x at *
  refine h.mk_ac (fun w hw2 => ?_) ?_
  ·rcases List.mem_append.1 hw2 with hw2 | hw2
   ·exact hal w (List.mem_of_mem_take hw2)
   ·rcases List.mem_cons.1 hw2 with rfl | hw2
    ·refine ⟨hw.1, hw.2.1, ?_⟩
     have h7 : cauB (x.cs.filter (inK ks)) = true := by
      have := cau_iff.1 hb.2.2.2.2.1
      exact cau_iff.2 ⟨fun c hc => this.1 c (List.mem_filter.1 hc).1, this.2.filter _⟩
     simp only [wnB, inW, Bool.and_eq_true, decide_eq_true_eq, Bool.or_eq_true]
     refine ⟨⟨⟨⟨hb.1, hb.2.1⟩, h7⟩, hb.2.2.1, hb.2.2.2.1⟩, ?_⟩
     rcases hb.2.2.2.2.2 with h8 | h8
     ·left; rw [h8]; rfl
     ·exact .inr h8
    ·exact hal w (List.mem_of_mem_drop hw2)
  ·refine pw_ins hpw (by omega) (fun a ha => ?_) fun y hy => ?_
   ·have h8 := take_mid h2
    rw [← h8] at hpw
    exact (List.pairwise_append.1 hpw).2.2 a ha x (List.mem_cons_self ..)
   ·exact idx_gt hpw h2 y hy
theorem Vb.tick {b : Bo} {q : List Bool} {hd : Int} (h : Vb b) (hh : 1 ≤ hd ∧ hd ≤ 96) : Vb (tickB b q hd) := by
 have hpw := h.ac_pw
 have hal := (ac_iff.1 h.c).1
 refine h.mk_ac (fun w hw => ?_) ?_
 ·obtain ⟨x, hx, rfl⟩ := List.mem_map.1 hw
  obtain ⟨hx, hg⟩ := List.mem_filter.1 hx
  have hw := hal x hx
  have hb := wnB_bd hw.2.2
  refine ⟨hw.1, hw.2.1, ?_⟩
  simp only [wnB, inW, Bool.and_eq_true, decide_eq_true_eq, Bool.or_eq_true]
  simp only [goneS, Bool.not_eq_true', Bool.and_eq_false_imp, Bool.and_eq_true, decide_eq_true_eq, decide_eq_false_iff_not] at hg
  rw [calmS]
  split
  ·rename_i hc
   exact ⟨⟨⟨⟨hb.1, hb.2.1⟩, hb.2.2.2.2.1⟩, by omega, by omega⟩, .inr rfl⟩
  ·rename_i hc
   have hc1 : x.cs = [] := Classical.byContradiction fun e => hc (.inl e)
   have hc2 : q.getD x.p.toNat false = true := by cases e : q.getD x.p.toNat false; exact absurd (.inr e) hc; rfl
   have := hg ⟨hc1, hc2⟩
   exact ⟨⟨⟨⟨hb.1, hb.2.1⟩, hb.2.2.2.2.1⟩, by omega, by omega⟩, .inl hc1⟩
 ·exact List.pairwise_map.2 (hpw.filter _)
theorem Vb.see {b : Bo} {now : List Int} (h : Vb b) (hn : now.length = b.ps.length) (hf : flsB now = true) : Vb (seeB b now) := by
 refine ⟨h.p, by simp [seeB], h.w, fun i x y hx hy => ?_, h.c⟩
 have hi : i < b.ps.length := (List.getElem?_eq_some_iff.1 hx).1
 have e : gW b i = x := Option.some.inj ((gW_get hi).symm.trans hx)
 have hw := wtB_bd (h.w _ (List.mem_of_getElem? hx))
 simp only [seeB, List.getElem?_map, List.getElem?_range hi, Option.map_some, Option.some.injEq] at hy
 subst hy
 rw [pastI, e, lastW]
 have hl := gL_get (b := b) (i := i) (by rw [h.q]; exact hi)
 refine ⟨by simp only [List.length_drop]; omega, ?_⟩
 have h5 := (h.l i x _ hx hl).2
 have h6 := List.all_eq_true.1 hf _ (List.mem_of_getElem? (gN_get (l := now) (i := i) (by omega)))
 rw [flsB, List.all_eq_true] at h5 ⊢
 intro z hz
 rcases List.mem_append.1 (List.mem_of_mem_drop hz) with hz | hz
 ·exact h5 z hz
 ·rw [List.mem_singleton] at hz; rw [hz]; exact h6
theorem Vb.open {l : List Wt} (h : watE l = 0) : Vb ⟨l, List.replicate l.length [], []⟩ := by
 obtain ⟨h1, h2⟩ := watE_ok.1 h
 refine ⟨h1, by simp, List.all_eq_true.1 h2, fun i x y hx hy => ?_, rfl⟩
 have := wtB_bd (List.all_eq_true.1 h2 _ (List.mem_of_getElem? hx))
 simp only [List.getElem?_replicate] at hy
 split at hy
 ·obtain rfl := Option.some.inj hy
  exact ⟨by simp; omega, rfl⟩
 ·cases hy
def FlwG (σ : St) (id g : Nat) (t : List Int) (n : Nat) (most : Int) (r : AV) (σ' : St) : Prop := ∃ g2 L at2, r = .sl σ.n g2 1 0 L.length ∧ L.length = n ∧ (∀ x ∈ L, 0 ≤ x ∧ x < most) ∧ σ'.n = σ.n + 1 ∧ σ'.ob σ.n = some ⟨g2, 1, 3, false, true, ints L⟩ ∧ σ'.ob id = some ⟨g, 2, ty_Deck, false, true, [deckV t at2]⟩ ∧ ∀ i, i < σ.n → i ≠ id → σ'.ob i = σ.ob i
theorem hcG_mk_Flows (σ : St) (id g : Nat) (l : List Int) (at' : Nat) (n most : Int) (hn : n ≤ 1000000) (h1 : 1 ≤ most) (hm : most ≤ 4611686018427387904) (hl : l.length ≤ 9223372036854775807) (hid : id < σ.n) (hob : σ.ob id = some ⟨g, 2, ty_Deck, false, true, [deckV l at']⟩) :
  HC prog n_mk_Flows [.ptr id g 2 0 0, .int .i64 n, .int .i64 most] σ (FlwG σ id g l n.toNat most) := by
 refine HC_of_body b_mk_Flows (by simp) ?_
 obtain ⟨ob0, n0, c0⟩ := σ
 simp only at hid hob
 have hne : ¬ id = n0 := by omega
 have hne' : ¬ n0 = id := by omega
 simp only [c_mk_Flows, go_sem, jA, jB, jC, jD, jE, jF, jG, jH, jI, jJ, ↓reduceIte, reduceCtorEq, jP]
 refine awp_upF [7, 9, 10, 11, 12, 13, 14, 15, 16, 17] (by kernel_rfl) n.toNat (fun r e σ => ∃ g2 L at2, e 7 = .sl n0 g2 1 0 r ∧ e 9 = .int .i64 r ∧ L.length = r ∧ (∀ x ∈ L, 0 ≤ x ∧ x < most) ∧ σ.ob n0 = some ⟨g2, 1, 3, false, true, ints L⟩ ∧ σ.ob id = some ⟨g, 2, ty_Deck, false, true, [deckV l at2]⟩ ∧ ∀ i, i < n0 → i ≠ id → σ.ob i = ob0 i) ?_ ?_
 ·refine ⟨_, [], at', (by first | rfl | (simp (disch := omega) only [go_sem, jA, jB, jC, jD, jE, jF, jG, jH, jI, jJ, ↓reduceIte, reduceCtorEq, jP, jO, jM, jN]; try rfl)), by simp [go_sem], rfl, by simp, by simp [go_sem, ints], ?_, ?_⟩
  ·simp (maxSteps := 1000000) only [go_sem, jA, jB, jC, jD, jE, jF, jG, jH, jI, jJ, ↓reduceIte, reduceCtorEq, jP, hne]; exact hob
  ·intro i hi hi2
   have : ¬ i = n0 := by omega
   simp (maxSteps := 1000000) only [go_sem, jA, jB, jC, jD, jE, jF, jG, jH, jI, jJ, ↓reduceIte, reduceCtorEq, jP, this]
 ·rintro r fe ob c hr ⟨g2, L, at3, h7, h9, hL, hLb, hon, hoid, holt⟩
  simp (maxSteps := 1000000) only [go_sem, jA, jB, jC, jD, jE, jF, jG, jH, jI, jJ, ↓reduceIte, reduceCtorEq, jP] at h7 h9 hon hoid holt
  simp (maxSteps := 1000000) only [go_sem, jA, jB, jC, jD, jE, jF, jG, jH, jI, jJ, ↓reduceIte, reduceCtorEq, jP, h9]
  refine cond_d (fun hlt => ?_) (fun hge => ?_)
  ·simp (maxSteps := 1000000) only [go_sem, jA, jB, jC, jD, jE, jF, jG, jH, jI, jJ, ↓reduceIte, reduceCtorEq, jP, h7]
   refine call_hc (ok_mk_Deck_Next _ id g ty_Deck true l at3 most (by simp (maxSteps := 1000000) only [go_sem, jA, jB, jC, jD, jE, jF, jG, jH, jI, jJ, ↓reduceIte, reduceCtorEq, jP, hne]; exact hoid) hm hl) ?_
   have hbd := deckR_bd l at3 most
   generalize deckR l at3 most = dr at *
   obtain ⟨a, at4⟩ := dr
   simp only at hbd
   simp (maxSteps := 1000000) (disch := omega) only [go_sem, jA, jB, jC, jD, jE, jF, jG, jH, jI, jJ, ↓reduceIte, reduceCtorEq, jP, jO, h7, h9, hon, hne, hne', upd_upd]
   repeat (refine And.intro (by first | omega | (rw [mxL]; omega) | (simp [maxLen]; done) | (simp [maxLen]; omega)) ?_)
   refine ⟨by simp [ints_length, hL], by simp [maxLen]; omega, by omega, ?_⟩
   try repeat (refine And.intro (by first | omega | (rw [mxL]; omega) | (simp [maxLen]; done) | (simp [maxLen]; omega)) ?_)
   refine up_next (by omega) ⟨_, L ++ [a], at4, (by first | rfl | (simp (disch := omega) only [go_sem, jA, jB, jC, jD, jE, jF, jG, jH, jI, jJ, ↓reduceIte, reduceCtorEq, jP, jO, jM, jN]; try rfl)), (by first | rfl | (simp (disch := omega) only [go_sem, jA, jB, jC, jD, jE, jF, jG, jH, jI, jJ, ↓reduceIte, reduceCtorEq, jP, jO, jM, jN]; try rfl)), by simp [hL], fun x hx => ?_, ?_, ?_, ?_⟩
   ·rcases List.mem_append.1 hx with hx | hx
    ·exact hLb x hx
    ·rw [List.mem_singleton] at hx; subst hx; omega
   ·simp (maxSteps := 1000000) only [go_sem, jA, jB, jC, jD, jE, jF, jG, jH, jI, jJ, ↓reduceIte, reduceCtorEq, jP, hne']
    rw [if_pos (by omega)]
    simp [ints]
   ·simp (maxSteps := 1000000) only [go_sem, jA, jB, jC, jD, jE, jF, jG, jH, jI, jJ, ↓reduceIte, reduceCtorEq, jP, hne]
    rw [if_pos (by omega)]
   ·intro i hi hi2
    have : ¬ i = n0 := by omega
    simp (maxSteps := 1000000) only [go_sem, jA, jB, jC, jD, jE, jF, jG, jH, jI, jJ, ↓reduceIte, reduceCtorEq, jP, hi2, this]
    rw [if_pos (by omega)]
    exact holt i hi hi2
  ·simp (maxSteps := 1000000) only [go_sem, jA, jB, jC, jD, jE, jF, jG, jH, jI, jJ, ↓reduceIte, reduceCtorEq, jP, h7]
   exact ⟨g2, L, at3, by rw [hL], by omega, hLb, rfl, hon, hoid, holt⟩
theorem hcD_mk_Flows (σ : St) (id g : Nat) (l : List Int) (at' : Nat) (n most : Int) (hn : n ≤ 1000000) (h1 : 1 ≤ most) (hm : most ≤ 4611686018427387904) (hl : l.length ≤ 9223372036854775807) (hid : id < σ.n) (hob : σ.ob id = some ⟨g, 2, ty_Deck, false, true, [deckV l at']⟩) :
  HC prog n_mk_Flows [.ptr id g 2 0 0, .int .i64 n, .int .i64 most] σ (DeckR σ id g l fun r => ∃ L, r = .list 1 (ints L) ∧ L.length = n.toNat ∧ ∀ x ∈ L, 0 ≤ x ∧ x < most) := by
 refine HC.deck hid ((hcG_mk_Flows σ id g l at' n most hn h1 hm hl hid hob).mono ?_)
 rintro r τ ⟨g2, L, at2, rfl, hL, hLb, hn2, ho, hd, hf⟩
 exact ⟨.list 1 (ints L), at2, Pub.of_sl (ty := 3) (ro := false) (ap := true) (by simp [ho]) (by simp [ints_length]) (ints_pur _) (ints_ok _), ⟨L, rfl, hL, hLb⟩, hd, hf⟩
theorem hc_flow_Cause (σ : St) (id g : Nat) (t : List Int) (at' : Nat) (hl : t.length ≤ 9223372036854775807) (hid : id < σ.n) (hob : σ.ob id = some ⟨g, 2, ty_Deck, false, true, [deckV t at']⟩) :
  HC prog n_flow_Cause [.ptr id g 2 0 0] σ (DeckR σ id g t fun r => ∃ c, r = csv c ∧ csB c = true) := by
 refine HC.deck hid ?_
 obtain ⟨ob0, n0, c0⟩ := σ
 simp only at hob hid
 refine HC_of_body b_flow_Cause (by simp) ?_
 simp only [c_flow_Cause, go_sem, jA, jB, jC, jD, jE, jF, jG, jH, jI, jJ, ↓reduceIte, reduceCtorEq, jP]
 have h0 : ¬ id = n0 := by omega
 have i0 : ¬ n0 = id := by omega
 refine call_hc (ok_mk_Deck_Next _ id g ty_Deck true t at' 4 (by try simp (disch := omega) only [go_sem, jA, jB, jC, jD, jE, jF, jG, jH, jI, jJ, ↓reduceIte, reduceCtorEq, jO, jM, jN, jK, jL, h0]; exact hob) (by omega) hl) ?_
 have hx := deckR_bd t at' 4
 generalize deckR t at' 4 = dr at *
 obtain ⟨x, at2⟩ := dr
 simp only at hx
 try simp (disch := omega) only [go_sem, jA, jB, jC, jD, jE, jF, jG, jH, jI, jJ, ↓reduceIte, reduceCtorEq, jO, jM, jN, jK, jL, h0, i0]
 refine call_hc (ok_mk_Deck_Next _ id g ty_Deck true t at2 3 (by try simp (disch := omega) only [go_sem, jA, jB, jC, jD, jE, jF, jG, jH, jI, jJ, ↓reduceIte, reduceCtorEq, jO, jM, jN, jK, jL, h0]) (by omega) hl) ?_
 have hy := deckR_bd t at2 3
 generalize deckR t at2 3 = dr at *
 obtain ⟨y, at3⟩ := dr
 simp only at hy
 try simp (disch := omega) only [go_sem, jA, jB, jC, jD, jE, jF, jG, jH, jI, jJ, ↓reduceIte, reduceCtorEq, jO, jM, jN, jK, jL, h0, i0]
 refine ⟨csv ⟨1 + x, y⟩, at3, Pub.e (by simp [csv, go_sem]), ⟨_, rfl, by simp [csB, inW]; omega⟩, by try simp (disch := omega) only [go_sem, jA, jB, jC, jD, jE, jF, jG, jH, jI, jJ, ↓reduceIte, reduceCtorEq, jO, jM, jN, jK, jL, h0], fun i hi hne => ?_⟩
 simp only at hi
 have : ¬ i = n0 := by omega
 try simp (disch := omega) only [go_sem, jA, jB, jC, jD, jE, jF, jG, jH, jI, jJ, ↓reduceIte, reduceCtorEq, jO, jM, jN, jK, jL, hne, this]
theorem hc_flow_Quiet (σ : St) (id g : Nat) (t : List Int) (at' : Nat) (b : Bo) (hb : b.ps.length ≤ 8) (hl : t.length ≤ 9223372036854775807) (hid : id < σ.n) (hob : σ.ob id = some ⟨g, 2, ty_Deck, false, true, [deckV t at']⟩) :
  HC prog n_flow_Quiet [.ptr id g 2 0 0, bov b] σ (DeckR σ id g t fun r => ∃ q, r = .list 1 (bls q) ∧ q.length = b.ps.length) := by
 refine HC.deck hid ?_
 obtain ⟨ob0, n0, c0⟩ := σ
 simp only at hob hid
 refine HC_of_body b_flow_Quiet (by simp) ?_
 simp only [c_flow_Quiet, go_sem, jA, jB, jC, jD, jE, jF, jG, jH, jI, jJ, ↓reduceIte, reduceCtorEq, jP, bov]
 have h0 : ¬ id = n0 := by omega
 have i0 : ¬ n0 = id := by omega
 try simp (disch := omega) only [go_sem, jA, jB, jC, jD, jE, jF, jG, jH, jI, jJ, ↓reduceIte, reduceCtorEq, jO, jM, jN, jK, jL, wts_length]
 refine awp_upG [5, 9, 10, 11, 12, 13, 14, 15, 16, 17] (by kernel_rfl) b.ps.length (fun k e σ => e 9 = .int .i64 k ∧ n0 + 1 ≤ σ.n ∧ (∃ a, σ.ob id = some ⟨g, 2, ty_Deck, false, true, [deckV t a]⟩) ∧ (∀ i, i < n0 → i ≠ id → σ.ob i = ob0 i) ∧ ∃ X q, At e 5 X ∧ q.length = k ∧ SlR 1 4 σ (bls q) X ∧ ∀ i, ¬ Oth X i → n0 + 1 ≤ i) ?_ ?_
 ·refine ⟨(by first | rfl | (simp (disch := omega) only [go_sem, jA, jB, jC, jD, jE, jF, jG, jH, jI, jJ, ↓reduceIte, reduceCtorEq, jP, jO, jM, jN]; try rfl)), Nat.le_refl _, ⟨at', by try simp (disch := omega) only [go_sem, jA, jB, jC, jD, jE, jF, jG, jH, jI, jJ, ↓reduceIte, reduceCtorEq, jO, jM, jN, jK, jL, h0]; exact hob⟩, fun i hi hne => ?_, .nil, [], (by simp only [At]; try simp (disch := omega) only [go_sem, jA, jB, jC, jD, jE, jF, jG, jH, jI, jJ, ↓reduceIte, reduceCtorEq, jO, jM, jN, jK, jL]), rfl, SlR.nil, fun i hi => absurd (Oth.nil i) hi⟩
  have : ¬ i = n0 := by omega
  try simp (disch := omega) only [go_sem, jA, jB, jC, jD, jE, jF, jG, jH, jI, jJ, ↓reduceIte, reduceCtorEq, jO, jM, jN, jK, jL, hne, this]
 rintro k fe ob m c hk hm ⟨h9, hm1, ⟨a, hd⟩, hfr, X, q, h5, hq, hX, hXn⟩
 simp (maxSteps := 1000000) only [go_sem, jA, jB, jC, jD, jE, jF, jG, jH, jI, jJ, ↓reduceIte, reduceCtorEq, jP, At] at h9 hm hm1 hd hfr h5
 try simp (disch := omega) only [go_sem, jA, jB, jC, jD, jE, jF, jG, jH, jI, jJ, ↓reduceIte, reduceCtorEq, jO, jM, jN, jK, jL, h9, wts_length]
 refine cond_d (fun hlt => ?_) (fun hge => ?_)
 ·try simp (disch := omega) only [go_sem, jA, jB, jC, jD, jE, jF, jG, jH, jI, jJ, ↓reduceIte, reduceCtorEq, jO, jM, jN, jK, jL, h5]
  refine call_hc (ok_mk_Deck_Next _ id g ty_Deck true t a 3 hd (by omega) hl) ?_
  generalize deckR t a 3 = dr at *
  obtain ⟨x, a2⟩ := dr
  try simp (disch := omega) only [go_sem, jA, jB, jC, jD, jE, jF, jG, jH, jI, jJ, ↓reduceIte, reduceCtorEq, jO, jM, jN, jK, jL, h9, h5]
  have oX : ∀ i, i < n0 + 1 → Oth X i := fun i hi => Oth.em fun h => by have := hXn i h; omega
  have ll : (bls q).length = k := by rw [bls_length, hq]
  refine app_slr (b := 1) (hX.move (τ := ⟨upd ob id (some ⟨g, 2, ty_Deck, false, true, [deckV t a2]⟩), m, c⟩) (Nat.le_refl _) fun i hi hh => ?_) (by omega) (by omega) fun Y τ hY kY => ?_
  ·have := hXn i hh
   simp only
   rw [upd_ne _ _ _ _ (by omega)]
  obtain ⟨ob2, m2, c2⟩ := τ
  have q1 : m ≤ m2 := kY.1
  have q2 : ∀ i, i < n0 + 1 → ob2 i = upd ob id (some ⟨g, 2, ty_Deck, false, true, [deckV t a2]⟩) i := fun i hi => kY.2.1 i (by simp only; omega) (oX i hi)
  try simp (disch := omega) only [go_sem, jA, jB, jC, jD, jE, jF, jG, jH, jI, jJ, ↓reduceIte, reduceCtorEq, jO, jM, jN, jK, jL, h9]
  refine up_nextG m2 (by omega) (by omega) ⟨(by first | rfl | (simp (disch := omega) only [go_sem, jA, jB, jC, jD, jE, jF, jG, jH, jI, jJ, ↓reduceIte, reduceCtorEq, jP, jO, jM, jN]; try rfl)), by simp only [St.trunc]; omega, ⟨a2, by rw [tr_ob (by omega), q2 id (by omega), upd_same]⟩, fun i hi hne => by rw [tr_ob (by omega), q2 i (by omega), upd_ne _ _ _ _ hne, hfr i hi hne], Y, q ++ [decide (0 < x)], (by simp only [At]; try simp (disch := omega) only [go_sem, jA, jB, jC, jD, jE, jF, jG, jH, jI, jJ, ↓reduceIte, reduceCtorEq, jO, jM, jN, jK, jL]), by simp [hq], ?_, fun i hi => Nat.le_of_not_lt fun hh => hi (kY.2.2 i (by simp only; omega) (oX i hh))⟩
  rw [show bls (q ++ [decide (0 < x)]) = bls q ++ [.bool (decide (0 < x))] by simp [bls]]
  exact hY.tr
 ·try simp (disch := omega) only [go_sem, jA, jB, jC, jD, jE, jF, jG, jH, jI, jJ, ↓reduceIte, reduceCtorEq, jO, jM, jN, jK, jL, h5]
  refine ⟨.list 1 (bls q), a, hX.pub (fun i hi hh => ?_) (bls_pur _) (bls_ok _), ⟨q, rfl, by omega⟩, hd, hfr⟩
  have := hXn i hh
  exact if_neg (show ¬ i < n0 by omega)
def PtB (x : Wt) : Prop := (0 ≤ x.nd ∧ x.nd < 5) ∧ (1 ≤ x.w ∧ x.w ≤ 4) ∧ (0 ≤ x.lim ∧ x.lim < 12) ∧ 1 ≤ x.ld ∧ x.ld ≤ 4
theorem PtB.ok {x : Wt} (h : PtB x) : wtB x = true := by obtain ⟨h1, h2, h3, h4⟩ := h; simp [wtB, inW]; omega
def PtsB (l : List Wt) : Prop := 1 ≤ l.length ∧ l.length ≤ 3 ∧ ∀ x ∈ l, PtB x
theorem PtsB.e {l : List Wt} (h : PtsB l) : watE l = 0 := watE_ok.2 ⟨by have := h.2.1; omega, List.all_eq_true.2 fun x hx => (h.2.2 x hx).ok⟩
theorem wts_snoc (l : List Wt) (x : Wt) : wts l ++ [wtv x] = wts (l ++ [x]) := by simp [wts]
theorem hc_flow_Points (σ : St) (id g : Nat) (t : List Int) (at' : Nat) (hl : t.length ≤ 9223372036854775807) (hid : id < σ.n) (hob : σ.ob id = some ⟨g, 2, ty_Deck, false, true, [deckV t at']⟩) :
  HC prog n_flow_Points [.ptr id g 2 0 0, .int .i64 5] σ (DeckR σ id g t fun r => ∃ l, r = .list 4 (wts l) ∧ PtsB l) := by
 refine HC.deck hid ?_
 obtain ⟨ob0, n0, c0⟩ := σ
 simp only at hob hid
 refine HC_of_body b_flow_Points (by simp) ?_
 simp only [c_flow_Points, go_sem, jA, jB, jC, jD, jE, jF, jG, jH, jI, jJ, ↓reduceIte, reduceCtorEq, jP]
 refine call_hc (ok_mk_Deck_Next _ id g ty_Deck true t at' 3 hob (by omega) hl) ?_
 have hx2 := deckR_bd t at' 3
 generalize deckR t at' 3 = dr at *
 obtain ⟨x2, at2⟩ := dr
 simp only at hx2
 try simp (disch := omega) only [go_sem, jA, jB, jC, jD, jE, jF, jG, jH, jI, jJ, ↓reduceIte, reduceCtorEq, jO, jM, jN, jK, jL]
 obtain ⟨K, hK⟩ : ∃ K : Nat, (K : Int) = x2 ∧ K ≤ 2 := ⟨x2.toNat, by omega, by omega⟩
 obtain ⟨rfl, hK⟩ := hK
 refine awp_upG [5, 6, 9, 10, 11, 12, 13, 14, 15, 16, 17, 18, 19, 20, 21, 22, 23, 24, 25, 26, 27] (by kernel_rfl) (K + 1) (fun k e σ => e 6 = .int .i64 ((K : Int) - k) ∧ (∃ a, σ.ob id = some ⟨g, 2, ty_Deck, false, true, [deckV t a]⟩) ∧ (∀ i, i < n0 → i ≠ id → σ.ob i = ob0 i) ∧ ∃ X l, At e 5 X ∧ l.length = k ∧ (∀ x ∈ l, PtB x) ∧ SlR 4 tyW σ (wts l) X ∧ ∀ i, ¬ Oth X i → n0 ≤ i) ?_ ?_
 ·refine ⟨(by first | rfl | (simp (disch := omega) only [go_sem, jA, jB, jC, jD, jE, jF, jG, jH, jI, jJ, ↓reduceIte, reduceCtorEq, jP, jO, jM, jN]; try rfl)), ⟨at2, by try simp (disch := omega) only [go_sem, jA, jB, jC, jD, jE, jF, jG, jH, jI, jJ, ↓reduceIte, reduceCtorEq, jO, jM, jN, jK, jL]⟩, fun i hi hne => ?_, .nil, [], (by simp only [At]; try simp (disch := omega) only [go_sem, jA, jB, jC, jD, jE, jF, jG, jH, jI, jJ, ↓reduceIte, reduceCtorEq, jO, jM, jN, jK, jL]), rfl, (fun x hx => by cases hx), SlR.nil, fun i hi => absurd (Oth.nil i) hi⟩
  try simp (disch := omega) only [go_sem, jA, jB, jC, jD, jE, jF, jG, jH, jI, jJ, ↓reduceIte, reduceCtorEq, jO, jM, jN, jK, jL, hne]
 rintro k fe ob m c hk hm ⟨h6, ⟨a, hd⟩, hfr, X, l, h5, hll, hlb, hX, hXn⟩
 simp (maxSteps := 1000000) only [go_sem, jA, jB, jC, jD, jE, jF, jG, jH, jI, jJ, ↓reduceIte, reduceCtorEq, jP, At] at h6 hm hd hfr h5
 try simp (disch := omega) only [go_sem, jA, jB, jC, jD, jE, jF, jG, jH, jI, jJ, ↓reduceIte, reduceCtorEq, jO, jM, jN, jK, jL, h6]
 refine cond_d (fun hge => ?_) (fun hlt => ?_)
 ·have hkl : k < K + 1 := by omega
  try simp (disch := omega) only [go_sem, jA, jB, jC, jD, jE, jF, jG, jH, jI, jJ, ↓reduceIte, reduceCtorEq, jO, jM, jN, jK, jL, h5]
  refine call_hc (ok_mk_Deck_Next _ id g ty_Deck true t a 5 hd (by omega) hl) ?_
  have b1 := deckR_bd t a 5
  generalize deckR t a 5 = dr at *
  obtain ⟨x1, a1⟩ := dr
  simp only at b1
  try simp (disch := omega) only [go_sem, jA, jB, jC, jD, jE, jF, jG, jH, jI, jJ, ↓reduceIte, reduceCtorEq, jO, jM, jN, jK, jL]
  refine call_hc (ok_mk_Deck_Next _ id g ty_Deck true t a1 4 (by try simp (disch := omega) only [go_sem, jA, jB, jC, jD, jE, jF, jG, jH, jI, jJ, ↓reduceIte, reduceCtorEq, jO, jM, jN, jK, jL]) (by omega) hl) ?_
  have b2 := deckR_bd t a1 4
  generalize deckR t a1 4 = dr at *
  obtain ⟨x2, a2⟩ := dr
  simp only at b2
  try simp (disch := omega) only [go_sem, jA, jB, jC, jD, jE, jF, jG, jH, jI, jJ, ↓reduceIte, reduceCtorEq, jO, jM, jN, jK, jL]
  refine call_hc (ok_mk_Deck_Next _ id g ty_Deck true t a2 12 (by try simp (disch := omega) only [go_sem, jA, jB, jC, jD, jE, jF, jG, jH, jI, jJ, ↓reduceIte, reduceCtorEq, jO, jM, jN, jK, jL]) (by omega) hl) ?_
  have b3 := deckR_bd t a2 12
  generalize deckR t a2 12 = dr at *
  obtain ⟨x3, a3⟩ := dr
  simp only at b3
  try simp (disch := omega) only [go_sem, jA, jB, jC, jD, jE, jF, jG, jH, jI, jJ, ↓reduceIte, reduceCtorEq, jO, jM, jN, jK, jL]
  refine call_hc (ok_mk_Deck_Next _ id g ty_Deck true t a3 4 (by try simp (disch := omega) only [go_sem, jA, jB, jC, jD, jE, jF, jG, jH, jI, jJ, ↓reduceIte, reduceCtorEq, jO, jM, jN, jK, jL]) (by omega) hl) ?_
  have b4 := deckR_bd t a3 4
  generalize deckR t a3 4 = dr at *
  obtain ⟨x4, a4⟩ := dr
  simp only at b4
  try simp (disch := omega) only [go_sem, jA, jB, jC, jD, jE, jF, jG, jH, jI, jJ, ↓reduceIte, reduceCtorEq, jO, jM, jN, jK, jL, h5]
  have oX : ∀ i, i < n0 → Oth X i := fun i hi => Oth.em fun h => by have := hXn i h; omega
  have lll : (wts l).length = k := by rw [wts_length, hll]
  have hfr2 : ∀ i, i ≠ id → upd (upd (upd (upd ob id (some (⟨g, 2, ty_Deck, false, true, [deckV t a1]⟩ : AObj))) id (some ⟨g, 2, ty_Deck, false, true, [deckV t a2]⟩)) id (some ⟨g, 2, ty_Deck, false, true, [deckV t a3]⟩)) id (some ⟨g, 2, ty_Deck, false, true, [deckV t a4]⟩) i = ob i := fun i hi => by
   rw [upd_ne _ _ _ _ hi, upd_ne _ _ _ _ hi, upd_ne _ _ _ _ hi, upd_ne _ _ _ _ hi]
  refine app_slr (b := 32) (hX.move (Nat.le_refl _) fun i hi hh => hfr2 i (by have := hXn i hh; omega)) (by omega) (by omega) fun Y τ hY kY => ?_
  obtain ⟨ob2, m2, c2⟩ := τ
  have q1 : m ≤ m2 := kY.1
  have q2 : ∀ i, i < n0 → ob2 i = _ := fun i hi => kY.2.1 i (by simp only; omega) (oX i hi)
  try simp (disch := omega) only [go_sem, jA, jB, jC, jD, jE, jF, jG, jH, jI, jJ, ↓reduceIte, reduceCtorEq, jO, jM, jN, jK, jL, h6]
  refine up_nextG m2 hkl (by omega) ⟨by try simp (disch := omega) only [go_sem, jA, jB, jC, jD, jE, jF, jG, jH, jI, jJ, ↓reduceIte, reduceCtorEq, jO, jM, jN, jK, jL]; congr 1; omega, ⟨a4, by rw [tr_ob (by omega), q2 id (by omega)]; exact upd_same _ _ _⟩, fun i hi hne => by rw [tr_ob (by omega), q2 i (by omega)]; exact (hfr2 i hne).trans (hfr i hi hne), Y, l ++ [⟨x1, 1 + x2, x3, 1 + x4⟩], (by simp only [At]; try simp (disch := omega) only [go_sem, jA, jB, jC, jD, jE, jF, jG, jH, jI, jJ, ↓reduceIte, reduceCtorEq, jO, jM, jN, jK, jL]), by simp [hll], fun x hx => ?_, ?_, fun i hi => Nat.le_of_not_lt fun hh => hi (kY.2.2 i (by simp only; omega) (oX i hh))⟩
  ·rcases List.mem_append.1 hx with hx | hx
   ·exact hlb x hx
   ·rw [List.mem_singleton] at hx; subst hx; simp only [PtB]; omega
  ·rw [← wts_snoc]
   exact hY.tr
 ·try simp (disch := omega) only [go_sem, jA, jB, jC, jD, jE, jF, jG, jH, jI, jJ, ↓reduceIte, reduceCtorEq, jO, jM, jN, jK, jL, h5]
  refine ⟨.list 4 (wts l), a, hX.pub (fun i hi hh => ?_) (wts_pur _) (wts_ok _), ⟨l, rfl, by omega, by omega, hlb⟩, hd, hfr⟩
  have := hXn i hh
  exact if_neg (show ¬ i < n0 by omega)
structure Bd0 (b : Bo) : Prop where
 v : Vb b
 p : PtsB b.ps
theorem hc_flow_Board (σ : St) (id g : Nat) (t : List Int) (at' : Nat) (hl : t.length ≤ 9223372036854775807) (hid : id < σ.n) (hob : σ.ob id = some ⟨g, 2, ty_Deck, false, true, [deckV t at']⟩) :
  HC prog n_flow_Board [.ptr id g 2 0 0] σ (DeckR σ id g t fun r => ∃ b, r = bov b ∧ Bd0 b) := by
 refine HC.deck hid ?_
 obtain ⟨ob0, n0, c0⟩ := σ
 simp only at hob hid
 refine HC_of_body b_flow_Board (by simp) ?_
 simp only [c_flow_Board, go_sem, jA, jB, jC, jD, jE, jF, jG, jH, jI, jJ, ↓reduceIte, reduceCtorEq, jP]
 have h0 : ¬ id = n0 := by omega
 have h1 : ¬ id = n0 + 1 := by omega
 have i0 : ¬ n0 = id := by omega
 have i1 : ¬ n0 + 1 = id := by omega
 have i2 : ¬ n0 = n0 + 1 := by omega
 have i3 : ¬ n0 + 1 = n0 := by omega
 refine (hc_flow_Points _ id g t at' hl (by simp only; omega) (by try simp (disch := omega) only [go_sem, jA, jB, jC, jD, jE, jF, jG, jH, jI, jJ, ↓reduceIte, reduceCtorEq, jO, jM, jN, jK, jL, h0]; exact hob)).mono ?_
 intro r τ hDR
 obtain ⟨⟨ps, rfl, hps⟩, hn, ⟨at1, hd1⟩, hf1⟩ := hDR.use (by simp only; omega)
 obtain ⟨ob1, m1, c1⟩ := τ
 simp only at hn hd1 hf1
 subst hn
 have v0 := hf1 n0 (by omega) i0
 try simp (disch := omega) only [go_sem, jA, jB, jC, jD, jE, jF, jG, jH, jI, jJ, ↓reduceIte, reduceCtorEq, jO, jM, jN, jK, jL] at v0
 try simp (disch := omega) only [go_sem, jA, jB, jC, jD, jE, jF, jG, jH, jI, jJ, ↓reduceIte, reduceCtorEq, jO, jM, jN, jK, jL]
 have hO := ok_ref36_Open ps (by have := hps.2.1; omega)
 rw [openV, openR, if_pos hps.e, hps.e] at hO
 refine call_pc hO (by simp [go_sem, wts_pur]) ?_
 have hV0 := Vb.open hps.e
 generalize hb0 : (⟨ps, List.replicate ps.length [], []⟩ : Bo) = b0 at *
 have hp0 : b0.ps = ps := by rw [← hb0]
 simp only [bov]
 try simp (disch := omega) only [go_sem, jA, jB, jC, jD, jE, jF, jG, jH, jI, jJ, ↓reduceIte, reduceCtorEq, jO, jM, jN, jK, jL, h0, h1, i0, i1, i2, i3]
 refine call_hc (ok_mk_Deck_Next _ id g ty_Deck true t at1 10 (by try simp (disch := omega) only [go_sem, jA, jB, jC, jD, jE, jF, jG, jH, jI, jJ, ↓reduceIte, reduceCtorEq, jO, jM, jN, jK, jL, h0, h1]; exact hd1) (by omega) hl) ?_
 have hx := deckR_bd t at1 10
 generalize deckR t at1 10 = dr at *
 obtain ⟨x, at2⟩ := dr
 simp only at hx
 try simp (disch := omega) only [go_sem, jA, jB, jC, jD, jE, jF, jG, jH, jI, jJ, ↓reduceIte, reduceCtorEq, jO, jM, jN, jK, jL]
 obtain ⟨K, hK⟩ : ∃ K : Nat, (K : Int) = x ∧ K ≤ 10 := ⟨x.toNat, by omega, by omega⟩
 obtain ⟨rfl, hK⟩ := hK
 refine awp_upG [5, 14, 15, 16, 17, 18, 19, 20, 21, 22, 23, 24, 25, 26, 27, 28, 29, 30, 31, 32, 33, 34, 35, 36, 37, 38, 39, 40, 41, 42, 43, 44, 45, 46, 47, 48, 49, 50, 51, 52, 53, 54, 55, 56, 57, 58, 59, 60, 61, 62, 63, 64, 65, 66, 67, 68, 69, 70, 71, 72, 73, 74, 75] (by kernel_rfl) K (fun k e σ => e 5 = .int .i64 ((K : Int) - k) ∧ n0 + 2 ≤ σ.n ∧ (∃ a, σ.ob id = some ⟨g, 2, ty_Deck, false, true, [deckV t a]⟩) ∧ (∀ i, i < n0 → i ≠ id → σ.ob i = ob0 i) ∧ σ.ob n0 = some ⟨c0, 3, 31, false, true, [.agg [.nil, .nil, .nil]]⟩ ∧ ∃ b, Vb b ∧ b.ps = ps ∧ σ.ob (n0 + 1) = some ⟨c1, 3, 31, false, true, [.agg [.list 4 (wts b.ps), .list 1 (lls b.pa), .list 4 (wns b.ac)]]⟩) ?_ ?_
 ·refine ⟨(by first | rfl | (simp (disch := omega) only [go_sem, jA, jB, jC, jD, jE, jF, jG, jH, jI, jJ, ↓reduceIte, reduceCtorEq, jP, jO, jM, jN]; try rfl)), Nat.le_refl _, ⟨at2, by try simp (disch := omega) only [go_sem, jA, jB, jC, jD, jE, jF, jG, jH, jI, jJ, ↓reduceIte, reduceCtorEq, jO, jM, jN, jK, jL]⟩, fun i hi hne => ?_, ?_, b0, hV0, hp0, ?_⟩
  ·have z1 : ¬ i = n0 + 1 := by omega
   have z2 : ¬ i = n0 := by omega
   have := hf1 i (by omega) hne
   try simp (disch := omega) only [go_sem, jA, jB, jC, jD, jE, jF, jG, jH, jI, jJ, ↓reduceIte, reduceCtorEq, jO, jM, jN, jK, jL, z2] at this
   try simp (disch := omega) only [go_sem, jA, jB, jC, jD, jE, jF, jG, jH, jI, jJ, ↓reduceIte, reduceCtorEq, jO, jM, jN, jK, jL, hne, z1, z2]
   exact this
  ·try simp (disch := omega) only [go_sem, jA, jB, jC, jD, jE, jF, jG, jH, jI, jJ, ↓reduceIte, reduceCtorEq, jO, jM, jN, jK, jL, i0, i2]
   exact v0
  ·try simp (disch := omega) only [go_sem, jA, jB, jC, jD, jE, jF, jG, jH, jI, jJ, ↓reduceIte, reduceCtorEq, jO, jM, jN, jK, jL, i1]
 rintro k fe ob m c hk hm ⟨h5, hm1, ⟨a, hd⟩, hfr, u0, b, hV, hbp, u1⟩
 simp (maxSteps := 1000000) only [go_sem, jA, jB, jC, jD, jE, jF, jG, jH, jI, jJ, ↓reduceIte, reduceCtorEq, jP] at h5 hm hm1 hd hfr u0 u1
 have hl1 := hps.1
 have hl3 := hps.2.1
 rw [← hbp] at hl1 hl3
 try simp (disch := omega) only [go_sem, jA, jB, jC, jD, jE, jF, jG, jH, jI, jJ, ↓reduceIte, reduceCtorEq, jO, jM, jN, jK, jL, h5]
 refine cond_d (fun hge => ?_) (fun hlt => ?_)
 ·have hkl : k < K := by omega
  try simp (disch := omega) only [go_sem, jA, jB, jC, jD, jE, jF, jG, jH, jI, jJ, ↓reduceIte, reduceCtorEq, jO, jM, jN, jK, jL, h5]
  refine call_hc (ok_mk_Deck_Next _ id g ty_Deck true t a 4 hd (by omega) hl) ?_
  have b1 := deckR_bd t a 4
  generalize deckR t a 4 = dr at *
  obtain ⟨x1, a1⟩ := dr
  simp only at b1
  try simp (disch := omega) only [go_sem, jA, jB, jC, jD, jE, jF, jG, jH, jI, jJ, ↓reduceIte, reduceCtorEq, jO, jM, jN, jK, jL]
  refine cond_d (fun e0 => ?_) (fun e0 => ?_)
  ·try simp (disch := omega) only [go_sem, jA, jB, jC, jD, jE, jF, jG, jH, jI, jJ, ↓reduceIte, reduceCtorEq, jO, jM, jN, jK, jL, u1, i1, h5, wts_length]
   refine call_hc (ok_mk_Deck_Next _ id g ty_Deck true t a1 b.ps.length (by try simp (disch := omega) only [go_sem, jA, jB, jC, jD, jE, jF, jG, jH, jI, jJ, ↓reduceIte, reduceCtorEq, jO, jM, jN, jK, jL]) (by omega) hl) ?_
   have b2 := deckR_bd t a1 b.ps.length
   generalize deckR t a1 b.ps.length = dr at *
   obtain ⟨x2, a2⟩ := dr
   simp only at b2
   try simp (disch := omega) only [go_sem, jA, jB, jC, jD, jE, jF, jG, jH, jI, jJ, ↓reduceIte, reduceCtorEq, jO, jM, jN, jK, jL, u1, i1, h5]
   refine call_hc (ok_mk_Deck_Next _ id g ty_Deck true t a2 20 (by try simp (disch := omega) only [go_sem, jA, jB, jC, jD, jE, jF, jG, jH, jI, jJ, ↓reduceIte, reduceCtorEq, jO, jM, jN, jK, jL]) (by omega) hl) ?_
   have b3 := deckR_bd t a2 20
   generalize deckR t a2 20 = dr at *
   obtain ⟨x3, a3⟩ := dr
   simp only at b3
   try simp (disch := omega) only [go_sem, jA, jB, jC, jD, jE, jF, jG, jH, jI, jJ, ↓reduceIte, reduceCtorEq, jO, jM, jN, jK, jL, u1, i1, h5]
   refine (hc_flow_Cause _ id g t a3 hl (by simp only; omega) (by try simp (disch := omega) only [go_sem, jA, jB, jC, jD, jE, jF, jG, jH, jI, jJ, ↓reduceIte, reduceCtorEq, jO, jM, jN, jK, jL])).mono ?_
   intro r τ hDR
   obtain ⟨⟨cs, rfl, hcs⟩, hn, ⟨a4, hdk⟩, hf4⟩ := hDR.use (by simp only; omega)
   obtain ⟨ob4, m4, c4⟩ := τ
   simp only at hn hdk hf4
   subst hn
   have hfk : ∀ i, i < m4 → i ≠ id → ob4 i = ob i := fun i hi hne => by rw [hf4 i hi hne, upd_ne _ _ _ _ hne, upd_ne _ _ _ _ hne, upd_ne _ _ _ _ hne]
   have w1 := (hfk (n0 + 1) (by omega) i1).trans u1
   try simp (disch := omega) only [go_sem, jA, jB, jC, jD, jE, jF, jG, jH, jI, jJ, ↓reduceIte, reduceCtorEq, jO, jM, jN, jK, jL, u1, i1, h5]
   refine ⟨w1, ?_⟩
   have hI := ok_ref37_Issue b x2 x3 cs hV.sz
   have hE0 : issE b x2 x3 cs = 0 := by rw [issE, if_neg (by simp [vdB_iff.2 hV]), if_neg (by omega), if_neg (by omega)]; exact cauE_csB.2 hcs
   rw [issV, issR, if_pos hE0, hE0] at hI
   have hV1 := hV.iss (p := x2) (t := x3) (c := cs) (by omega) (by omega) hcs
   simp only [bov] at hI
   refine call_pc hI (by simp [go_sem, wts_pur, lls_pur, wns_pur, csv]) ?_
   obtain ⟨b', hb', hV', hbp'⟩ : ∃ b' : Bo, b' = issB b x2 x3 cs ∧ Vb b' ∧ b'.ps = ps := ⟨_, rfl, hV1, hbp⟩
   rw [← hb'] at hV1; clear hI; rw [← hb']
   try simp (disch := omega) only [go_sem, jA, jB, jC, jD, jE, jF, jG, jH, jI, jJ, ↓reduceIte, reduceCtorEq, jO, jM, jN, jK, jL, u1, i1, h5, w1]
   refine up_nextG m4 hkl (by omega) ⟨by try simp (disch := omega) only [go_sem, jA, jB, jC, jD, jE, jF, jG, jH, jI, jJ, ↓reduceIte, reduceCtorEq, jO, jM, jN, jK, jL, h5]; congr 1; omega, by simp only [St.trunc]; omega, ⟨a4, by rw [tr_ob (by omega), upd_ne _ _ _ _ h1]; exact hdk⟩, fun i hi hne => ?_, ?_, b', hV', hbp', by rw [tr_ob (by omega), upd_same]⟩
   ·rw [tr_ob (by omega), upd_ne _ _ _ _ (by omega), hfk i (by omega) hne]; exact hfr i hi hne
   ·rw [tr_ob (by omega), upd_ne _ _ _ _ (by omega), hfk n0 (by omega) i0]; exact u0
  try simp (disch := omega) only [go_sem, jA, jB, jC, jD, jE, jF, jG, jH, jI, jJ, ↓reduceIte, reduceCtorEq, jO, jM, jN, jK, jL]
  refine cond_d (fun e1 => ?_) (fun e1 => ?_)
  ·try simp (disch := omega) only [go_sem, jA, jB, jC, jD, jE, jF, jG, jH, jI, jJ, ↓reduceIte, reduceCtorEq, jO, jM, jN, jK, jL, u1, i1, h5]
   have hQ := fun σ hid hob => hc_flow_Quiet σ id g t a1 b hV.p hl hid hob
   simp only [bov] at hQ
   refine (hQ _ (by simp only; omega) (by try simp (disch := omega) only [go_sem, jA, jB, jC, jD, jE, jF, jG, jH, jI, jJ, ↓reduceIte, reduceCtorEq, jO, jM, jN, jK, jL])).mono ?_
   intro r τ hDR
   obtain ⟨⟨q, rfl, hq⟩, hn, ⟨a4, hdk⟩, hf4⟩ := hDR.use (by simp only; omega)
   obtain ⟨ob4, m4, c4⟩ := τ
   simp only at hn hdk hf4
   subst hn
   have hfk : ∀ i, i < m4 → i ≠ id → ob4 i = ob i := fun i hi hne => by rw [hf4 i hi hne, upd_ne _ _ _ _ hne]
   have w1 := (hfk (n0 + 1) (by omega) i1).trans u1
   try simp (disch := omega) only [go_sem, jA, jB, jC, jD, jE, jF, jG, jH, jI, jJ, ↓reduceIte, reduceCtorEq, jO, jM, jN, jK, jL, u1, i1, h5]
   refine ⟨w1, ?_⟩
   refine call_hc (ok_mk_Deck_Next _ id g ty_Deck true t a4 4 hdk (by omega) hl) ?_
   have b3 := deckR_bd t a4 4
   generalize deckR t a4 4 = dr at *
   obtain ⟨x3, a5⟩ := dr
   simp only at b3
   replace hfk : ∀ i, i < m4 → i ≠ id → upd ob4 id (some (⟨g, 2, ty_Deck, false, true, [deckV t a5]⟩ : AObj)) i = ob i := fun i hi hne => by rw [upd_ne _ _ _ _ hne]; exact hfk i hi hne
   replace hdk : upd ob4 id (some (⟨g, 2, ty_Deck, false, true, [deckV t a5]⟩ : AObj)) id = some ⟨g, 2, ty_Deck, false, true, [deckV t a5]⟩ := upd_same _ _ _
   have w0 := w1
   replace w1 := (hfk (n0 + 1) (by omega) i1).trans u1
   generalize upd ob4 id (some (⟨g, 2, ty_Deck, false, true, [deckV t a5]⟩ : AObj)) = ob5 at *
   try simp (disch := omega) only [go_sem, jA, jB, jC, jD, jE, jF, jG, jH, jI, jJ, ↓reduceIte, reduceCtorEq, jO, jM, jN, jK, jL, u1, i1, h5, w1]
   refine ⟨w0.symm, ?_⟩
   have hI := ok_ref37_Tick b q (1 + x3) hV.sz (by omega)
   have hE0 : tickE b q (1 + x3) = 0 := by rw [tickE, if_neg (by simp [vdB_iff.2 hV]), if_neg (by omega), if_neg (by omega)]
   rw [tickV, tickR, if_pos hE0, hE0] at hI
   have hV1 := hV.tick (q := q) (hd := 1 + x3) (by omega)
   simp only [bov] at hI
   refine call_pc hI (by simp [go_sem, wts_pur, lls_pur, wns_pur, bls_pur]) ?_
   obtain ⟨b', hb', hV', hbp'⟩ : ∃ b' : Bo, b' = tickB b q (1 + x3) ∧ Vb b' ∧ b'.ps = ps := ⟨_, rfl, hV1, hbp⟩
   rw [← hb'] at hV1; clear hI; rw [← hb']
   try simp (disch := omega) only [go_sem, jA, jB, jC, jD, jE, jF, jG, jH, jI, jJ, ↓reduceIte, reduceCtorEq, jO, jM, jN, jK, jL, u1, i1, h5, w1]
   refine up_nextG m4 hkl (by omega) ⟨by try simp (disch := omega) only [go_sem, jA, jB, jC, jD, jE, jF, jG, jH, jI, jJ, ↓reduceIte, reduceCtorEq, jO, jM, jN, jK, jL, h5]; congr 1; omega, by simp only [St.trunc]; omega, ⟨a5, by rw [tr_ob (by omega), upd_ne _ _ _ _ h1]; exact hdk⟩, fun i hi hne => ?_, ?_, b', hV', hbp', by rw [tr_ob (by omega), upd_same]⟩
   ·rw [tr_ob (by omega), upd_ne _ _ _ _ (by omega), hfk i (by omega) hne]; exact hfr i hi hne
   ·rw [tr_ob (by omega), upd_ne _ _ _ _ (by omega), hfk n0 (by omega) i0]; exact u0
  try simp (disch := omega) only [go_sem, jA, jB, jC, jD, jE, jF, jG, jH, jI, jJ, ↓reduceIte, reduceCtorEq, jO, jM, jN, jK, jL]
  refine cond_d (fun e2 => ?_) (fun e2 => ?_)
  ·try simp (disch := omega) only [go_sem, jA, jB, jC, jD, jE, jF, jG, jH, jI, jJ, ↓reduceIte, reduceCtorEq, jO, jM, jN, jK, jL, u1, i1, h5, wts_length]
   refine call_hc (ok_mk_Deck_Next _ id g ty_Deck true t a1 b.ps.length (by try simp (disch := omega) only [go_sem, jA, jB, jC, jD, jE, jF, jG, jH, jI, jJ, ↓reduceIte, reduceCtorEq, jO, jM, jN, jK, jL]) (by omega) hl) ?_
   have b2 := deckR_bd t a1 b.ps.length
   generalize deckR t a1 b.ps.length = dr at *
   obtain ⟨x2, a2⟩ := dr
   simp only at b2
   try simp (disch := omega) only [go_sem, jA, jB, jC, jD, jE, jF, jG, jH, jI, jJ, ↓reduceIte, reduceCtorEq, jO, jM, jN, jK, jL, u1, i1, h5]
   refine (hc_flow_Cause _ id g t a2 hl (by simp only; omega) (by try simp (disch := omega) only [go_sem, jA, jB, jC, jD, jE, jF, jG, jH, jI, jJ, ↓reduceIte, reduceCtorEq, jO, jM, jN, jK, jL])).mono ?_
   intro r τ hDR
   obtain ⟨⟨cs, rfl, hcs⟩, hn, ⟨a4, hdk⟩, hf4⟩ := hDR.use (by simp only; omega)
   obtain ⟨ob4, m4, c4⟩ := τ
   simp only at hn hdk hf4
   subst hn
   have hfk : ∀ i, i < m4 → i ≠ id → ob4 i = ob i := fun i hi hne => by rw [hf4 i hi hne, upd_ne _ _ _ _ hne, upd_ne _ _ _ _ hne]
   have w1 := (hfk (n0 + 1) (by omega) i1).trans u1
   try simp (disch := omega) only [go_sem, jA, jB, jC, jD, jE, jF, jG, jH, jI, jJ, ↓reduceIte, reduceCtorEq, jO, jM, jN, jK, jL, u1, i1, h5]
   refine ⟨w1, by simp [csv, go_sem], ?_⟩
   have hI := ok_ref37_Keep b x2 [cs] hV.sz (by simp)
   have hE0 : keepE b x2 = 0 := by rw [keepE, if_neg (by simp [vdB_iff.2 hV]), if_neg (by omega)]
   rw [keepV, keepR, if_pos hE0, hE0] at hI
   have hV1 := hV.keep (p := x2) (ks := [cs])
   simp only [bov] at hI
   refine call_pc hI (by simp [go_sem, wts_pur, lls_pur, wns_pur, csv]) ?_
   obtain ⟨b', hb', hV', hbp'⟩ : ∃ b' : Bo, b' = keepB b x2 [cs] ∧ Vb b' ∧ b'.ps = ps := ⟨_, rfl, hV1, hbp⟩
   rw [← hb'] at hV1; clear hI; rw [← hb']
   try simp (disch := omega) only [go_sem, jA, jB, jC, jD, jE, jF, jG, jH, jI, jJ, ↓reduceIte, reduceCtorEq, jO, jM, jN, jK, jL, u1, i1, h5, w1]
   refine up_nextG m4 hkl (by omega) ⟨by try simp (disch := omega) only [go_sem, jA, jB, jC, jD, jE, jF, jG, jH, jI, jJ, ↓reduceIte, reduceCtorEq, jO, jM, jN, jK, jL, h5]; congr 1; omega, by simp only [St.trunc]; omega, ⟨a4, by rw [tr_ob (by omega), upd_ne _ _ _ _ h1]; exact hdk⟩, fun i hi hne => ?_, ?_, b', hV', hbp', by rw [tr_ob (by omega), upd_same]⟩
   ·rw [tr_ob (by omega), upd_ne _ _ _ _ (by omega), hfk i (by omega) hne]; exact hfr i hi hne
   ·rw [tr_ob (by omega), upd_ne _ _ _ _ (by omega), hfk n0 (by omega) i0]; exact u0
  try simp (disch := omega) only [go_sem, jA, jB, jC, jD, jE, jF, jG, jH, jI, jJ, ↓reduceIte, reduceCtorEq, jO, jM, jN, jK, jL, u1, i1, h5, wts_length]
  refine (hcD_mk_Flows _ id g t a1 b.ps.length 30 (by omega) (by omega) (by omega) hl (by simp only; omega) (by try simp (disch := omega) only [go_sem, jA, jB, jC, jD, jE, jF, jG, jH, jI, jJ, ↓reduceIte, reduceCtorEq, jO, jM, jN, jK, jL])).mono ?_
  intro r τ hDR
  obtain ⟨⟨now, rfl, hnl, hnb⟩, hn, ⟨a4, hdk⟩, hf4⟩ := hDR.use (by simp only; omega)
  obtain ⟨ob4, m4, c4⟩ := τ
  simp only at hn hdk hf4
  subst hn
  have hfk : ∀ i, i < m4 → i ≠ id → ob4 i = ob i := fun i hi hne => by rw [hf4 i hi hne, upd_ne _ _ _ _ hne]
  have w1 := (hfk (n0 + 1) (by omega) i1).trans u1
  try simp (disch := omega) only [go_sem, jA, jB, jC, jD, jE, jF, jG, jH, jI, jJ, ↓reduceIte, reduceCtorEq, jO, jM, jN, jK, jL, u1, i1, h5]
  refine ⟨w1, ?_⟩
  have hI := ok_ref36_See b now hV.sz (by omega)
  have hfl : flsB now = true := List.all_eq_true.2 fun x hx => by have := hnb x hx; simp [flB, inW]; omega
  rw [seeV, seeR, see_e0 (vdB_iff.2 hV) (by omega) hfl, if_pos rfl] at hI
  have hV1 := hV.see (now := now) (by omega) hfl
  simp only [bov] at hI
  refine call_pc hI (by simp [go_sem, wts_pur, lls_pur, wns_pur, ints_pur]) ?_
  obtain ⟨b', hb', hV', hbp'⟩ : ∃ b' : Bo, b' = seeB b now ∧ Vb b' ∧ b'.ps = ps := ⟨_, rfl, hV1, hbp⟩
  rw [← hb'] at hV1; clear hI; rw [← hb']
  try simp (disch := omega) only [go_sem, jA, jB, jC, jD, jE, jF, jG, jH, jI, jJ, ↓reduceIte, reduceCtorEq, jO, jM, jN, jK, jL, u1, i1, h5, w1]
  refine up_nextG m4 hkl (by omega) ⟨by try simp (disch := omega) only [go_sem, jA, jB, jC, jD, jE, jF, jG, jH, jI, jJ, ↓reduceIte, reduceCtorEq, jO, jM, jN, jK, jL, h5]; congr 1; omega, by simp only [St.trunc]; omega, ⟨a4, by rw [tr_ob (by omega), upd_ne _ _ _ _ h1]; exact hdk⟩, fun i hi hne => ?_, ?_, b', hV', hbp', by rw [tr_ob (by omega), upd_same]⟩
  ·rw [tr_ob (by omega), upd_ne _ _ _ _ (by omega), hfk i (by omega) hne]; exact hfr i hi hne
  ·rw [tr_ob (by omega), upd_ne _ _ _ _ (by omega), hfk n0 (by omega) i0]; exact u0
 ·try simp (disch := omega) only [go_sem, jA, jB, jC, jD, jE, jF, jG, jH, jI, jJ, ↓reduceIte, reduceCtorEq, jO, jM, jN, jK, jL, u1, u0, i2]
  refine ⟨bov b, a, Pub.e (by simp [go_sem, bov, wts_pur, lls_pur, wns_pur]), ⟨b, rfl, hV, by rw [hbp]; exact hps⟩, by try simp (disch := omega) only [go_sem, jA, jB, jC, jD, jE, jF, jG, jH, jI, jJ, ↓reduceIte, reduceCtorEq, jO, jM, jN, jK, jL, h0]; exact hd, fun i hi hne => ?_⟩
  simp only at hi
  have z2 : ¬ i = n0 := by omega
  try simp (disch := omega) only [go_sem, jA, jB, jC, jD, jE, jF, jG, jH, jI, jJ, ↓reduceIte, reduceCtorEq, jO, jM, jN, jK, jL, z2]
  exact hfr i hi hne
theorem ok_slices_Index__Cause (l : List Cs) (c : Cs) (hl : l.length ≤ 9223372036854775807) : PC prog n_slices_Index__Cause [.list 2 (css l), csv c] (.int .i64 (match l.findIdx? (fun x => decide (x = c)) with | some i => (i : Int) | none => -1)) := by
 refine PC_of_body b_slices_Index__Cause (by simp) ?_
 simp only [c_slices_Index__Cause, go_sem, jA, jB, jC, jD, jE, jF, jG, jH, jI, jJ, ↓reduceIte, reduceCtorEq, jP, csv, css_length]
 refine awp_upG [4, 5, 8, 9, 10, 11, 12, 13, 14, 15, 16, 17, 18] (by kernel_rfl) l.length (fun k e σ => e 8 = .int .i64 k ∧ 1 ≤ σ.n ∧ σ.ob 0 = some ⟨0, 2, 39, false, true, [csv c]⟩ ∧ ∀ j, j < k → ∀ y, l[j]? = some y → decide (y = c) = false) ?_ ?_
 ·exact ⟨(by first | rfl | (simp (disch := omega) only [go_sem, jA, jB, jC, jD, jE, jF, jG, jH, jI, jJ, ↓reduceIte, reduceCtorEq, jP, jO, jM, jN]; try rfl)), by simp, (by first | rfl | (simp (disch := omega) only [go_sem, jA, jB, jC, jD, jE, jF, jG, jH, jI, jJ, ↓reduceIte, reduceCtorEq, jP, jO, jM, jN]; try rfl)), fun j hj => by omega⟩
 rintro k fe ob m c2 hk hm ⟨hki, hm1, ho, hj⟩
 simp (maxSteps := 1000000) only [go_sem, jA, jB, jC, jD, jE, jF, jG, jH, jI, jJ, ↓reduceIte, reduceCtorEq, jP] at hki hm hm1 ho
 try simp (disch := omega) only [go_sem, jA, jB, jC, jD, jE, jF, jG, jH, jI, jJ, ↓reduceIte, reduceCtorEq, jO, jM, jN, jK, jL, hki, css_length]
 refine cond_d (fun hlt => ?_) (fun hge => ?_)
 ·have hkl : k < l.length := by omega
  have hk2 : l[k]? = some l[k] := List.getElem?_eq_getElem hkl
  have hnx := idx_next hk2 hj
  have hfi : decide (l[k] = c) = true → l.findIdx? (fun x => decide (x = c)) = some k := fun h => by
   rw [List.findIdx?_eq_some_iff_getElem]
   exact ⟨hkl, h, fun j hjk => by have := hj j hjk l[j] (List.getElem?_eq_getElem (by omega)); simpa using this⟩
  generalize l[k] = y at *
  have z0 : ¬ 0 = m := by omega
  simp only [csv] at ho
  try simp (disch := omega) only [go_sem, jA, jB, jC, jD, jE, jF, jG, jH, jI, jJ, ↓reduceIte, reduceCtorEq, jO, jM, jN, jK, jL, hki, css_length, css_get, hk2, Option.map_some, csv, ho, z0]
  refine ⟨by omega, by omega, ?_⟩
  refine cond_split (fun hq => ?_) (fun hq => ?_) <;> try simp (disch := omega) only [go_sem, jA, jB, jC, jD, jE, jF, jG, jH, jI, jJ, ↓reduceIte, reduceCtorEq, jO, jM, jN, jK, jL, hki]
  ·rw [hfi (by simp only [Bool.and_eq_true, decide_eq_true_eq] at hq; rw [decide_eq_true_eq, cs_eq]; omega)]
   exact Pub.pure rfl
  ·exact up_nextG m hkl (by omega) ⟨(by first | rfl | (simp (disch := omega) only [go_sem, jA, jB, jC, jD, jE, jF, jG, jH, jI, jJ, ↓reduceIte, reduceCtorEq, jP, jO, jM, jN]; try rfl)), by simp only [St.trunc]; omega, by rw [tr_ob (by omega)]; exact ho, hnx (by simp only [Bool.and_eq_false_iff, decide_eq_false_iff_not] at hq; rw [decide_eq_false_iff_not, cs_eq]; omega)⟩
 ·obtain rfl : k = l.length := by omega
  try simp (disch := omega) only [go_sem, jA, jB, jC, jD, jE, jF, jG, jH, jI, jJ, ↓reduceIte, reduceCtorEq, jO, jM, jN, jK, jL]
  have : l.findIdx? (fun x => decide (x = c)) = none := by
   rw [List.findIdx?_eq_none_iff]
   intro x hx
   obtain ⟨i, hi⟩ := List.getElem?_of_mem hx
   exact hj i (List.getElem?_eq_some_iff.1 hi).1 x hi
  rw [this]
  exact Pub.pure rfl
theorem ok_slices_Contains__Cause (l : List Cs) (c : Cs) (hl : l.length ≤ 9223372036854775807) : PC prog n_slices_Contains__Cause [.list 2 (css l), csv c] (.bool (l.contains c)) := by
 refine PC_of_body b_slices_Contains__Cause (by simp) ?_
 simp only [c_slices_Contains__Cause, go_sem, jA, jB, jC, jD, jE, jF, jG, jH, jI, jJ, ↓reduceIte, reduceCtorEq, jP, csv]
 try simp (disch := omega) only [go_sem, jA, jB, jC, jD, jE, jF, jG, jH, jI, jJ, ↓reduceIte, reduceCtorEq, jO, jM, jN, jK, jL]
 have hI := ok_slices_Index__Cause l c hl
 simp only [csv] at hI
 refine call_pc hI (by simp [go_sem, css_pur]) ?_
 try simp (disch := omega) only [go_sem, jA, jB, jC, jD, jE, jF, jG, jH, jI, jJ, ↓reduceIte, reduceCtorEq, jO, jM, jN, jK, jL]
 refine Pub.of_eq ?_ rfl
 cases h : l.findIdx? (fun x => decide (x = c)) with
 | none =>
  rw [List.findIdx?_eq_none_iff] at h
  have : l.contains c = false := by
   rw [Bool.eq_false_iff]
   intro hc
   rw [List.contains_iff_mem] at hc
   simpa using h c hc
  rw [this]; rfl
 | some i =>
  rw [List.findIdx?_eq_some_iff_getElem] at h
  obtain ⟨hi, h2, _⟩ := h
  have : l.contains c = true := by
   rw [List.contains_iff_mem]
   rw [← of_decide_eq_true h2]
   exact List.getElem_mem hi
  rw [this]
  simp
theorem ok_cause_at (b : Bo) (p : Int) (h : BoL b) : PC prog n_cause_at [bov b, .int .i64 p] (.tuple [.int .i64 (plI b.ac p), .bool (plB b.ac p)]) := by
 refine PC_of_body b_cause_at (by simp) ?_
 simp only [c_cause_at, go_sem, jA, jB, jC, jD, jE, jF, jG, jH, jI, jJ, ↓reduceIte, reduceCtorEq, jP, bov, wns_length]
 have hl := h.a
 refine awp_upG [4, 5, 6, 7, 11, 12, 13, 14, 15, 16, 17, 18, 19, 20, 21, 22, 23, 24, 25] (by kernel_rfl) b.ac.length (fun k e σ => e 11 = .int .i64 k ∧ σ.ob 0 = some ⟨0, 3, 31, false, true, [.agg [.list 4 (wts b.ps), .list 1 (lls b.pa), .list 4 (wns b.ac)]]⟩ ∧ ∀ j, j < k → ∀ y, b.ac[j]? = some y → decide (p ≤ y.p) = false) ?_ ?_
 ·exact ⟨(by first | rfl | (simp (disch := omega) only [go_sem, jA, jB, jC, jD, jE, jF, jG, jH, jI, jJ, ↓reduceIte, reduceCtorEq, jP, jO, jM, jN]; try rfl)), (by first | rfl | (simp (disch := omega) only [go_sem, jA, jB, jC, jD, jE, jF, jG, jH, jI, jJ, ↓reduceIte, reduceCtorEq, jP, jO, jM, jN]; try rfl)), fun j hj => by omega⟩
 rintro k fe ob m c hk hm ⟨hki, ho, hj⟩
 simp (maxSteps := 1000000) only [go_sem, jA, jB, jC, jD, jE, jF, jG, jH, jI, jJ, ↓reduceIte, reduceCtorEq, jP] at hki hm ho
 try simp (disch := omega) only [go_sem, jA, jB, jC, jD, jE, jF, jG, jH, jI, jJ, ↓reduceIte, reduceCtorEq, jO, jM, jN, jK, jL, hki, wns_length]
 refine cond_d (fun hlt => ?_) (fun hge => ?_)
 ·have hkl : k < b.ac.length := by omega
  have hk2 : b.ac[k]? = some b.ac[k] := List.getElem?_eq_getElem hkl
  have hat := idx_at hkl hj
  have hnx := idx_next hk2 hj
  generalize b.ac[k] = x at *
  have z0 : ¬ 0 = m := by omega
  try simp (disch := omega) only [go_sem, jA, jB, jC, jD, jE, jF, jG, jH, jI, jJ, ↓reduceIte, reduceCtorEq, jO, jM, jN, jK, jL, hki, wns_length, wns_get, hk2, Option.map_some, wnv, ho, z0]
  refine ⟨by omega, by omega, ?_⟩
  refine cond_d (fun hp => ?_) (fun hp => ?_) <;> try simp (disch := omega) only [go_sem, jA, jB, jC, jD, jE, jF, jG, jH, jI, jJ, ↓reduceIte, reduceCtorEq, jO, jM, jN, jK, jL, hki, ho, z0]
  ·have e1 : plI b.ac p = k := hat (by simpa using hp)
   rw [plB, e1, hk2]
   exact Pub.pure rfl
  ·exact up_nextG (m + 1) hkl (by omega) ⟨(by first | rfl | (simp (disch := omega) only [go_sem, jA, jB, jC, jD, jE, jF, jG, jH, jI, jJ, ↓reduceIte, reduceCtorEq, jP, jO, jM, jN]; try rfl)), by try simp (disch := omega) only [go_sem, jA, jB, jC, jD, jE, jF, jG, jH, jI, jJ, ↓reduceIte, reduceCtorEq, jO, jM, jN, jK, jL, z0]; exact ho, hnx (by simpa using hp)⟩
 ·obtain rfl : k = b.ac.length := by omega
  have e1 : plI b.ac p = b.ac.length := idx_no hj
  try simp (disch := omega) only [go_sem, jA, jB, jC, jD, jE, jF, jG, jH, jI, jJ, ↓reduceIte, reduceCtorEq, jO, jM, jN, jK, jL, ho, wns_length]
  rw [plB, e1, List.getElem?_eq_none (Nat.le_refl _)]
  exact Pub.pure rfl
def rdyE (b : Bo) (p : Int) : Int := if vdB b = false then 50 else if p < 0 ∨ b.ps.length ≤ p then 52 else 0
theorem ok_cause_ready (b : Bo) (p : Int) (h : BoL b) : PC prog n_cause_ready [bov b, .int .i64 p] (.int .i64 (rdyE b p)) := by
 refine PC_of_body b_cause_ready (by simp) ?_
 simp only [c_cause_ready, bov]
 have hC := ok_warning_Check b h
 simp only [bov] at hC
 try simp (disch := omega) only [go_sem, jA, jB, jC, jD, jE, jF, jG, jH, jI, jJ, ↓reduceIte, reduceCtorEq, jO, jM, jN, jK, jL]
 refine call_pc hC (by simp [go_sem, wts_pur, lls_pur, wns_pur]) ?_
 cases hv : vdB b <;> try simp (disch := omega) only [go_sem, jA, jB, jC, jD, jE, jF, jG, jH, jI, jJ, ↓reduceIte, reduceCtorEq, jO, jM, jN, jK, jL, chkE, hv, wts_length]
 ·exact Pub.of_eq (by rw [rdyE, if_pos hv]) rfl
 refine gd_fd rfl (fun g1 => ?_) (fun g1 => ?_) <;> try simp (disch := omega) only [go_sem, jA, jB, jC, jD, jE, jF, jG, jH, jI, jJ, ↓reduceIte, reduceCtorEq, jO, jM, jN, jK, jL, wts_length]
 ·exact Pub.of_eq (by rw [rdyE, if_neg (by simp [hv]), if_pos (.inl g1)]) rfl
 refine cond_d (fun g2 => ?_) (fun g2 => ?_) <;> try simp (disch := omega) only [go_sem, jA, jB, jC, jD, jE, jF, jG, jH, jI, jJ, ↓reduceIte, reduceCtorEq, jO, jM, jN, jK, jL, wts_length]
 ·exact Pub.of_eq (by rw [rdyE, if_neg (by simp [hv]), if_pos (.inr g2)]) rfl
 exact Pub.of_eq (by rw [rdyE, if_neg (by simp [hv]), if_neg (by omega)]) rfl
def wnJ (l : List Wn) (j : Nat) (E : AV) (k : Nat) : List AV := (wns (l.take k)).set j (wnX (gA l j) E)
theorem wnJ_len (l : List Wn) (j : Nat) (E : AV) (k : Nat) : (wnJ l j E k).length ≤ k := by rw [wnJ, List.length_set, wns_length, List.length_take]; omega
theorem wnJ_le {l : List Wn} {j k : Nat} {E : AV} (h : k ≤ j) : wnJ l j E k = wns (l.take k) := by
 rw [wnJ, List.set_eq_of_length_le]; rw [wns_length, List.length_take]; omega
theorem wnJ_snoc {l : List Wn} {j k : Nat} {E : AV} (hk : k < l.length) (h : k ≠ j) : wnJ l j E (k + 1) = wnJ l j E k ++ [wnv l[k]] := by
 have h1 : wns (l.take (k + 1)) = wns (l.take k) ++ [wnv l[k]] := by rw [wns_snoc, List.take_add_one, List.getElem?_eq_getElem hk]; rfl
 have h2 : (wns (l.take k)).length = k := by rw [wns_length, List.length_take]; omega
 rw [wnJ, wnJ, h1, List.set_append]
 split
 ·rfl
 ·rename_i h3
  rw [h2] at h3
  rw [List.set_eq_of_length_le (by simp; omega), List.set_eq_of_length_le (by omega)]
theorem wnJ_at {l : List Wn} {j : Nat} {E F : AV} (hj : j < l.length) : wnJ l j E (j + 1) = wnJ l j F j ++ [wnX (gA l j) E] := by
 have h1 : wns (l.take (j + 1)) = wns (l.take j) ++ [wnv l[j]] := by rw [wns_snoc, List.take_add_one, List.getElem?_eq_getElem hj]; rfl
 have h2 : (wns (l.take j)).length = j := by rw [wns_length, List.length_take]; omega
 rw [wnJ_le (Nat.le_refl _), wnJ, h1, List.set_append, if_neg (by omega), h2, Nat.sub_self]; rfl
theorem gA_eq {l : List Wn} {j : Nat} (h : j < l.length) : gA l j = l[j] := by simp [gA, List.getD_eq_getElem?_getD, h]
def CpJ (σ : St) (b : Bo) (j : Nat) (r : AV) (τ : St) : Prop :=
 ∃ Y X E, r = .agg [.list 4 (wts b.ps), Y, X] ∧ SlR 1 tyL τ (lls b.pa) Y ∧ SlR 4 tyA τ (wnJ b.ac j E b.ac.length) X ∧ (b.ac.length ≤ j → E = .nil) ∧ (j < b.ac.length → SlR 2 tyC τ (css (gA b.ac j).cs) E) ∧ σ.n ≤ τ.n ∧
  (∀ i, ¬ Oth Y i → σ.n ≤ i ∧ Oth X i ∧ Oth E i) ∧ (∀ i, ¬ Oth X i → σ.n ≤ i ∧ Oth E i) ∧ (∀ i, ¬ Oth E i → σ.n ≤ i) ∧ ∀ i, i < σ.n → τ.ob i = σ.ob i
theorem hc0_cause_copied (σ : St) (b : Bo) (j : Nat) (hV : Vb b) : HC prog n_cause_copied [bov b] σ (CpJ σ b j) := by
 obtain ⟨ob0, n0, c0⟩ := σ
 have hp8 := hV.p
 have ha8 := hV.a1
 have hpa8 : b.pa.length ≤ 8 := by have := hV.q; omega
 refine HC_of_body b_cause_copied (by simp) ?_
 simp only [c_cause_copied, bov]
 try simp (disch := omega) only [go_sem, jA, jB, jC, jD, jE, jF, jG, jH, jI, jJ, ↓reduceIte, reduceCtorEq, jO, jM, jN, jK, jL]
 refine call_pc (okl_slices_Clone__Watch (wts b.ps) (by rw [wts_length]; omega) (wts_pur _) (wts_ok _)) (by simp [go_sem, wts_pur]) ?_
 have z0 : ¬ n0 = n0 + 2 := by omega
 have z1 : ¬ n0 + 1 = n0 + 2 := by omega
 try simp (disch := omega) only [go_sem, jA, jB, jC, jD, jE, jF, jG, jH, jI, jJ, ↓reduceIte, reduceCtorEq, jO, jM, jN, jK, jL, z0, z1]
 have zz0 : ¬ n0 = n0 + 1 := by omega
 try simp (disch := omega) only [go_sem, jA, jB, jC, jD, jE, jF, jG, jH, jI, jJ, ↓reduceIte, reduceCtorEq, jO, jM, jN, jK, jL, lls_length, zz0]
 refine awp_upG [5, 15, 16, 17, 18, 19, 20, 21, 22, 23, 24, 25, 26] (by kernel_rfl) b.pa.length (fun k e σ => e 15 = .int .i64 k ∧ n0 + 3 ≤ σ.n ∧ (∀ i, i < n0 → σ.ob i = ob0 i) ∧ σ.ob n0 = some ⟨c0, 3, 31, false, true, [.agg [.list 4 (wts b.ps), .list 1 (lls b.pa), .list 4 (wns b.ac)]]⟩ ∧ σ.ob (n0 + 1) = some ⟨c0 + 1, 3, 31, false, true, [.agg [.nil, .nil, .nil]]⟩ ∧
  ∃ Y, σ.ob (n0 + 2) = some ⟨c0 + 2, 3, 31, false, true, [.agg [.list 4 (wts b.ps), Y, .nil]]⟩ ∧ SlR 1 tyL σ (lls (b.pa.take k)) Y ∧ ∀ i, ¬ Oth Y i → n0 + 3 ≤ i) ?_ ?_
 ·refine ⟨(by first | rfl | (simp (disch := omega) only [go_sem, jA, jB, jC, jD, jE, jF, jG, jH, jI, jJ, ↓reduceIte, reduceCtorEq, jP, jO, jM, jN]; try rfl)), by simp only; omega, fun i hi => ?_, by try simp (disch := omega) only [go_sem, jA, jB, jC, jD, jE, jF, jG, jH, jI, jJ, ↓reduceIte, reduceCtorEq, jO, jM, jN, jK, jL, zz0, z0], by try simp (disch := omega) only [go_sem, jA, jB, jC, jD, jE, jF, jG, jH, jI, jJ, ↓reduceIte, reduceCtorEq, jO, jM, jN, jK, jL, zz0, z1], .nil, by try simp (disch := omega) only [go_sem, jA, jB, jC, jD, jE, jF, jG, jH, jI, jJ, ↓reduceIte, reduceCtorEq, jO, jM, jN, jK, jL], SlR.nil, fun i hi => absurd (Oth.nil i) hi⟩
  have y0 : ¬ i = n0 := by omega
  have y1 : ¬ i = n0 + 1 := by omega
  have y2 : ¬ i = n0 + 2 := by omega
  try simp (disch := omega) only [go_sem, jA, jB, jC, jD, jE, jF, jG, jH, jI, jJ, ↓reduceIte, reduceCtorEq, jO, jM, jN, jK, jL, y0, y1, y2]
 rintro k fe ob m c hk hm ⟨h15, hm1, ho, v0, v1, Y, v2, hY, hYn⟩
 simp (maxSteps := 1000000) only [go_sem, jA, jB, jC, jD, jE, jF, jG, jH, jI, jJ, ↓reduceIte, reduceCtorEq, jP] at h15 hm hm1 ho v0 v1 v2
 try simp (disch := omega) only [go_sem, jA, jB, jC, jD, jE, jF, jG, jH, jI, jJ, ↓reduceIte, reduceCtorEq, jO, jM, jN, jK, jL, h15, lls_length]
 refine cond_d (fun hlt => ?_) (fun hge => ?_)
 ·have hkl : k < b.pa.length := by omega
  have hk2 : b.pa[k]? = some b.pa[k] := List.getElem?_eq_getElem hkl
  obtain ⟨hxl, _⟩ := hV.l1 _ (List.getElem_mem hkl)
  have htk : lls (b.pa.take (k + 1)) = lls (b.pa.take k) ++ [.list 1 (ints b.pa[k])] := by rw [take_snoc _ _ hkl, ← lls_snoc]
  generalize b.pa[k] = l at *
  try simp (disch := omega) only [go_sem, jA, jB, jC, jD, jE, jF, jG, jH, jI, jJ, ↓reduceIte, reduceCtorEq, jO, jM, jN, jK, jL, h15, lls_length, lls_get, hk2, Option.map_some, v2]
  refine ⟨by omega, by omega, ?_⟩
  refine call_pc (okl_slices_Clone__int (ints l) (by rw [ints_length]; omega) (ints_pur _) (ints_ok _)) (by simp [go_sem, ints_pur]) ?_
  try simp (disch := omega) only [go_sem, jA, jB, jC, jD, jE, jF, jG, jH, jI, jJ, ↓reduceIte, reduceCtorEq, jO, jM, jN, jK, jL, v2]
  have hyl : (lls (b.pa.take k)).length = k := by simp [lls]; omega
  refine app_slr (L := lls (b.pa.take k)) (b := 24) hY (by omega) (by omega) fun Y' τ hY' kY => ?_
  obtain ⟨ob4, m4, c4⟩ := τ
  have q1 : m ≤ m4 := kY.1
  have q2 : ∀ i, i < n0 + 3 → ob4 i = ob i := fun i hi => kY.2.1 i (by simp only; omega) (Oth.em fun h => by have := hYn i h; omega)
  have u2 := (q2 (n0 + 2) (by omega)).trans v2
  try simp (disch := omega) only [go_sem, jA, jB, jC, jD, jE, jF, jG, jH, jI, jJ, ↓reduceIte, reduceCtorEq, jO, jM, jN, jK, jL, u2, hY'.flat, hY'.cells, hY'.one, h15]
  have hF : ∀ (v : Option AObj) i, i < m4 → i ≠ n0 + 2 → ((⟨upd ob4 (n0 + 2) v, m4, c4⟩ : St).trunc m4).ob i = ob4 i := fun v i hi hne => by
   simp only [St.trunc, if_pos hi]; rw [upd_ne _ _ _ _ hne]
  have hYn' : ∀ i, ¬ Oth Y' i → n0 + 3 ≤ i := fun i hi => Nat.le_of_not_lt fun hh => hi (kY.2.2 i (by simp only; omega) (Oth.em fun h => by have := hYn i h; omega))
  refine up_nextG m4 hkl (by omega) ⟨(by first | rfl | (simp (disch := omega) only [go_sem, jA, jB, jC, jD, jE, jF, jG, jH, jI, jJ, ↓reduceIte, reduceCtorEq, jP, jO, jM, jN]; try rfl)), by simp only [St.trunc]; omega, fun i hi => ?_, ?_, ?_, Y', ?_, ?_, hYn'⟩
  ·rw [hF _ i (by omega) (by omega), q2 i (by omega), ho i hi]
  ·rw [hF _ n0 (by omega) (by omega), q2 n0 (by omega), v0]
  ·rw [hF _ (n0 + 1) (by omega) (by omega), q2 (n0 + 1) (by omega), v1]
  ·simp only [St.trunc, if_pos (show n0 + 2 < m4 by omega), upd_same]
  ·rw [htk]
   refine hY'.move (by simp only [St.trunc]; omega) fun i hi hh => ?_
   have := hYn' i hh
   simp only at hi ⊢
   rw [hF _ i (by omega) (by omega)]
 obtain rfl : k = b.pa.length := by omega
 rw [List.take_length] at hY
 clear h15 hge
 try simp (disch := omega) only [go_sem, jA, jB, jC, jD, jE, jF, jG, jH, jI, jJ, ↓reduceIte, reduceCtorEq, jO, jM, jN, jK, jL, v0, wns_length]
 refine awp_upG [7, 30, 31, 32, 33, 34, 35, 36, 37, 38, 39, 40, 41, 42, 43, 44] (by kernel_rfl) b.ac.length (fun k e σ => e 30 = .int .i64 k ∧ m ≤ σ.n ∧ (∀ i, i < m → i ≠ n0 + 2 → σ.ob i = ob i) ∧
  ∃ X E, σ.ob (n0 + 2) = some ⟨c0 + 2, 3, 31, false, true, [.agg [.list 4 (wts b.ps), Y, X]]⟩ ∧ SlR 4 tyA σ (wnJ b.ac j E k) X ∧ (k ≤ j → E = .nil) ∧ (j < k → SlR 2 tyC σ (css (gA b.ac j).cs) E) ∧ (∀ i, ¬ Oth X i → m ≤ i ∧ Oth E i) ∧ ∀ i, ¬ Oth E i → m ≤ i) ?_ ?_
 ·exact ⟨(by first | rfl | (simp (disch := omega) only [go_sem, jA, jB, jC, jD, jE, jF, jG, jH, jI, jJ, ↓reduceIte, reduceCtorEq, jP, jO, jM, jN]; try rfl)), Nat.le_refl _, fun i hi _ => rfl, .nil, .nil, v2, by simp [wnJ, wns]; exact SlR.nil, fun _ => rfl, fun h => by omega, fun i hi => absurd (Oth.nil i) hi, fun i hi => absurd (Oth.nil i) hi⟩
 rintro k fe2 ob5 m5 c5 hk5 hm5 ⟨h30, hm6, ho5, X, E, w2, hX, hE0, hE1, hXn, hEn⟩
 simp (maxSteps := 1000000) only [go_sem, jA, jB, jC, jD, jE, jF, jG, jH, jI, jJ, ↓reduceIte, reduceCtorEq, jP] at h30 hm5 hm6 ho5 w2
 try simp (disch := omega) only [go_sem, jA, jB, jC, jD, jE, jF, jG, jH, jI, jJ, ↓reduceIte, reduceCtorEq, jO, jM, jN, jK, jL, h30, wns_length]
 refine cond_d (fun hlt => ?_) (fun hge => ?_)
 ·have hkl : k < b.ac.length := by omega
  have hk2 : b.ac[k]? = some b.ac[k] := List.getElem?_eq_getElem hkl
  have hcl := wnB_cs (hV.wn _ (List.getElem_mem hkl))
  have hJl := wnJ_len b.ac j E k
  have z3 : ¬ n0 + 2 = m5 := by omega
  have z4 : ¬ m5 = n0 + 2 := by omega
  have oX : ∀ i, i < m → Oth X i := fun i hi => Oth.em fun h => by have := (hXn i h).1; omega
  have oE : ∀ i, i < m → Oth E i := fun i hi => Oth.em fun h => by have := hEn i h; omega
  by_cases hkj : k = j
  ·subst hkj
   obtain rfl := hE0 (Nat.le_refl _)
   have hat : ∀ F, wnJ b.ac k F (k + 1) = wnJ b.ac k .nil k ++ [wnX b.ac[k] F] := fun F => by rw [wnJ_at (F := .nil) hkl, gA_eq hkl]
   rw [gA_eq hkl] at hE1 ⊢
   generalize b.ac[k] = w at *
   try simp (disch := omega) only [go_sem, jA, jB, jC, jD, jE, jF, jG, jH, jI, jJ, ↓reduceIte, reduceCtorEq, jO, jM, jN, jK, jL, h30, wns_length, wns_get, hk2, Option.map_some, wnv]
   refine ⟨by omega, by omega, ?_⟩
   refine HC.mono (hcl_slices_Clone__Cause _ (css w.cs) (by rw [css_length]; omega)) ?_
   intro F τ hN
   obtain ⟨hF1, hF2, hF3, hF4⟩ := hN.slr
   obtain ⟨ob6, m6, c6⟩ := τ
   have f2 : m5 + 1 ≤ m6 := hF2
   have f3 : ∀ i, i < m5 → ob6 i = ob5 i := fun i hi => (hF3 i (by simp only; omega)).trans (by simp only; rw [upd_ne _ _ _ _ (by omega), upd_ne _ _ _ _ (by omega)])
   have f4 : ∀ i, i < m5 + 1 → Oth F i := fun i hi => hF4 i (by simp only; omega)
   have f5 := hF3 m5 (by simp only; omega)
   simp only [upd_same] at f5
   have u2 := (f3 (n0 + 2) (by omega)).trans w2
   have z6 : ¬ m5 = m6 := by omega
   have z7 : ¬ n0 + 2 = m6 := by omega
   try simp (disch := omega) only [go_sem, jA, jB, jC, jD, jE, jF, jG, jH, jI, jJ, ↓reduceIte, reduceCtorEq, jO, jM, jN, jK, jL, hF1.flat, hF1.cells, hF1.one, f5, u2, z3, z4, z6, z7]
   refine app_er (ER.of_sl (L := [wnX w F]) (upd_same _ _ _) (Nat.lt_succ_self _)) ?_
   refine app_slr (b := 48) (hX.move (by simp only; omega) fun i hi hh => ?_) (by omega) (by omega) fun X' τ2 hX2 kX => ?_
   ·simp only at hi ⊢
    rw [upd_ne _ _ _ _ (by omega), upd_ne _ _ _ _ (by omega), f3 i hi]
   obtain ⟨ob7, m7, c7⟩ := τ2
   have q1 : m6 + 1 ≤ m7 := kX.1
   have q2 : ∀ i, i < m → ob7 i = ob5 i := fun i hi => (kX.2.1 i (by simp only; omega) (oX i hi)).trans (by simp only; rw [upd_ne _ _ _ _ (by omega), upd_ne _ _ _ _ (by omega), f3 i (by omega)])
   have q3 : ∀ i, m5 + 1 ≤ i → i < m6 → ob7 i = ob6 i := fun i hi hi2 => (kX.2.1 i (by simp only; omega) (hX.oth (by simp only; omega))).trans (by simp only; rw [upd_ne _ _ _ _ (by omega), upd_ne _ _ _ _ (by omega)])
   have hFi : ∀ i, ¬ Oth F i → m5 + 1 ≤ i ∧ i < m6 := fun i hi => ⟨Nat.le_of_not_lt fun h => hi (f4 i h), hF1.lt hi⟩
   have u7 := (q2 (n0 + 2) (by omega)).trans w2
   try simp (disch := omega) only [go_sem, jA, jB, jC, jD, jE, jF, jG, jH, jI, jJ, ↓reduceIte, reduceCtorEq, jO, jM, jN, jK, jL, u7, hX2.flat, hX2.cells, hX2.one, h30]
   have hG : ∀ (v : Option AObj) i, i < m7 → i ≠ n0 + 2 → ((⟨upd ob7 (n0 + 2) v, m7, c7⟩ : St).trunc m7).ob i = ob7 i := fun v i hi hne => by
    simp only [St.trunc, if_pos hi]; rw [upd_ne _ _ _ _ hne]
   have oX' : ∀ i, i < m → Oth X' i := fun i hi => kX.2.2 i (by simp only; omega) (oX i hi)
   refine up_nextG m7 hkl (by omega) ⟨(by first | rfl | (simp (disch := omega) only [go_sem, jA, jB, jC, jD, jE, jF, jG, jH, jI, jJ, ↓reduceIte, reduceCtorEq, jP, jO, jM, jN]; try rfl)), by simp only [St.trunc]; omega, fun i hi hne => ?_, X', F, ?_, ?_, fun h => by omega, fun _ => ?_, fun i hi => ?_, fun i hi => ?_⟩
   ·rw [hG _ i (by omega) hne, q2 i hi, ho5 i hi hne]
   ·simp only [St.trunc, if_pos (show n0 + 2 < m7 by omega), upd_same]
   ·rw [hat]
    refine hX2.move (by simp only [St.trunc]; omega) fun i hi hh => ?_
    have h1 : m ≤ i := Nat.le_of_not_lt fun h => hh (oX' i h)
    simp only at hi ⊢
    rw [hG _ i (by omega) (by omega)]
   ·refine hF1.move (by simp only [St.trunc]; omega) fun i hi hh => ?_
    have h1 := hFi i hh
    rw [hG _ i (by omega) (by omega), q3 i h1.1 h1.2]
   ·refine ⟨Nat.le_of_not_lt fun h => hi (oX' i h), Oth.em fun hh => ?_⟩
    have h1 := hFi i hh
    exact hi (kX.2.2 i (by simp only; omega) (hX.oth (by simp only; omega)))
   ·have := hFi i hi; omega
  ·have hsn := wnJ_snoc (E := E) hkl hkj
   generalize b.ac[k] = w at *
   try simp (disch := omega) only [go_sem, jA, jB, jC, jD, jE, jF, jG, jH, jI, jJ, ↓reduceIte, reduceCtorEq, jO, jM, jN, jK, jL, h30, wns_length, wns_get, hk2, Option.map_some, wnv]
   refine ⟨by omega, by omega, ?_⟩
   refine call_pc (okl_slices_Clone__Cause (css w.cs) (by rw [css_length]; omega) (css_pur _) (css_ok _)) (by simp [go_sem, css_pur]) ?_
   have z6 : ¬ m5 = m5 + 1 := by omega
   have z7 : ¬ n0 + 2 = m5 + 1 := by omega
   try simp (disch := omega) only [go_sem, jA, jB, jC, jD, jE, jF, jG, jH, jI, jJ, ↓reduceIte, reduceCtorEq, jO, jM, jN, jK, jL, w2, z3, z4, z6, z7]
   refine app_er (ER.of_sl (L := [wnv w]) (upd_same _ _ _) (Nat.lt_succ_self _)) ?_
   refine app_slr (b := 48) (hX.move (by simp only; omega) fun i hi hh => ?_) (by omega) (by omega) fun X' τ2 hX2 kX => ?_
   ·simp only at hi ⊢
    rw [upd_ne _ _ _ _ (by omega), upd_ne _ _ _ _ (by omega), upd_ne _ _ _ _ (by omega), upd_ne _ _ _ _ (by omega)]
   obtain ⟨ob7, m7, c7⟩ := τ2
   have q1 : m5 + 2 ≤ m7 := kX.1
   have q2 : ∀ i, i < m5 → Oth X i → ob7 i = ob5 i := fun i hi ho => (kX.2.1 i (by simp only; omega) ho).trans (by simp only; rw [upd_ne _ _ _ _ (by omega), upd_ne _ _ _ _ (by omega), upd_ne _ _ _ _ (by omega), upd_ne _ _ _ _ (by omega)])
   have u7 := (q2 (n0 + 2) (by omega) (oX _ (by omega))).trans w2
   try simp (disch := omega) only [go_sem, jA, jB, jC, jD, jE, jF, jG, jH, jI, jJ, ↓reduceIte, reduceCtorEq, jO, jM, jN, jK, jL, u7, hX2.flat, hX2.cells, hX2.one, h30]
   have hG : ∀ (v : Option AObj) i, i < m7 → i ≠ n0 + 2 → ((⟨upd ob7 (n0 + 2) v, m7, c7⟩ : St).trunc m7).ob i = ob7 i := fun v i hi hne => by
    simp only [St.trunc, if_pos hi]; rw [upd_ne _ _ _ _ hne]
   have oX' : ∀ i, i < m → Oth X' i := fun i hi => kX.2.2 i (by simp only; omega) (oX i hi)
   refine up_nextG m7 hkl (by omega) ⟨(by first | rfl | (simp (disch := omega) only [go_sem, jA, jB, jC, jD, jE, jF, jG, jH, jI, jJ, ↓reduceIte, reduceCtorEq, jP, jO, jM, jN]; try rfl)), by simp only [St.trunc]; omega, fun i hi hne => ?_, X', E, ?_, ?_, fun h => hE0 (by omega), fun h => ?_, fun i hi => ⟨Nat.le_of_not_lt fun h => hi (oX' i h), Oth.em fun hh => ?_⟩, hEn⟩
   ·rw [hG _ i (by omega) hne, q2 i (by omega) (oX i hi), ho5 i hi hne]
   ·simp only [St.trunc, if_pos (show n0 + 2 < m7 by omega), upd_same]
   ·rw [hsn]
    refine hX2.move (by simp only [St.trunc]; omega) fun i hi hh => ?_
    have h1 : m ≤ i := Nat.le_of_not_lt fun h => hh (oX' i h)
    simp only at hi ⊢
    rw [hG _ i (by omega) (by omega)]
   ·refine (hE1 (by omega)).move (by simp only [St.trunc]; omega) fun i hi hh => ?_
    have h1 := hEn i hh
    simp only at hi
    rw [hG _ i (by omega) (by omega), q2 i hi (Oth.em fun hx => hh (hXn i hx).2)]
   ·have h1 : i < m5 := by
     by_cases hjk : j < k
     ·exact (hE1 hjk).lt hh
     ·obtain rfl := hE0 (by omega)
      exact absurd (Oth.nil i) hh
    exact hi (kX.2.2 i (by simp only; omega) (Oth.em fun hx => hh (hXn i hx).2))
 ·obtain rfl : k = b.ac.length := by omega
  have y1 : ob5 (n0 + 1) = some ⟨c0 + 1, 3, 31, false, true, [.agg [.nil, .nil, .nil]]⟩ := by rw [ho5 (n0 + 1) (by omega) (by omega), v1]
  have y0 : ob5 n0 = some ⟨c0, 3, 31, false, true, [.agg [.list 4 (wts b.ps), .list 1 (lls b.pa), .list 4 (wns b.ac)]]⟩ := by rw [ho5 n0 (by omega) (by omega), v0]
  try simp (disch := omega) only [go_sem, jA, jB, jC, jD, jE, jF, jG, jH, jI, jJ, ↓reduceIte, reduceCtorEq, jO, jM, jN, jK, jL, w2, y1, y0, hY.one, hX.one, hY.flat, hX.flat, hY.cells, hX.cells]
  have hup : ∀ (v : Option AObj) i, i ≠ n0 + 1 → upd ob5 (n0 + 1) v i = ob5 i := fun v i hne => upd_ne _ _ _ _ hne
  refine ⟨Y, X, E, rfl, ?_, ?_, hE0, fun h => ?_, by simp only; omega, fun i hi => ⟨by have := hYn i hi; simp only; omega, Oth.em fun h => ?_, Oth.em fun h => ?_⟩, fun i hi => ⟨by have := (hXn i hi).1; simp only; omega, (hXn i hi).2⟩, fun i hi => by have := hEn i hi; simp only; omega, fun i hi => ?_⟩
  ·refine hY.move (by simp only; omega) fun i hi hh => ?_
   have := hYn i hh
   simp only at hi ⊢
   rw [hup _ i (by omega), ho5 i hi (by omega)]
  ·refine hX.move (Nat.le_refl _) fun i hi hh => ?_
   have := (hXn i hh).1
   simp only
   rw [hup _ i (by omega)]
  ·refine (hE1 h).move (Nat.le_refl _) fun i hi hh => ?_
   have := hEn i hh
   simp only
   rw [hup _ i (by omega)]
  ·have := (hXn i h).1; exact absurd (hY.lt hi) (by simp only; omega)
  ·have := hEn i h; exact absurd (hY.lt hi) (by simp only; omega)
  ·simp only at hi ⊢
   rw [hup _ i (by omega), ho5 i (by omega) (by omega), ho i hi]
end Go.Proofs.Try
