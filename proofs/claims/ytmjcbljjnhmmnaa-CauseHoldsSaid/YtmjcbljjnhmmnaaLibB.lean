/- OWN WORK, put together by tools/asm.py, seat.py, mini.py. -/
import Derived.Test.YtmjcbljjnhmmnaaLib
set_option linter.unusedSimpArgs false
set_option linter.unusedVariables false
set_option maxRecDepth 100000
set_option maxHeartbeats 1000000
namespace Go.Proofs.Try
open Go.Ab Go
open Int renaming reduceEq → jA, reduceLT → jB, reduceLE → jC, reduceToNat → jD
open Go.Ab renaming w_ite_ne → jM, w_ite_lt → jN, wrap_id → jO, w_app_nl → jP
open Nat renaming reduceLT → jE, reduceEqDiff → jF, reduceAdd → jG, reduceLeDiff → jH, reduceSub → jI, reduceMul → jJ, sub_zero → jK, sub_self → jL
theorem ok_warning_beyond (x : Int) : PC prog n_warning_beyond [.int .i64 x] (.bool (!flB x)) := by
 refine PC_of_body b_warning_beyond (by simp) ?_
 simp only [c_warning_beyond, go_sem, jA, jB, jC, jD, jE, jF, jG, jH, jI, jJ, ↓reduceIte, reduceCtorEq, jP]
 refine gd_fd rfl (fun h => ?_) (fun h => ?_) <;> try simp (disch := omega) only [go_sem, jA, jB, jC, jD, jE, jF, jG, jH, jI, jJ, ↓reduceIte, reduceCtorEq, jO, jM, jN, jK, jL]
 ·exact Pub.of_eq (by congr 1; rw [Bool.eq_iff_iff]; simp [flB, inW]; omega) rfl
 ·exact Pub.of_eq (by congr 1; rw [Bool.eq_iff_iff]; simp [flB, inW]; omega) rfl
theorem ok_ref36_in (x a b : Int) : PC prog n_ref36_in [.int .i64 x, .int .i64 a, .int .i64 b] (.bool (inW x a b)) := by
 refine PC_of_body b_ref36_in (by simp) ?_
 simp only [c_ref36_in, go_sem, jA, jB, jC, jD, jE, jF, jG, jH, jI, jJ, ↓reduceIte, reduceCtorEq, jP]
 refine gd_td rfl (fun h => ?_) (fun h => ?_) <;> try simp (disch := omega) only [go_sem, jA, jB, jC, jD, jE, jF, jG, jH, jI, jJ, ↓reduceIte, reduceCtorEq, jO, jM, jN, jK, jL]
 ·exact Pub.of_eq (by simp [inW, h]) rfl
 ·exact Pub.of_eq (by simp [inW, h]) rfl
theorem ok_beyonds (l : List Int) (hl : l.length ≤ 9223372036854775807) : PC prog n_slices_ContainsFunc__int [.list 1 (ints l), .func n_warning_beyond []] (.bool (!flsB l)) := by
 have h := ok_slices_ContainsFunc__int l hl n_warning_beyond [] rfl (fun x => !flB x) (fun x _ => ok_warning_beyond x)
 have e : (l.any fun x => !flB x) = !flsB l := by simp [flsB, List.not_all_eq_any_not]
 rwa [e] at h
theorem ok_ref36_flows (l : List Int) (hl : l.length ≤ 9223372036854775807) : PC prog n_ref36_flows [.list 1 (ints l)] (.bool (flsB l)) := by
 refine PC_of_body b_ref36_flows (by simp) ?_
 simp only [c_ref36_flows, go_sem, jA, jB, jC, jD, jE, jF, jG, jH, jI, jJ, ↓reduceIte, reduceCtorEq, jP, ints_length]
 refine awp_upF [2, 4, 7, 8, 9, 10, 11, 12, 13, 14] (by kernel_rfl) l.length (fun k e _ => e 7 = .int .i64 k ∧ (l.take k).all flB = true) ?_ ?_
 ·exact ⟨(by first | rfl | (simp (disch := omega) only [go_sem, jA, jB, jC, jD, jE, jF, jG, jH, jI, jJ, ↓reduceIte, reduceCtorEq, jP, jO, jM, jN]; try rfl)), by simp⟩
 ·rintro k fe ob c hk ⟨h7, hj⟩
  simp (maxSteps := 1000000) only [go_sem, jA, jB, jC, jD, jE, jF, jG, jH, jI, jJ, ↓reduceIte, reduceCtorEq, jP] at h7
  try simp (disch := omega) only [go_sem, jA, jB, jC, jD, jE, jF, jG, jH, jI, jJ, ↓reduceIte, reduceCtorEq, jO, jM, jN, jK, jL, h7, ints_length]
  refine cond_d (fun hlt => ?_) (fun hge => ?_)
  ·have hkl : k < l.length := by omega
   have hk2 : l[k]? = some l[k] := List.getElem?_eq_getElem hkl
   have hgo := all_go (p := flB) hkl hj
   have hbad := all_bad (p := flB) hkl
   generalize l[k] = x at *
   try simp (disch := omega) only [go_sem, jA, jB, jC, jD, jE, jF, jG, jH, jI, jJ, ↓reduceIte, reduceCtorEq, jO, jM, jN, jK, jL, h7, ints_length, ints_get, hk2]
   refine ⟨by omega, by omega, ?_⟩
   refine call_pc (ok_ref36_in x 0 1073741824) (by simp [go_sem]) ?_
   cases hp : inW x 0 1073741824 <;> try simp (disch := omega) only [go_sem, jA, jB, jC, jD, jE, jF, jG, jH, jI, jJ, ↓reduceIte, reduceCtorEq, jO, jM, jN, jK, jL, h7]
   ·exact Pub.of_eq (by rw [show flsB l = false from hbad hp]) rfl
   ·exact up_next hkl ⟨(by first | rfl | (simp (disch := omega) only [go_sem, jA, jB, jC, jD, jE, jF, jG, jH, jI, jJ, ↓reduceIte, reduceCtorEq, jP, jO, jM, jN]; try rfl)), hgo hp⟩
  ·try simp (disch := omega) only [go_sem, jA, jB, jC, jD, jE, jF, jG, jH, jI, jJ, ↓reduceIte, reduceCtorEq, jO, jM, jN, jK, jL]
   have : k = l.length := by omega
   subst this
   rw [List.take_length] at hj
   exact Pub.of_eq (by rw [show flsB l = true from hj]) rfl
theorem ok_warning_watched (l : List Wt) (hl : l.length ≤ 9223372036854775807) : PC prog n_warning_watched [.list 4 (wts l)] (.int .i64 (watE l)) := by
 refine PC_of_body b_warning_watched (by simp) ?_
 simp only [c_warning_watched, go_sem, jA, jB, jC, jD, jE, jF, jG, jH, jI, jJ, ↓reduceIte, reduceCtorEq, jP, wts_length]
 refine cond_d (fun h0 => ?_) (fun h0 => ?_) <;> try simp (disch := omega) only [go_sem, jA, jB, jC, jD, jE, jF, jG, jH, jI, jJ, ↓reduceIte, reduceCtorEq, jO, jM, jN, jK, jL, wts_length]
 ·exact Pub.of_eq (by rw [watE, if_pos (by omega)]) rfl
 refine awp_upF [2, 4, 10, 11, 12, 13, 14, 15, 16, 17, 18, 19, 20, 21, 22, 23, 24, 25, 26, 27, 28, 29, 30, 31, 32, 33, 34, 35, 36, 37, 38, 39, 40, 41, 42, 43, 44, 45, 46, 47] (by kernel_rfl) l.length (fun k e _ => e 10 = .int .i64 k ∧ (l.take k).all wtB = true) ?_ ?_
 ·exact ⟨(by first | rfl | (simp (disch := omega) only [go_sem, jA, jB, jC, jD, jE, jF, jG, jH, jI, jJ, ↓reduceIte, reduceCtorEq, jP, jO, jM, jN]; try rfl)), by simp⟩
 ·rintro k fe ob c hk ⟨h10, hj⟩
  simp (maxSteps := 1000000) only [go_sem, jA, jB, jC, jD, jE, jF, jG, jH, jI, jJ, ↓reduceIte, reduceCtorEq, jP] at h10
  try simp (disch := omega) only [go_sem, jA, jB, jC, jD, jE, jF, jG, jH, jI, jJ, ↓reduceIte, reduceCtorEq, jO, jM, jN, jK, jL, h10, wts_length]
  refine cond_d (fun hlt => ?_) (fun hge => ?_)
  ·have hkl : k < l.length := by omega
   have hk2 : l[k]? = some l[k] := List.getElem?_eq_getElem hkl
   have hgo := all_go (p := wtB) hkl hj
   have hbad : wtB l[k] = false → ∀ {σ : St}, Pub σ (.int .i64 52) (.int .i64 (watE l)) := fun h σ =>
    Pub.of_eq (by rw [watE, if_neg (by omega), all_bad (p := wtB) hkl h]; rfl) rfl
   generalize l[k] = x at *
   try simp (disch := omega) only [go_sem, jA, jB, jC, jD, jE, jF, jG, jH, jI, jJ, ↓reduceIte, reduceCtorEq, jO, jM, jN, jK, jL, h10, wts_length, wts_get, hk2, Option.map_some, wtv]
   refine ⟨by omega, by omega, ?_⟩
   refine gd_fd rfl (fun g1 => ?_) (fun g1 => ?_) <;> try simp (disch := omega) only [go_sem, jA, jB, jC, jD, jE, jF, jG, jH, jI, jJ, ↓reduceIte, reduceCtorEq, jO, jM, jN, jK, jL]
   ·exact hbad (by simp [wtB, inW]; omega)
   refine gd_fd rfl (fun g2 => ?_) (fun g2 => ?_) <;> try simp (disch := omega) only [go_sem, jA, jB, jC, jD, jE, jF, jG, jH, jI, jJ, ↓reduceIte, reduceCtorEq, jO, jM, jN, jK, jL]
   ·exact hbad (by simp [wtB, inW]; omega)
   refine gd_fd rfl (fun g3 => ?_) (fun g3 => ?_) <;> try simp (disch := omega) only [go_sem, jA, jB, jC, jD, jE, jF, jG, jH, jI, jJ, ↓reduceIte, reduceCtorEq, jO, jM, jN, jK, jL]
   ·exact hbad (by simp [wtB, inW]; omega)
   refine gd_fd rfl (fun g4 => ?_) (fun g4 => ?_) <;> try simp (disch := omega) only [go_sem, jA, jB, jC, jD, jE, jF, jG, jH, jI, jJ, ↓reduceIte, reduceCtorEq, jO, jM, jN, jK, jL]
   ·exact hbad (by simp [wtB, inW]; omega)
   refine gd_fd rfl (fun g5 => ?_) (fun g5 => ?_) <;> try simp (disch := omega) only [go_sem, jA, jB, jC, jD, jE, jF, jG, jH, jI, jJ, ↓reduceIte, reduceCtorEq, jO, jM, jN, jK, jL]
   ·exact hbad (by simp [wtB, inW]; omega)
   refine gd_fd rfl (fun g6 => ?_) (fun g6 => ?_) <;> try simp (disch := omega) only [go_sem, jA, jB, jC, jD, jE, jF, jG, jH, jI, jJ, ↓reduceIte, reduceCtorEq, jO, jM, jN, jK, jL]
   ·exact hbad (by simp [wtB, inW]; omega)
   refine call_pc (ok_warning_beyond _) (by simp [go_sem]) ?_
   cases hp : flB x.lim <;> try simp (disch := omega) only [go_sem, jA, jB, jC, jD, jE, jF, jG, jH, jI, jJ, ↓reduceIte, reduceCtorEq, jO, jM, jN, jK, jL, h10]
   ·exact hbad (by simp [wtB, inW]; simp [flB, inW] at hp; omega)
   ·exact up_next hkl ⟨(by first | rfl | (simp (disch := omega) only [go_sem, jA, jB, jC, jD, jE, jF, jG, jH, jI, jJ, ↓reduceIte, reduceCtorEq, jP, jO, jM, jN]; try rfl)), hgo (by simp [wtB, inW]; simp [flB, inW] at hp; omega)⟩
  ·try simp (disch := omega) only [go_sem, jA, jB, jC, jD, jE, jF, jG, jH, jI, jJ, ↓reduceIte, reduceCtorEq, jO, jM, jN, jK, jL]
   have : k = l.length := by omega
   subst this
   rw [List.take_length] at hj
   exact Pub.of_eq (by rw [watE, if_neg (by omega), hj]; rfl) rfl
theorem ok_ref36_point (x : Wt) : PC prog n_ref36_point [wtv x] (.bool (wtB x)) := by
 refine PC_of_body b_ref36_point (by simp) ?_
 simp only [c_ref36_point, go_sem, jA, jB, jC, jD, jE, jF, jG, jH, jI, jJ, ↓reduceIte, reduceCtorEq, jP, wtv]
 refine call_pc (ok_ref36_in _ _ _) (by simp [go_sem]) ?_
 cases h1 : inW x.nd 0 11 <;> try simp (disch := omega) only [go_sem, jA, jB, jC, jD, jE, jF, jG, jH, jI, jJ, ↓reduceIte, reduceCtorEq, jO, jM, jN, jK, jL]
 ·exact Pub.of_eq (by simp [wtB, h1]) rfl
 refine call_pc (ok_ref36_in _ _ _) (by simp [go_sem]) ?_
 cases h2 : inW x.w 1 96 <;> try simp (disch := omega) only [go_sem, jA, jB, jC, jD, jE, jF, jG, jH, jI, jJ, ↓reduceIte, reduceCtorEq, jO, jM, jN, jK, jL]
 ·exact Pub.of_eq (by simp [wtB, h2]) rfl
 refine call_pc (ok_ref36_in _ _ _) (by simp [go_sem]) ?_
 cases h3 : inW x.ld 1 96 <;> try simp (disch := omega) only [go_sem, jA, jB, jC, jD, jE, jF, jG, jH, jI, jJ, ↓reduceIte, reduceCtorEq, jO, jM, jN, jK, jL]
 ·exact Pub.of_eq (by simp [wtB, h3]) rfl
 refine call_pc (ok_ref36_in _ _ _) (by simp [go_sem]) ?_
 try simp (disch := omega) only [go_sem, jA, jB, jC, jD, jE, jF, jG, jH, jI, jJ, ↓reduceIte, reduceCtorEq, jO, jM, jN, jK, jL]
 exact Pub.of_eq (by simp [wtB, h1, h2, h3]) rfl
theorem ok_cmp_isNaN__int (x : Int) : PC prog n_cmp_isNaN__int [.int .i64 x] (.bool false) := by
 refine PC_of_body b_cmp_isNaN__int (by simp) ?_
 simp only [c_cmp_isNaN__int, go_sem, jA, jB, jC, jD, jE, jF, jG, jH, jI, jJ, ↓reduceIte, reduceCtorEq, jP]
 exact Pub.of_eq (by simp) rfl
theorem ok_cmp_Compare__int (a b : Int) : PC prog n_cmp_Compare__int [.int .i64 a, .int .i64 b] (.int .i64 (if a < b then -1 else if b < a then 1 else 0)) := by
 refine PC_of_body b_cmp_Compare__int (by simp) ?_
 simp only [c_cmp_Compare__int, go_sem, jA, jB, jC, jD, jE, jF, jG, jH, jI, jJ, ↓reduceIte, reduceCtorEq, jP]
 refine call_pc (ok_cmp_isNaN__int _) (by simp [go_sem]) ?_
 try simp (disch := omega) only [go_sem, jA, jB, jC, jD, jE, jF, jG, jH, jI, jJ, ↓reduceIte, reduceCtorEq, jO, jM, jN, jK, jL]
 refine call_pc (ok_cmp_isNaN__int _) (by simp [go_sem]) ?_
 try simp (disch := omega) only [go_sem, jA, jB, jC, jD, jE, jF, jG, jH, jI, jJ, ↓reduceIte, reduceCtorEq, jO, jM, jN, jK, jL]
 refine cond_d (fun h => ?_) (fun h => ?_) <;> try simp (disch := omega) only [go_sem, jA, jB, jC, jD, jE, jF, jG, jH, jI, jJ, ↓reduceIte, reduceCtorEq, jO, jM, jN, jK, jL]
 ·exact Pub.of_eq (by rw [if_pos h]) rfl
 refine cond_d (fun h2 => ?_) (fun h2 => ?_) <;> try simp (disch := omega) only [go_sem, jA, jB, jC, jD, jE, jF, jG, jH, jI, jJ, ↓reduceIte, reduceCtorEq, jO, jM, jN, jK, jL]
 ·exact Pub.of_eq (by rw [if_neg h, if_pos h2]) rfl
 ·exact Pub.of_eq (by rw [if_neg h, if_neg h2]) rfl
theorem ok_slices_Compare__int (x y : List Int) (hx : x.length ≤ 9223372036854775807) : PC prog n_slices_Compare__int [.list 1 (ints x), .list 1 (ints y)] (.int .i64 (lexC x y)) := by
 refine PC_of_body b_slices_Compare__int (by simp) ?_
 simp only [c_slices_Compare__int, go_sem, jA, jB, jC, jD, jE, jF, jG, jH, jI, jJ, ↓reduceIte, reduceCtorEq, jP, ints_length]
 refine awp_upF [4, 5, 6, 7, 8, 11, 12, 13, 14, 15, 16, 17, 18, 19, 20, 21, 22, 23, 24, 25, 26, 27, 28, 29, 30] (by kernel_rfl) x.length (fun k e _ => e 11 = .int .i64 k ∧ k ≤ y.length ∧ lexC x y = lexC (x.drop k) (y.drop k)) ?_ ?_
 ·exact ⟨(by first | rfl | (simp (disch := omega) only [go_sem, jA, jB, jC, jD, jE, jF, jG, jH, jI, jJ, ↓reduceIte, reduceCtorEq, jP, jO, jM, jN]; try rfl)), by simp, by simp⟩
 ·rintro k fe ob c hk ⟨h11, hky, hj⟩
  simp (maxSteps := 1000000) only [go_sem, jA, jB, jC, jD, jE, jF, jG, jH, jI, jJ, ↓reduceIte, reduceCtorEq, jP] at h11
  try simp (disch := omega) only [go_sem, jA, jB, jC, jD, jE, jF, jG, jH, jI, jJ, ↓reduceIte, reduceCtorEq, jO, jM, jN, jK, jL, h11, ints_length]
  refine cond_d (fun hlt => ?_) (fun hge => ?_)
  ·have hkl : k < x.length := by omega
   rw [List.drop_eq_getElem_cons hkl] at hj
   have hk2 : x[k]? = some x[k] := List.getElem?_eq_getElem hkl
   try simp (disch := omega) only [go_sem, jA, jB, jC, jD, jE, jF, jG, jH, jI, jJ, ↓reduceIte, reduceCtorEq, jO, jM, jN, jK, jL, h11, ints_length, ints_get, hk2]
   refine ⟨by omega, by omega, ?_⟩
   refine cond_d (fun hy => ?_) (fun hy => ?_) <;> try simp (disch := omega) only [go_sem, jA, jB, jC, jD, jE, jF, jG, jH, jI, jJ, ↓reduceIte, reduceCtorEq, jO, jM, jN, jK, jL]
   ·rw [List.drop_of_length_le (l := y) (by omega)] at hj
    exact Pub.of_eq (by rw [hj]; rfl) rfl
   have hyl : k < y.length := by omega
   rw [List.drop_eq_getElem_cons hyl] at hj
   have hk3 : y[k]? = some y[k] := List.getElem?_eq_getElem hyl
   simp only [lexC] at hj
   generalize x[k] = a at *
   generalize y[k] = b at *
   try simp (disch := omega) only [go_sem, jA, jB, jC, jD, jE, jF, jG, jH, jI, jJ, ↓reduceIte, reduceCtorEq, jO, jM, jN, jK, jL, h11, ints_length, ints_get, hk3]
   refine ⟨by omega, by omega, ?_⟩
   refine call_pc (ok_cmp_Compare__int a b) (by simp [go_sem]) ?_
   try simp (disch := omega) only [go_sem, jA, jB, jC, jD, jE, jF, jG, jH, jI, jJ, ↓reduceIte, reduceCtorEq, jO, jM, jN, jK, jL, h11]
   refine cond_n (fun hne => ?_) (fun heq => ?_) <;> try simp (disch := omega) only [go_sem, jA, jB, jC, jD, jE, jF, jG, jH, jI, jJ, ↓reduceIte, reduceCtorEq, jO, jM, jN, jK, jL, h11]
   ·refine Pub.of_eq ?_ rfl
    rw [hj]
    congr 1
    split
    ·rfl
    ·split
     ·rfl
     ·rename_i u v; rw [if_neg u, if_neg v] at hne; exact absurd rfl hne
   ·refine up_next hkl ⟨(by first | rfl | (simp (disch := omega) only [go_sem, jA, jB, jC, jD, jE, jF, jG, jH, jI, jJ, ↓reduceIte, reduceCtorEq, jP, jO, jM, jN]; try rfl)), hyl, ?_⟩
    rw [hj]
    by_cases u : a < b
    ·rw [if_pos u] at heq; cases heq
    ·rw [if_neg u] at heq ⊢
     by_cases v : b < a
     ·rw [if_pos v] at heq; cases heq
     ·rw [if_neg v]
  ·have : k = x.length := by omega
   subst this
   rw [List.drop_length] at hj
   try simp (disch := omega) only [go_sem, jA, jB, jC, jD, jE, jF, jG, jH, jI, jJ, ↓reduceIte, reduceCtorEq, jO, jM, jN, jK, jL, ints_length]
   refine cond_d (fun hy => ?_) (fun hy => ?_) <;> try simp (disch := omega) only [go_sem, jA, jB, jC, jD, jE, jF, jG, jH, jI, jJ, ↓reduceIte, reduceCtorEq, jO, jM, jN, jK, jL]
   ·rw [List.drop_eq_getElem_cons (by omega)] at hj
    exact Pub.of_eq (by rw [hj]; rfl) rfl
   ·rw [List.drop_of_length_le (by omega)] at hj
    exact Pub.of_eq (by rw [hj]; rfl) rfl
theorem ok_ref36_Before (a b : Cs) : PC prog n_ref36_Before [csv a, csv b] (.bool (csL a b)) := by
 refine PC_of_body b_ref36_Before (by simp) ?_
 simp only [c_ref36_Before, go_sem, jA, jB, jC, jD, jE, jF, jG, jH, jI, jJ, ↓reduceIte, reduceCtorEq, jP, csv]
 refine gd_fd rfl (fun g1 => ?_) (fun g1 => ?_) <;> try simp (disch := omega) only [go_sem, jA, jB, jC, jD, jE, jF, jG, jH, jI, jJ, ↓reduceIte, reduceCtorEq, jO, jM, jN, jK, jL]
 ·exact Pub.of_eq (by simp [csL, g1]) rfl
 refine gd_td rfl (fun g2 => ?_) (fun g2 => ?_) <;> try simp (disch := omega) only [go_sem, jA, jB, jC, jD, jE, jF, jG, jH, jI, jJ, ↓reduceIte, reduceCtorEq, jO, jM, jN, jK, jL]
 ·exact Pub.of_eq (by simp [csL, g1, g2]) rfl
 ·exact Pub.of_eq (by simp [csL, g1, g2]) rfl
def cauE (c : Cs) : Int := if inW c.k 1 4 then (if inW c.s 0 5 then 0 else 40) else 5
theorem ok_ref36_Cause (c : Cs) : PC prog n_ref36_Cause [csv c] (.int .i64 (cauE c)) := by
 refine PC_of_body b_ref36_Cause (by simp) ?_
 simp only [c_ref36_Cause, go_sem, jA, jB, jC, jD, jE, jF, jG, jH, jI, jJ, ↓reduceIte, reduceCtorEq, jP, csv]
 refine call_pc (ok_ref36_in _ _ _) (by simp [go_sem]) ?_
 cases h1 : inW c.k 1 4 <;> try simp (disch := omega) only [go_sem, jA, jB, jC, jD, jE, jF, jG, jH, jI, jJ, ↓reduceIte, reduceCtorEq, jO, jM, jN, jK, jL]
 ·exact Pub.of_eq (by simp [cauE, h1]) rfl
 refine call_pc (ok_ref36_in _ _ _) (by simp [go_sem]) ?_
 cases h2 : inW c.s 0 5 <;> try simp (disch := omega) only [go_sem, jA, jB, jC, jD, jE, jF, jG, jH, jI, jJ, ↓reduceIte, reduceCtorEq, jO, jM, jN, jK, jL]
 ·exact Pub.of_eq (by simp [cauE, h1, h2]) rfl
 ·exact Pub.of_eq (by simp [cauE, h1, h2]) rfl
theorem cauE_ok {c : Cs} : cauE c = 0 ↔ csB c = true := by
 unfold cauE csB
 cases inW c.k 1 4 <;> cases inW c.s 0 5 <;> simp
theorem pub_arr2 {σ : St} {id g i : Nat} {ty : TypeId} {ro ap : Bool} {l : List AV} {a b : Int} (h : σ.ob id = some ⟨g, 2, ty, ro, ap, l⟩) (hl : l[i]? = some (.agg [.int .i64 a, .int .i64 b])) : Pub σ (.sla id g 2 i 0 1 2) (.list 1 (ints [a, b])) :=
 .sla h rfl rfl hl (by omega) rfl (by simp [flatL, ints, AV.cells]) (ints_ok _) (ints_pur _)
theorem gp_get {ps : List Wt} {pa : List (List Int)} {k : Nat} (h : k < ps.length) (h2 : k < pa.length) : k < (ps.zip pa).length ∧ ∀ hk : k < (ps.zip pa).length, (ps.zip pa)[k] = (ps[k], pa[k]) :=
 ⟨by simp; omega, fun _ => by simp⟩
theorem chW_gt {n : Nat} : ∀ (l : List Wn) (s : Wn), chB (wnR n) s l = true → ∀ w ∈ l, s.p < w.p
 | [], _, _, w, hw => by cases hw
 | a :: r, s, h, w, hw => by
  simp only [chB, Bool.and_eq_true] at h
  have h1 : s.p < a.p := by have := h.1; simp [wnR] at this; exact this.1.1
  rcases List.mem_cons.1 hw with rfl | hw
  ·exact h1
  ·have := chW_gt r a h.2 w hw; omega
theorem chW_lo {n k : Nat} {l : List Wn} (hk : k < l.length) (h : chB (wnR n) wn0 (l.take k) = true) : -1 ≤ (prG wn0 l k).p := by
 by_cases hz : k = 0
 ·simp [prG, hz, wn0]
 ·have h2 : l[k - 1]? = some l[k - 1] := List.getElem?_eq_getElem (by omega)
  have h1 := chW_gt _ _ h l[k - 1] (List.mem_of_getElem? (i := k - 1) (by rw [List.getElem?_take, if_pos (by omega), h2]))
  simp only [prG, hz, if_false, h2, Option.getD_some]
  have : wn0.p = -1 := rfl
  omega
theorem ok_warning_caused (l : List Cs) (hl : l.length ≤ 9223372036854775807) : PC prog n_warning_caused [.list 2 (css l)] (.bool (cauB l)) := by
 refine PC_of_body b_warning_caused (by simp) ?_
 simp only [c_warning_caused, go_sem, jA, jB, jC, jD, jE, jF, jG, jH, jI, jJ, ↓reduceIte, reduceCtorEq, jP, css_length]
 refine awp_upF [2, 5, 6, 10, 11, 12, 13, 14, 15, 16, 17, 18, 19, 20, 21, 22, 23, 24, 25, 26, 27, 28, 29, 30, 31, 32, 33, 34, 35, 36, 37, 38, 39, 40, 41, 42, 43, 44] (by kernel_rfl) l.length (fun k e σ => e 10 = .int .i64 k ∧ σ.ob 0 = some ⟨0, 2, 96, false, true, [csv (prG ⟨0, 0⟩ l k)]⟩ ∧ chB csR ⟨0, 0⟩ (l.take k) = true) ?_ ?_
 ·exact ⟨(by first | rfl | (simp (disch := omega) only [go_sem, jA, jB, jC, jD, jE, jF, jG, jH, jI, jJ, ↓reduceIte, reduceCtorEq, jP, jO, jM, jN]; try rfl)), (by first | rfl | (simp (disch := omega) only [go_sem, jA, jB, jC, jD, jE, jF, jG, jH, jI, jJ, ↓reduceIte, reduceCtorEq, jP, jO, jM, jN]; try rfl)), by simp [chB]⟩
 ·rintro k fe ob c hk ⟨h10, hob, hj⟩
  simp (maxSteps := 1000000) only [go_sem, jA, jB, jC, jD, jE, jF, jG, jH, jI, jJ, ↓reduceIte, reduceCtorEq, jP, csv] at h10 hob
  try simp (disch := omega) only [go_sem, jA, jB, jC, jD, jE, jF, jG, jH, jI, jJ, ↓reduceIte, reduceCtorEq, jO, jM, jN, jK, jL, h10, css_length]
  refine cond_d (fun hlt => ?_) (fun hge => ?_)
  ·have hkl : k < l.length := by omega
   have hk2 : l[k]? = some l[k] := List.getElem?_eq_getElem hkl
   have hgo := chB_go hkl hj
   have hnx := prG_succ (s := (⟨0, 0⟩ : Cs)) hkl
   have hbad : csR (prG ⟨0, 0⟩ l k) l[k] = false → ∀ {σ : St}, Pub σ (.bool false) (.bool (cauB l)) := fun h σ =>
    Pub.of_eq (by rw [cauB, chB_bad hkl h]) rfl
   generalize l[k] = x at *
   generalize prG ⟨0, 0⟩ l k = y at *
   try simp (disch := omega) only [go_sem, jA, jB, jC, jD, jE, jF, jG, jH, jI, jJ, ↓reduceIte, reduceCtorEq, jO, jM, jN, jK, jL, h10, css_length, css_get, hk2, Option.map_some, csv]
   refine ⟨by omega, by omega, ?_⟩
   refine gd_fd rfl (fun g1 => ?_) (fun g1 => ?_) <;> try simp (disch := omega) only [go_sem, jA, jB, jC, jD, jE, jF, jG, jH, jI, jJ, ↓reduceIte, reduceCtorEq, jO, jM, jN, jK, jL]
   ·exact hbad (by simp [csR, csB, inW]; omega)
   refine gd_fd rfl (fun g2 => ?_) (fun g2 => ?_) <;> try simp (disch := omega) only [go_sem, jA, jB, jC, jD, jE, jF, jG, jH, jI, jJ, ↓reduceIte, reduceCtorEq, jO, jM, jN, jK, jL]
   ·exact hbad (by simp [csR, csB, inW]; omega)
   refine gd_fd rfl (fun g3 => ?_) (fun g3 => ?_) <;> try simp (disch := omega) only [go_sem, jA, jB, jC, jD, jE, jF, jG, jH, jI, jJ, ↓reduceIte, reduceCtorEq, jO, jM, jN, jK, jL]
   ·exact hbad (by simp [csR, csB, inW]; omega)
   refine gd_fd rfl (fun g4 => ?_) (fun g4 => ?_) <;> try simp (disch := omega) only [go_sem, jA, jB, jC, jD, jE, jF, jG, jH, jI, jJ, ↓reduceIte, reduceCtorEq, jO, jM, jN, jK, jL]
   ·exact hbad (by simp [csR, csB, inW]; omega)
   try simp (disch := omega) only [go_sem, jA, jB, jC, jD, jE, jF, jG, jH, jI, jJ, ↓reduceIte, reduceCtorEq, jO, jM, jN, jK, jL, hob]
   refine call_lent (ok_slices_Compare__int [x.k, x.s] [y.k, y.s] (by simp)) (.cons (pub_arr2 (by try simp (disch := omega) only [go_sem, jA, jB, jC, jD, jE, jF, jG, jH, jI, jJ, ↓reduceIte, reduceCtorEq, jO, jM, jN, jK, jL]; rfl) rfl) (.cons (pub_arr2 (by try simp (disch := omega) only [go_sem, jA, jB, jC, jD, jE, jF, jG, jH, jI, jJ, ↓reduceIte, reduceCtorEq, jO, jM, jN, jK, jL, hob]; rfl) rfl) .nil)) rfl ?_
   have hcs : csB x = true := by simp [csB, inW]; omega
   try simp (disch := omega) only [go_sem, jA, jB, jC, jD, jE, jF, jG, jH, jI, jJ, ↓reduceIte, reduceCtorEq, jO, jM, jN, jK, jL, h10, hob]
   refine cond_d (fun g => ?_) (fun g => ?_) <;> try simp (disch := omega) only [go_sem, jA, jB, jC, jD, jE, jF, jG, jH, jI, jJ, ↓reduceIte, reduceCtorEq, jO, jM, jN, jK, jL, h10, hob]
   ·rw [lexC_le] at g
    exact hbad (by simp [csR, g])
   ·rw [lexC_le] at g
    exact up_next hkl ⟨(by first | rfl | (simp (disch := omega) only [go_sem, jA, jB, jC, jD, jE, jF, jG, jH, jI, jJ, ↓reduceIte, reduceCtorEq, jP, jO, jM, jN]; try rfl)), by try simp (disch := omega) only [go_sem, jA, jB, jC, jD, jE, jF, jG, jH, jI, jJ, ↓reduceIte, reduceCtorEq, jO, jM, jN, jK, jL]; rw [hnx], hgo (by simp [csR, hcs]; simpa using g)⟩
  ·try simp (disch := omega) only [go_sem, jA, jB, jC, jD, jE, jF, jG, jH, jI, jJ, ↓reduceIte, reduceCtorEq, jO, jM, jN, jK, jL]
   have : k = l.length := by omega
   subst this
   rw [List.take_length] at hj
   exact Pub.of_eq (by rw [cauB, hj]) rfl
theorem ok_cause_before (a b : Cs) : PC prog n_cause_before [csv a, csv b] (.bool (csL a b)) := by
 refine PC_of_body b_cause_before (by simp) ?_
 simp only [c_cause_before, go_sem, jA, jB, jC, jD, jE, jF, jG, jH, jI, jJ, ↓reduceIte, reduceCtorEq, jP, csv]
 refine call_lent (ok_slices_Compare__int [a.k, a.s] [b.k, b.s] (by simp)) (.cons (pub_arr2 (by try simp (disch := omega) only [go_sem, jA, jB, jC, jD, jE, jF, jG, jH, jI, jJ, ↓reduceIte, reduceCtorEq, jO, jM, jN, jK, jL]; rfl) rfl) (.cons (pub_arr2 (by try simp (disch := omega) only [go_sem, jA, jB, jC, jD, jE, jF, jG, jH, jI, jJ, ↓reduceIte, reduceCtorEq, jO, jM, jN, jK, jL]; rfl) rfl) .nil)) rfl ?_
 try simp (disch := omega) only [go_sem, jA, jB, jC, jD, jE, jF, jG, jH, jI, jJ, ↓reduceIte, reduceCtorEq, jO, jM, jN, jK, jL]
 exact Pub.of_eq (by congr 1; rw [Bool.eq_iff_iff, decide_eq_true_eq, lexC_lt]) rfl
theorem ok_ref36_warning (w : Wn) (hl : w.cs.length ≤ 9223372036854775807) : PC prog n_ref36_warning [wnv w] (.bool (wnB w)) := by
 refine PC_of_body b_ref36_warning (by simp) ?_
 simp only [c_ref36_warning, go_sem, jA, jB, jC, jD, jE, jF, jG, jH, jI, jJ, ↓reduceIte, reduceCtorEq, jP, wnv]
 refine call_pc (ok_ref36_in _ _ _) (by simp [go_sem]) ?_
 cases h1 : inW w.t 0 16777216 <;> try simp (disch := omega) only [go_sem, jA, jB, jC, jD, jE, jF, jG, jH, jI, jJ, ↓reduceIte, reduceCtorEq, jO, jM, jN, jK, jL]
 ·exact Pub.of_eq (by simp [wnB, h1]) rfl
 refine call_pc (ok_ref36_in _ _ _) (by simp [go_sem]) ?_
 cases h2 : inW w.cm 0 96 <;> try simp (disch := omega) only [go_sem, jA, jB, jC, jD, jE, jF, jG, jH, jI, jJ, ↓reduceIte, reduceCtorEq, jO, jM, jN, jK, jL]
 ·exact Pub.of_eq (by simp [wnB, h2]) rfl
 try simp (disch := omega) only [go_sem, jA, jB, jC, jD, jE, jF, jG, jH, jI, jJ, ↓reduceIte, reduceCtorEq, jO, jM, jN, jK, jL, css_length]
 refine gd_td rfl (fun h3 => ?_) (fun h3 => ?_) <;> try simp (disch := omega) only [go_sem, jA, jB, jC, jD, jE, jF, jG, jH, jI, jJ, ↓reduceIte, reduceCtorEq, jO, jM, jN, jK, jL, css_length]
 rotate_left
 ·have h4 : w.cs = [] := List.eq_nil_of_length_eq_zero (by omega)
  refine awp_upF [2, 3, 4, 29, 30, 31, 32, 33, 34, 35, 36, 37, 38, 39, 40, 41, 42, 43, 44, 45, 46, 47, 48, 49, 50, 51, 52] (by kernel_rfl) 0 (fun k e _ => e 29 = .int .i64 k) (by first | rfl | (simp (disch := omega) only [go_sem, jA, jB, jC, jD, jE, jF, jG, jH, jI, jJ, ↓reduceIte, reduceCtorEq, jP, jO, jM, jN]; try rfl)) ?_
  rintro k fe ob c hk h29
  simp (maxSteps := 1000000) only [go_sem, jA, jB, jC, jD, jE, jF, jG, jH, jI, jJ, ↓reduceIte, reduceCtorEq, jP] at h29
  try simp (disch := omega) only [go_sem, jA, jB, jC, jD, jE, jF, jG, jH, jI, jJ, ↓reduceIte, reduceCtorEq, jO, jM, jN, jK, jL, h29, css_length, h4]
  refine cond_d (fun hlt => ?_) (fun hge => ?_)
  ·omega
  try simp (disch := omega) only [go_sem, jA, jB, jC, jD, jE, jF, jG, jH, jI, jJ, ↓reduceIte, reduceCtorEq, jO, jM, jN, jK, jL]
  exact Pub.of_eq (by simp [wnB, h1, h2, h4, cauB, chB]) rfl
 refine cond_n (fun h4 => ?_) (fun h4 => ?_) <;> try simp (disch := omega) only [go_sem, jA, jB, jC, jD, jE, jF, jG, jH, jI, jJ, ↓reduceIte, reduceCtorEq, jO, jM, jN, jK, jL, css_length]
 ·exact Pub.of_eq (by simp [wnB, h1, h2, h4]; intro _ h; rw [h] at h3; simp at h3) rfl
 refine awp_upF [2, 3, 4, 29, 30, 31, 32, 33, 34, 35, 36, 37, 38, 39, 40, 41, 42, 43, 44, 45, 46, 47, 48, 49, 50, 51, 52] (by kernel_rfl) w.cs.length (fun k e σ => e 29 = .int .i64 k ∧ σ.ob 0 = some ⟨0, 4, 56, false, true, [.agg [.int .i64 w.p, .int .i64 w.t, .list 2 (css w.cs), .int .i64 w.cm]]⟩ ∧ chB csR ⟨0, 0⟩ (w.cs.take k) = true) ?_ ?_
 ·exact ⟨(by first | rfl | (simp (disch := omega) only [go_sem, jA, jB, jC, jD, jE, jF, jG, jH, jI, jJ, ↓reduceIte, reduceCtorEq, jP, jO, jM, jN]; try rfl)), (by first | rfl | (simp (disch := omega) only [go_sem, jA, jB, jC, jD, jE, jF, jG, jH, jI, jJ, ↓reduceIte, reduceCtorEq, jP, jO, jM, jN]; try rfl)), by simp [chB]⟩
 ·rintro k fe ob c hk ⟨h29, hob, hj⟩
  simp (maxSteps := 1000000) only [go_sem, jA, jB, jC, jD, jE, jF, jG, jH, jI, jJ, ↓reduceIte, reduceCtorEq, jP] at h29 hob
  try simp (disch := omega) only [go_sem, jA, jB, jC, jD, jE, jF, jG, jH, jI, jJ, ↓reduceIte, reduceCtorEq, jO, jM, jN, jK, jL, h29, css_length]
  refine cond_d (fun hlt => ?_) (fun hge => ?_)
  ·have hkl : k < w.cs.length := by omega
   have hk2 : w.cs[k]? = some w.cs[k] := List.getElem?_eq_getElem hkl
   have hgo := chB_go hkl hj
   have hbad : csR (prG ⟨0, 0⟩ w.cs k) w.cs[k] = false → ∀ {σ : St}, Pub σ (.bool false) (.bool (wnB w)) := fun h σ =>
    Pub.of_eq (by simp only [wnB, cauB, chB_bad hkl h]; simp) rfl
   have hpr : prG ⟨0, 0⟩ w.cs k = if hz : k = 0 then ⟨0, 0⟩ else w.cs[k - 1] := by
    by_cases hz : k = 0
    ·simp [prG, hz]
    ·simp [prG, hz, List.getElem?_eq_getElem (show k - 1 < w.cs.length by omega)]
   have hk4 : k ≠ 0 → w.cs[k - 1]? = some (prG ⟨0, 0⟩ w.cs k) := fun hz => by
    rw [hpr, dif_neg hz]; exact List.getElem?_eq_getElem (by omega)
   have hp0 : k = 0 → prG ⟨0, 0⟩ w.cs k = ⟨0, 0⟩ := fun hz => by rw [hpr, dif_pos hz]
   generalize w.cs[k] = x at *
   generalize prG ⟨0, 0⟩ w.cs k = y at *
   clear hpr
   try simp (disch := omega) only [go_sem, jA, jB, jC, jD, jE, jF, jG, jH, jI, jJ, ↓reduceIte, reduceCtorEq, jO, jM, jN, jK, jL, h29, css_length, css_get, hk2, Option.map_some, csv]
   refine ⟨by omega, by omega, ?_⟩
   have hC := ok_ref36_Cause x
   simp only [csv] at hC
   refine call_pc hC (by simp [go_sem]) ?_
   try simp (disch := omega) only [go_sem, jA, jB, jC, jD, jE, jF, jG, jH, jI, jJ, ↓reduceIte, reduceCtorEq, jO, jM, jN, jK, jL]
   refine gd_fn rfl (fun g1 => ?_) (fun g1 => ?_) <;> try simp (disch := omega) only [go_sem, jA, jB, jC, jD, jE, jF, jG, jH, jI, jJ, ↓reduceIte, reduceCtorEq, jO, jM, jN, jK, jL, h29, hob]
   ·exact hbad (by simp only [csR]; rw [cauE_ok] at g1; simp [g1])
   rw [cauE_ok] at g1
   refine gd_td rfl (fun g2 => ?_) (fun g2 => ?_) <;> try simp (disch := omega) only [go_sem, jA, jB, jC, jD, jE, jF, jG, jH, jI, jJ, ↓reduceIte, reduceCtorEq, jO, jM, jN, jK, jL, h29, hob, css_length]
   ·have hi : ((k : Int) - 1).toNat = k - 1 := by omega
    try simp (disch := omega) only [go_sem, jA, jB, jC, jD, jE, jF, jG, jH, jI, jJ, ↓reduceIte, reduceCtorEq, jO, jM, jN, jK, jL, h29, hob, css_length, css_get, hi, hk4 (by omega), Option.map_some, csv]
    refine ⟨by omega, by omega, ?_⟩
    have hB := ok_ref36_Before y x
    simp only [csv] at hB
    refine call_pc hB (by simp [go_sem]) ?_
    cases hp : csL y x <;> try simp (disch := omega) only [go_sem, jA, jB, jC, jD, jE, jF, jG, jH, jI, jJ, ↓reduceIte, reduceCtorEq, jO, jM, jN, jK, jL, h29, hob]
    ·exact hbad (by simp [csR, hp])
    ·exact up_next hkl ⟨(by first | rfl | (simp (disch := omega) only [go_sem, jA, jB, jC, jD, jE, jF, jG, jH, jI, jJ, ↓reduceIte, reduceCtorEq, jP, jO, jM, jN]; try rfl)), by try simp (disch := omega) only [go_sem, jA, jB, jC, jD, jE, jF, jG, jH, jI, jJ, ↓reduceIte, reduceCtorEq, jO, jM, jN, jK, jL]; exact hob, hgo (by simp [csR, hp, g1])⟩
   ·refine up_next hkl ⟨(by first | rfl | (simp (disch := omega) only [go_sem, jA, jB, jC, jD, jE, jF, jG, jH, jI, jJ, ↓reduceIte, reduceCtorEq, jP, jO, jM, jN]; try rfl)), by try simp (disch := omega) only [go_sem, jA, jB, jC, jD, jE, jF, jG, jH, jI, jJ, ↓reduceIte, reduceCtorEq, jO, jM, jN, jK, jL]; exact hob, hgo ?_⟩
    rw [hp0 (by omega)]
    simp only [csR, g1, Bool.true_and, csL]
    simp only [csB, inW, Bool.and_eq_true, decide_eq_true_eq] at g1
    simp; omega
  ·try simp (disch := omega) only [go_sem, jA, jB, jC, jD, jE, jF, jG, jH, jI, jJ, ↓reduceIte, reduceCtorEq, jO, jM, jN, jK, jL]
   have : k = w.cs.length := by omega
   subst this
   rw [List.take_length] at hj
   exact Pub.of_eq (by simp only [wnB, h1, h2, cauB, hj]; simp [h4]) rfl
theorem ok_warning_valid (b : Bo) (h : BoL b) : PC prog n_warning_valid [bov b] (.bool (vdB b)) := by
 have hl1 := h.p
 have hl2 := h.q
 have hl3 := h.a
 have no : vdB b = false → ∀ {σ : St}, Pub σ (.bool false) (.bool (vdB b)) := fun h σ => Pub.of_eq (by rw [h]) rfl
 refine PC_of_body b_warning_valid (by simp) ?_
 simp only [c_warning_valid, go_sem, jA, jB, jC, jD, jE, jF, jG, jH, jI, jJ, ↓reduceIte, reduceCtorEq, jP, bov]
 refine call_pc (ok_warning_watched b.ps h.p) (by simp [go_sem, wts_pur]) ?_
 try simp (disch := omega) only [go_sem, jA, jB, jC, jD, jE, jF, jG, jH, jI, jJ, ↓reduceIte, reduceCtorEq, jO, jM, jN, jK, jL, wts_length, lls_length]
 refine gd_fn rfl (fun g1 => ?_) (fun g1 => ?_) <;> try simp (disch := omega) only [go_sem, jA, jB, jC, jD, jE, jF, jG, jH, jI, jJ, ↓reduceIte, reduceCtorEq, jO, jM, jN, jK, jL, wts_length, lls_length]
 ·exact no (by rw [vdB_eq]; simp [g1])
 refine cond_n (fun g2 => ?_) (fun g2 => ?_) <;> try simp (disch := omega) only [go_sem, jA, jB, jC, jD, jE, jF, jG, jH, jI, jJ, ↓reduceIte, reduceCtorEq, jO, jM, jN, jK, jL, wts_length, lls_length]
 ·exact no (by rw [vdB_eq]; simp; intro _ h; omega)
 have g3 := watE_ok.1 g1
 have g4 : b.pa.length = b.ps.length := by omega
 refine awp_upF [2, 3, 23, 24, 25, 26, 27, 28, 29, 30, 31, 32, 33, 34, 35, 36, 37, 38, 39, 40, 41, 42, 43, 44, 45, 46, 47] (by kernel_rfl) b.ps.length (fun k e σ => e 23 = .int .i64 k ∧ σ.ob 0 = some ⟨0, 3, 31, false, true, [bov b]⟩ ∧ ((b.ps.zip b.pa).take k).all paB = true) ?_ ?_
 ·exact ⟨(by first | rfl | (simp (disch := omega) only [go_sem, jA, jB, jC, jD, jE, jF, jG, jH, jI, jJ, ↓reduceIte, reduceCtorEq, jP, jO, jM, jN]; try rfl)), by simp [bov, go_sem], by simp⟩
 ·rintro k fe ob c hk ⟨h23, hob, hj⟩
  simp (maxSteps := 1000000) only [go_sem, jA, jB, jC, jD, jE, jF, jG, jH, jI, jJ, ↓reduceIte, reduceCtorEq, jP, bov] at h23 hob
  try simp (disch := omega) only [go_sem, jA, jB, jC, jD, jE, jF, jG, jH, jI, jJ, ↓reduceIte, reduceCtorEq, jO, jM, jN, jK, jL, h23, wts_length]
  refine cond_d (fun hlt => ?_) (fun hge => ?_)
  ·have hkl : k < b.ps.length := by omega
   have hkl2 : k < b.pa.length := by omega
   have hk2 : b.ps[k]? = some b.ps[k] := List.getElem?_eq_getElem hkl
   have hk3 : b.pa[k]? = some b.pa[k] := List.getElem?_eq_getElem hkl2
   obtain ⟨hz, hzz⟩ := gp_get hkl hkl2
   have hgo := all_go (p := paB) hz hj
   have hbad : paB ((b.ps.zip b.pa)[k]) = false → vdB b = false := fun h => by rw [vdB_eq, all_bad hz h]; simp
   rw [hzz hz] at hgo hbad
   have hxl := h.l _ (List.getElem_mem hkl2)
   generalize b.ps[k] = p at *
   generalize b.pa[k] = x at *
   try simp (disch := omega) only [go_sem, jA, jB, jC, jD, jE, jF, jG, jH, jI, jJ, ↓reduceIte, reduceCtorEq, jO, jM, jN, jK, jL, h23, hob, wts_length, lls_length, wts_get, lls_get, hk2, hk3, Option.map_some, wtv, ints_length]
   refine ⟨by omega, by omega, by omega, by omega, ?_⟩
   refine gd_fd rfl (fun g5 => ?_) (fun g5 => ?_) <;> try simp (disch := omega) only [go_sem, jA, jB, jC, jD, jE, jF, jG, jH, jI, jJ, ↓reduceIte, reduceCtorEq, jO, jM, jN, jK, jL, h23, hob, wts_length, lls_length, wts_get, lls_get, hk2, hk3, Option.map_some, wtv, ints_length]
   ·exact no (hbad (by simp [paB]; intro h; omega))
   refine ⟨by omega, by omega, ?_⟩
   refine call_pc (ok_beyonds x hxl) (by simp [go_sem, ints_pur]) ?_
   cases hp : flsB x <;> try simp (disch := omega) only [go_sem, jA, jB, jC, jD, jE, jF, jG, jH, jI, jJ, ↓reduceIte, reduceCtorEq, jO, jM, jN, jK, jL, h23, hob]
   ·exact no (hbad (by simp [paB, hp]))
   ·exact up_next hkl ⟨(by first | rfl | (simp (disch := omega) only [go_sem, jA, jB, jC, jD, jE, jF, jG, jH, jI, jJ, ↓reduceIte, reduceCtorEq, jP, jO, jM, jN]; try rfl)), by simp only [bov]; try simp (disch := omega) only [go_sem, jA, jB, jC, jD, jE, jF, jG, jH, jI, jJ, ↓reduceIte, reduceCtorEq, jO, jM, jN, jK, jL]; exact hob, hgo (by simp [paB, hp]; omega)⟩
  ·have : k = b.ps.length := by omega
   subst this
   rw [List.take_of_length_le (by simp; omega)] at hj
   clear h23
   try simp (disch := omega) only [go_sem, jA, jB, jC, jD, jE, jF, jG, jH, jI, jJ, ↓reduceIte, reduceCtorEq, jO, jM, jN, jK, jL, hob, wns_length]
   refine awp_upF [2, 4, 6, 51, 52, 53, 54, 55, 56, 57, 58, 59, 60, 61, 62, 63, 64, 65, 66, 67, 68, 69, 70, 71, 72, 73, 74, 75, 76, 77, 78, 79, 80, 81, 82, 83, 84, 85, 86, 87, 88, 89, 90, 91, 92, 93, 94, 95, 96, 97, 98, 99, 100, 101, 102, 103, 104, 105, 106] (by kernel_rfl) b.ac.length (fun k e σ => e 51 = .int .i64 k ∧ e 4 = .int .i64 (prG wn0 b.ac k).p ∧ σ.ob 0 = some ⟨0, 3, 31, false, true, [.agg [.list 4 (wts b.ps), .list 1 (lls b.pa), .list 4 (wns b.ac)]]⟩ ∧ chB (wnR b.ps.length) wn0 (b.ac.take k) = true) ?_ ?_
   ·exact ⟨(by first | rfl | (simp (disch := omega) only [go_sem, jA, jB, jC, jD, jE, jF, jG, jH, jI, jJ, ↓reduceIte, reduceCtorEq, jP, jO, jM, jN]; try rfl)), by try simp (disch := omega) only [go_sem, jA, jB, jC, jD, jE, jF, jG, jH, jI, jJ, ↓reduceIte, reduceCtorEq, jO, jM, jN, jK, jL]; rfl, hob, by simp [chB]⟩
   clear hob hge hk
   rintro k fe2 ob2 c2 hk ⟨h51, h4, hob, hch⟩
   simp (maxSteps := 1000000) only [go_sem, jA, jB, jC, jD, jE, jF, jG, jH, jI, jJ, ↓reduceIte, reduceCtorEq, jP] at h51 h4 hob
   try simp (disch := omega) only [go_sem, jA, jB, jC, jD, jE, jF, jG, jH, jI, jJ, ↓reduceIte, reduceCtorEq, jO, jM, jN, jK, jL, h51, wns_length]
   refine cond_d (fun hlt => ?_) (fun hge => ?_)
   ·have hkl : k < b.ac.length := by omega
    have hk2 : b.ac[k]? = some b.ac[k] := List.getElem?_eq_getElem hkl
    have hgo := chB_go hkl hch
    have hnx := prG_succ (s := wn0) hkl
    have hbad : wnR b.ps.length (prG wn0 b.ac k) b.ac[k] = false → ∀ {σ : St}, Pub σ (.bool false) (.bool (vdB b)) := fun h σ =>
     no (by simp only [vdB_eq, chB_bad hkl h]; simp)
    have hxl := h.c _ (List.getElem_mem hkl)
    generalize b.ac[k] = x at *
    generalize prG wn0 b.ac k = y at *
    try simp (disch := omega) only [go_sem, jA, jB, jC, jD, jE, jF, jG, jH, jI, jJ, ↓reduceIte, reduceCtorEq, jO, jM, jN, jK, jL, h51, h4, wns_length, wns_get, hk2, Option.map_some, wnv]
    refine ⟨by omega, by omega, ?_⟩
    refine gd_fd rfl (fun g1 => ?_) (fun g1 => ?_) <;> try simp (disch := omega) only [go_sem, jA, jB, jC, jD, jE, jF, jG, jH, jI, jJ, ↓reduceIte, reduceCtorEq, jO, jM, jN, jK, jL, hob, wts_length]
    ·exact hbad (by simp [wnR]; intros; omega)
    refine gd_fd rfl (fun g2 => ?_) (fun g2 => ?_) <;> try simp (disch := omega) only [go_sem, jA, jB, jC, jD, jE, jF, jG, jH, jI, jJ, ↓reduceIte, reduceCtorEq, jO, jM, jN, jK, jL, hob, wts_length]
    ·exact hbad (by simp [wnR]; intros; omega)
    refine gd_fd rfl (fun g3 => ?_) (fun g3 => ?_) <;> try simp (disch := omega) only [go_sem, jA, jB, jC, jD, jE, jF, jG, jH, jI, jJ, ↓reduceIte, reduceCtorEq, jO, jM, jN, jK, jL, hob, wts_length]
    ·exact hbad (by simp [wnR, wnB, inW]; intros; omega)
    refine gd_fd rfl (fun g4 => ?_) (fun g4 => ?_) <;> try simp (disch := omega) only [go_sem, jA, jB, jC, jD, jE, jF, jG, jH, jI, jJ, ↓reduceIte, reduceCtorEq, jO, jM, jN, jK, jL, hob, wts_length]
    ·exact hbad (by simp [wnR, wnB, inW]; intros; omega)
    refine call_pc (ok_warning_caused x.cs hxl) (by simp [go_sem, css_pur]) ?_
    try simp (disch := omega) only [go_sem, jA, jB, jC, jD, jE, jF, jG, jH, jI, jJ, ↓reduceIte, reduceCtorEq, jO, jM, jN, jK, jL, hob]
    cases hca : cauB x.cs <;> try simp (disch := omega) only [go_sem, jA, jB, jC, jD, jE, jF, jG, jH, jI, jJ, ↓reduceIte, reduceCtorEq, jO, jM, jN, jK, jL, hob]
    ·exact hbad (by simp [wnR, wnB, hca])
    refine gd_fd rfl (fun g5 => ?_) (fun g5 => ?_) <;> try simp (disch := omega) only [go_sem, jA, jB, jC, jD, jE, jF, jG, jH, jI, jJ, ↓reduceIte, reduceCtorEq, jO, jM, jN, jK, jL, hob, css_length]
    ·exact hbad (by simp [wnR, wnB, inW]; intros; omega)
    refine gd_fd rfl (fun g6 => ?_) (fun g6 => ?_) <;> try simp (disch := omega) only [go_sem, jA, jB, jC, jD, jE, jF, jG, jH, jI, jJ, ↓reduceIte, reduceCtorEq, jO, jM, jN, jK, jL, hob, css_length]
    ·exact hbad (by simp [wnR, wnB, inW]; intros; omega)
    refine gd_td rfl (fun g7 => ?_) (fun g7 => ?_) <;> try simp (disch := omega) only [go_sem, jA, jB, jC, jD, jE, jF, jG, jH, jI, jJ, ↓reduceIte, reduceCtorEq, jO, jM, jN, jK, jL, hob, css_length]
    ·have hne : ¬ x.cs = [] := fun h => by rw [h] at g7; simp at g7
     refine cond_d (fun g8 => ?_) (fun g8 => ?_) <;> try simp (disch := omega) only [go_sem, jA, jB, jC, jD, jE, jF, jG, jH, jI, jJ, ↓reduceIte, reduceCtorEq, jO, jM, jN, jK, jL, hob, h51]
     ·exact hbad (by simp [wnR, wnB, hne]; intros; omega)
     ·refine up_next hkl ⟨(by first | rfl | (simp (disch := omega) only [go_sem, jA, jB, jC, jD, jE, jF, jG, jH, jI, jJ, ↓reduceIte, reduceCtorEq, jP, jO, jM, jN]; try rfl)), by rw [hnx]; try simp (disch := omega) only [go_sem, jA, jB, jC, jD, jE, jF, jG, jH, jI, jJ, ↓reduceIte, reduceCtorEq, jO, jM, jN, jK, jL], by try simp (disch := omega) only [go_sem, jA, jB, jC, jD, jE, jF, jG, jH, jI, jJ, ↓reduceIte, reduceCtorEq, jO, jM, jN, jK, jL]; exact hob, hgo ?_⟩
      simp [wnR, wnB, inW, hca, hne]; omega
    ·have hne : x.cs = [] := List.eq_nil_of_length_eq_zero (by omega)
     try simp (disch := omega) only [go_sem, jA, jB, jC, jD, jE, jF, jG, jH, jI, jJ, ↓reduceIte, reduceCtorEq, jO, jM, jN, jK, jL, hob, h51]
     refine up_next hkl ⟨(by first | rfl | (simp (disch := omega) only [go_sem, jA, jB, jC, jD, jE, jF, jG, jH, jI, jJ, ↓reduceIte, reduceCtorEq, jP, jO, jM, jN]; try rfl)), by rw [hnx]; try simp (disch := omega) only [go_sem, jA, jB, jC, jD, jE, jF, jG, jH, jI, jJ, ↓reduceIte, reduceCtorEq, jO, jM, jN, jK, jL], by try simp (disch := omega) only [go_sem, jA, jB, jC, jD, jE, jF, jG, jH, jI, jJ, ↓reduceIte, reduceCtorEq, jO, jM, jN, jK, jL]; exact hob, hgo ?_⟩
     simp only [wnR, wnB, hca]
     simp [inW, hne]; omega
   ·have : k = b.ac.length := by omega
    subst this
    rw [List.take_length] at hch
    try simp (disch := omega) only [go_sem, jA, jB, jC, jD, jE, jF, jG, jH, jI, jJ, ↓reduceIte, reduceCtorEq, jO, jM, jN, jK, jL]
    refine Pub.of_eq ?_ rfl
    rw [vdB_eq, hch, hj]
    simp [g1, g4]
theorem ok_warning_Check (b : Bo) (h : BoL b) : PC prog n_warning_Check [bov b] (.int .i64 (chkE b)) := by
 have hV := ok_warning_valid b h
 refine PC_of_body b_warning_Check (by simp) ?_
 simp only [c_warning_Check, go_sem, jA, jB, jC, jD, jE, jF, jG, jH, jI, jJ, ↓reduceIte, reduceCtorEq, jP, bov] at hV ⊢
 refine call_pc hV (by simp [go_sem, wts_pur, lls_pur, wns_pur]) ?_
 cases hv : vdB b <;> try simp (disch := omega) only [go_sem, jA, jB, jC, jD, jE, jF, jG, jH, jI, jJ, ↓reduceIte, reduceCtorEq, jO, jM, jN, jK, jL]
 ·exact Pub.of_eq (by simp [chkE, hv]) rfl
 ·exact Pub.of_eq (by simp [chkE, hv]) rfl
theorem ok_ref36_Check (b : Bo) (h : BoL b) : PC prog n_ref36_Check [bov b] (.int .i64 (chkE b)) := by
 have hl1 := h.p
 have hl2 := h.q
 have hl3 := h.a
 have no : vdB b = false → ∀ {σ : St}, Pub σ (.int .i64 50) (.int .i64 (chkE b)) := fun h σ => Pub.of_eq (by simp [chkE, h]) rfl
 refine PC_of_body b_ref36_Check (by simp) ?_
 simp only [c_ref36_Check, go_sem, jA, jB, jC, jD, jE, jF, jG, jH, jI, jJ, ↓reduceIte, reduceCtorEq, jP, bov]
 try simp (disch := omega) only [go_sem, jA, jB, jC, jD, jE, jF, jG, jH, jI, jJ, ↓reduceIte, reduceCtorEq, jO, jM, jN, jK, jL, wts_length, lls_length]
 refine gd_fd rfl (fun g1 => ?_) (fun g1 => ?_) <;> try simp (disch := omega) only [go_sem, jA, jB, jC, jD, jE, jF, jG, jH, jI, jJ, ↓reduceIte, reduceCtorEq, jO, jM, jN, jK, jL, wts_length, lls_length]
 ·exact no (by simp only [vdB]; simp; intros; omega)
 refine cond_n (fun g2 => ?_) (fun g2 => ?_) <;> try simp (disch := omega) only [go_sem, jA, jB, jC, jD, jE, jF, jG, jH, jI, jJ, ↓reduceIte, reduceCtorEq, jO, jM, jN, jK, jL, wts_length, lls_length]
 ·exact no (by simp only [vdB]; simp; intros; omega)
 have g4 : b.pa.length = b.ps.length := by omega
 refine awp_upF [2, 3, 4, 23, 24, 25, 26, 27, 28, 29, 30, 31, 32, 33, 34, 35, 36, 37, 38, 39, 40, 41, 42, 43, 44, 45, 46, 47, 48, 49, 50, 51] (by kernel_rfl) b.ps.length (fun k e σ => e 23 = .int .i64 k ∧ σ.ob 0 = some ⟨0, 3, 31, false, true, [.agg [.list 4 (wts b.ps), .list 1 (lls b.pa), .list 4 (wns b.ac)]]⟩ ∧ (b.ps.take k).all wtB = true ∧ ((b.ps.zip b.pa).take k).all paB = true) ?_ ?_
 ·exact ⟨(by first | rfl | (simp (disch := omega) only [go_sem, jA, jB, jC, jD, jE, jF, jG, jH, jI, jJ, ↓reduceIte, reduceCtorEq, jP, jO, jM, jN]; try rfl)), (by first | rfl | (simp (disch := omega) only [go_sem, jA, jB, jC, jD, jE, jF, jG, jH, jI, jJ, ↓reduceIte, reduceCtorEq, jP, jO, jM, jN]; try rfl)), by simp, by simp⟩
 ·rintro k fe ob c hk ⟨h23, hob, hj1, hj⟩
  simp (maxSteps := 1000000) only [go_sem, jA, jB, jC, jD, jE, jF, jG, jH, jI, jJ, ↓reduceIte, reduceCtorEq, jP] at h23 hob
  try simp (disch := omega) only [go_sem, jA, jB, jC, jD, jE, jF, jG, jH, jI, jJ, ↓reduceIte, reduceCtorEq, jO, jM, jN, jK, jL, h23, wts_length]
  refine cond_d (fun hlt => ?_) (fun hge => ?_)
  ·have hkl : k < b.ps.length := by omega
   have hkl2 : k < b.pa.length := by omega
   have hk2 : b.ps[k]? = some b.ps[k] := List.getElem?_eq_getElem hkl
   have hk3 : b.pa[k]? = some b.pa[k] := List.getElem?_eq_getElem hkl2
   obtain ⟨hz, hzz⟩ := gp_get hkl hkl2
   have hgo := all_go (p := paB) hz hj
   have hgo1 := all_go (p := wtB) hkl hj1
   have hbad : paB ((b.ps.zip b.pa)[k]) = false → vdB b = false := fun h => by simp only [vdB, all_bad hz h]; simp
   have hbad1 : wtB b.ps[k] = false → vdB b = false := fun h => by simp only [vdB, all_bad hkl h]; simp
   rw [hzz hz] at hgo hbad
   have hxl := h.l _ (List.getElem_mem hkl2)
   generalize b.ps[k] = p at *
   generalize b.pa[k] = x at *
   try simp (disch := omega) only [go_sem, jA, jB, jC, jD, jE, jF, jG, jH, jI, jJ, ↓reduceIte, reduceCtorEq, jO, jM, jN, jK, jL, h23, hob, wts_length, lls_length, wts_get, lls_get, hk2, hk3, Option.map_some, wtv, ints_length]
   refine ⟨by omega, by omega, ?_⟩
   have hP := ok_ref36_point p
   simp only [wtv] at hP
   refine call_pc hP (by simp [go_sem]) ?_
   cases hp : wtB p <;> try simp (disch := omega) only [go_sem, jA, jB, jC, jD, jE, jF, jG, jH, jI, jJ, ↓reduceIte, reduceCtorEq, jO, jM, jN, jK, jL, hob, wts_length, lls_length, wts_get, lls_get, hk2, hk3, Option.map_some, wtv, ints_length]
   ·exact no (hbad1 hp)
   refine ⟨by omega, by omega, ?_⟩
   refine gd_fd rfl (fun g5 => ?_) (fun g5 => ?_) <;> try simp (disch := omega) only [go_sem, jA, jB, jC, jD, jE, jF, jG, jH, jI, jJ, ↓reduceIte, reduceCtorEq, jO, jM, jN, jK, jL, h23, hob, wts_length, lls_length, wts_get, lls_get, hk2, hk3, Option.map_some, wtv, ints_length]
   ·exact no (hbad (by simp [paB]; intro h; omega))
   refine ⟨by omega, by omega, ?_⟩
   refine call_pc (ok_ref36_flows x hxl) (by simp [go_sem, ints_pur]) ?_
   cases hq : flsB x <;> try simp (disch := omega) only [go_sem, jA, jB, jC, jD, jE, jF, jG, jH, jI, jJ, ↓reduceIte, reduceCtorEq, jO, jM, jN, jK, jL, h23, hob]
   ·exact no (hbad (by simp [paB, hq]))
   ·exact up_next hkl ⟨(by first | rfl | (simp (disch := omega) only [go_sem, jA, jB, jC, jD, jE, jF, jG, jH, jI, jJ, ↓reduceIte, reduceCtorEq, jP, jO, jM, jN]; try rfl)), by try simp (disch := omega) only [go_sem, jA, jB, jC, jD, jE, jF, jG, jH, jI, jJ, ↓reduceIte, reduceCtorEq, jO, jM, jN, jK, jL]; exact hob, hgo1 hp, hgo (by simp [paB, hq]; omega)⟩
  ·have : k = b.ps.length := by omega
   subst this
   rw [List.take_of_length_le (by simp; omega)] at hj
   rw [List.take_length] at hj1
   clear h23
   try simp (disch := omega) only [go_sem, jA, jB, jC, jD, jE, jF, jG, jH, jI, jJ, ↓reduceIte, reduceCtorEq, jO, jM, jN, jK, jL, hob, wns_length]
   refine awp_upF [2, 5, 6, 55, 56, 57, 58, 59, 60, 61, 62, 63, 64, 65, 66, 67, 68, 69, 70, 71, 72, 73, 74, 75, 76, 77, 78, 79, 80, 81, 82, 83, 84, 85, 86, 87, 88, 89] (by kernel_rfl) b.ac.length (fun k e σ => e 55 = .int .i64 k ∧ σ.ob 0 = some ⟨0, 3, 31, false, true, [.agg [.list 4 (wts b.ps), .list 1 (lls b.pa), .list 4 (wns b.ac)]]⟩ ∧ chB (wnR b.ps.length) wn0 (b.ac.take k) = true) ?_ ?_
   ·exact ⟨(by first | rfl | (simp (disch := omega) only [go_sem, jA, jB, jC, jD, jE, jF, jG, jH, jI, jJ, ↓reduceIte, reduceCtorEq, jP, jO, jM, jN]; try rfl)), hob, by simp [chB]⟩
   clear hob hge hk
   rintro k fe2 ob2 c2 hk ⟨h55, hob, hch⟩
   simp (maxSteps := 1000000) only [go_sem, jA, jB, jC, jD, jE, jF, jG, jH, jI, jJ, ↓reduceIte, reduceCtorEq, jP] at h55 hob
   try simp (disch := omega) only [go_sem, jA, jB, jC, jD, jE, jF, jG, jH, jI, jJ, ↓reduceIte, reduceCtorEq, jO, jM, jN, jK, jL, h55, wns_length]
   refine cond_d (fun hlt => ?_) (fun hge => ?_)
   ·have hkl : k < b.ac.length := by omega
    have hk2 : b.ac[k]? = some b.ac[k] := List.getElem?_eq_getElem hkl
    have hgo := chB_go hkl hch
    have hbad : wnR b.ps.length (prG wn0 b.ac k) b.ac[k] = false → ∀ {σ : St}, Pub σ (.int .i64 50) (.int .i64 (chkE b)) := fun h σ =>
     no (by simp only [vdB, chB_bad hkl h]; simp)
    have hxl := h.c _ (List.getElem_mem hkl)
    have hk4 : k ≠ 0 → b.ac[k - 1]? = some (prG wn0 b.ac k) := fun hz => by
     simp [prG, hz, List.getElem?_eq_getElem (show k - 1 < b.ac.length by omega)]
    have hp0 : k = 0 → prG wn0 b.ac k = wn0 := fun hz => by simp [prG, hz]
    have hlo := chW_lo hkl hch
    generalize b.ac[k] = x at *
    generalize prG wn0 b.ac k = y at *
    have hW := ok_ref36_warning x hxl
    simp only [wnv] at hW
    try simp (disch := omega) only [go_sem, jA, jB, jC, jD, jE, jF, jG, jH, jI, jJ, ↓reduceIte, reduceCtorEq, jO, jM, jN, jK, jL, h55, hob, wns_length, wns_get, wts_length, hk2, Option.map_some, wnv]
    refine ⟨by omega, by omega, ?_⟩
    refine call_pc (ok_ref36_in _ _ _) (by simp [go_sem]) ?_
    cases h1 : inW x.p 0 ((b.ps.length : Int) - 1) <;> try simp (disch := omega) only [go_sem, jA, jB, jC, jD, jE, jF, jG, jH, jI, jJ, ↓reduceIte, reduceCtorEq, jO, jM, jN, jK, jL, h55, hob]
    ·refine hbad ?_
     simp only [wnR, wnB]
     simp [inW] at h1
     simp
     intro h2 h3
     exfalso
     have := h1 (by omega)
     omega
    have h1' := h1
    simp [inW] at h1'
    refine gd_td rfl (fun g2 => ?_) (fun g2 => ?_) <;> try simp (disch := omega) only [go_sem, jA, jB, jC, jD, jE, jF, jG, jH, jI, jJ, ↓reduceIte, reduceCtorEq, jO, jM, jN, jK, jL, h55, hob, wns_length]
    ·have hi : ((k : Int) - 1).toNat = k - 1 := by omega
     try simp (disch := omega) only [go_sem, jA, jB, jC, jD, jE, jF, jG, jH, jI, jJ, ↓reduceIte, reduceCtorEq, jO, jM, jN, jK, jL, h55, hob, wns_length, wns_get, hi, hk4 (by omega), Option.map_some, wnv]
     refine ⟨by omega, by omega, ?_⟩
     refine gd_fd rfl (fun g3 => ?_) (fun g3 => ?_) <;> try simp (disch := omega) only [go_sem, jA, jB, jC, jD, jE, jF, jG, jH, jI, jJ, ↓reduceIte, reduceCtorEq, jO, jM, jN, jK, jL, h55, hob]
     ·exact hbad (by simp [wnR]; intros; omega)
     refine call_pc hW (by simp [go_sem, css_pur]) ?_
     cases hp : wnB x <;> try simp (disch := omega) only [go_sem, jA, jB, jC, jD, jE, jF, jG, jH, jI, jJ, ↓reduceIte, reduceCtorEq, jO, jM, jN, jK, jL, h55, hob]
     ·exact hbad (by simp [wnR, hp])
     ·exact up_next hkl ⟨(by first | rfl | (simp (disch := omega) only [go_sem, jA, jB, jC, jD, jE, jF, jG, jH, jI, jJ, ↓reduceIte, reduceCtorEq, jP, jO, jM, jN]; try rfl)), by try simp (disch := omega) only [go_sem, jA, jB, jC, jD, jE, jF, jG, jH, jI, jJ, ↓reduceIte, reduceCtorEq, jO, jM, jN, jK, jL]; exact hob, hgo (by simp [wnR, hp]; omega)⟩
    ·refine call_pc hW (by simp [go_sem, css_pur]) ?_
     cases hp : wnB x <;> try simp (disch := omega) only [go_sem, jA, jB, jC, jD, jE, jF, jG, jH, jI, jJ, ↓reduceIte, reduceCtorEq, jO, jM, jN, jK, jL, h55, hob]
     ·exact hbad (by simp [wnR, hp])
     ·refine up_next hkl ⟨(by first | rfl | (simp (disch := omega) only [go_sem, jA, jB, jC, jD, jE, jF, jG, jH, jI, jJ, ↓reduceIte, reduceCtorEq, jP, jO, jM, jN]; try rfl)), by try simp (disch := omega) only [go_sem, jA, jB, jC, jD, jE, jF, jG, jH, jI, jJ, ↓reduceIte, reduceCtorEq, jO, jM, jN, jK, jL]; exact hob, hgo ?_⟩
      rw [hp0 (by omega)]
      simp only [wnR, wn0, hp, Bool.and_true, Bool.and_eq_true, decide_eq_true_eq]
      exact ⟨decide_eq_true (by omega), by omega⟩
   ·have : k = b.ac.length := by omega
    subst this
    rw [List.take_length] at hch
    try simp (disch := omega) only [go_sem, jA, jB, jC, jD, jE, jF, jG, jH, jI, jJ, ↓reduceIte, reduceCtorEq, jO, jM, jN, jK, jL]
    refine Pub.of_eq ?_ rfl
    simp only [chkE, vdB, hch, hj, hj1]
    simp [g4]; omega
inductive MP (σ : St) : AV → AV → Prop
 | same (a : AV) : MP σ a a
 | pub {a b : AV} (h : Pub σ a b) : MP σ a b
 | agg {cs ds : List AV} (h5 : cs.length = ds.length) (h6 : ∀ (i : Nat) (x y : AV), cs[i]? = some x → ds[i]? = some y → MP σ x y) : MP σ (.agg cs) (.agg ds)
 | tuple {cs ds : List AV} (h5 : cs.length = ds.length) (h6 : ∀ (i : Nat) (x y : AV), cs[i]? = some x → ds[i]? = some y → MP σ x y) : MP σ (.tuple cs) (.tuple ds)
inductive MPs (σ : St) : List AV → List AV → Prop
 | nil : MPs σ [] []
 | cons {a b : AV} {l r : List AV} (h : MP σ a b) (k : MPs σ l r) : MPs σ (a :: l) (b :: r)
theorem MPs.get {σ : St} {l r : List AV} (h : MPs σ l r) : l.length = r.length ∧ ∀ (i : Nat) (x y : AV), l[i]? = some x → r[i]? = some y → MP σ x y := by
 induction h with
 | nil => exact ⟨rfl, fun i x y h => by simp at h⟩
 | cons h k ih =>
  refine ⟨by simp [ih.1], fun i x y hx hy => ?_⟩
  cases i with
  | zero => simp at hx hy; subst hx; subst hy; exact h
  | succ i => exact ih.2 i x y (by simpa using hx) (by simpa using hy)
theorem MPs.app {σ : St} {l r l' r' : List AV} (h : MPs σ l r) (k : MPs σ l' r') : MPs σ (l ++ l') (r ++ r') := by
 induction h with
 | nil => exact k
 | cons h _ ih => exact .cons h ih
theorem MPs.refl {σ : St} : ∀ l : List AV, MPs σ l l
 | [] => .nil
 | _ :: l => .cons (.same _) (MPs.refl l)
theorem MP.ag {σ : St} {l r : List AV} (h : MPs σ l r) : MP σ (.agg l) (.agg r) := .agg h.get.1 h.get.2
theorem MP.tu {σ : St} {l r : List AV} (h : MPs σ l r) : MP σ (.tuple l) (.tuple r) := .tuple h.get.1 h.get.2
def MO (σ : St) (o o2 : AObj) : Prop := o2 = o ∨ (o2 = { o with l := o2.l } ∧ okL o.es o2.l ∧ o2.l.length = o.l.length ∧ MPs σ (flatL o.l) (flatL o2.l))
theorem MO.g {σ : St} {o o2 : AObj} (h : MO σ o o2) : o2.g = o.g := by
 rcases h with rfl | ⟨h, _⟩
 ·rfl
 ·rw [h]
theorem MO.ro {σ : St} {o o2 : AObj} (h : MO σ o o2) : o2.ro = o.ro := by
 rcases h with rfl | ⟨h, _⟩
 ·rfl
 ·rw [h]
theorem VR.mp {m : Mp} {S S' : Nat → Prop} {w : World} {σ : St} (h : Sim m S σ w) (hS : ∀ b, S b → S' b) (hS' : ∀ b, allB m σ b → S' b) {a b : AV} (hp : MP σ a b) : ∀ {v : Value}, VR m S w a v → VR m S' w b v := by
 induction hp with
 | same a => intro v hv; exact hv.keep (Mp.le_refl m) hS (fun _ _ => rfl)
 | pub hp => intro v hv; exact .pure (hv.pub h hS hS' hp)
 | agg h5 h6 ih =>
  intro v hv
  obtain ⟨vs, rfl, hvs⟩ := hv.of_agg
  refine .agg (by have := hvs.1; simp at this; omega) fun j y u hy hu => ?_
  have hj := (List.getElem?_eq_some_iff.1 hy).1
  exact ih j _ y (List.getElem?_eq_getElem (by omega)) hy (hvs.2 j _ u (List.getElem?_eq_getElem (by omega)) (by simpa using hu))
 | tuple h5 h6 ih =>
  intro v hv
  obtain ⟨vs, rfl, hvs⟩ := hv.of_tuple
  refine .tuple (by have := hvs.1; simp at this; omega) fun j y u hy hu => ?_
  have hj := (List.getElem?_eq_some_iff.1 hy).1
  exact ih j _ y (List.getElem?_eq_getElem (by omega)) hy (hvs.2 j _ u (List.getElem?_eq_getElem (by omega)) (by simpa using hu))
def shut (keep : Nat → Bool) (σ : St) : St := ⟨fun i => if keep i then none else σ.ob i, σ.n, σ.c⟩
theorem HC.sealm {P : Program} {σ : St} {f : Nat} {args : List AV} {R R' : AV → St → Prop} (h : HC P f args σ R)
  (k : ∀ r σ', R r σ' → ∃ (keep : Nat → Bool) (r2 : AV) (ob2 : Nat → Option AObj), MP (shut keep σ') r r2 ∧ (∀ i o2, ob2 i = some o2 → keep i = true ∧ ∃ o, σ'.ob i = some o ∧ MO (shut keep σ') o o2) ∧ R' r2 ⟨ob2, σ'.n, σ'.c⟩) : HC P f args σ R' := by
 refine ⟨h.1, fun m S w vs hS hv => (h.2 m S w vs hS hv).mono ?_⟩
 rintro x w' ⟨r, σ', m', S', v, rfl, hR, hI, hX, hV⟩
 obtain ⟨keep, r2, ob2, hp, hob, hR'⟩ := k r σ' hR
 have hs : ∀ i o, (shut keep σ').ob i = some o → keep i = false ∧ σ'.ob i = some o := fun i o h => by
  cases hk : keep i <;> simp [shut, hk] at h; exact ⟨rfl, h⟩
 have hsim : Sim m' S' (shut keep σ') w' :=
  ⟨hI.sim.fresh, fun k o ho => hI.sim.obj k o (hs k o ho).2, fun k k' o o' v v' b ho ho' => hI.sim.dist k k' o o' v v' b (hs k o ho).2 (hs k' o' ho').2, hI.sim.lt⟩
 have hmp : ∀ {a b : AV}, MP (shut keep σ') a b → ∀ {v : Value}, VR m' S' w' a v → VR m' (fun b => S' b ∨ allB m' (shut keep σ') b) w' b v :=
  fun {a b} hp {v} hv => VR.mp hsim (fun b h => .inl h) (fun b h => .inr h) hp hv
 refine ⟨r2, _, m', fun b => S' b ∨ allB m' (shut keep σ') b, v, rfl, hR', ⟨⟨hI.sim.fresh, fun k o2 ho2 => ?_, fun k k' o2 o2' v v' b ho ho' hkk hm hm' => ?_, fun b hb => ?_⟩,
  ⟨hI.fr.os, hI.fr.tape, hI.fr.output, hI.fr.size, hI.fr.block, fun k o2 v b ho hro hm hb => ?_, fun b hb => ?_⟩⟩, ?_, hmp hp hV⟩
 ·obtain ⟨hk, o, ho, hmo⟩ := hob k o2 ho2
  obtain ⟨v, h1, ⟨h2, h3, xs, h4, h5⟩, h6⟩ := hI.sim.obj k o ho
  obtain ⟨he, hok, hlen, hps⟩ : o2 = { o with l := o2.l } ∧ okL o.es o2.l ∧ o2.l.length = o.l.length ∧ MPs (shut keep σ') (flatL o.l) (flatL o2.l) := by
   rcases hmo with rfl | h
   ·exact ⟨rfl, h2, rfl, MPs.refl _⟩
   ·exact h
  rw [he]
  refine ⟨v, h1, ⟨hok, h3, xs, by simpa [hlen] using h4, ?_⟩, fun b hb => ⟨fun hr => .inl ((h6 b hb).1 hr), fun hr => ?_⟩⟩
  ·obtain ⟨q1, q2⟩ := hps.get
   refine ⟨by rw [h5.1]; exact q1, fun j y u hy hu => ?_⟩
   have hj := (List.getElem?_eq_some_iff.1 hy).1
   have hx : (flatL o.l)[j]? = some (flatL o.l)[j] := List.getElem?_eq_getElem (by simp only at hj; omega)
   exact hmp (q2 j _ y hx hy) (h5.2 j _ u hx hu)
  ·rintro (hh | ⟨k', o', v', ho', hm', hb'⟩)
   ·exact (h6 b hb).2 hr hh
   ·obtain ⟨hk', ho'⟩ := hs k' o' ho'
    exact hI.sim.dist k k' o o' v v' b ho ho' (fun e => by subst e; rw [hk] at hk'; cases hk') h1 hm' hb hb'
 ·obtain ⟨_, o, hko, hmo⟩ := hob k o2 ho
  obtain ⟨_, o', hko', hmo'⟩ := hob k' o2' ho'
  rw [hmo.g] at hm
  rw [hmo'.g] at hm'
  exact hI.sim.dist k k' o o' v v' b hko hko' hkk hm hm'
 ·rcases hb with hb | ⟨k', o', v', ho', hm', hb'⟩
  ·exact hI.sim.lt b hb
  ·obtain ⟨hk', ho'⟩ := hs k' o' ho'
   obtain ⟨v2, h1, h2, _⟩ := hI.sim.obj k' o' ho'
   rw [hm'] at h1; obtain rfl := Option.some.inj h1
   exact ownBlock_lt h2 hb'
 ·obtain ⟨_, o, hko, hmo⟩ := hob k o2 ho
  rw [hmo.g] at hm
  rw [hmo.ro] at hro
  exact hI.fr.own k o v b hko hro hm hb
 ·rcases hb with hb | ⟨k', o', v', ho', hm', hb'⟩
  ·exact hI.fr.sub b hb
  ·obtain ⟨hk', ho'⟩ := hs k' o' ho'
   cases hro : o'.ro with
   | true =>
    obtain ⟨v2, h1, _, h3⟩ := hI.sim.obj k' o' ho'
    rw [hm'] at h1; obtain rfl := Option.some.inj h1
    exact hI.fr.sub b ((h3 b hb').1 hro)
   | false => exact .inr (hI.fr.own k' o' v' b ho' hro hm' hb')
 ·exact ⟨hX.le, fun b h => .inl (hX.sub b h), hX.keep⟩
abbrev ty_el_Watch : TypeId := 68
theorem hcl_slices_Clone__Watch (σ : St) (L : List AV) (hl : L.length * 32 ≤ 140737488355328) : HC prog n_slices_Clone__Watch [.list 4 L] σ (NewO σ 4 ty_el_Watch L) := by
 refine HC_of_body b_slices_Clone__Watch (by simp) ?_
 obtain ⟨ob, n, c⟩ := σ
 simp only [c_slices_Clone__Watch, go_sem, jA, jB, jC, jD, jE, jF, jG, jH, jI, jJ, ↓reduceIte, reduceCtorEq, jP]
 refine isnil_l (fun h => ?_) (fun h => ?_)
 ·subst h
  refine ⟨?_, ?_⟩
  ·try simp (disch := omega) only [go_sem, jA, jB, jC, jD, jE, jF, jG, jH, jI, jJ, ↓reduceIte, reduceCtorEq, jO, jM, jN, jK, jL]
   refine ⟨_, _, rfl, Nat.le_succ _, Nat.lt_succ_self _, (by first | rfl | (simp (disch := omega) only [go_sem, jA, jB, jC, jD, jE, jF, jG, jH, jI, jJ, ↓reduceIte, reduceCtorEq, jP, jO, jM, jN]; try rfl)), fun i hi => ?_⟩
   simp only at hi
   try simp (disch := omega) only [go_sem, jA, jB, jC, jD, jE, jF, jG, jH, jI, jJ, ↓reduceIte, reduceCtorEq, jO, jM, jN, jK, jL]
  ·try simp (disch := omega) only [go_sem, jA, jB, jC, jD, jE, jF, jG, jH, jI, jJ, ↓reduceIte, reduceCtorEq, jO, jM, jN, jK, jL]
   repeat (refine And.intro (by first | omega | (rw [mxL]; omega) | (simp [maxLen]; done) | (simp [maxLen]; omega)) ?_)
   refine ⟨_, _, rfl, Nat.le_succ _, Nat.lt_succ_self _, (by first | rfl | (simp (disch := omega) only [go_sem, jA, jB, jC, jD, jE, jF, jG, jH, jI, jJ, ↓reduceIte, reduceCtorEq, jP, jO, jM, jN]; try rfl)), fun i hi => ?_⟩
   simp only at hi
   try simp (disch := omega) only [go_sem, jA, jB, jC, jD, jE, jF, jG, jH, jI, jJ, ↓reduceIte, reduceCtorEq, jO, jM, jN, jK, jL]
 ·try simp (disch := omega) only [go_sem, jA, jB, jC, jD, jE, jF, jG, jH, jI, jJ, ↓reduceIte, reduceCtorEq, jO, jM, jN, jK, jL]
  repeat (refine And.intro (by first | omega | (rw [mxL]; omega) | (simp [maxLen]; done) | (simp [maxLen]; omega)) ?_)
  refine ⟨_, _, rfl, Nat.le_succ _, Nat.lt_succ_self _, (by first | rfl | (simp (disch := omega) only [go_sem, jA, jB, jC, jD, jE, jF, jG, jH, jI, jJ, ↓reduceIte, reduceCtorEq, jP, jO, jM, jN]; try rfl)), fun i hi => ?_⟩
  simp only at hi
  try simp (disch := omega) only [go_sem, jA, jB, jC, jD, jE, jF, jG, jH, jI, jJ, ↓reduceIte, reduceCtorEq, jO, jM, jN, jK, jL]
theorem okl_slices_Clone__Watch (L : List AV) (hl : L.length * 32 ≤ 140737488355328) (hp : ∀ x ∈ L, x.pur = true) (hk : ∀ x ∈ L, okE 4 x) : PC prog n_slices_Clone__Watch [.list 4 L] (.list 4 L) :=
 PC_of_HC b_slices_Clone__Watch ((hcl_slices_Clone__Watch St.empty L hl).mono fun r τ ⟨id, g, h1, _, _, h2, _⟩ => by rw [h1]; exact Pub.of_sl h2 rfl hp hk)
abbrev ty_el_Cause : TypeId := 39
theorem hcl_slices_Clone__Cause (σ : St) (L : List AV) (hl : L.length * 16 ≤ 140737488355328) : HC prog n_slices_Clone__Cause [.list 2 L] σ (NewO σ 2 ty_el_Cause L) := by
 refine HC_of_body b_slices_Clone__Cause (by simp) ?_
 obtain ⟨ob, n, c⟩ := σ
 simp only [c_slices_Clone__Cause, go_sem, jA, jB, jC, jD, jE, jF, jG, jH, jI, jJ, ↓reduceIte, reduceCtorEq, jP]
 refine isnil_l (fun h => ?_) (fun h => ?_)
 ·subst h
  refine ⟨?_, ?_⟩
  ·try simp (disch := omega) only [go_sem, jA, jB, jC, jD, jE, jF, jG, jH, jI, jJ, ↓reduceIte, reduceCtorEq, jO, jM, jN, jK, jL]
   refine ⟨_, _, rfl, Nat.le_succ _, Nat.lt_succ_self _, (by first | rfl | (simp (disch := omega) only [go_sem, jA, jB, jC, jD, jE, jF, jG, jH, jI, jJ, ↓reduceIte, reduceCtorEq, jP, jO, jM, jN]; try rfl)), fun i hi => ?_⟩
   simp only at hi
   try simp (disch := omega) only [go_sem, jA, jB, jC, jD, jE, jF, jG, jH, jI, jJ, ↓reduceIte, reduceCtorEq, jO, jM, jN, jK, jL]
  ·try simp (disch := omega) only [go_sem, jA, jB, jC, jD, jE, jF, jG, jH, jI, jJ, ↓reduceIte, reduceCtorEq, jO, jM, jN, jK, jL]
   repeat (refine And.intro (by first | omega | (rw [mxL]; omega) | (simp [maxLen]; done) | (simp [maxLen]; omega)) ?_)
   refine ⟨_, _, rfl, Nat.le_succ _, Nat.lt_succ_self _, (by first | rfl | (simp (disch := omega) only [go_sem, jA, jB, jC, jD, jE, jF, jG, jH, jI, jJ, ↓reduceIte, reduceCtorEq, jP, jO, jM, jN]; try rfl)), fun i hi => ?_⟩
   simp only at hi
   try simp (disch := omega) only [go_sem, jA, jB, jC, jD, jE, jF, jG, jH, jI, jJ, ↓reduceIte, reduceCtorEq, jO, jM, jN, jK, jL]
 ·try simp (disch := omega) only [go_sem, jA, jB, jC, jD, jE, jF, jG, jH, jI, jJ, ↓reduceIte, reduceCtorEq, jO, jM, jN, jK, jL]
  repeat (refine And.intro (by first | omega | (rw [mxL]; omega) | (simp [maxLen]; done) | (simp [maxLen]; omega)) ?_)
  refine ⟨_, _, rfl, Nat.le_succ _, Nat.lt_succ_self _, (by first | rfl | (simp (disch := omega) only [go_sem, jA, jB, jC, jD, jE, jF, jG, jH, jI, jJ, ↓reduceIte, reduceCtorEq, jP, jO, jM, jN]; try rfl)), fun i hi => ?_⟩
  simp only at hi
  try simp (disch := omega) only [go_sem, jA, jB, jC, jD, jE, jF, jG, jH, jI, jJ, ↓reduceIte, reduceCtorEq, jO, jM, jN, jK, jL]
theorem okl_slices_Clone__Cause (L : List AV) (hl : L.length * 16 ≤ 140737488355328) (hp : ∀ x ∈ L, x.pur = true) (hk : ∀ x ∈ L, okE 2 x) : PC prog n_slices_Clone__Cause [.list 2 L] (.list 2 L) :=
 PC_of_HC b_slices_Clone__Cause ((hcl_slices_Clone__Cause St.empty L hl).mono fun r τ ⟨id, g, h1, _, _, h2, _⟩ => by rw [h1]; exact Pub.of_sl h2 rfl hp hk)
structure Grp (σ : St) (lo : Nat) (X : AV) (Es : List AV) : Prop where
 low : ∀ i, ¬ Oth X i → lo ≤ i ∧ i < σ.n
 loE : ∀ E ∈ Es, ∀ i, ¬ Oth E i → lo ≤ i ∧ i < σ.n
 sep : ∀ E ∈ Es, ∀ i, ¬ Oth E i → Oth X i
 dj : ∀ (a b : Nat) (E F : AV), a ≠ b → Es[a]? = some E → Es[b]? = some F → ∀ i, ¬ Oth E i → Oth F i
theorem Grp.nil (σ : St) (lo : Nat) : Grp σ lo .nil [] := ⟨fun i h => absurd (Oth.nil i) h, fun _ h => (by cases h), fun _ h => (by cases h), fun a b E F _ h => (by simp at h)⟩
theorem snoc_get {α : Type} {l : List α} {x y : α} {a : Nat} (h : (l ++ [x])[a]? = some y) : (a < l.length ∧ l[a]? = some y) ∨ (a = l.length ∧ y = x) := by
 by_cases ha : a < l.length
 ·rw [List.getElem?_append_left ha] at h; exact .inl ⟨ha, h⟩
 ·rw [List.getElem?_append_right (by omega)] at h
  obtain ⟨h1, h2⟩ := List.getElem?_eq_some_iff.1 h
  simp at h1
  have h3 : a = l.length := by omega
  subst h3
  simp at h2
  exact .inr ⟨rfl, h2.symm⟩
theorem Grp.snoc {σ τ ρ : St} {lo : Nat} {X X' E : AV} {Es : List AV} (h : Grp σ lo X Es) (hlo : lo ≤ σ.n) (hn : σ.n ≤ τ.n) (hE : ∀ i, ¬ Oth E i → σ.n ≤ i ∧ i < τ.n) (k : Kp τ X ρ X') (hX : ∀ i, ρ.n ≤ i → Oth X' i) : Grp ρ lo X' (Es ++ [E]) := by
 obtain ⟨k1, k2, k3⟩ := k
 have hEs : ∀ F ∈ Es, ∀ i, ¬ Oth F i → i < σ.n := fun F hF i hi => (h.loE F hF i hi).2
 refine ⟨fun i hi => ?_, fun F hF i hi => ?_, fun F hF i hi => ?_, fun a b F G hab hF hG i hi => ?_⟩
 ·refine ⟨?_, Nat.lt_of_not_le fun hh => hi (hX i hh)⟩
  by_cases h1 : i < τ.n
  ·exact (h.low i fun h2 => hi (k3 i h1 h2)).1
  ·omega
 ·rcases List.mem_append.1 hF with hF | hF
  ·have := h.loE F hF i hi; omega
  ·obtain rfl : F = E := by simpa using hF
   have := hE i hi; omega
 ·rcases List.mem_append.1 hF with hF | hF
  ·exact k3 i (by have := hEs F hF i hi; omega) (h.sep F hF i hi)
  ·obtain rfl : F = E := by simpa using hF
   have := hE i hi
   exact k3 i this.2 (Oth.em fun h2 => by have := (h.low i h2).2; omega)
 ·rcases snoc_get hF with ⟨_, hF2⟩ | ⟨ha, rfl⟩ <;> rcases snoc_get hG with ⟨_, hG2⟩ | ⟨hb, rfl⟩
  ·exact h.dj a b F G hab hF2 hG2 i hi
  ·exact Oth.em fun h2 => by have := hE i h2; have := hEs F (List.mem_of_getElem? hF2) i hi; omega
  ·exact Oth.em fun h2 => by have := hE i hi; have := hEs G (List.mem_of_getElem? hG2) i h2; omega
  ·omega
theorem Grp.up {σ τ : St} {lo : Nat} {X : AV} {Es : List AV} (h : Grp σ lo X Es) (hn : σ.n ≤ τ.n) : Grp τ lo X Es :=
 ⟨fun i hi => ⟨(h.low i hi).1, Nat.lt_of_lt_of_le (h.low i hi).2 hn⟩, fun E hE i hi => ⟨(h.loE E hE i hi).1, Nat.lt_of_lt_of_le (h.loE E hE i hi).2 hn⟩, h.sep, h.dj⟩
def IC (es : Nat) (ty : TypeId) (σ : St) (Es : List AV) (Ls : List (List AV)) : Prop := Es.length = Ls.length ∧ ∀ (i : Nat) (E : AV) (L : List AV), Es[i]? = some E → Ls[i]? = some L → SlR es ty σ L E
theorem IC.nil (es : Nat) (ty : TypeId) (σ : St) : IC es ty σ [] [] := ⟨rfl, fun i E L h => by simp at h⟩
theorem IC.move {es : Nat} {ty : TypeId} {σ τ : St} {Es : List AV} {Ls : List (List AV)} (h : IC es ty σ Es Ls) (hn : σ.n ≤ τ.n) (ho : ∀ E ∈ Es, ∀ i, ¬ Oth E i → i < σ.n → τ.ob i = σ.ob i) : IC es ty τ Es Ls :=
 ⟨h.1, fun i E L hE hL => (h.2 i E L hE hL).move hn fun j hj hh => ho E (List.mem_of_getElem? hE) j hh hj⟩
theorem IC.snoc {es : Nat} {ty : TypeId} {σ : St} {Es : List AV} {Ls : List (List AV)} {E : AV} {L : List AV} (h : IC es ty σ Es Ls) (k : SlR es ty σ L E) : IC es ty σ (Es ++ [E]) (Ls ++ [L]) := by
 refine ⟨by simp [h.1], fun i F M hF hM => ?_⟩
 rcases snoc_get hF with ⟨h1, hF⟩ | ⟨h1, rfl⟩ <;> rcases snoc_get hM with ⟨h2, hM⟩ | ⟨h2, rfl⟩
 ·exact h.2 i F M hF hM
 ·have := h.1; omega
 ·have := h.1; omega
 ·exact k
theorem SlR.up {es : Nat} {ty : TypeId} {σ τ : St} {L : List AV} {X : AV} (h : SlR es ty σ L X) (hn : σ.n ≤ τ.n) (ho : ∀ i, i < σ.n → ¬ Oth X i → τ.ob i = σ.ob i) : SlR es ty τ L X := h.move hn ho
theorem SlR.lt {es : Nat} {ty : TypeId} {σ : St} {L : List AV} {X : AV} (h : SlR es ty σ L X) {i : Nat} (hi : ¬ Oth X i) : i < σ.n := Nat.lt_of_not_le fun hh => hi (h.oth hh)
theorem pub_slx {es : Nat} {ty : TypeId} {σ τ : St} {L M : List AV} {X : AV} (h : SlR es ty σ L X) (ho : ∀ i, i < σ.n → ¬ Oth X i → τ.ob i = σ.ob i) (hl : L.length = M.length)
  (hp : ∀ (i : Nat) (x y : AV), L[i]? = some x → M[i]? = some y → Pub τ x y) (hk : ∀ x ∈ M, okE es x) : Pub τ X (.list es M) := by
 rcases h with ⟨rfl, rfl⟩ | ⟨id, g, rfl, h2, h3⟩
 ·obtain rfl : M = [] := List.eq_nil_of_length_eq_zero (by simpa using hl.symm)
  exact .nl es
 ·exact .sl ((ho id h2 fun h => h _ _ _ _ rfl).trans h3) rfl rfl (by simp) (by simpa using hl) (by simpa using hp) hk
theorem IC.pub {es : Nat} {ty : TypeId} {σ τ : St} {Es : List AV} {Ls : List (List AV)} (h : IC es ty σ Es Ls) (ho : ∀ E ∈ Es, ∀ i, i < σ.n → ¬ Oth E i → τ.ob i = σ.ob i)
  (hp : ∀ L ∈ Ls, ∀ x ∈ L, x.pur = true) (hk : ∀ L ∈ Ls, ∀ x ∈ L, okE es x) : ∀ (i : Nat) (E : AV) (L : List AV), Es[i]? = some E → Ls[i]? = some L → Pub τ E (.list es L) := fun i E L hE hL =>
 (h.2 i E L hE hL).pub (ho E (List.mem_of_getElem? hE)) (hp L (List.mem_of_getElem? hL)) (hk L (List.mem_of_getElem? hL))
def wnX (w : Wn) (E : AV) : AV := .agg [.int .i64 w.p, .int .i64 w.t, E, .int .i64 w.cm]
def wnXs (l : List Wn) (Cs : List AV) : List AV := List.zipWith wnX l Cs
theorem wnXs_snoc {l : List Wn} {Cs : List AV} {w : Wn} {E : AV} (h : l.length = Cs.length) : wnXs (l ++ [w]) (Cs ++ [E]) = wnXs l Cs ++ [wnX w E] := by
 simp only [wnXs]; rw [List.zipWith_append h]; rfl
abbrev tyW : TypeId := 68
abbrev tyL : TypeId := 22
abbrev tyI : TypeId := 3
abbrev tyC : TypeId := 39
abbrev tyA : TypeId := 56
def inI (l : List (List Int)) : List (List AV) := l.map ints
def inC (l : List Wn) : List (List AV) := l.map fun w => css w.cs
def CpO (σ : St) (b : Bo) (r : AV) (τ : St) : Prop :=
 ∃ XP XQ XA Es Fs l1 l2, r = .agg [XP, XQ, XA] ∧ σ.n ≤ l1 ∧ l1 ≤ l2 ∧ l2 ≤ τ.n ∧ SlR 4 tyW τ (wts b.ps) XP ∧ (∀ i, ¬ Oth XP i → σ.n ≤ i ∧ i < l1) ∧
  SlR 1 tyL τ Es XQ ∧ IC 1 tyI τ Es (inI b.pa) ∧ Grp τ l1 XQ Es ∧ (∀ i, ¬ Oth XQ i → i < l2) ∧ (∀ E ∈ Es, ∀ i, ¬ Oth E i → i < l2) ∧
  SlR 4 tyA τ (wnXs b.ac Fs) XA ∧ IC 2 tyC τ Fs (inC b.ac) ∧ Grp τ l2 XA Fs ∧ ∀ i, i < σ.n → τ.ob i = σ.ob i
theorem hc_ref36_Copy (σ : St) (b : Bo) (h1 : b.ps.length ≤ 1000000) (h2 : b.pa.length ≤ 1000000) (h3 : ∀ l ∈ b.pa, l.length ≤ 1000000) (h4 : b.ac.length ≤ 1000000) (h5 : ∀ w ∈ b.ac, w.cs.length ≤ 1000000) : HC prog n_ref36_Copy [bov b] σ (CpO σ b) := by
 obtain ⟨ob0, n0, c0⟩ := σ
 refine HC_of_body b_ref36_Copy (by simp) ?_
 simp only [c_ref36_Copy, bov]
 try simp (disch := omega) only [go_sem, jA, jB, jC, jD, jE, jF, jG, jH, jI, jJ, ↓reduceIte, reduceCtorEq, jO, jM, jN, jK, jL]
 refine app_slrs (M := wts b.ps) (b := 32) SlR.nil (by simp [wts_length]; omega) (by simp [wts_length]; omega) fun XP τ hP kP => ?_
 obtain ⟨ob1, n1, c1⟩ := τ
 obtain ⟨k1, k2, k3⟩ := kP
 simp only [List.nil_append] at hP
 have k1' : n0 + 1 + 1 ≤ n1 := k1
 have u0 := k2 n0 (by simp only; omega) (Oth.nil _)
 have u1 := k2 (n0 + 1) (by simp only; omega) (Oth.nil _)
 try simp (disch := omega) only [go_sem, jA, jB, jC, jD, jE, jF, jG, jH, jI, jJ, ↓reduceIte, reduceCtorEq, jO, jM, jN, jK, jL] at u0
 try simp (disch := omega) only [go_sem, jA, jB, jC, jD, jE, jF, jG, jH, jI, jJ, ↓reduceIte, reduceCtorEq, jO, jM, jN, jK, jL] at u1
 have z0 : ¬ n0 = n1 := by omega
 have z1 : ¬ n0 + 1 = n1 := by omega
 try simp (disch := omega) only [go_sem, jA, jB, jC, jD, jE, jF, jG, jH, jI, jJ, ↓reduceIte, reduceCtorEq, jO, jM, jN, jK, jL, u0, u1, z0, z1, hP.flat, hP.cells, hP.one]
 refine awp_upG [5, 15, 16, 17, 18, 19, 20, 21, 22, 23, 24, 25, 26] (by kernel_rfl) b.pa.length (fun k e σ => e 15 = .int .i64 k ∧ n1 + 1 ≤ σ.n ∧ (∀ i, i < n1 → σ.ob i = ob1 i) ∧ ∃ X Es, σ.ob n1 = some ⟨c1, 3, 31, false, true, [.agg [XP, X, .nil]]⟩ ∧ SlR 1 tyL σ Es X ∧ IC 1 tyI σ Es (inI (b.pa.take k)) ∧ Grp σ (n1 + 1) X Es) ?_ ?_
 ·exact ⟨(by first | rfl | (simp (disch := omega) only [go_sem, jA, jB, jC, jD, jE, jF, jG, jH, jI, jJ, ↓reduceIte, reduceCtorEq, jP, jO, jM, jN]; try rfl)), Nat.le_refl _, fun i hi => by try simp (disch := omega) only [go_sem, jA, jB, jC, jD, jE, jF, jG, jH, jI, jJ, ↓reduceIte, reduceCtorEq, jO, jM, jN, jK, jL], .nil, [], by try simp (disch := omega) only [go_sem, jA, jB, jC, jD, jE, jF, jG, jH, jI, jJ, ↓reduceIte, reduceCtorEq, jO, jM, jN, jK, jL], SlR.nil, IC.nil _ _ _, Grp.nil _ _⟩
 rintro k fe ob m c hk hm ⟨h15, hm1, ho, X, Es, hq, hX, hI, hG⟩
 simp (maxSteps := 1000000) only [go_sem, jA, jB, jC, jD, jE, jF, jG, jH, jI, jJ, ↓reduceIte, reduceCtorEq, jP] at h15 hm hm1 ho hq
 try simp (disch := omega) only [go_sem, jA, jB, jC, jD, jE, jF, jG, jH, jI, jJ, ↓reduceIte, reduceCtorEq, jO, jM, jN, jK, jL, h15, lls_length]
 refine cond_d (fun hlt => ?_) (fun hge => ?_)
 ·have hkl : k < b.pa.length := by omega
  have hk2 : b.pa[k]? = some b.pa[k] := List.getElem?_eq_getElem hkl
  have hxl := h3 _ (List.getElem_mem hkl)
  have htk : b.pa.take (k + 1) = b.pa.take k ++ [b.pa[k]] := take_snoc _ _ hkl
  have hEl : Es.length = k := by have := hI.1; simp [inI] at this; omega
  generalize b.pa[k] = l at *
  try simp (disch := omega) only [go_sem, jA, jB, jC, jD, jE, jF, jG, jH, jI, jJ, ↓reduceIte, reduceCtorEq, jO, jM, jN, jK, jL, h15, lls_length, lls_get, hk2, Option.map_some, hq]
  refine ⟨by omega, by omega, ?_⟩
  refine app_slrs (M := ints l) (b := 8) SlR.nil (by simp [ints_length]; omega) (by simp [ints_length]; omega) fun E τ1 hE kE => ?_
  obtain ⟨ob2, m2, c2⟩ := τ1
  obtain ⟨e1, e2, e3⟩ := kE
  simp only [List.nil_append] at hE
  have e1' : m ≤ m2 := e1
  have e2' : ∀ i, i < m → ob2 i = ob i := fun i hi => e2 i hi (Oth.nil _)
  have e3' : ∀ i, i < m → Oth E i := fun i hi => e3 i hi (Oth.nil _)
  clear u1 k2 k3 k1 e1 e2 e3
  try simp (disch := omega) only [go_sem, jA, jB, jC, jD, jE, jF, jG, jH, jI, jJ, ↓reduceIte, reduceCtorEq, jO, jM, jN, jK, jL, hE.flat, hE.cells, hE.one]
  rw [e2' n1 (by omega)]
  refine ⟨rfl, ?_⟩
  have oX : ∀ i, i < n1 + 1 → Oth X i := fun i hi => Oth.em fun h => by have := (hG.low i h).1; omega
  refine app_er (ER.of_sl (L := [E]) (upd_same _ _ _) (Nat.lt_succ_self _)) ?_
  refine app_slr (hX.move (by simp only; omega) fun i hi _ => ?_) (by omega) (by omega) fun X' τ2 hX2 kX => ?_
  ·simp only at hi ⊢
   rw [upd_ne _ _ _ _ (by omega), e2' i hi]
  obtain ⟨ob3, m3, c3⟩ := τ2
  have q1 : m2 + 1 ≤ m3 := kX.1
  have q2 : ∀ i, i < m2 → Oth X i → ob3 i = ob2 i := fun i hi h => (kX.2.1 i (by simp only; omega) h).trans (by simp only; rw [upd_ne _ _ _ _ (by omega)])
  have hq3 : ob3 n1 = some ⟨c1, 3, 31, false, true, [.agg [XP, X, .nil]]⟩ := by rw [q2 n1 (by omega) (oX n1 (by omega)), e2' n1 (by omega), hq]
  try simp (disch := omega) only [go_sem, jA, jB, jC, jD, jE, jF, jG, jH, jI, jJ, ↓reduceIte, reduceCtorEq, jO, jM, jN, jK, jL, hq3, hX2.flat, hX2.cells, hX2.one, hP.flat, hP.cells, hP.one, h15]
  have hF : ∀ i, i < m3 → i ≠ n1 → ((⟨upd ob3 n1 (some ⟨c1, 3, 31, false, true, [.agg [XP, X', .nil]]⟩), m3, c3⟩ : St).trunc m3).ob i = ob3 i := fun i hi hne => by
   simp only [St.trunc, if_pos hi]; rw [upd_ne _ _ _ _ hne]
  have hEi : ∀ i, ¬ Oth E i → m ≤ i ∧ i < m2 := fun i hi => ⟨Nat.le_of_not_lt fun h => hi (e3' i h), hE.lt hi⟩
  have hXn : ∀ i, i < m → ¬ Oth X i → True := fun _ _ _ => trivial
  have oX' : Oth X' n1 := kX.2.2 n1 (by simp only; omega) (oX n1 (by omega))
  have oXm : ∀ i, m ≤ i → Oth X i := fun i hi => hX.oth hi
  refine up_nextG m3 hkl (by omega) ⟨(by first | rfl | (simp (disch := omega) only [go_sem, jA, jB, jC, jD, jE, jF, jG, jH, jI, jJ, ↓reduceIte, reduceCtorEq, jP, jO, jM, jN]; try rfl)), by simp only [St.trunc]; omega, fun i hi => ?_, X', Es ++ [E], ?_, ?_, ?_, ?_⟩
  ·rw [hF i (by omega) (by omega), q2 i (by omega) (oX i (by omega)), e2' i (by omega), ho i hi]
  ·simp only [St.trunc, if_pos (show n1 < m3 by omega), upd_same]
  ·exact hX2.move (Nat.le_refl _) fun i hi hh => hF i hi fun h => hh (h ▸ oX')
  ·rw [htk, show inI (b.pa.take k ++ [l]) = inI (b.pa.take k) ++ [ints l] by simp [inI]]
   refine IC.snoc (hI.move (by simp only [St.trunc]; omega) fun F hF2 i hi hlt => ?_) (hE.move (by simp only [St.trunc]; omega) fun i hlt hi => ?_)
   ·have hi1 := (hG.loE F hF2 i hi).1
    simp only at hlt
    rw [hF i (by omega) (by omega), q2 i (by omega) (hG.sep F hF2 i hi), e2' i hlt]
   ·have hi1 := hEi i hi
    simp only at hlt ⊢
    rw [hF i (by omega) (by omega), q2 i (by omega) (oXm i hi1.1)]
  ·exact (hG.snoc (by simp only; omega) (show m ≤ m2 + 1 by omega) (fun i hi => ⟨(hEi i hi).1, by have := (hEi i hi).2; simp only; omega⟩) kX fun i hi => hX2.oth hi).up (Nat.le_refl _)
 obtain rfl : k = b.pa.length := by omega
 rw [List.take_length] at hI
 have u0' : ob n0 = some ⟨c0, 3, 31, false, true, [.agg [.list 4 (wts b.ps), .list 1 (lls b.pa), .list 4 (wns b.ac)]]⟩ := by rw [ho n0 (by omega), u0]
 clear h15 hge
 try simp (disch := omega) only [go_sem, jA, jB, jC, jD, jE, jF, jG, jH, jI, jJ, ↓reduceIte, reduceCtorEq, jO, jM, jN, jK, jL, u0', wns_length]
 refine awp_upG [7, 30, 31, 32, 33, 34, 35, 36, 37, 38, 39, 40, 41, 42, 43, 44] (by kernel_rfl) b.ac.length (fun k e σ => e 30 = .int .i64 k ∧ m ≤ σ.n ∧ (∀ i, i < m → i ≠ n1 → σ.ob i = ob i) ∧ ∃ Y Fs, σ.ob n1 = some ⟨c1, 3, 31, false, true, [.agg [XP, X, Y]]⟩ ∧ SlR 4 tyA σ (wnXs (b.ac.take k) Fs) Y ∧ IC 2 tyC σ Fs (inC (b.ac.take k)) ∧ Grp σ m Y Fs) ?_ ?_
 ·exact ⟨(by first | rfl | (simp (disch := omega) only [go_sem, jA, jB, jC, jD, jE, jF, jG, jH, jI, jJ, ↓reduceIte, reduceCtorEq, jP, jO, jM, jN]; try rfl)), Nat.le_refl _, fun i hi _ => by try simp (disch := omega) only [go_sem, jA, jB, jC, jD, jE, jF, jG, jH, jI, jJ, ↓reduceIte, reduceCtorEq, jO, jM, jN, jK, jL], .nil, [], by try simp (disch := omega) only [go_sem, jA, jB, jC, jD, jE, jF, jG, jH, jI, jJ, ↓reduceIte, reduceCtorEq, jO, jM, jN, jK, jL, hq], by simp [wnXs]; exact SlR.nil, IC.nil _ _ _, Grp.nil _ _⟩
 rintro k fe2 ob5 m5 c5 hk5 hm5 ⟨h30, hm6, ho5, Y, Fs, hq5, hY, hJ, hH⟩
 simp (maxSteps := 1000000) only [go_sem, jA, jB, jC, jD, jE, jF, jG, jH, jI, jJ, ↓reduceIte, reduceCtorEq, jP] at h30 hm5 hm6 ho5 hq5
 try simp (disch := omega) only [go_sem, jA, jB, jC, jD, jE, jF, jG, jH, jI, jJ, ↓reduceIte, reduceCtorEq, jO, jM, jN, jK, jL, h30, wns_length]
 refine cond_d (fun hlt => ?_) (fun hge => ?_)
 ·have hkl : k < b.ac.length := by omega
  have hk2 : b.ac[k]? = some b.ac[k] := List.getElem?_eq_getElem hkl
  have hxl := h5 _ (List.getElem_mem hkl)
  have htk : b.ac.take (k + 1) = b.ac.take k ++ [b.ac[k]] := take_snoc _ _ hkl
  have hEl : Fs.length = k := by have := hJ.1; simp [inC] at this; omega
  generalize b.ac[k] = w at *
  try simp (disch := omega) only [go_sem, jA, jB, jC, jD, jE, jF, jG, jH, jI, jJ, ↓reduceIte, reduceCtorEq, jO, jM, jN, jK, jL, h30, wns_length, wns_get, hk2, Option.map_some, wnv]
  refine ⟨by omega, by omega, ?_⟩
  refine app_slrs (M := css w.cs) (b := 16) SlR.nil (by simp [css_length]; omega) (by simp [css_length]; omega) fun E τ1 hE kE => ?_
  obtain ⟨ob6, m6, c6⟩ := τ1
  obtain ⟨e1, e2, e3⟩ := kE
  simp only [List.nil_append] at hE
  have e1' : m5 + 1 ≤ m6 := e1
  have e2' : ∀ i, i < m5 → ob6 i = ob5 i := fun i hi => (e2 i (by simp only; omega) (Oth.nil _)).trans (by simp only; rw [upd_ne _ _ _ _ (by omega), upd_ne _ _ _ _ (by omega)])
  have e3' : ∀ i, i < m5 + 1 → Oth E i := fun i hi => e3 i hi (Oth.nil _)
  have hw6 := e2 m5 (by simp only; omega) (Oth.nil _)
  simp only [upd_same] at hw6
  have hq6 : ob6 n1 = some ⟨c1, 3, 31, false, true, [.agg [XP, X, Y]]⟩ := by rw [e2' n1 (by omega), hq5]
  clear u1 k2 k3 k1 e1 e2 e3
  have z2 : ¬ n1 = m5 := by omega
  have z3 : ¬ m5 = n1 := by omega
  have z4 : ¬ n1 = m6 := by omega
  have z5 : ¬ m5 = m6 := by omega
  try simp (disch := omega) only [go_sem, jA, jB, jC, jD, jE, jF, jG, jH, jI, jJ, ↓reduceIte, reduceCtorEq, jO, jM, jN, jK, jL, hE.flat, hE.cells, hE.one, hw6, hq6, z2, z3, z4, z5]
  have oY : ∀ i, i < m → Oth Y i := fun i hi => Oth.em fun h => by have := (hH.low i h).1; omega
  have oY5 : ∀ i, m5 ≤ i → Oth Y i := fun i hi => hY.oth hi
  refine app_er (ER.of_sl (L := [wnX w E]) (upd_same _ _ _) (Nat.lt_succ_self _)) ?_
  have hYl : (wnXs (b.ac.take k) Fs).length ≤ 1000000 := by simp [wnXs]; omega
  refine app_slr (hY.move (by simp only; omega) fun i hi hh => ?_) (by omega) (by omega) fun Y' τ2 hY2 kY => ?_
  ·simp only at hi ⊢
   rw [upd_ne _ _ _ _ (by omega), upd_ne _ _ _ _ (by omega), e2' i hi]
  obtain ⟨ob7, m7, c7⟩ := τ2
  have q1 : m6 + 1 ≤ m7 := kY.1
  have q2 : ∀ i, i < m6 → i ≠ m5 → Oth Y i → ob7 i = ob6 i := fun i hi hne h => (kY.2.1 i (by simp only; omega) h).trans (by simp only; rw [upd_ne _ _ _ _ (by omega), upd_ne _ _ _ _ hne])
  have hq7 : ob7 n1 = some ⟨c1, 3, 31, false, true, [.agg [XP, X, Y]]⟩ := by rw [q2 n1 (by omega) (by omega) (oY n1 (by omega)), hq6]
  try simp (disch := omega) only [go_sem, jA, jB, jC, jD, jE, jF, jG, jH, jI, jJ, ↓reduceIte, reduceCtorEq, jO, jM, jN, jK, jL, hq7, hY2.flat, hY2.cells, hY2.one, hP.flat, hP.cells, hP.one, hX.flat, hX.cells, hX.one, h30]
  have hF : ∀ i, i < m7 → i ≠ n1 → ((⟨upd ob7 n1 (some ⟨c1, 3, 31, false, true, [.agg [XP, X, Y']]⟩), m7, c7⟩ : St).trunc m7).ob i = ob7 i := fun i hi hne => by
   simp only [St.trunc, if_pos hi]; rw [upd_ne _ _ _ _ hne]
  have hEi : ∀ i, ¬ Oth E i → m5 + 1 ≤ i ∧ i < m6 := fun i hi => ⟨Nat.le_of_not_lt fun h => hi (e3' i h), hE.lt hi⟩
  have oY' : Oth Y' n1 := kY.2.2 n1 (by simp only; omega) (oY n1 (by omega))
  refine up_nextG m7 hkl (by omega) ⟨(by first | rfl | (simp (disch := omega) only [go_sem, jA, jB, jC, jD, jE, jF, jG, jH, jI, jJ, ↓reduceIte, reduceCtorEq, jP, jO, jM, jN]; try rfl)), by simp only [St.trunc]; omega, fun i hi hne => ?_, Y', Fs ++ [E], ?_, ?_, ?_, ?_⟩
  ·rw [hF i (by omega) hne, q2 i (by omega) (by omega) (oY i hi), e2' i (by omega), ho5 i hi hne]
  ·simp only [St.trunc, if_pos (show n1 < m7 by omega), upd_same]
  ·rw [htk, wnXs_snoc (by simp; omega)]
   exact hY2.move (Nat.le_refl _) fun i hi hh => hF i hi fun h => hh (h ▸ oY')
  ·rw [htk, show inC (b.ac.take k ++ [w]) = inC (b.ac.take k) ++ [css w.cs] by simp [inC]]
   refine IC.snoc (hJ.move (by simp only [St.trunc]; omega) fun F hF2 i hi hlt => ?_) (hE.move (by simp only [St.trunc]; omega) fun i hlt hi => ?_)
   ·have hi1 := (hH.loE F hF2 i hi).1
    simp only at hlt
    rw [hF i (by omega) (by omega), q2 i (by omega) (by omega) (hH.sep F hF2 i hi), e2' i hlt]
   ·have hi1 := hEi i hi
    simp only at hlt ⊢
    rw [hF i (by omega) (by omega), q2 i (by omega) (by omega) (oY5 i (by omega))]
  ·exact (hH.snoc (by simp only; omega) (show m5 ≤ m6 + 1 by omega) (fun i hi => ⟨by have := (hEi i hi).1; simp only; omega, by have := (hEi i hi).2; simp only; omega⟩) kY fun i hi => hY2.oth hi).up (Nat.le_refl _)
 obtain rfl : k = b.ac.length := by omega
 rw [List.take_length] at hY hJ
 have u1' : ob5 (n0 + 1) = some ⟨c0 + 1, 3, 31, false, true, [.agg [.nil, .nil, .nil]]⟩ := by rw [ho5 _ (by omega) (by omega), ho _ (by omega), u1]
 try simp (disch := omega) only [go_sem, jA, jB, jC, jD, jE, jF, jG, jH, jI, jJ, ↓reduceIte, reduceCtorEq, jO, jM, jN, jK, jL, hq5, u1', hY.flat, hY.cells, hY.one, hP.flat, hP.cells, hP.one, hX.flat, hX.cells, hX.one]
 have k3' : ∀ i, ¬ Oth XP i → n0 + 2 ≤ i := fun i hi => Nat.le_of_not_lt fun h => hi (k3 i h (Oth.nil _))
 have z3 : ∀ i, i < m5 → i ≠ n0 + 1 → (upd ob5 (n0 + 1) (some (⟨c0 + 1, 3, 31, false, true, [.agg [XP, X, Y]]⟩ : AObj))) i = ob5 i := fun i _ hne => upd_ne _ _ _ _ hne
 refine ⟨XP, X, Y, Es, Fs, n1 + 1, m, rfl, by simp only; omega, by omega, by simp only; omega, hP.move (by simp only; omega) fun i hi hh => ?_, fun i hi => ⟨by have := k3' i hi; simp only; omega, by have := hP.lt hi; simp only at this; omega⟩,
  hX.move (by simp only; omega) fun i hi hh => ?_, hI.move (by simp only; omega) fun E hE i hi hh => ?_, hG.up (by simp only; omega), fun i hi => (hG.low i hi).2, fun E hE i hi => (hG.loE E hE i hi).2,
  hY.move (by simp only; omega) fun i hi hh => ?_, hJ.move (by simp only; omega) fun E hE i hi hh => ?_, hH.up (Nat.le_refl _), fun i hi => ?_⟩
 ·have h1 := k3' i hh
  simp only at hi ⊢
  rw [z3 i (by omega) (by omega), ho5 i (by omega) (by omega), ho i hi]
 ·have h1 := hG.low i hh
  simp only at hi ⊢ h1
  rw [z3 i (by omega) (by omega), ho5 i (by omega) (by omega)]
 ·have h1 := hG.loE E hE i hi
  simp only at hh ⊢ h1
  rw [z3 i (by omega) (by omega), ho5 i (by omega) (by omega)]
 ·have h1 := hH.low i hh
  simp only at hi ⊢ h1
  rw [z3 i (by omega) (by omega)]
 ·have h1 := hH.loE E hE i hi
  simp only at hh ⊢ h1
  rw [z3 i (by omega) (by omega)]
 ·simp only at hi ⊢
  rw [z3 i (by omega) (by omega), ho5 i (by omega) (by omega), ho i (by omega)]
  refine (k2 i (by simp only; omega) (Oth.nil _)).trans ?_
  simp only
  rw [upd_ne _ _ _ _ (by omega), upd_ne _ _ _ _ (by omega)]
theorem lls_inI (l : List (List Int)) : lls l = (inI l).map (AV.list 1) := by simp [lls, inI]
theorem inI_pur (l : List (List Int)) : ∀ L ∈ inI l, ∀ x ∈ L, x.pur = true := by simp [inI]; intro a _; exact ints_pur a
theorem inI_ok (l : List (List Int)) : ∀ L ∈ inI l, ∀ x ∈ L, okE 1 x := by simp [inI]; intro a _; exact ints_ok a
theorem inC_pur (l : List Wn) : ∀ L ∈ inC l, ∀ x ∈ L, x.pur = true := by simp [inC]; intro a _; exact css_pur a.cs
theorem inC_ok (l : List Wn) : ∀ L ∈ inC l, ∀ x ∈ L, okE 2 x := by simp [inC]; intro a _; exact css_ok a.cs
theorem pub_Es {σ τ : St} {l : List (List Int)} {Es : List AV} {ty : TypeId} (h : IC 1 ty σ Es (inI l)) (ho : ∀ E ∈ Es, ∀ i, i < σ.n → ¬ Oth E i → τ.ob i = σ.ob i) :
  Es.length = (lls l).length ∧ ∀ (i : Nat) (x y : AV), Es[i]? = some x → (lls l)[i]? = some y → Pub τ x y := by
 refine ⟨by have := h.1; simpa [inI, lls] using this, fun i x y hx hy => ?_⟩
 rw [lls_inI, List.getElem?_map] at hy
 obtain ⟨L, hL, rfl⟩ := Option.map_eq_some_iff.1 hy
 exact h.pub ho (inI_pur _) (inI_ok _) i x L hx hL
theorem pub_Ws {σ τ : St} {l : List Wn} {Fs : List AV} {ty : TypeId} (h : IC 2 ty σ Fs (inC l)) (ho : ∀ E ∈ Fs, ∀ i, i < σ.n → ¬ Oth E i → τ.ob i = σ.ob i) :
  (wnXs l Fs).length = (wns l).length ∧ ∀ (i : Nat) (x y : AV), (wnXs l Fs)[i]? = some x → (wns l)[i]? = some y → Pub τ x y := by
 have hl : Fs.length = l.length := by have := h.1; simpa [inC] using this
 refine ⟨by simp [wnXs, wns, hl], fun i x y hx hy => ?_⟩
 rw [wns_get] at hy
 obtain ⟨w, hw, rfl⟩ := Option.map_eq_some_iff.1 hy
 have hi := (List.getElem?_eq_some_iff.1 hw).1
 have hF : Fs[i]? = some Fs[i] := List.getElem?_eq_getElem (by omega)
 simp only [wnXs, List.getElem?_zipWith, hw, hF] at hx
 obtain rfl := Option.some.inj hx
 exact Pub.ag (.cons (Pub.e rfl) (.cons (Pub.e rfl) (.cons (h.pub ho (inC_pur _) (inC_ok _) i _ (css w.cs) hF (by simp [inC, hw])) (.cons (Pub.e rfl) .nil))))
theorem flat_Ws {σ : St} : ∀ {l : List Wn} {Fs : List AV}, Fs.length = l.length → (∀ (i : Nat) (E : AV) (w : Wn), Fs[i]? = some E → l[i]? = some w → Pub σ E (.list 2 (css w.cs))) → MPs σ (flatL (wnXs l Fs)) (flatL (wns l))
 | [], [], _, _ => .nil
 | [], _ :: _, h, _ => by simp at h
 | _ :: _, [], h, _ => by simp at h
 | w :: l, E :: Fs, h, k => by
  have := flat_Ws (σ := σ) (l := l) (Fs := Fs) (by simpa using h) fun i E w hE hw => k (i + 1) E w (by simpa using hE) (by simpa using hw)
  exact .cons (.same _) (.cons (.same _) (.cons (.pub (k 0 E w rfl rfl)) (.cons (.same _) this)))
theorem ok_ref36_Copy (b : Bo) (h1 : b.ps.length ≤ 1000000) (h2 : b.pa.length ≤ 1000000) (h3 : ∀ l ∈ b.pa, l.length ≤ 1000000) (h4 : b.ac.length ≤ 1000000) (h5 : ∀ w ∈ b.ac, w.cs.length ≤ 1000000) : PC prog n_ref36_Copy [bov b] (bov b) := by
 refine PC_of_HC b_ref36_Copy ((hc_ref36_Copy St.empty b h1 h2 h3 h4 h5).mono ?_)
 rintro r τ ⟨XP, XQ, XA, Es, Fs, l1, l2, rfl, _, _, _, hP, _, hX, hI, _, _, _, hY, hJ, _, _⟩
 obtain ⟨e1, e2⟩ := pub_Es hI fun _ _ _ _ _ => rfl
 obtain ⟨e3, e4⟩ := pub_Ws hJ fun _ _ _ _ _ => rfl
 exact Pub.ag (.cons (hP.pub (fun _ _ _ => rfl) (wts_pur _) (wts_ok _)) (.cons (pub_slx hX (fun _ _ _ => rfl) e1 e2 (lls_ok _)) (.cons (pub_slx hY (fun _ _ _ => rfl) e3 e4 (wns_ok _)) .nil)))
def CpA (σ : St) (b : Bo) (r : AV) (τ : St) : Prop :=
 ∃ X, r = .agg [.list 4 (wts b.ps), .list 1 (lls b.pa), X] ∧ SlR 4 tyA τ (wns b.ac) X ∧ σ.n ≤ τ.n ∧ (∀ i, ¬ Oth X i → σ.n ≤ i) ∧ ∀ i, i < σ.n → τ.ob i = σ.ob i
def CpQ (σ : St) (b : Bo) (r : AV) (τ : St) : Prop :=
 ∃ X Es l1, r = .agg [.list 4 (wts b.ps), X, .list 4 (wns b.ac)] ∧ SlR 1 tyL τ Es X ∧ IC 1 tyI τ Es (inI b.pa) ∧ Grp τ l1 X Es ∧ σ.n ≤ l1 ∧ σ.n ≤ τ.n ∧ ∀ i, i < σ.n → τ.ob i = σ.ob i
section
open Classical
theorem hcQ_ref36_Copy (σ : St) (b : Bo) (h1 : b.ps.length ≤ 1000000) (h2 : b.pa.length ≤ 1000000) (h3 : ∀ l ∈ b.pa, l.length ≤ 1000000) (h4 : b.ac.length ≤ 1000000) (h5 : ∀ w ∈ b.ac, w.cs.length ≤ 1000000) : HC prog n_ref36_Copy [bov b] σ (CpQ σ b) := by
 refine HC.sealm (hc_ref36_Copy σ b h1 h2 h3 h4 h5) ?_
 rintro r τ ⟨XP, XQ, XA, Es, Fs, l1, l2, rfl, hl1, hl2, hl3, hP, hPn, hX, hI, hG, hXn, hEn, hY, hJ, hH, ho⟩
 let keep : Nat → Bool := fun i => decide (i < σ.n ∨ (l1 ≤ i ∧ i < l2))
 have hk : ∀ i, ¬ (i < σ.n ∨ (l1 ≤ i ∧ i < l2)) → (shut keep τ).ob i = τ.ob i := fun i hi => by simp [shut, keep, hi]
 have hob : ∀ i, (i < σ.n ∨ (l1 ≤ i ∧ i < l2)) → (if keep i then τ.ob i else none) = τ.ob i := fun i hi => by simp [keep, hi]
 obtain ⟨e3, e4⟩ := pub_Ws (τ := shut keep τ) hJ fun E hE i hi hh => hk i (by have := hH.loE E hE i hh; omega)
 refine ⟨keep, .agg [.list 4 (wts b.ps), XQ, .list 4 (wns b.ac)], fun i => if keep i then τ.ob i else none, ?_, fun i o2 h => ?_, ?_⟩
 ·refine MP.ag (.cons (.pub (hP.pub (fun i hi hh => hk i ?_) (wts_pur _) (wts_ok _))) (.cons (.same _) (.cons (.pub (pub_slx hY (fun i hi hh => hk i ?_) e3 e4 (wns_ok _))) .nil)))
  ·have := hPn i hh; omega
  ·have := hH.low i hh; omega
 ·cases hki : keep i with
  | false => simp [hki] at h
  | true => simp only [hki, if_true] at h; exact ⟨rfl, o2, h, .inl rfl⟩
 ·refine ⟨XQ, Es, l1, rfl, hX.move (Nat.le_refl _) fun i hi hh => hob i ?_, hI.move (Nat.le_refl _) fun E hE i hi hh => hob i ?_, hG.up (Nat.le_refl _), hl1, by simp only; omega, fun i hi => ?_⟩
  ·have h6 := hXn i hh; have := hG.low i hh; omega
  ·have h6 := hEn E hE i hi; have := hG.loE E hE i hi; omega
  ·exact (hob i (.inl hi)).trans (ho i hi)
theorem hcA_ref36_Copy (σ : St) (b : Bo) (h1 : b.ps.length ≤ 1000000) (h2 : b.pa.length ≤ 1000000) (h3 : ∀ l ∈ b.pa, l.length ≤ 1000000) (h4 : b.ac.length ≤ 1000000) (h5 : ∀ w ∈ b.ac, w.cs.length ≤ 1000000) : HC prog n_ref36_Copy [bov b] σ (CpA σ b) := by
 refine HC.sealm (hc_ref36_Copy σ b h1 h2 h3 h4 h5) ?_
 rintro r τ ⟨XP, XQ, XA, Es, Fs, l1, l2, rfl, hl1, hl2, hl3, hP, hPn, hX, hI, hG, hXn, hEn, hY, hJ, hH, ho⟩
 let keep : Nat → Bool := fun i => decide (i < σ.n ∨ ¬ Oth XA i)
 have hk : ∀ i, ¬ (i < σ.n ∨ ¬ Oth XA i) → (shut keep τ).ob i = τ.ob i := fun i hi => by simp only [shut, keep]; rw [if_neg]; simpa using hi
 have hfl : Fs.length = b.ac.length := by have := hJ.1; simpa [inC] using this
 have hpF : ∀ (i : Nat) (E : AV) (w : Wn), Fs[i]? = some E → b.ac[i]? = some w → Pub (shut keep τ) E (.list 2 (css w.cs)) := fun i E w hE hw =>
  hJ.pub (fun E hE i hi hh => hk i (by
   have h6 := hH.loE E hE i hh
   have h7 := hH.sep E hE i hh
   rintro (h8 | h8)
   ·omega
   ·exact h8 h7)) (inC_pur _) (inC_ok _) i E _ hE (by simp [inC, hw])
 obtain ⟨e1, e2⟩ := pub_Es (τ := shut keep τ) hI fun E hE i hi hh => hk i (by
  have h6 := hEn E hE i hh
  have h7 := hG.loE E hE i hh
  rintro (h8 | h8)
  ·omega
  ·have := hH.low i h8; omega)
 refine ⟨keep, .agg [.list 4 (wts b.ps), .list 1 (lls b.pa), XA], fun i => if i < σ.n then τ.ob i else if Oth XA i then none else (τ.ob i).map fun o => { o with l := wns b.ac }, ?_, fun i o2 h => ?_, ?_⟩
 ·refine MP.ag (.cons (.pub (hP.pub (fun i hi hh => hk i ?_) (wts_pur _) (wts_ok _))) (.cons (.pub (pub_slx hX (fun i hi hh => hk i ?_) e1 e2 (lls_ok _))) (.cons (.same _) .nil)))
  ·have h6 := hPn i hh
   rintro (h8 | h8)
   ·omega
   ·have := hH.low i h8; omega
  ·have h6 := hXn i hh
   have h7 := hG.low i hh
   rintro (h8 | h8)
   ·omega
   ·have := hH.low i h8; omega
 ·simp only at h
  split at h
  ·rename_i hi; exact ⟨by simp [keep, hi], o2, h, .inl rfl⟩
  ·split at h
   ·cases h
   ·rename_i hi hx
    obtain ⟨o, h9, rfl⟩ := Option.map_eq_some_iff.1 h
    refine ⟨by simp [keep, hx], o, h9, .inr ⟨rfl, ?_⟩⟩
    rcases hY with ⟨rfl, _⟩ | ⟨id, g, rfl, h10, h11⟩
    ·exact absurd (Oth.nil i) hx
    ·obtain rfl : id = i := Classical.byContradiction fun hne => hx (Oth.sl hne)
     rw [h11] at h9
     obtain rfl := Option.some.inj h9
     exact ⟨wns_ok _, by simp [wns, wnXs, hfl], flat_Ws hfl hpF⟩
 ·refine ⟨XA, rfl, ?_, by simp only; omega, fun i hi => by have := hH.low i hi; omega, fun i hi => ?_⟩
  ·rcases hY with ⟨rfl, h9⟩ | ⟨id, g, rfl, h10, h11⟩
   ·have : b.ac = [] := by
     have h12 : (wnXs b.ac Fs).length = 0 := by rw [h9]; rfl
     simp [wnXs, hfl] at h12
     exact h12
    rw [this]; exact SlR.nil
   ·have hlo := (hH.low id fun h => h _ _ _ _ rfl).1
    refine .inr ⟨id, g, by simp [wns, wnXs, hfl], h10, ?_⟩
    simp only
    rw [if_neg (by omega), if_neg fun h => h _ _ _ _ rfl, h11]
    rfl
  ·simp only; rw [if_pos hi]; exact ho i hi
end
theorem chB_get {α : Type} {R : α → α → Bool} : ∀ {l : List α} {s : α}, chB R s l = true → ∀ x ∈ l, ∃ y, R y x = true
 | [], _, _, x, hx => by cases hx
 | o :: r, s, h, x, hx => by
  simp only [chB, Bool.and_eq_true] at h
  rcases List.mem_cons.1 hx with rfl | hx
  ·exact ⟨s, h.1⟩
  ·exact chB_get h.2 x hx
theorem chW_len {n : Nat} : ∀ (l : List Wn) (s : Wn), s.p < n → chB (wnR n) s l = true → (l.length : Int) + s.p < n
 | [], s, hs, _ => by simpa using hs
 | a :: r, s, hs, h => by
  simp only [chB, Bool.and_eq_true] at h
  have h1 := h.1
  simp [wnR] at h1
  have := chW_len r a h1.1.2 h.2
  simp only [List.length_cons]
  omega
theorem cauB_len : ∀ (l : List Cs) (s : Cs), 0 ≤ s.s → s.s ≤ 5 → 6 * s.k + s.s ≤ 29 → chB csR s l = true → (l.length : Int) + 6 * s.k + s.s ≤ 29
 | [], s, _, _, hs, _ => by simpa using hs
 | a :: r, s, h0, h5, hs, h => by
  simp only [chB, Bool.and_eq_true] at h
  have h1 := h.1
  simp [csR, csB, inW, csL] at h1
  have := cauB_len r a (by omega) (by omega) (by omega) h.2
  simp only [List.length_cons]
  omega
theorem cauB_len' {l : List Cs} (h : cauB l = true) : l.length ≤ 29 := by
 have := cauB_len l ⟨0, 0⟩ (by simp) (by simp) (by simp) h
 simp only at this
 omega
structure Vb (b : Bo) : Prop where
 p : b.ps.length ≤ 8
 q : b.pa.length = b.ps.length
 w : ∀ x ∈ b.ps, wtB x = true
 l : ∀ (i : Nat) (x : Wt) (y : List Int), b.ps[i]? = some x → b.pa[i]? = some y → (y.length : Int) ≤ x.w ∧ flsB y = true
 c : chB (wnR b.ps.length) wn0 b.ac = true
theorem vdB_iff {b : Bo} : vdB b = true ↔ Vb b := by
 simp only [vdB, Bool.and_eq_true, decide_eq_true_eq]
 constructor
 ·rintro ⟨⟨⟨⟨h1, h2⟩, h3⟩, h4⟩, h5⟩
  refine ⟨h1, h3, List.all_eq_true.1 h2, fun i x y hx hy => ?_, h5⟩
  have h6 : (b.ps.zip b.pa)[i]? = some (x, y) := by simp [List.zip, List.getElem?_zipWith, hx, hy]
  have := List.all_eq_true.1 h4 _ (List.mem_of_getElem? h6)
  simpa [paB] using this
 ·rintro ⟨h1, h3, h2, h4, h5⟩
  refine ⟨⟨⟨⟨h1, List.all_eq_true.2 h2⟩, h3⟩, List.all_eq_true.2 fun x hx => ?_⟩, h5⟩
  obtain ⟨i, hi⟩ := List.getElem?_of_mem hx
  rw [List.zip, List.getElem?_zipWith] at hi
  split at hi
  ·rename_i u v hu hv
   obtain rfl := Option.some.inj hi
   have := h4 i u v hu hv
   simp [paB, this]
  ·cases hi
theorem wtB_bd {x : Wt} (h : wtB x = true) : (0 ≤ x.nd ∧ x.nd ≤ 11) ∧ (1 ≤ x.w ∧ x.w ≤ 96) ∧ (1 ≤ x.ld ∧ x.ld ≤ 96) ∧ 0 ≤ x.lim ∧ x.lim ≤ 1073741824 := by
 simp [wtB, inW] at h; omega
theorem wnR_bd {n : Nat} {a w : Wn} (h : wnR n a w = true) : a.p < w.p ∧ w.p < n ∧ wnB w = true := by
 simp [wnR] at h; exact ⟨h.1.1, h.1.2, h.2⟩
theorem Vb.l1 {b : Bo} (h : Vb b) : ∀ l ∈ b.pa, l.length ≤ 96 ∧ okFl l := fun l hl => by
 obtain ⟨i, hi⟩ := List.getElem?_of_mem hl
 have hlt := (List.getElem?_eq_some_iff.1 hi).1
 have hlt2 : i < b.ps.length := by have := h.q; omega
 have hx : b.ps[i]? = some b.ps[i] := List.getElem?_eq_getElem hlt2
 obtain ⟨h1, h2⟩ := h.l i _ l hx hi
 have := (wtB_bd (h.w _ (List.mem_of_getElem? hx))).2.1
 exact ⟨by omega, flsB_ok h2⟩
theorem Vb.a1 {b : Bo} (h : Vb b) : b.ac.length ≤ 8 := by
 have h1 := chW_len b.ac wn0 (by simp only [wn0]; omega) h.c
 have := h.p
 simp only [wn0] at h1
 omega
theorem Vb.wn {b : Bo} (h : Vb b) : ∀ w ∈ b.ac, wnB w = true := fun w hw => by
 obtain ⟨y, hy⟩ := chB_get h.c w hw
 exact (wnR_bd hy).2.2
theorem wnB_cs {w : Wn} (h : wnB w = true) : w.cs.length ≤ 29 := by
 simp [wnB] at h; exact cauB_len' h.1.1.2
theorem wnB_bd {w : Wn} (h : wnB w = true) : 0 ≤ w.t ∧ w.t ≤ 16777216 ∧ 0 ≤ w.cm ∧ w.cm ≤ 96 ∧ cauB w.cs = true ∧ (w.cs = [] ∨ w.cm = 0) := by
 simp [wnB, inW] at h; exact ⟨by omega, by omega, by omega, by omega, h.1.1.2, h.2⟩
theorem Vb.lo {b : Bo} (h : Vb b) : ∀ w ∈ b.ac, 0 ≤ w.p ∧ w.p < b.ps.length := fun w hw => by
 have h1 := chW_gt _ _ h.c w hw
 obtain ⟨y, hy⟩ := chB_get h.c w hw
 have h2 := (wnR_bd hy).2.1
 simp only [wn0] at h1
 omega
theorem Vb.sz {b : Bo} (h : Vb b) : BoL b :=
 ⟨by have := h.p; omega, by have := h.p; have := h.q; omega, fun x hx => by have := (h.l1 x hx).1; omega, by have := h.a1; omega, fun w hw => by have := wnB_cs (h.wn w hw); omega⟩
theorem pub_boZ {σ : St} : Pub σ (.agg [.nil, .nil, .nil]) (bov boZ) := Pub.ag (.cons (.nl 4) (.cons (.nl 1) (.cons (.nl 4) .nil)))
theorem Vb.copy {b : Bo} (h : Vb b) {P : Prop} (k : b.ps.length ≤ 1000000 → b.pa.length ≤ 1000000 → (∀ l ∈ b.pa, l.length ≤ 1000000) → b.ac.length ≤ 1000000 → (∀ w ∈ b.ac, w.cs.length ≤ 1000000) → P) : P :=
 k (by have := h.p; omega) (by have := h.p; have := h.q; omega) (fun l hl => by have := (h.l1 l hl).1; omega) (by have := h.a1; omega) (fun w hw => by have := wnB_cs (h.wn w hw); omega)
def selL (p : Nat → Bool) (n : Nat) : List Int := ((List.range n).filter p).map fun (i : Nat) => (i : Int)
theorem selL_succ (p : Nat → Bool) (n : Nat) : selL p (n + 1) = selL p n ++ (if p n then [(n : Int)] else []) := by
 simp only [selL, List.range_succ, List.filter_append, List.map_append]
 cases h : p n <;> simp [h]
theorem selL_len (p : Nat → Bool) (n : Nat) : (selL p n).length ≤ n := by
 simp only [selL, List.length_map]
 exact Nat.le_trans (List.length_filter_le _ _) (by simp)
def gW (b : Bo) (i : Nat) : Wt := b.ps.getD i ⟨0, 0, 0, 0⟩
def gL (b : Bo) (i : Nat) : List Int := b.pa.getD i []
def gN (l : List Int) (i : Nat) : Int := l.getD i 0
theorem gW_get {b : Bo} {i : Nat} (h : i < b.ps.length) : b.ps[i]? = some (gW b i) := by simp [gW, List.getD_eq_getElem?_getD, List.getElem?_eq_getElem h]
theorem gL_get {b : Bo} {i : Nat} (h : i < b.pa.length) : b.pa[i]? = some (gL b i) := by simp [gL, List.getD_eq_getElem?_getD, List.getElem?_eq_getElem h]
theorem gN_get {l : List Int} {i : Nat} (h : i < l.length) : l[i]? = some (gN l i) := by simp [gN, List.getD_eq_getElem?_getD, List.getElem?_eq_getElem h]
def pastI (b : Bo) (now : List Int) (i : Nat) : List Int := lastW (gL b i ++ [gN now i]) (gW b i).w
def roseI (b : Bo) (now : List Int) (i : Nat) : Bool := decide ((gW b i).lim < riseS (gL b i) (gW b i).w (gN now i))
def seeB (b : Bo) (now : List Int) : Bo := ⟨b.ps, (List.range b.ps.length).map (pastI b now), b.ac⟩
def seeE (b : Bo) (now : List Int) : Int := if vdB b = false then 50 else if now.length ≠ b.ps.length then 3 else if flsB now = false then 1 else 0
def seeR (b : Bo) (now : List Int) : Bo × List Int := if seeE b now = 0 then (seeB b now, selL (roseI b now) b.ps.length) else (boZ, [])
def seeV (b : Bo) (now : List Int) : AV := .tuple [bov (seeR b now).1, .list 1 (ints (seeR b now).2), .int .i64 (seeE b now)]
theorem see_bad {b : Bo} {now : List Int} {n : Int} (h : seeE b now = n) (hn : n ≠ 0) {σ : St} : Pub σ (.tuple [.agg [.nil, .nil, .nil], .nil, .int .i64 n]) (seeV b now) := by
 rw [seeV, h, seeR, if_neg (by rw [h]; exact hn)]
 exact Pub.tu (.cons pub_boZ (.cons (.nl 1) (.cons (Pub.e rfl) .nil)))
theorem see_e50 {b : Bo} {now : List Int} (h : vdB b = false) : seeE b now = 50 := by rw [seeE, if_pos h]
theorem see_e3 {b : Bo} {now : List Int} (h : vdB b = true) (h2 : now.length ≠ b.ps.length) : seeE b now = 3 := by rw [seeE, if_neg (by simp [h]), if_pos h2]
theorem see_e1 {b : Bo} {now : List Int} (h : vdB b = true) (h2 : now.length = b.ps.length) (h3 : flsB now = false) : seeE b now = 1 := by rw [seeE, if_neg (by simp [h]), if_neg (by simp [h2]), if_pos h3]
theorem see_e0 {b : Bo} {now : List Int} (h : vdB b = true) (h2 : now.length = b.ps.length) (h3 : flsB now = true) : seeE b now = 0 := by rw [seeE, if_neg (by simp [h]), if_neg (by simp [h2]), if_neg (by simp [h3])]
def At (e : Nat → AV) (i : Nat) (X : AV) : Prop := e i = X
theorem setc_one {off : Nat} {v y : AV} (h : y.one = true) : setc off v y = v := by cases y <;> simp_all [AV.one, setc]
theorem hkeep_mem {af : List Nat} {R : List (Nat × Nat)} {ob ob' : Nat → Option AObj} (h : ∀ x ∈ R, x.1 ∈ af) : hkeep af R ob ob' := fun x hx => .inl (h x hx)
theorem ok_ref36_See (b : Bo) (now : List Int) (h : BoL b) (hn : now.length ≤ 9223372036854775807) : PC prog n_ref36_See [bov b, .list 1 (ints now)] (seeV b now) := by
 refine PC_of_body b_ref36_See (by simp) ?_
 simp only [c_ref36_See, bov]
 try simp (disch := omega) only [go_sem, jA, jB, jC, jD, jE, jF, jG, jH, jI, jJ, ↓reduceIte, reduceCtorEq, jO, jM, jN, jK, jL]
 have hC := ok_ref36_Check b h
 simp only [bov] at hC
 refine call_pc hC (by simp [go_sem, wts_pur, lls_pur, wns_pur]) ?_
 cases hv : vdB b <;> try simp (disch := omega) only [go_sem, jA, jB, jC, jD, jE, jF, jG, jH, jI, jJ, ↓reduceIte, reduceCtorEq, jO, jM, jN, jK, jL, chkE, hv, ints_length, wts_length]
 ·exact see_bad (see_e50 hv) (by omega)
 refine cond_n (fun g1 => ?_) (fun g1 => ?_) <;> try simp (disch := omega) only [go_sem, jA, jB, jC, jD, jE, jF, jG, jH, jI, jJ, ↓reduceIte, reduceCtorEq, jO, jM, jN, jK, jL, ints_length, wts_length]
 ·exact see_bad (see_e3 hv (by omega)) (by omega)
 refine call_pc (ok_ref36_flows now hn) (by simp [go_sem, ints_pur]) ?_
 cases hf : flsB now <;> try simp (disch := omega) only [go_sem, jA, jB, jC, jD, jE, jF, jG, jH, jI, jJ, ↓reduceIte, reduceCtorEq, jO, jM, jN, jK, jL]
 ·exact see_bad (see_e1 hv (by omega) hf) (by omega)
 have hV := vdB_iff.1 hv
 have hcp := fun σ => hV.copy (hcQ_ref36_Copy σ b)
 simp only [bov] at hcp
 refine (hcp _).mono ?_
 rintro r ⟨ob1, n1, c1⟩ ⟨X, Es0, l1, rfl, hX0, hI0, hG0, hl1, hn1, ho1⟩
 have u0 := ho1 0 (by simp only; omega)
 have u1 := ho1 1 (by simp only; omega)
 try simp (disch := omega) only [go_sem, jA, jB, jC, jD, jE, jF, jG, jH, jI, jJ, ↓reduceIte, reduceCtorEq, jO, jM, jN, jK, jL] at u0
 try simp (disch := omega) only [go_sem, jA, jB, jC, jD, jE, jF, jG, jH, jI, jJ, ↓reduceIte, reduceCtorEq, jO, jM, jN, jK, jL] at u1
 try simp (disch := omega) only [go_sem, jA, jB, jC, jD, jE, jF, jG, jH, jI, jJ, ↓reduceIte, reduceCtorEq, jO, jM, jN, jK, jL] at hl1
 try simp (disch := omega) only [go_sem, jA, jB, jC, jD, jE, jF, jG, jH, jI, jJ, ↓reduceIte, reduceCtorEq, jO, jM, jN, jK, jL] at hn1
 have z0 : ¬ 0 = n1 := by omega
 have z1 : ¬ 1 = n1 := by omega
 try simp (disch := omega) only [go_sem, jA, jB, jC, jD, jE, jF, jG, jH, jI, jJ, ↓reduceIte, reduceCtorEq, jO, jM, jN, jK, jL, u0, u1, z0, z1, hX0.flat, hX0.cells, hX0.one, wts_length]
 refine awp_upG [8, 9, 10, 11, 32, 33, 34, 35, 36, 37, 38, 39, 40, 41, 42, 43, 44, 45, 46, 47, 48, 49, 50, 51, 52, 53, 54, 55, 56, 57, 58, 59, 60, 61, 62, 63, 64, 65, 66, 67, 68, 69, 70, 71, 72, 73, 74, 75, 76, 77, 78, 79] (by kernel_rfl) b.ps.length (fun k e σ => e 32 = .int .i64 k ∧ n1 + 1 ≤ σ.n ∧ (∀ i, i < 2 → σ.ob i = ob1 i) ∧ σ.ob n1 = some ⟨c1, 3, 31, false, true, [.agg [.list 4 (wts b.ps), X, .list 4 (wns b.ac)]]⟩ ∧ ∃ Es Z, At e 8 Z ∧ SlR 1 3 σ (ints (selL (roseI b now) k)) Z ∧ SlR 1 tyL σ Es X ∧ Es.length = b.ps.length ∧
  (∀ (i : Nat) (E : AV), Es[i]? = some E → (k ≤ i → SlR 1 3 σ (ints (gL b i)) E) ∧ (i < k → ER 1 σ (ints (pastI b now i)) E)) ∧ Grp σ 2 X Es ∧ (∀ i, ¬ Oth X i → i < n1) ∧ (∀ E ∈ Es, Oth E n1) ∧ (∀ i, ¬ Oth Z i → n1 < i ∧ i < σ.n ∧ ∀ E ∈ Es, Oth E i)) ?_ ?_
 ·have hag : ∀ i, i < n1 → upd (upd ob1 n1 (some (⟨c1, 3, 31, false, true, [.agg [.nil, .nil, .nil]]⟩ : AObj))) n1 (some ⟨c1, 3, 31, false, true, [.agg [.list 4 (wts b.ps), X, .list 4 (wns b.ac)]]⟩) i = ob1 i := fun i hi => by
   rw [upd_ne _ _ _ _ (by omega), upd_ne _ _ _ _ (by omega)]
  refine ⟨(by first | rfl | (simp (disch := omega) only [go_sem, jA, jB, jC, jD, jE, jF, jG, jH, jI, jJ, ↓reduceIte, reduceCtorEq, jP, jO, jM, jN]; try rfl)), Nat.le_refl _, fun i hi => hag i (by omega), upd_same _ _ _, Es0, .nil, (by first | rfl | (simp (disch := omega) only [go_sem, jA, jB, jC, jD, jE, jF, jG, jH, jI, jJ, ↓reduceIte, reduceCtorEq, jP, jO, jM, jN]; try rfl)), SlR.nil, hX0.move (by simp only; omega) fun i hi _ => hag i hi, by have := hI0.1; simpa [inI, hV.q] using this, fun i E hE => ⟨fun _ => ?_, fun h => by omega⟩,
   ⟨fun i hi => ?_, fun E hE i hi => ?_, hG0.sep, hG0.dj⟩, fun i hi => hX0.lt hi, fun E hE => Oth.em fun h => ?_, fun i hi => absurd (Oth.nil i) hi⟩
  ·have h1 := hI0.1
   have h2 := (List.getElem?_eq_some_iff.1 hE).1
   have h3 := gL_get (b := b) (i := i) (by simp [inI] at h1; omega)
   exact (hI0.2 i E (ints (gL b i)) hE (by simp [inI, h3])).move (by simp only; omega) fun j hj _ => hag j hj
  ·have := hG0.low i hi; simp only at this ⊢; omega
  ·have := hG0.loE E hE i hi; simp only at this ⊢; omega
  ·have := (hG0.loE E hE n1 h).2; simp only at this; omega
 rintro k fe ob m c hk hm ⟨h32, hm1, ho, hq, Es, Z, h8, hZ, hX, hEl, hE, hG, hXn, hEn, hZn⟩
 simp (maxSteps := 1000000) only [go_sem, jA, jB, jC, jD, jE, jF, jG, jH, jI, jJ, ↓reduceIte, reduceCtorEq, jP, At] at h32 hm hm1 ho hq h8
 try simp (disch := omega) only [go_sem, jA, jB, jC, jD, jE, jF, jG, jH, jI, jJ, ↓reduceIte, reduceCtorEq, jO, jM, jN, jK, jL, h32, wts_length]
 have u0' : ob 0 = some ⟨0, 3, 31, false, true, [.agg [.list 4 (wts b.ps), .list 1 (lls b.pa), .list 4 (wns b.ac)]]⟩ := by rw [ho 0 (by omega), u0]
 refine cond_d (fun hlt => ?_) (fun hge => ?_)
 ·have hkl : k < b.ps.length := by omega
  have hk2 := gW_get hkl
  have hk3 := gL_get (b := b) (i := k) (by rw [hV.q]; exact hkl)
  have hk4 := gN_get (l := now) (i := k) (by omega)
  have hwt := wtB_bd (hV.w _ (List.mem_of_getElem? hk2))
  obtain ⟨hll, hlf⟩ := hV.l1 _ (List.mem_of_getElem? hk3)
  have hfk := flsB_ok hf _ (List.mem_of_getElem? hk4)
  have z3 : ¬ 0 = m := by omega
  have z4 : ¬ m = 0 := by omega
  have z5 : ¬ n1 = m := by omega
  have hsel := selL_len (roseI b now) k
  have hps := hV.p
  have hpq := hV.q
  try simp (disch := omega) only [go_sem, jA, jB, jC, jD, jE, jF, jG, jH, jI, jJ, ↓reduceIte, reduceCtorEq, jO, jM, jN, jK, jL, h32, wts_length, lls_length, ints_length, wts_get, lls_get, ints_get, hk2, hk3, hk4, Option.map_some, wtv, u0', z3, z4, z5]
  refine ⟨by omega, by omega, by omega, by omega, by omega, by omega, ?_⟩
  refine call_pc (ok_ref35_Rise (gL b k) (gW b k).w (gN now k) (by omega) (by omega) hlf hfk) (by simp [go_sem, ints_pur]) ?_
  try simp (disch := omega) only [go_sem, jA, jB, jC, jD, jE, jF, jG, jH, jI, jJ, ↓reduceIte, reduceCtorEq, jO, jM, jN, jK, jL]
  refine cond_cut [8, 52, 53, 54, 55] (by kernel_rfl) (fun e σ => m < σ.n ∧ (∀ i, i < m → Oth Z i → σ.ob i = ob i) ∧ σ.ob m = some ⟨c, 4, tyW, false, true, [wtv (gW b k)]⟩ ∧ ∃ Z', At e 8 Z' ∧ SlR 1 3 σ (ints (selL (roseI b now) (k + 1))) Z' ∧ ∀ i, i ≤ m → Oth Z i → Oth Z' i) ?_ ?_
  ·refine cond_d (fun hr => ?_) (fun hr => ?_)
   ·try simp (disch := omega) only [go_sem, jA, jB, jC, jD, jE, jF, jG, jH, jI, jJ, ↓reduceIte, reduceCtorEq, jO, jM, jN, jK, jL, h8]
    refine app_slr (L := ints (selL (roseI b now) k)) (b := 8) (hZ.move (by simp only; omega) fun i hi hh => ?_) (by rw [ints_length]; omega) (by rw [ints_length]; omega) fun Z' τ hZ' kZ => ?_
    ·simp only at hi ⊢
     rw [upd_ne _ _ _ _ (by omega), upd_ne _ _ _ _ (by omega)]
    obtain ⟨ob2, m2, c2⟩ := τ
    have q1 : m + 1 ≤ m2 := kZ.1
    try simp (disch := omega) only [go_sem, jA, jB, jC, jD, jE, jF, jG, jH, jI, jJ, ↓reduceIte, reduceCtorEq, jO, jM, jN, jK, jL]
    refine ⟨by omega, fun i hi hh => (kZ.2.1 i (by simp only; omega) hh).trans (by simp only; rw [upd_ne _ _ _ _ (by omega), upd_ne _ _ _ _ (by omega)]), (kZ.2.1 m (by simp only; omega) (hZ.oth (Nat.le_refl _))).trans (by simp only; rw [upd_same]; rfl), Z', (by simp only [At]; try simp (disch := omega) only [go_sem, jA, jB, jC, jD, jE, jF, jG, jH, jI, jJ, ↓reduceIte, reduceCtorEq, jO, jM, jN, jK, jL]), ?_, fun i hi hh => kZ.2.2 i (by simp only; omega) hh⟩
    rw [selL_succ, show roseI b now k = true from decide_eq_true hr, if_pos rfl, ← ints_append]
    exact hZ'
   ·try simp (disch := omega) only [go_sem, jA, jB, jC, jD, jE, jF, jG, jH, jI, jJ, ↓reduceIte, reduceCtorEq, jO, jM, jN, jK, jL, h8]
    refine ⟨by omega, fun i hi hh => by rw [if_neg (by omega)], rfl, Z, (by simp only [At]; try simp (disch := omega) only [go_sem, jA, jB, jC, jD, jE, jF, jG, jH, jI, jJ, ↓reduceIte, reduceCtorEq, jO, jM, jN, jK, jL, h8]), ?_, fun i hi hh => hh⟩
    rw [selL_succ, show roseI b now k = false from decide_eq_false hr, if_neg (by simp), List.append_nil]
    refine hZ.move (by simp only; omega) fun i hi hh => ?_
    simp only at hi ⊢
    rw [upd_ne _ _ _ _ (by omega), upd_ne _ _ _ _ (by omega)]
  ·rintro fe3 ⟨ob3, m3, c3⟩ ⟨hm3, ho3, hob3, Z', h83, hZ3, hZZ⟩
   simp (maxSteps := 1000000) only [go_sem, jA, jB, jC, jD, jE, jF, jG, jH, jI, jJ, ↓reduceIte, reduceCtorEq, jP, At] at hm3 ho3 hob3 h83
   have oZn : Oth Z n1 := Oth.em fun h => by have := (hZn n1 h).1; omega
   have hq3 : ob3 n1 = some ⟨c1, 3, 31, false, true, [.agg [.list 4 (wts b.ps), X, .list 4 (wns b.ac)]]⟩ := by rw [ho3 n1 (by omega) oZn, hq]
   have hkE : k < Es.length := by omega
   obtain ⟨E, hEk⟩ : ∃ E, Es[k]? = some E := ⟨_, List.getElem?_eq_getElem hkE⟩
   have oEZ : ∀ F ∈ Es, ∀ i, ¬ Oth F i → Oth Z i := fun F hF i hi => Oth.em fun h => hi ((hZn i h).2.2 F hF)
   rcases hX with ⟨_, h0⟩ | ⟨id, g, rfl, hid, hoX⟩
   ·rw [h0] at hkE; simp at hkE
   have hidn := hXn id fun h => h _ _ _ _ rfl
   simp only at hid hoX
   have oZid : Oth Z id := Oth.em fun h => by have := (hZn id h).1; omega
   have hoX3 : ob3 id = some ⟨g, 1, 22, false, true, Es⟩ := by rw [ho3 id hid oZid, hoX]
   have hE0 := (hE k E hEk).1 (Nat.le_refl _)
   have hEm : E ∈ Es := List.mem_of_getElem? hEk
   have hE3 : SlR 1 3 ⟨ob3, m3, c3⟩ (ints (gL b k)) E := hE0.move (by simp only; omega) fun i hi hh => ho3 i hi (oEZ E hEm i hh)
   try simp (disch := omega) only [go_sem, jA, jB, jC, jD, jE, jF, jG, jH, jI, jJ, ↓reduceIte, reduceCtorEq, jO, jM, jN, jK, jL, hob3, h83, hq3, hoX3, hk4, ints_length, ints_get, Option.map_some, hEk, wtv, hE3.cells]
   refine ⟨by omega, by omega, by omega, by omega, ?_⟩
   refine app_slr hE3 (by rw [ints_length]; omega) (by rw [ints_length]; omega) fun E' τ hE4 kE => ?_
   obtain ⟨ob4, m4, c4⟩ := τ
   have q1 : m3 ≤ m4 := kE.1
   have q2 : ∀ i, i < m3 → Oth E i → ob4 i = ob3 i := fun i hi hh => kE.2.1 i hi hh
   have oEm : Oth E m := Oth.em fun h => by have := (hG.loE E hEm m h).2; simp only at this; omega
   have hob4 := (q2 m hm3 oEm).trans hob3
   have hq4 := (q2 n1 (by omega) (hEn E hEm)).trans hq3
   have oEid : Oth E id := Oth.em fun h => hG.sep E hEm id h _ _ _ _ rfl
   have hoX4 := (q2 id (by omega) oEid).trans hoX3
   rw [ints_one, ints_app] at hE4
   try simp (disch := omega) only [go_sem, jA, jB, jC, jD, jE, jF, jG, jH, jI, jJ, ↓reduceIte, reduceCtorEq, jO, jM, jN, jK, jL, hob4, hq4, hoX4, wtv]
   refine ER.len (ER.of_slr hE4) ?_
   have hlen : (ints (gL b k ++ [gN now k])).length = (gL b k).length + 1 := by rw [ints_length]; simp
   try simp (disch := omega) only [go_sem, jA, jB, jC, jD, jE, jF, jG, jH, jI, jJ, ↓reduceIte, reduceCtorEq, jO, jM, jN, jK, jL, hob4, hq4, hoX4, wtv, hlen]
   refine ER.drop (k := (gL b k ++ [gN now k]).length - (gW b k).w.toNat) (ER.of_slr hE4) (by simp; omega) (by rw [hlen]; simp only [List.length_append, List.length_singleton]; omega) fun E'' hE5 oE5 => ?_
   try simp (disch := omega) only [go_sem, jA, jB, jC, jD, jE, jF, jG, jH, jI, jJ, ↓reduceIte, reduceCtorEq, jO, jM, jN, jK, jL, hob4, hq4, hoX4, hE5.flat, hE5.cells, hE5.one]
   refine ⟨by omega, by omega, E, hEk, hkeep_mem (by
    intro x hx
    simp only [tagR, List.mem_append, List.mem_map, List.mem_singleton] at hx
    rcases hx with (⟨j, _, rfl⟩ | rfl) | rfl <;> simp), ?_⟩
   rw [setc_one hE3.one]
   have hF : ∀ i, i < m4 → i ≠ id → ((⟨upd ob4 id (some ⟨g, 1, 22, false, true, Es.set k E''⟩), m4, c4⟩ : St).trunc m4).ob i = ob4 i := fun i hi hne => by
    simp only [St.trunc, if_pos hi]; rw [upd_ne _ _ _ _ hne]
   have hFid : ((⟨upd ob4 id (some ⟨g, 1, 22, false, true, Es.set k E''⟩), m4, c4⟩ : St).trunc m4).ob id = some ⟨g, 1, 22, false, true, Es.set k E''⟩ := by
    simp only [St.trunc, if_pos (show id < m4 by omega), upd_same]
   have hloE : ∀ F ∈ Es, ∀ i, ¬ Oth F i → 2 ≤ i ∧ i < m := fun F hF i hi => hG.loE F hF i hi
   have hidlo := (hG.low id fun h => h _ _ _ _ rfl).1
   have oE'' : ∀ i, i < m3 → Oth E i → Oth E'' i := fun i hi hh => oE5 i (kE.2.2 i hi hh)
   have hE''lt : ∀ i, ¬ Oth E'' i → i < m4 := fun i hi => Nat.lt_of_not_le fun hh => hi (oE5 i (hE4.oth hh))
   have hZ'E : ∀ i, ¬ Oth Z' i → n1 < i ∧ i < m3 ∧ ∀ F ∈ Es, Oth F i := fun i hi => by
    have h1 := hZ3.lt hi
    by_cases him : i ≤ m
    ·have h2 := hZn i fun hh => hi (hZZ i him hh)
     exact ⟨h2.1, h1, h2.2.2⟩
    ·exact ⟨by omega, h1, fun F hF => Oth.em fun hh => by have := (hloE F hF i hh).2; omega⟩
   have hold : ∀ F ∈ Es, ∀ i, ¬ Oth F i → Oth E i → ((⟨upd ob4 id (some ⟨g, 1, 22, false, true, Es.set k E''⟩), m4, c4⟩ : St).trunc m4).ob i = ob i := fun F hF2 i hi hh => by
    have h1 := (hloE F hF2 i hi).2
    rw [hF i (by omega) fun h => hG.sep F hF2 i hi _ _ _ _ (by rw [h]), q2 i (by omega) hh, ho3 i h1 (oEZ F hF2 i hi)]
   have hsetm : ∀ F, F ∈ Es.set k E'' → F ∈ Es ∨ F = E'' := fun F hF => List.mem_or_eq_of_mem_set hF
   refine up_nextG m4 hkl (by omega) ⟨(by first | rfl | (simp (disch := omega) only [go_sem, jA, jB, jC, jD, jE, jF, jG, jH, jI, jJ, ↓reduceIte, reduceCtorEq, jP, jO, jM, jN]; try rfl)), by simp only [St.trunc]; omega, fun i hi => ?_, ?_, Es.set k E'', Z', (by simp only [At]; try simp (disch := omega) only [go_sem, jA, jB, jC, jD, jE, jF, jG, jH, jI, jJ, ↓reduceIte, reduceCtorEq, jO, jM, jN, jK, jL, h83]), ?_, ?_, by simpa using hEl, fun i F hF2 => ?_, ⟨fun i hi => ?_, fun F hF2 i hi => ?_, fun F hF2 i hi => ?_, fun a b' F G hab hF2 hG2 i hi => ?_⟩, hXn, fun F hF2 => ?_, fun i hi => ?_⟩
   ·rw [hF i (by omega) (by omega), q2 i (by omega) (Oth.em fun hh => by have := (hloE E hEm i hh).1; omega), ho3 i (by omega) (Oth.em fun hh => by have := (hZn i hh).1; omega), ho i hi]
   ·rw [hF n1 (by omega) (by omega), hq4]
   ·refine hZ3.move (by simp only [St.trunc]; omega) fun i hi hh => ?_
    have h1 := hZ'E i hh
    simp only at hi ⊢
    rw [hF i (by omega) (by omega), q2 i hi (h1.2.2 E hEm)]
   ·exact .inr ⟨id, g, by simp, by simp only [St.trunc]; omega, hFid⟩
   ·by_cases hik : i = k
    ·subst hik
     rw [List.getElem?_set_self hkE] at hF2
     obtain rfl := Option.some.inj hF2
     refine ⟨fun h => by omega, fun _ => ?_⟩
     rw [pastI, lastW, ← ints_drop]
     refine hE5.keep (by simp only [St.trunc]; omega) fun j hj hh => hF j hj fun h => hh (h ▸ oE'' id (by omega) oEid)
    ·rw [List.getElem?_set_ne (fun h => hik h.symm)] at hF2
     have hFm := List.mem_of_getElem? hF2
     have hag : ∀ j, ¬ Oth F j → ((⟨upd ob4 id (some ⟨g, 1, 22, false, true, Es.set k E''⟩), m4, c4⟩ : St).trunc m4).ob j = ob j := fun j hj => hold F hFm j hj (hG.dj i k F E hik hF2 hEk j hj)
     exact ⟨fun h => ((hE i F hF2).1 (by omega)).move (by simp only [St.trunc]; omega) fun j _ hj => hag j hj, fun h => ((hE i F hF2).2 (by omega)).keep (by simp only [St.trunc]; omega) fun j _ hj => hag j hj⟩
   ·have := hG.low i hi
    simp only [St.trunc] at this ⊢
    omega
   ·simp only [St.trunc]
    rcases hsetm F hF2 with h1 | rfl
    ·have := hloE F h1 i hi; omega
    ·refine ⟨Nat.le_of_not_lt fun hh => hi (oE'' i (by omega) (Oth.em fun h2 => by have := (hloE E hEm i h2).1; omega)), hE''lt i hi⟩
   ·rcases hsetm F hF2 with h1 | rfl
    ·exact hG.sep F h1 i hi
    ·exact Oth.sl fun h => hi (h ▸ oE'' id (by omega) oEid)
   ·by_cases ha : a = k
    ·subst ha
     rw [List.getElem?_set_self hkE] at hF2
     obtain rfl := Option.some.inj hF2
     rw [List.getElem?_set_ne (fun h => hab h)] at hG2
     exact Oth.em fun hh => hi (oE'' i (by have := (hloE G (List.mem_of_getElem? hG2) i hh).2; omega) (hG.dj b' a G E (fun h => hab h.symm) hG2 hEk i hh))
    ·rw [List.getElem?_set_ne (fun h => ha h.symm)] at hF2
     by_cases hb : b' = k
     ·subst hb
      rw [List.getElem?_set_self hkE] at hG2
      obtain rfl := Option.some.inj hG2
      exact oE'' i (by have := (hloE F (List.mem_of_getElem? hF2) i hi).2; omega) (hG.dj a b' F E hab hF2 hEk i hi)
     ·rw [List.getElem?_set_ne (fun h => hb h.symm)] at hG2
      exact hG.dj a b' F G hab hF2 hG2 i hi
   ·rcases hsetm F hF2 with h1 | rfl
    ·exact hEn F h1
    ·exact oE'' n1 (by omega) (hEn E hEm)
   ·have h1 := hZ'E i hi
    refine ⟨h1.1, by simp only [St.trunc]; omega, fun F hF2 => ?_⟩
    rcases hsetm F hF2 with h2 | rfl
    ·exact h1.2.2 F h2
    ·exact oE'' i h1.2.1 (h1.2.2 E hEm)
 ·obtain rfl : k = b.ps.length := by omega
  have u1' : ob 1 = some ⟨1, 3, 31, false, true, [.agg [.nil, .nil, .nil]]⟩ := by rw [ho 1 (by omega), u1]
  try simp (disch := omega) only [go_sem, jA, jB, jC, jD, jE, jF, jG, jH, jI, jJ, ↓reduceIte, reduceCtorEq, jO, jM, jN, jK, jL, hq, u1', h8, hX.flat, hX.cells, hX.one]
  have hag : ∀ i, i ≠ 1 → upd ob 1 (some (⟨1, 3, 31, false, true, [.agg [.list 4 (wts b.ps), X, .list 4 (wns b.ac)]]⟩ : AObj)) i = ob i := fun i hi => upd_ne _ _ _ _ hi
  rw [seeV, seeR, see_e0 hv (by omega) hf, if_pos rfl]
  refine Pub.tu (.cons (Pub.ag (.cons (Pub.e rfl) (.cons (pub_slx (M := lls (seeB b now).pa) hX (fun i _ hh => hag i ?_) ?_ (fun i E y hE2 hy => ?_) (lls_ok _)) (.cons (Pub.e rfl) .nil)))) (.cons (hZ.pub (fun i _ hh => hag i ?_) (ints_pur _) (ints_ok _)) (.cons (Pub.e rfl) .nil)))
  ·have := (hG.low i hh).1; omega
  ·simp [lls, seeB, hEl]
  ·have hi := (List.getElem?_eq_some_iff.1 hE2).1
   have h1 : (lls (seeB b now).pa)[i]? = some (.list 1 (ints (pastI b now i))) := by
    simp [lls, seeB, show i < b.ps.length by omega]
   rw [h1] at hy
   obtain rfl := Option.some.inj hy
   refine ((hE i E hE2).2 (by omega)).pub (ints_pur _) (ints_ok _) fun j hj hh o ho2 => ⟨o.ro, ?_⟩
   simp only at ho2 ⊢
   rw [hag j (by have := (hG.loE E (List.mem_of_getElem? hE2) j hh).1; omega), ho2]
  ·have := (hZn i hh).1; omega
end Go.Proofs.Try
