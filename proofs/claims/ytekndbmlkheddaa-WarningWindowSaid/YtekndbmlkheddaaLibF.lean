/-
  OWN WORK, put together by tools/asm.py: what functions do.
-/
import Derived.Test.YtekndbmlkheddaaLibE
set_option linter.unusedSimpArgs false
set_option linter.unusedVariables false
set_option maxRecDepth 100000
set_option maxHeartbeats 1000000
namespace Go.Proofs.Try
open Go.Ab Go
open Int renaming reduceEq → jjA, reduceLT → jjB, reduceLE → jjC, reduceToNat → jjD
open Nat renaming reduceLT → jjE, reduceEqDiff → jjF, reduceAdd → jjG, reduceLeDiff → jjH, reduceSub → jjI, reduceMul → jjJ, sub_zero → jjK, sub_self → jjL
theorem ok_law36_has (l : List Int) (n : Int) (hl : l.length ≤ 9223372036854775807) : PC prog n_law36_has [.list 1 (ints l), .int .i64 n] (.bool (decide (n ∈ l))) := by
  refine PC_of_body b_law36_has (by simp) ?_
  simp only [c_law36_has, go_sem, jjA, jjB, jjC, jjD, jjE, jjF, jjG, jjH, jjI, jjJ, ↓reduceIte, reduceCtorEq, w_app_nl, ints_length]
  refine awp_upF [4, 6, 9, 10, 11, 12, 13, 14, 15, 16] (by kernel_rfl) l.length (fun k e σ => e 9 = .int .i64 k ∧ ∀ j, j < k → ∀ y, l[j]? = some y → decide (y = n) = false) ?_ ?_
  · exact ⟨(by first | ((try simp (maxSteps := 1000000) only [go_sem, jjA, jjB, jjC, jjD, jjE, jjF, jjG, jjH, jjI, jjJ, ↓reduceIte, reduceCtorEq, w_app_nl]); done) | ((try simp (maxSteps := 1000000) only [go_sem, jjA, jjB, jjC, jjD, jjE, jjF, jjG, jjH, jjI, jjJ, ↓reduceIte, reduceCtorEq, w_app_nl]); rfl) | ((try simp (maxSteps := 1000000) (disch := omega) only [go_sem, jjA, jjB, jjC, jjD, jjE, jjF, jjG, jjH, jjI, jjJ, ↓reduceIte, reduceCtorEq, w_app_nl, wrap_id, w_ite_ne, w_ite_lt]); rfl) | (simp (maxSteps := 1000000) (disch := omega) only [go_sem, jjA, jjB, jjC, jjD, jjE, jjF, jjG, jjH, jjI, jjJ, ↓reduceIte, reduceCtorEq, w_app_nl, wrap_id, w_ite_ne, w_ite_lt]; done)), fun j hj => by omega⟩
  rintro k fe ob c hk ⟨h9, hj⟩
  simp (maxSteps := 1000000) only [go_sem, jjA, jjB, jjC, jjD, jjE, jjF, jjG, jjH, jjI, jjJ, ↓reduceIte, reduceCtorEq, w_app_nl] at h9
  try simp (maxSteps := 500000) (disch := omega) only [go_sem, jjA, jjB, jjC, jjD, jjE, jjF, jjG, jjH, jjI, jjJ, ↓reduceIte, reduceCtorEq, wrap_id, w_ite_ne, w_ite_lt, jjK, jjL, h9, ints_length]
  refine cond_d (fun hlt => ?_) (fun hge => ?_)
  · have hkl : k < l.length := by omega
    have hk2 : l[k]? = some l[k] := List.getElem?_eq_getElem hkl
    have hm := List.mem_of_getElem? hk2
    have hnx := idx_next hk2 hj
    generalize l[k] = x at *
    try simp (maxSteps := 500000) (disch := omega) only [go_sem, jjA, jjB, jjC, jjD, jjE, jjF, jjG, jjH, jjI, jjJ, ↓reduceIte, reduceCtorEq, wrap_id, w_ite_ne, w_ite_lt, jjK, jjL, h9, ints_length, ints_get, hk2, Option.map_some]
    refine ⟨by omega, by omega, ?_⟩
    refine cond_d (fun hp => ?_) (fun hp => ?_) <;> try simp (maxSteps := 500000) (disch := omega) only [go_sem, jjA, jjB, jjC, jjD, jjE, jjF, jjG, jjH, jjI, jjJ, ↓reduceIte, reduceCtorEq, wrap_id, w_ite_ne, w_ite_lt, jjK, jjL, h9]
    · subst hp; rw [decide_eq_true hm]; exact Pub.pure rfl
    · exact up_next hkl ⟨(by first | ((try simp (maxSteps := 1000000) only [go_sem, jjA, jjB, jjC, jjD, jjE, jjF, jjG, jjH, jjI, jjJ, ↓reduceIte, reduceCtorEq, w_app_nl]); done) | ((try simp (maxSteps := 1000000) only [go_sem, jjA, jjB, jjC, jjD, jjE, jjF, jjG, jjH, jjI, jjJ, ↓reduceIte, reduceCtorEq, w_app_nl]); rfl) | ((try simp (maxSteps := 1000000) (disch := omega) only [go_sem, jjA, jjB, jjC, jjD, jjE, jjF, jjG, jjH, jjI, jjJ, ↓reduceIte, reduceCtorEq, w_app_nl, wrap_id, w_ite_ne, w_ite_lt]); rfl) | (simp (maxSteps := 1000000) (disch := omega) only [go_sem, jjA, jjB, jjC, jjD, jjE, jjF, jjG, jjH, jjI, jjJ, ↓reduceIte, reduceCtorEq, w_app_nl, wrap_id, w_ite_ne, w_ite_lt]; done)), hnx (by simpa using hp)⟩
  · obtain rfl : k = l.length := by omega
    try simp (maxSteps := 500000) (disch := omega) only [go_sem, jjA, jjB, jjC, jjD, jjE, jjF, jjG, jjH, jjI, jjJ, ↓reduceIte, reduceCtorEq, wrap_id, w_ite_ne, w_ite_lt, jjK, jjL]
    rw [decide_eq_false (fun hm => ?_)]
    · exact Pub.pure rfl
    · obtain ⟨i, hi⟩ := List.getElem?_of_mem hm
      have := hj i (List.getElem?_eq_some_iff.1 hi).1 _ hi
      simp at this
/-! the example of the chapter -/
def exW : Wt := ⟨0, 2, 5, 1⟩
def exB (k : Nat) : Bo := ⟨[exW], [([10, 12] : List Int).take k], []⟩
theorem exB_sz (k : Nat) : BoL (exB k) := ⟨by simp [exB], by simp [exB], by intro x hx; simp [exB] at hx; subst hx; simp; omega, by simp [exB], by intro w hw; simp [exB] at hw⟩
theorem ok_law36_sane : PC prog n_law36_sane [] (.bool true) := by
  refine PC_of_body b_law36_sane (by simp) ?_
  simp only [c_law36_sane, go_sem, jjA, jjB, jjC, jjD, jjE, jjF, jjG, jjH, jjI, jjJ, ↓reduceIte, reduceCtorEq, w_app_nl]
  have hO := ok_warning_Open [exW] (by simp)
  rw [show openV [exW] = .tuple [bov (exB 0), .int .i64 0] by rfl] at hO
  simp only [wts, wtv, exW, List.map_cons, List.map_nil] at hO
  try simp (maxSteps := 500000) (disch := omega) only [go_sem, jjA, jjB, jjC, jjD, jjE, jjF, jjG, jjH, jjI, jjJ, ↓reduceIte, reduceCtorEq, wrap_id, w_ite_ne, w_ite_lt, jjK, jjL]
  refine call_pc hO (by simp [go_sem]) ?_
  simp only [bov]
  try simp (maxSteps := 500000) (disch := omega) only [go_sem, jjA, jjB, jjC, jjD, jjE, jjF, jjG, jjH, jjI, jjJ, ↓reduceIte, reduceCtorEq, wrap_id, w_ite_ne, w_ite_lt, jjK, jjL]
  have hpu : ∀ j, (AV.agg [.list 4 (wts (exB j).ps), .list 1 (lls (exB j).pa), .list 4 (wns (exB j).ac)]).pur = true := fun j => by simp [go_sem, wts_pur, lls_pur, wns_pur]
  refine awp_upG [0, 4, 5, 6, 7, 23, 24, 25, 26, 27, 28, 29, 30, 31, 32, 33, 34, 35, 36, 37, 38, 39, 40, 41, 42, 43] (by kernel_rfl) 2 (fun k e σ => e 23 = .int .i64 k ∧ 1 ≤ σ.n ∧ σ.ob 0 = some ⟨0, 3, 31, false, true, [.agg [.list 4 (wts (exB k).ps), .list 1 (lls (exB k).pa), .list 4 (wns (exB k).ac)]]⟩) ?_ ?_
  · exact ⟨(by first | ((try simp (maxSteps := 1000000) only [go_sem, jjA, jjB, jjC, jjD, jjE, jjF, jjG, jjH, jjI, jjJ, ↓reduceIte, reduceCtorEq, w_app_nl]); done) | ((try simp (maxSteps := 1000000) only [go_sem, jjA, jjB, jjC, jjD, jjE, jjF, jjG, jjH, jjI, jjJ, ↓reduceIte, reduceCtorEq, w_app_nl]); rfl) | ((try simp (maxSteps := 1000000) (disch := omega) only [go_sem, jjA, jjB, jjC, jjD, jjE, jjF, jjG, jjH, jjI, jjJ, ↓reduceIte, reduceCtorEq, w_app_nl, wrap_id, w_ite_ne, w_ite_lt]); rfl) | (simp (maxSteps := 1000000) (disch := omega) only [go_sem, jjA, jjB, jjC, jjD, jjE, jjF, jjG, jjH, jjI, jjJ, ↓reduceIte, reduceCtorEq, w_app_nl, wrap_id, w_ite_ne, w_ite_lt]; done)), Nat.le_refl _, (by first | ((try simp (maxSteps := 1000000) only [go_sem, jjA, jjB, jjC, jjD, jjE, jjF, jjG, jjH, jjI, jjJ, ↓reduceIte, reduceCtorEq, w_app_nl]); done) | ((try simp (maxSteps := 1000000) only [go_sem, jjA, jjB, jjC, jjD, jjE, jjF, jjG, jjH, jjI, jjJ, ↓reduceIte, reduceCtorEq, w_app_nl]); rfl) | ((try simp (maxSteps := 1000000) (disch := omega) only [go_sem, jjA, jjB, jjC, jjD, jjE, jjF, jjG, jjH, jjI, jjJ, ↓reduceIte, reduceCtorEq, w_app_nl, wrap_id, w_ite_ne, w_ite_lt]); rfl) | (simp (maxSteps := 1000000) (disch := omega) only [go_sem, jjA, jjB, jjC, jjD, jjE, jjF, jjG, jjH, jjI, jjJ, ↓reduceIte, reduceCtorEq, w_app_nl, wrap_id, w_ite_ne, w_ite_lt]; done))⟩
  rintro k fe ob m c hk hm ⟨h23, hm1, ho⟩
  simp (maxSteps := 1000000) only [go_sem, jjA, jjB, jjC, jjD, jjE, jjF, jjG, jjH, jjI, jjJ, ↓reduceIte, reduceCtorEq, w_app_nl] at h23 hm hm1 ho
  have z0 : ¬ 0 = m := by omega
  have z1 : ¬ m = 0 := by omega
  try simp (maxSteps := 500000) (disch := omega) only [go_sem, jjA, jjB, jjC, jjD, jjE, jjF, jjG, jjH, jjI, jjJ, ↓reduceIte, reduceCtorEq, wrap_id, w_ite_ne, w_ite_lt, jjK, jjL, h23]
  refine cond_d (fun hlt => ?_) (fun hge => ?_)
  · have hS := ok_warning_See (exB k) [if k = 0 then 10 else 12] (exB_sz k) (by simp)
    have hSV : seeV (exB k) [if k = 0 then 10 else 12] = .tuple [bov (exB (k + 1)), .list 1 [], .int .i64 0] := by
      rcases (show k = 0 ∨ k = 1 by omega) with rfl | rfl <;> rfl
    rw [hSV] at hS
    have hgk : ([.int .i64 10, .int .i64 12] : List AV)[k]? = some (.int .i64 (if k = 0 then 10 else 12)) := by
      rcases (show k = 0 ∨ k = 1 by omega) with rfl | rfl <;> rfl
    generalize (if k = 0 then (10 : Int) else 12) = x at *
    simp only [bov, ints, List.map_cons, List.map_nil] at hS
    try simp (maxSteps := 500000) (disch := omega) only [go_sem, jjA, jjB, jjC, jjD, jjE, jjF, jjG, jjH, jjI, jjJ, ↓reduceIte, reduceCtorEq, wrap_id, w_ite_ne, w_ite_lt, jjK, jjL, h23, hgk, ho, z0, z1]
    refine ⟨by omega, by omega, ?_⟩
    refine call_pc hS (by simp [go_sem, wts_pur, lls_pur, wns_pur]) ?_
    try simp (maxSteps := 500000) (disch := omega) only [go_sem, jjA, jjB, jjC, jjD, jjE, jjF, jjG, jjH, jjI, jjJ, ↓reduceIte, reduceCtorEq, wrap_id, w_ite_ne, w_ite_lt, jjK, jjL, h23, ho, z0, z1]
    refine up_nextG (m + 1) (by omega) (by omega) ⟨(by first | ((try simp (maxSteps := 1000000) only [go_sem, jjA, jjB, jjC, jjD, jjE, jjF, jjG, jjH, jjI, jjJ, ↓reduceIte, reduceCtorEq, w_app_nl]); done) | ((try simp (maxSteps := 1000000) only [go_sem, jjA, jjB, jjC, jjD, jjE, jjF, jjG, jjH, jjI, jjJ, ↓reduceIte, reduceCtorEq, w_app_nl]); rfl) | ((try simp (maxSteps := 1000000) (disch := omega) only [go_sem, jjA, jjB, jjC, jjD, jjE, jjF, jjG, jjH, jjI, jjJ, ↓reduceIte, reduceCtorEq, w_app_nl, wrap_id, w_ite_ne, w_ite_lt]); rfl) | (simp (maxSteps := 1000000) (disch := omega) only [go_sem, jjA, jjB, jjC, jjD, jjE, jjF, jjG, jjH, jjI, jjJ, ↓reduceIte, reduceCtorEq, w_app_nl, wrap_id, w_ite_ne, w_ite_lt]; done)), by simp only [St.trunc]; omega, ?_⟩
    rw [tr_ob (by omega), upd_same]
  · obtain rfl : k = 2 := by omega
    have hA : PC prog n_warning_Ahead [bov (exB 2), .list 1 [.list 1 [.int .i64 12, .int .i64 18]]] (.tuple [.list 1 [.int .i64 0], .int .i64 0]) := ok_warning_Ahead (exB 2) [[12, 18]] (exB_sz 2) (by simp) (by simp)
    have hS : PC prog n_warning_See [bov (exB 2), .list 1 [.int .i64 16]] (.tuple [bov (seeR (exB 2) [16]).1, .list 1 [.int .i64 0], .int .i64 0]) := ok_warning_See (exB 2) [16] (exB_sz 2) (by simp)
    have hAc : PC prog n_warning_Active [bov (exB 2), .int .i64 0] (.tuple [.agg [.int .i64 0, .int .i64 0, .list 2 [], .int .i64 0], .bool false]) := ok_warning_Active (exB 2) 0 (exB_sz 2)
    have hCk : PC prog n_warning_Check [bov (exB 2)] (.int .i64 0) := ok_warning_Check (exB 2) (exB_sz 2)
    generalize (seeR (exB 2) [16]).1 = b3 at *
    simp only [bov] at hA hS hAc hCk ho
    try simp (maxSteps := 500000) (disch := omega) only [go_sem, jjA, jjB, jjC, jjD, jjE, jjF, jjG, jjH, jjI, jjJ, ↓reduceIte, reduceCtorEq, wrap_id, w_ite_ne, w_ite_lt, jjK, jjL, ho]
    refine call_pc hA (by simp [go_sem, wts_pur, lls_pur, wns_pur]) ?_
    try simp (maxSteps := 500000) (disch := omega) only [go_sem, jjA, jjB, jjC, jjD, jjE, jjF, jjG, jjH, jjI, jjJ, ↓reduceIte, reduceCtorEq, wrap_id, w_ite_ne, w_ite_lt, jjK, jjL, ho, z0, z1]
    refine call_pc hS (by simp [go_sem, wts_pur, lls_pur, wns_pur]) ?_
    try simp (maxSteps := 500000) (disch := omega) only [go_sem, jjA, jjB, jjC, jjD, jjE, jjF, jjG, jjH, jjI, jjJ, ↓reduceIte, reduceCtorEq, wrap_id, w_ite_ne, w_ite_lt, jjK, jjL, ho, z0, z1]
    refine call_pc hAc (by simp [go_sem, wts_pur, lls_pur, wns_pur]) ?_
    try simp (maxSteps := 500000) (disch := omega) only [go_sem, jjA, jjB, jjC, jjD, jjE, jjF, jjG, jjH, jjI, jjJ, ↓reduceIte, reduceCtorEq, wrap_id, w_ite_ne, w_ite_lt, jjK, jjL, ho, z0, z1]
    have z2 : ¬ 0 = m + 1 := by omega
    try simp (maxSteps := 500000) (disch := omega) only [go_sem, jjA, jjB, jjC, jjD, jjE, jjF, jjG, jjH, jjI, jjJ, ↓reduceIte, reduceCtorEq, wrap_id, w_ite_ne, w_ite_lt, jjK, jjL, ho, z0, z1, z2]
    refine call_pc hCk (by simp [go_sem, wts_pur, lls_pur, wns_pur]) ?_
    try simp (maxSteps := 500000) (disch := omega) only [go_sem, jjA, jjB, jjC, jjD, jjE, jjF, jjG, jjH, jjI, jjJ, ↓reduceIte, reduceCtorEq, wrap_id, w_ite_ne, w_ite_lt, jjK, jjL]
    exact Pub.pure rfl
end Go.Proofs.Try
