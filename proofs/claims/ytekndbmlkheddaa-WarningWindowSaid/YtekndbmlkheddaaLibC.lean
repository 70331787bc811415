/-
  OWN WORK, put together by tools/asm.py: what functions do.
-/
import Derived.Test.YtekndbmlkheddaaLibB
set_option linter.unusedSimpArgs false
set_option linter.unusedVariables false
set_option maxRecDepth 100000
set_option maxHeartbeats 1000000
namespace Go.Proofs.Try
open Go.Ab Go
open Int renaming reduceEq → jjA, reduceLT → jjB, reduceLE → jjC, reduceToNat → jjD
open Nat renaming reduceLT → jjE, reduceEqDiff → jjF, reduceAdd → jjG, reduceLeDiff → jjH, reduceSub → jjI, reduceMul → jjJ, sub_zero → jjK, sub_self → jjL
theorem wt_eq {b c : Wt} : b = c ↔ b.nd = c.nd ∧ b.w = c.w ∧ b.lim = c.lim ∧ b.ld = c.ld := by
  cases b; cases c; simp
theorem cs_eq {b c : Cs} : b = c ↔ b.k = c.k ∧ b.s = c.s := by
  cases b; cases c; simp
def sameW (a b : Wn) : Bool := decide (a.p = b.p) && (decide (a.t = b.t) && (decide (a.cm = b.cm) && decide (a.cs = b.cs)))
theorem sameW_iff {a b : Wn} : sameW a b = true ↔ a = b := by
  cases a; cases b
  simp [sameW]
  intro _ _
  exact and_comm
theorem bo_eq {a b : Bo} : a = b ↔ a.ps = b.ps ∧ a.pa = b.pa ∧ a.ac = b.ac := by
  cases a; cases b; simp
theorem ok_slices_Equal__int (a b : List Int) (ha : a.length ≤ 9223372036854775807) : PC prog n_slices_Equal__int [.list 1 (ints a), .list 1 (ints b)] (.bool (decide (a = b))) := by
  refine PC_of_body b_slices_Equal__int (by simp) ?_
  simp only [c_slices_Equal__int, go_sem, jjA, jjB, jjC, jjD, jjE, jjF, jjG, jjH, jjI, jjJ, ↓reduceIte, reduceCtorEq, w_app_nl, ints_length]
  refine cond_n (fun h => ?_) (fun h => ?_) <;> try simp (maxSteps := 500000) (disch := omega) only [go_sem, jjA, jjB, jjC, jjD, jjE, jjF, jjG, jjH, jjI, jjJ, ↓reduceIte, reduceCtorEq, wrap_id, w_ite_ne, w_ite_lt, jjK, jjL]
  · exact Pub.of_eq (by congr 1; simp; intro hab; exact h (by rw [hab])) rfl
  have hl : a.length = b.length := by omega
  refine awp_upF [4, 5, 13, 14, 15, 16, 17, 18, 19, 20, 21, 22, 23, 24, 25] (by kernel_rfl) a.length (fun k e _ => e 13 = .int .i64 k ∧ ∀ j, j < k → a[j]? = b[j]?) ?_ ?_
  · exact ⟨(by first | ((try simp (maxSteps := 1000000) only [go_sem, jjA, jjB, jjC, jjD, jjE, jjF, jjG, jjH, jjI, jjJ, ↓reduceIte, reduceCtorEq, w_app_nl]); done) | ((try simp (maxSteps := 1000000) only [go_sem, jjA, jjB, jjC, jjD, jjE, jjF, jjG, jjH, jjI, jjJ, ↓reduceIte, reduceCtorEq, w_app_nl]); rfl) | ((try simp (maxSteps := 1000000) (disch := omega) only [go_sem, jjA, jjB, jjC, jjD, jjE, jjF, jjG, jjH, jjI, jjJ, ↓reduceIte, reduceCtorEq, w_app_nl, wrap_id, w_ite_ne, w_ite_lt]); rfl) | (simp (maxSteps := 1000000) (disch := omega) only [go_sem, jjA, jjB, jjC, jjD, jjE, jjF, jjG, jjH, jjI, jjJ, ↓reduceIte, reduceCtorEq, w_app_nl, wrap_id, w_ite_ne, w_ite_lt]; done)), fun j hj => by omega⟩
  · rintro k fe ob c hk ⟨h13, hj⟩
    simp (maxSteps := 1000000) only [go_sem, jjA, jjB, jjC, jjD, jjE, jjF, jjG, jjH, jjI, jjJ, ↓reduceIte, reduceCtorEq, w_app_nl] at h13
    try simp (maxSteps := 500000) (disch := omega) only [go_sem, jjA, jjB, jjC, jjD, jjE, jjF, jjG, jjH, jjI, jjJ, ↓reduceIte, reduceCtorEq, wrap_id, w_ite_ne, w_ite_lt, jjK, jjL, h13, ints_length]
    refine cond_d (fun hlt => ?_) (fun hge => ?_)
    · have hka : k < a.length := by omega
      have hga : a[k]? = some a[k] := List.getElem?_eq_getElem hka
      have hgb : b[k]? = some b[k] := List.getElem?_eq_getElem (by omega)
      try simp (maxSteps := 500000) (disch := omega) only [go_sem, jjA, jjB, jjC, jjD, jjE, jjF, jjG, jjH, jjI, jjJ, ↓reduceIte, reduceCtorEq, wrap_id, w_ite_ne, w_ite_lt, jjK, jjL, h13, ints_length, ints_get, hga, hgb, Option.map_some]
      repeat (refine And.intro (by first | omega | (rw [mxL]; omega) | (simp [maxLen]; done) | (simp [maxLen]; omega)) ?_)
      refine cond_n (fun hne => ?_) (fun heq => ?_)
      · try simp (maxSteps := 500000) (disch := omega) only [go_sem, jjA, jjB, jjC, jjD, jjE, jjF, jjG, jjH, jjI, jjJ, ↓reduceIte, reduceCtorEq, wrap_id, w_ite_ne, w_ite_lt, jjK, jjL]
        exact Pub.of_eq (by congr 1; simp; intro hab; subst hab; exact hne rfl) rfl
      · try simp (maxSteps := 500000) (disch := omega) only [go_sem, jjA, jjB, jjC, jjD, jjE, jjF, jjG, jjH, jjI, jjJ, ↓reduceIte, reduceCtorEq, wrap_id, w_ite_ne, w_ite_lt, jjK, jjL, h13]
        refine up_next hka ⟨(by first | ((try simp (maxSteps := 1000000) only [go_sem, jjA, jjB, jjC, jjD, jjE, jjF, jjG, jjH, jjI, jjJ, ↓reduceIte, reduceCtorEq, w_app_nl]); done) | ((try simp (maxSteps := 1000000) only [go_sem, jjA, jjB, jjC, jjD, jjE, jjF, jjG, jjH, jjI, jjJ, ↓reduceIte, reduceCtorEq, w_app_nl]); rfl) | ((try simp (maxSteps := 1000000) (disch := omega) only [go_sem, jjA, jjB, jjC, jjD, jjE, jjF, jjG, jjH, jjI, jjJ, ↓reduceIte, reduceCtorEq, w_app_nl, wrap_id, w_ite_ne, w_ite_lt]); rfl) | (simp (maxSteps := 1000000) (disch := omega) only [go_sem, jjA, jjB, jjC, jjD, jjE, jjF, jjG, jjH, jjI, jjJ, ↓reduceIte, reduceCtorEq, w_app_nl, wrap_id, w_ite_ne, w_ite_lt]; done)), fun j hj' => ?_⟩
        by_cases e : j = k
        · have he : a[k] = b[k] := heq
          subst e; rw [hga, hgb, he]
        · exact hj j (by omega)
    · try simp (maxSteps := 500000) (disch := omega) only [go_sem, jjA, jjB, jjC, jjD, jjE, jjF, jjG, jjH, jjI, jjJ, ↓reduceIte, reduceCtorEq, wrap_id, w_ite_ne, w_ite_lt, jjK, jjL]
      exact Pub.of_eq (by congr 1; simp; exact eq_of_get hl fun j hj' => hj j (by omega)) rfl
theorem ok_slices_Equal__Cause (a b : List Cs) (ha : a.length ≤ 9223372036854775807) : PC prog n_slices_Equal__Cause [.list 2 (css a), .list 2 (css b)] (.bool (decide (a = b))) := by
  refine PC_of_body b_slices_Equal__Cause (by simp) ?_
  simp only [c_slices_Equal__Cause, go_sem, jjA, jjB, jjC, jjD, jjE, jjF, jjG, jjH, jjI, jjJ, ↓reduceIte, reduceCtorEq, w_app_nl, css_length]
  refine cond_n (fun h => ?_) (fun h => ?_) <;> try simp (maxSteps := 500000) (disch := omega) only [go_sem, jjA, jjB, jjC, jjD, jjE, jjF, jjG, jjH, jjI, jjJ, ↓reduceIte, reduceCtorEq, wrap_id, w_ite_ne, w_ite_lt, jjK, jjL]
  · exact Pub.of_eq (by congr 1; simp; intro hab; exact h (by rw [hab])) rfl
  have hl : a.length = b.length := by omega
  refine awp_upF [4, 5, 13, 14, 15, 16, 17, 18, 19, 20, 21, 22, 23, 24, 25] (by kernel_rfl) a.length (fun k e _ => e 13 = .int .i64 k ∧ ∀ j, j < k → a[j]? = b[j]?) ?_ ?_
  · exact ⟨(by first | ((try simp (maxSteps := 1000000) only [go_sem, jjA, jjB, jjC, jjD, jjE, jjF, jjG, jjH, jjI, jjJ, ↓reduceIte, reduceCtorEq, w_app_nl]); done) | ((try simp (maxSteps := 1000000) only [go_sem, jjA, jjB, jjC, jjD, jjE, jjF, jjG, jjH, jjI, jjJ, ↓reduceIte, reduceCtorEq, w_app_nl]); rfl) | ((try simp (maxSteps := 1000000) (disch := omega) only [go_sem, jjA, jjB, jjC, jjD, jjE, jjF, jjG, jjH, jjI, jjJ, ↓reduceIte, reduceCtorEq, w_app_nl, wrap_id, w_ite_ne, w_ite_lt]); rfl) | (simp (maxSteps := 1000000) (disch := omega) only [go_sem, jjA, jjB, jjC, jjD, jjE, jjF, jjG, jjH, jjI, jjJ, ↓reduceIte, reduceCtorEq, w_app_nl, wrap_id, w_ite_ne, w_ite_lt]; done)), fun j hj => by omega⟩
  · rintro k fe ob c hk ⟨h13, hj⟩
    simp (maxSteps := 1000000) only [go_sem, jjA, jjB, jjC, jjD, jjE, jjF, jjG, jjH, jjI, jjJ, ↓reduceIte, reduceCtorEq, w_app_nl] at h13
    try simp (maxSteps := 500000) (disch := omega) only [go_sem, jjA, jjB, jjC, jjD, jjE, jjF, jjG, jjH, jjI, jjJ, ↓reduceIte, reduceCtorEq, wrap_id, w_ite_ne, w_ite_lt, jjK, jjL, h13, css_length]
    refine cond_d (fun hlt => ?_) (fun hge => ?_)
    · have hka : k < a.length := by omega
      have hga : a[k]? = some a[k] := List.getElem?_eq_getElem hka
      have hgb : b[k]? = some b[k] := List.getElem?_eq_getElem (by omega)
      try simp (maxSteps := 500000) (disch := omega) only [go_sem, jjA, jjB, jjC, jjD, jjE, jjF, jjG, jjH, jjI, jjJ, ↓reduceIte, reduceCtorEq, wrap_id, w_ite_ne, w_ite_lt, jjK, jjL, h13, css_length, css_get, hga, hgb, Option.map_some, csv]
      repeat (refine And.intro (by first | omega | (rw [mxL]; omega) | (simp [maxLen]; done) | (simp [maxLen]; omega)) ?_)
      refine ⟨fun hne => ?_, fun heq => ?_⟩
      · try simp (maxSteps := 500000) (disch := omega) only [go_sem, jjA, jjB, jjC, jjD, jjE, jjF, jjG, jjH, jjI, jjJ, ↓reduceIte, reduceCtorEq, wrap_id, w_ite_ne, w_ite_lt, jjK, jjL]
        exact Pub.of_eq (by congr 1; simp; intro hab; subst hab; simp at hne) rfl
      · try simp (maxSteps := 500000) (disch := omega) only [go_sem, jjA, jjB, jjC, jjD, jjE, jjF, jjG, jjH, jjI, jjJ, ↓reduceIte, reduceCtorEq, wrap_id, w_ite_ne, w_ite_lt, jjK, jjL, h13]
        refine up_next hka ⟨(by first | ((try simp (maxSteps := 1000000) only [go_sem, jjA, jjB, jjC, jjD, jjE, jjF, jjG, jjH, jjI, jjJ, ↓reduceIte, reduceCtorEq, w_app_nl]); done) | ((try simp (maxSteps := 1000000) only [go_sem, jjA, jjB, jjC, jjD, jjE, jjF, jjG, jjH, jjI, jjJ, ↓reduceIte, reduceCtorEq, w_app_nl]); rfl) | ((try simp (maxSteps := 1000000) (disch := omega) only [go_sem, jjA, jjB, jjC, jjD, jjE, jjF, jjG, jjH, jjI, jjJ, ↓reduceIte, reduceCtorEq, w_app_nl, wrap_id, w_ite_ne, w_ite_lt]); rfl) | (simp (maxSteps := 1000000) (disch := omega) only [go_sem, jjA, jjB, jjC, jjD, jjE, jjF, jjG, jjH, jjI, jjJ, ↓reduceIte, reduceCtorEq, w_app_nl, wrap_id, w_ite_ne, w_ite_lt]; done)), fun j hj' => ?_⟩
        by_cases e : j = k
        · have he : a[k] = b[k] := cs_eq.2 (by simpa using heq)
          subst e; rw [hga, hgb, he]
        · exact hj j (by omega)
    · try simp (maxSteps := 500000) (disch := omega) only [go_sem, jjA, jjB, jjC, jjD, jjE, jjF, jjG, jjH, jjI, jjJ, ↓reduceIte, reduceCtorEq, wrap_id, w_ite_ne, w_ite_lt, jjK, jjL]
      exact Pub.of_eq (by congr 1; simp; exact eq_of_get hl fun j hj' => hj j (by omega)) rfl
theorem ok_slices_Equal__Watch (a b : List Wt) (ha : a.length ≤ 9223372036854775807) : PC prog n_slices_Equal__Watch [.list 4 (wts a), .list 4 (wts b)] (.bool (decide (a = b))) := by
  refine PC_of_body b_slices_Equal__Watch (by simp) ?_
  simp only [c_slices_Equal__Watch, go_sem, jjA, jjB, jjC, jjD, jjE, jjF, jjG, jjH, jjI, jjJ, ↓reduceIte, reduceCtorEq, w_app_nl, wts_length]
  refine cond_n (fun h => ?_) (fun h => ?_) <;> try simp (maxSteps := 500000) (disch := omega) only [go_sem, jjA, jjB, jjC, jjD, jjE, jjF, jjG, jjH, jjI, jjJ, ↓reduceIte, reduceCtorEq, wrap_id, w_ite_ne, w_ite_lt, jjK, jjL]
  · exact Pub.of_eq (by congr 1; simp; intro hab; exact h (by rw [hab])) rfl
  have hl : a.length = b.length := by omega
  refine awp_upF [4, 5, 13, 14, 15, 16, 17, 18, 19, 20, 21, 22, 23, 24, 25] (by kernel_rfl) a.length (fun k e _ => e 13 = .int .i64 k ∧ ∀ j, j < k → a[j]? = b[j]?) ?_ ?_
  · exact ⟨(by first | ((try simp (maxSteps := 1000000) only [go_sem, jjA, jjB, jjC, jjD, jjE, jjF, jjG, jjH, jjI, jjJ, ↓reduceIte, reduceCtorEq, w_app_nl]); done) | ((try simp (maxSteps := 1000000) only [go_sem, jjA, jjB, jjC, jjD, jjE, jjF, jjG, jjH, jjI, jjJ, ↓reduceIte, reduceCtorEq, w_app_nl]); rfl) | ((try simp (maxSteps := 1000000) (disch := omega) only [go_sem, jjA, jjB, jjC, jjD, jjE, jjF, jjG, jjH, jjI, jjJ, ↓reduceIte, reduceCtorEq, w_app_nl, wrap_id, w_ite_ne, w_ite_lt]); rfl) | (simp (maxSteps := 1000000) (disch := omega) only [go_sem, jjA, jjB, jjC, jjD, jjE, jjF, jjG, jjH, jjI, jjJ, ↓reduceIte, reduceCtorEq, w_app_nl, wrap_id, w_ite_ne, w_ite_lt]; done)), fun j hj => by omega⟩
  · rintro k fe ob c hk ⟨h13, hj⟩
    simp (maxSteps := 1000000) only [go_sem, jjA, jjB, jjC, jjD, jjE, jjF, jjG, jjH, jjI, jjJ, ↓reduceIte, reduceCtorEq, w_app_nl] at h13
    try simp (maxSteps := 500000) (disch := omega) only [go_sem, jjA, jjB, jjC, jjD, jjE, jjF, jjG, jjH, jjI, jjJ, ↓reduceIte, reduceCtorEq, wrap_id, w_ite_ne, w_ite_lt, jjK, jjL, h13, wts_length]
    refine cond_d (fun hlt => ?_) (fun hge => ?_)
    · have hka : k < a.length := by omega
      have hga : a[k]? = some a[k] := List.getElem?_eq_getElem hka
      have hgb : b[k]? = some b[k] := List.getElem?_eq_getElem (by omega)
      try simp (maxSteps := 500000) (disch := omega) only [go_sem, jjA, jjB, jjC, jjD, jjE, jjF, jjG, jjH, jjI, jjJ, ↓reduceIte, reduceCtorEq, wrap_id, w_ite_ne, w_ite_lt, jjK, jjL, h13, wts_length, wts_get, hga, hgb, Option.map_some, wtv]
      repeat (refine And.intro (by first | omega | (rw [mxL]; omega) | (simp [maxLen]; done) | (simp [maxLen]; omega)) ?_)
      refine ⟨fun hne => ?_, fun heq => ?_⟩
      · try simp (maxSteps := 500000) (disch := omega) only [go_sem, jjA, jjB, jjC, jjD, jjE, jjF, jjG, jjH, jjI, jjJ, ↓reduceIte, reduceCtorEq, wrap_id, w_ite_ne, w_ite_lt, jjK, jjL]
        exact Pub.of_eq (by congr 1; simp; intro hab; subst hab; simp at hne) rfl
      · try simp (maxSteps := 500000) (disch := omega) only [go_sem, jjA, jjB, jjC, jjD, jjE, jjF, jjG, jjH, jjI, jjJ, ↓reduceIte, reduceCtorEq, wrap_id, w_ite_ne, w_ite_lt, jjK, jjL, h13]
        refine up_next hka ⟨(by first | ((try simp (maxSteps := 1000000) only [go_sem, jjA, jjB, jjC, jjD, jjE, jjF, jjG, jjH, jjI, jjJ, ↓reduceIte, reduceCtorEq, w_app_nl]); done) | ((try simp (maxSteps := 1000000) only [go_sem, jjA, jjB, jjC, jjD, jjE, jjF, jjG, jjH, jjI, jjJ, ↓reduceIte, reduceCtorEq, w_app_nl]); rfl) | ((try simp (maxSteps := 1000000) (disch := omega) only [go_sem, jjA, jjB, jjC, jjD, jjE, jjF, jjG, jjH, jjI, jjJ, ↓reduceIte, reduceCtorEq, w_app_nl, wrap_id, w_ite_ne, w_ite_lt]); rfl) | (simp (maxSteps := 1000000) (disch := omega) only [go_sem, jjA, jjB, jjC, jjD, jjE, jjF, jjG, jjH, jjI, jjJ, ↓reduceIte, reduceCtorEq, w_app_nl, wrap_id, w_ite_ne, w_ite_lt]; done)), fun j hj' => ?_⟩
        by_cases e : j = k
        · have he : a[k] = b[k] := wt_eq.2 (by simpa using heq)
          subst e; rw [hga, hgb, he]
        · exact hj j (by omega)
    · try simp (maxSteps := 500000) (disch := omega) only [go_sem, jjA, jjB, jjC, jjD, jjE, jjF, jjG, jjH, jjI, jjJ, ↓reduceIte, reduceCtorEq, wrap_id, w_ite_ne, w_ite_lt, jjK, jjL]
      exact Pub.of_eq (by congr 1; simp; exact eq_of_get hl fun j hj' => hj j (by omega)) rfl
theorem ok_warning_alike (a b : Wn) (hl : a.cs.length ≤ 9223372036854775807) : PC prog n_warning_alike [wnv a, wnv b] (.bool (sameW a b)) := by
  refine PC_of_body b_warning_alike (by simp) ?_
  simp only [c_warning_alike, go_sem, jjA, jjB, jjC, jjD, jjE, jjF, jjG, jjH, jjI, jjJ, ↓reduceIte, reduceCtorEq, w_app_nl, wnv]
  refine gd_td rfl (fun h1 => ?_) (fun h1 => ?_) <;> try simp (maxSteps := 500000) (disch := omega) only [go_sem, jjA, jjB, jjC, jjD, jjE, jjF, jjG, jjH, jjI, jjJ, ↓reduceIte, reduceCtorEq, wrap_id, w_ite_ne, w_ite_lt, jjK, jjL]
  · refine gd_td rfl (fun h2 => ?_) (fun h2 => ?_) <;> try simp (maxSteps := 500000) (disch := omega) only [go_sem, jjA, jjB, jjC, jjD, jjE, jjF, jjG, jjH, jjI, jjJ, ↓reduceIte, reduceCtorEq, wrap_id, w_ite_ne, w_ite_lt, jjK, jjL]
    · refine gd_td rfl (fun h3 => ?_) (fun h3 => ?_) <;> try simp (maxSteps := 500000) (disch := omega) only [go_sem, jjA, jjB, jjC, jjD, jjE, jjF, jjG, jjH, jjI, jjJ, ↓reduceIte, reduceCtorEq, wrap_id, w_ite_ne, w_ite_lt, jjK, jjL]
      · refine call_pc (ok_slices_Equal__Cause a.cs b.cs hl) (by simp [go_sem, css_pur]) ?_
        try simp (maxSteps := 500000) (disch := omega) only [go_sem, jjA, jjB, jjC, jjD, jjE, jjF, jjG, jjH, jjI, jjJ, ↓reduceIte, reduceCtorEq, wrap_id, w_ite_ne, w_ite_lt, jjK, jjL]
        exact Pub.of_eq (by simp [sameW, h1, h2, h3]) rfl
      · exact Pub.of_eq (by simp [sameW, h3]) rfl
    · exact Pub.of_eq (by simp [sameW, h2]) rfl
  · exact Pub.of_eq (by simp [sameW, h1]) rfl
theorem ok_slices_EqualFunc__int (a b : List (List Int)) (ha : a.length ≤ 9223372036854775807) (hx : ∀ x ∈ a, x.length ≤ 9223372036854775807) : PC prog n_slices_EqualFunc__int [.list 1 (lls a), .list 1 (lls b), .func n_slices_Equal__int []] (.bool (decide (a = b))) := by
  refine PC_of_body b_slices_EqualFunc__int (by simp) ?_
  simp only [c_slices_EqualFunc__int, go_sem, jjA, jjB, jjC, jjD, jjE, jjF, jjG, jjH, jjI, jjJ, ↓reduceIte, reduceCtorEq, w_app_nl, lls_length]
  refine cond_n (fun h => ?_) (fun h => ?_) <;> try simp (maxSteps := 500000) (disch := omega) only [go_sem, jjA, jjB, jjC, jjD, jjE, jjF, jjG, jjH, jjI, jjJ, ↓reduceIte, reduceCtorEq, wrap_id, w_ite_ne, w_ite_lt, jjK, jjL]
  · exact Pub.of_eq (by congr 1; simp; intro hab; exact h (by rw [hab])) rfl
  have hl : a.length = b.length := by omega
  refine awp_upF [6, 7, 8, 9, 17, 18, 19, 20, 21, 22, 23, 24, 25, 26, 27, 28, 29, 30, 31] (by kernel_rfl) a.length (fun k e _ => e 17 = .int .i64 k ∧ ∀ j, j < k → a[j]? = b[j]?) ?_ ?_
  · exact ⟨(by first | ((try simp (maxSteps := 1000000) only [go_sem, jjA, jjB, jjC, jjD, jjE, jjF, jjG, jjH, jjI, jjJ, ↓reduceIte, reduceCtorEq, w_app_nl]); done) | ((try simp (maxSteps := 1000000) only [go_sem, jjA, jjB, jjC, jjD, jjE, jjF, jjG, jjH, jjI, jjJ, ↓reduceIte, reduceCtorEq, w_app_nl]); rfl) | ((try simp (maxSteps := 1000000) (disch := omega) only [go_sem, jjA, jjB, jjC, jjD, jjE, jjF, jjG, jjH, jjI, jjJ, ↓reduceIte, reduceCtorEq, w_app_nl, wrap_id, w_ite_ne, w_ite_lt]); rfl) | (simp (maxSteps := 1000000) (disch := omega) only [go_sem, jjA, jjB, jjC, jjD, jjE, jjF, jjG, jjH, jjI, jjJ, ↓reduceIte, reduceCtorEq, w_app_nl, wrap_id, w_ite_ne, w_ite_lt]; done)), fun j hj => by omega⟩
  · rintro k fe ob c hk ⟨h17, hj⟩
    simp (maxSteps := 1000000) only [go_sem, jjA, jjB, jjC, jjD, jjE, jjF, jjG, jjH, jjI, jjJ, ↓reduceIte, reduceCtorEq, w_app_nl] at h17
    try simp (maxSteps := 500000) (disch := omega) only [go_sem, jjA, jjB, jjC, jjD, jjE, jjF, jjG, jjH, jjI, jjJ, ↓reduceIte, reduceCtorEq, wrap_id, w_ite_ne, w_ite_lt, jjK, jjL, h17, lls_length]
    refine cond_d (fun hlt => ?_) (fun hge => ?_)
    · have hka : k < a.length := by omega
      have hga : a[k]? = some a[k] := List.getElem?_eq_getElem hka
      have hgb : b[k]? = some b[k] := List.getElem?_eq_getElem (by omega)
      have hE := ok_slices_Equal__int a[k] b[k] (hx _ (List.getElem_mem hka))
      have hiff : a[k] = b[k] ↔ (decide (a[k] = b[k])) = true := by simp
      generalize a[k] = x at *
      generalize b[k] = y at *
      skip
      try simp (maxSteps := 500000) (disch := omega) only [go_sem, jjA, jjB, jjC, jjD, jjE, jjF, jjG, jjH, jjI, jjJ, ↓reduceIte, reduceCtorEq, wrap_id, w_ite_ne, w_ite_lt, jjK, jjL, h17, lls_length, lls_get, hga, hgb, Option.map_some]
      repeat (refine And.intro (by first | omega | (rw [mxL]; omega) | (simp [maxLen]; done) | (simp [maxLen]; omega)) ?_)
      refine call_pc hE (by simp [go_sem, ints_pur]) ?_
      cases hs : (decide (x = y)) <;> try simp (maxSteps := 500000) (disch := omega) only [go_sem, jjA, jjB, jjC, jjD, jjE, jjF, jjG, jjH, jjI, jjJ, ↓reduceIte, reduceCtorEq, wrap_id, w_ite_ne, w_ite_lt, jjK, jjL, h17]
      · exact Pub.of_eq (by congr 1; simp; intro hab; subst hab; rw [hga] at hgb; rw [hiff.1 (Option.some.inj hgb)] at hs; cases hs) rfl
      · refine up_next hka ⟨(by first | ((try simp (maxSteps := 1000000) only [go_sem, jjA, jjB, jjC, jjD, jjE, jjF, jjG, jjH, jjI, jjJ, ↓reduceIte, reduceCtorEq, w_app_nl]); done) | ((try simp (maxSteps := 1000000) only [go_sem, jjA, jjB, jjC, jjD, jjE, jjF, jjG, jjH, jjI, jjJ, ↓reduceIte, reduceCtorEq, w_app_nl]); rfl) | ((try simp (maxSteps := 1000000) (disch := omega) only [go_sem, jjA, jjB, jjC, jjD, jjE, jjF, jjG, jjH, jjI, jjJ, ↓reduceIte, reduceCtorEq, w_app_nl, wrap_id, w_ite_ne, w_ite_lt]); rfl) | (simp (maxSteps := 1000000) (disch := omega) only [go_sem, jjA, jjB, jjC, jjD, jjE, jjF, jjG, jjH, jjI, jjJ, ↓reduceIte, reduceCtorEq, w_app_nl, wrap_id, w_ite_ne, w_ite_lt]; done)), fun j hj' => ?_⟩
        by_cases e : j = k
        · subst e; rw [hga, hgb, hiff.2 hs]
        · exact hj j (by omega)
    · try simp (maxSteps := 500000) (disch := omega) only [go_sem, jjA, jjB, jjC, jjD, jjE, jjF, jjG, jjH, jjI, jjJ, ↓reduceIte, reduceCtorEq, wrap_id, w_ite_ne, w_ite_lt, jjK, jjL]
      exact Pub.of_eq (by congr 1; simp; exact eq_of_get hl fun j hj' => hj j (by omega)) rfl
theorem ok_slices_EqualFunc__Warning (a b : List (Wn)) (ha : a.length ≤ 9223372036854775807) (hx : ∀ x ∈ a, x.cs.length ≤ 9223372036854775807) : PC prog n_slices_EqualFunc__Warning [.list 4 (wns a), .list 4 (wns b), .func n_warning_alike []] (.bool (decide (a = b))) := by
  refine PC_of_body b_slices_EqualFunc__Warning (by simp) ?_
  simp only [c_slices_EqualFunc__Warning, go_sem, jjA, jjB, jjC, jjD, jjE, jjF, jjG, jjH, jjI, jjJ, ↓reduceIte, reduceCtorEq, w_app_nl, wns_length]
  refine cond_n (fun h => ?_) (fun h => ?_) <;> try simp (maxSteps := 500000) (disch := omega) only [go_sem, jjA, jjB, jjC, jjD, jjE, jjF, jjG, jjH, jjI, jjJ, ↓reduceIte, reduceCtorEq, wrap_id, w_ite_ne, w_ite_lt, jjK, jjL]
  · exact Pub.of_eq (by congr 1; simp; intro hab; exact h (by rw [hab])) rfl
  have hl : a.length = b.length := by omega
  refine awp_upF [6, 7, 8, 9, 17, 18, 19, 20, 21, 22, 23, 24, 25, 26, 27, 28, 29, 30, 31] (by kernel_rfl) a.length (fun k e _ => e 17 = .int .i64 k ∧ ∀ j, j < k → a[j]? = b[j]?) ?_ ?_
  · exact ⟨(by first | ((try simp (maxSteps := 1000000) only [go_sem, jjA, jjB, jjC, jjD, jjE, jjF, jjG, jjH, jjI, jjJ, ↓reduceIte, reduceCtorEq, w_app_nl]); done) | ((try simp (maxSteps := 1000000) only [go_sem, jjA, jjB, jjC, jjD, jjE, jjF, jjG, jjH, jjI, jjJ, ↓reduceIte, reduceCtorEq, w_app_nl]); rfl) | ((try simp (maxSteps := 1000000) (disch := omega) only [go_sem, jjA, jjB, jjC, jjD, jjE, jjF, jjG, jjH, jjI, jjJ, ↓reduceIte, reduceCtorEq, w_app_nl, wrap_id, w_ite_ne, w_ite_lt]); rfl) | (simp (maxSteps := 1000000) (disch := omega) only [go_sem, jjA, jjB, jjC, jjD, jjE, jjF, jjG, jjH, jjI, jjJ, ↓reduceIte, reduceCtorEq, w_app_nl, wrap_id, w_ite_ne, w_ite_lt]; done)), fun j hj => by omega⟩
  · rintro k fe ob c hk ⟨h17, hj⟩
    simp (maxSteps := 1000000) only [go_sem, jjA, jjB, jjC, jjD, jjE, jjF, jjG, jjH, jjI, jjJ, ↓reduceIte, reduceCtorEq, w_app_nl] at h17
    try simp (maxSteps := 500000) (disch := omega) only [go_sem, jjA, jjB, jjC, jjD, jjE, jjF, jjG, jjH, jjI, jjJ, ↓reduceIte, reduceCtorEq, wrap_id, w_ite_ne, w_ite_lt, jjK, jjL, h17, wns_length]
    refine cond_d (fun hlt => ?_) (fun hge => ?_)
    · have hka : k < a.length := by omega
      have hga : a[k]? = some a[k] := List.getElem?_eq_getElem hka
      have hgb : b[k]? = some b[k] := List.getElem?_eq_getElem (by omega)
      have hE := ok_warning_alike a[k] b[k] (hx _ (List.getElem_mem hka))
      have hiff : a[k] = b[k] ↔ (sameW a[k] b[k]) = true := by simp [sameW_iff]
      generalize a[k] = x at *
      generalize b[k] = y at *
      simp only [wnv] at hE
      try simp (maxSteps := 500000) (disch := omega) only [go_sem, jjA, jjB, jjC, jjD, jjE, jjF, jjG, jjH, jjI, jjJ, ↓reduceIte, reduceCtorEq, wrap_id, w_ite_ne, w_ite_lt, jjK, jjL, h17, wns_length, wns_get, hga, hgb, Option.map_some, wnv]
      repeat (refine And.intro (by first | omega | (rw [mxL]; omega) | (simp [maxLen]; done) | (simp [maxLen]; omega)) ?_)
      refine call_pc hE (by simp [go_sem, css_pur]) ?_
      cases hs : (sameW x y) <;> try simp (maxSteps := 500000) (disch := omega) only [go_sem, jjA, jjB, jjC, jjD, jjE, jjF, jjG, jjH, jjI, jjJ, ↓reduceIte, reduceCtorEq, wrap_id, w_ite_ne, w_ite_lt, jjK, jjL, h17]
      · exact Pub.of_eq (by congr 1; simp; intro hab; subst hab; rw [hga] at hgb; rw [hiff.1 (Option.some.inj hgb)] at hs; cases hs) rfl
      · refine up_next hka ⟨(by first | ((try simp (maxSteps := 1000000) only [go_sem, jjA, jjB, jjC, jjD, jjE, jjF, jjG, jjH, jjI, jjJ, ↓reduceIte, reduceCtorEq, w_app_nl]); done) | ((try simp (maxSteps := 1000000) only [go_sem, jjA, jjB, jjC, jjD, jjE, jjF, jjG, jjH, jjI, jjJ, ↓reduceIte, reduceCtorEq, w_app_nl]); rfl) | ((try simp (maxSteps := 1000000) (disch := omega) only [go_sem, jjA, jjB, jjC, jjD, jjE, jjF, jjG, jjH, jjI, jjJ, ↓reduceIte, reduceCtorEq, w_app_nl, wrap_id, w_ite_ne, w_ite_lt]); rfl) | (simp (maxSteps := 1000000) (disch := omega) only [go_sem, jjA, jjB, jjC, jjD, jjE, jjF, jjG, jjH, jjI, jjJ, ↓reduceIte, reduceCtorEq, w_app_nl, wrap_id, w_ite_ne, w_ite_lt]; done)), fun j hj' => ?_⟩
        by_cases e : j = k
        · subst e; rw [hga, hgb, hiff.2 hs]
        · exact hj j (by omega)
    · try simp (maxSteps := 500000) (disch := omega) only [go_sem, jjA, jjB, jjC, jjD, jjE, jjF, jjG, jjH, jjI, jjJ, ↓reduceIte, reduceCtorEq, wrap_id, w_ite_ne, w_ite_lt, jjK, jjL]
      exact Pub.of_eq (by congr 1; simp; exact eq_of_get hl fun j hj' => hj j (by omega)) rfl
theorem ok_warning_Same (a b : Bo) (h : BoL a) : PC prog n_warning_Same [bov a, bov b] (.bool (decide (a = b))) := by
  refine PC_of_body b_warning_Same (by simp) ?_
  simp only [c_warning_Same, go_sem, jjA, jjB, jjC, jjD, jjE, jjF, jjG, jjH, jjI, jjJ, ↓reduceIte, reduceCtorEq, w_app_nl, bov]
  refine call_pc (ok_slices_Equal__Watch a.ps b.ps h.p) (by simp [go_sem, wts_pur]) ?_
  try simp (maxSteps := 500000) (disch := omega) only [go_sem, jjA, jjB, jjC, jjD, jjE, jjF, jjG, jjH, jjI, jjJ, ↓reduceIte, reduceCtorEq, wrap_id, w_ite_ne, w_ite_lt, jjK, jjL]
  refine gd_td rfl (fun h1 => ?_) (fun h1 => ?_) <;> try simp (maxSteps := 500000) (disch := omega) only [go_sem, jjA, jjB, jjC, jjD, jjE, jjF, jjG, jjH, jjI, jjJ, ↓reduceIte, reduceCtorEq, wrap_id, w_ite_ne, w_ite_lt, jjK, jjL]
  · refine call_pc (ok_slices_EqualFunc__int a.pa b.pa h.q h.l) (by simp [go_sem, lls_pur]) ?_
    try simp (maxSteps := 500000) (disch := omega) only [go_sem, jjA, jjB, jjC, jjD, jjE, jjF, jjG, jjH, jjI, jjJ, ↓reduceIte, reduceCtorEq, wrap_id, w_ite_ne, w_ite_lt, jjK, jjL]
    refine gd_td rfl (fun h2 => ?_) (fun h2 => ?_) <;> try simp (maxSteps := 500000) (disch := omega) only [go_sem, jjA, jjB, jjC, jjD, jjE, jjF, jjG, jjH, jjI, jjJ, ↓reduceIte, reduceCtorEq, wrap_id, w_ite_ne, w_ite_lt, jjK, jjL]
    · refine call_pc (ok_slices_EqualFunc__Warning a.ac b.ac h.a h.c) (by simp [go_sem, wns_pur]) ?_
      try simp (maxSteps := 500000) (disch := omega) only [go_sem, jjA, jjB, jjC, jjD, jjE, jjF, jjG, jjH, jjI, jjJ, ↓reduceIte, reduceCtorEq, wrap_id, w_ite_ne, w_ite_lt, jjK, jjL]
      exact Pub.of_eq (by simp [bo_eq, h1, h2]) rfl
    · exact Pub.of_eq (by simp [bo_eq, h2]) rfl
  · exact Pub.of_eq (by simp [bo_eq, h1]) rfl
def openR (l : List Wt) : Bo := if watE l = 0 then ⟨l, List.replicate l.length [], []⟩ else boZ
def openV (l : List Wt) : AV := .tuple [bov (openR l), .int .i64 (watE l)]
theorem nl_reps (n : Nat) : NlR (.list 1 (List.replicate n .nil)) (.list 1 (lls (List.replicate n []))) := by
  intro S w v hv
  have hl : (lls (List.replicate n [])).length = (List.replicate n AV.nil).length := by simp [lls]
  have hn : ∀ (i : Nat) (x : AV), (List.replicate n AV.nil)[i]? = some x → x = .nil := fun i x h => by
    rw [List.getElem?_replicate] at h
    split at h
    · exact (Option.some.inj h).symm
    · cases h
  have hm : ∀ (i : Nat) (x : AV), (lls (List.replicate n []))[i]? = some x → x = .list 1 [] := fun i x h => by
    rw [lls_get, List.getElem?_replicate] at h
    split at h
    · exact (Option.some.inj h).symm
    · cases h
  generalize List.replicate n AV.nil = L at hv hl hn
  generalize lls (List.replicate n []) = M at hl hm ⊢
  cases hv with
  | listNil => 
    obtain rfl : M = [] := List.eq_nil_of_length_eq_zero hl
    exact .listNil _ _ _
  | list f hne hcap hS hc hw hv =>
    rw [← hl]
    refine VP.list f (fun h => hne (List.eq_nil_of_length_eq_zero (by rw [← hl, h]; rfl))) (by rw [hl]; exact hcap) hS (fun i x hx => by rw [hm i x hx]; exact ⟨rfl, rfl⟩) (fun i j hi hj => hw i j (by omega) hj) fun i x j y hx hy => ?_
    rw [hm i x hx] at hy
    have hi := (List.getElem?_eq_some_iff.1 hx).1
    have hx2 : L[i]? = some L[i] := List.getElem?_eq_getElem (by omega)
    have hx3 := hn i _ hx2
    rw [hx3] at hx2
    cases j with
    | succ j => simp [AV.cells] at hy
    | zero =>
      simp only [AV.cells, List.getElem?_cons_zero, Option.some.injEq] at hy
      subst hy
      exact NlR.nil 1 S w _ (hv i .nil 0 .nil hx2 rfl)
theorem PC.nl {P : Program} {f : Nat} {args : List AV} {r r' : AV} (h : PC P f args r) (k : NlR r r') : PC P f args r' :=
  ⟨h.1, fun S w vs hS hv => (h.2 S w vs hS hv).mono fun x w' ⟨v, S', h1, h2, h3, h4, h5⟩ => ⟨v, S', h1, h2, h3, h4, k S' w' v h5⟩⟩
theorem NlR.tu {l r : List AV} (h : NlRs l r) : NlR (.tuple l) (.tuple r) := fun S w v hv => by
  cases hv with
  | tuple hl hh =>
    refine .tuple (by rw [hl, h.get.1]) fun j y u hy hu => ?_
    obtain ⟨x, hx, hxy⟩ := h.get.2 j y hy
    exact hxy S w u (hh j x u hx hu)
/-- what opens, with nil where make leaves it -/
def openN (l : List Wt) : AV := if watE l = 0 then .tuple [.agg [.list 4 (wts l), .list 1 (List.replicate l.length .nil), .list 4 []], .int .i64 0] else openV l
theorem openN_nl (l : List Wt) : NlR (openN l) (openV l) := by
  unfold openN
  split
  · rename_i h
    rw [openV, openR, if_pos h, h]
    exact NlR.tu (.cons (NlR.agg (.cons .rfl (.cons (nl_reps _) (.cons .rfl .nil)))) (.cons .rfl .nil))
  · exact .rfl
theorem open_bad {l : List Wt} {n : Int} (h : watE l = n) (hn : n ≠ 0) {σ : St} : Pub σ (.tuple [.agg [.nil, .nil, .nil], .int .i64 n]) (openN l) := by
  rw [openN, if_neg (by rw [h]; exact hn), openV, openR, h, if_neg hn]
  exact Pub.tu (.cons pub_boZ (.cons (Pub.e rfl) .nil))
theorem reps_pur (n : Nat) : ∀ x ∈ List.replicate n AV.nil, x.pur = true := fun x hx => by rw [(List.mem_replicate.1 hx).2]; rfl
theorem ok_warning_Open (l : List Wt) (hl : l.length ≤ 9223372036854775807) : PC prog n_warning_Open [.list 4 (wts l)] (openV l) := by
  refine PC.nl ?_ (openN_nl l)
  refine PC_of_body b_warning_Open (by simp) ?_
  simp only [c_warning_Open, go_sem, jjA, jjB, jjC, jjD, jjE, jjF, jjG, jjH, jjI, jjJ, ↓reduceIte, reduceCtorEq, w_app_nl]
  refine call_pc (ok_warning_watched l hl) (by simp [go_sem, wts_pur]) ?_
  try simp (maxSteps := 500000) (disch := omega) only [go_sem, jjA, jjB, jjC, jjD, jjE, jjF, jjG, jjH, jjI, jjJ, ↓reduceIte, reduceCtorEq, wrap_id, w_ite_ne, w_ite_lt, jjK, jjL]
  refine cond_n (fun g1 => ?_) (fun g1 => ?_) <;> try simp (maxSteps := 500000) (disch := omega) only [go_sem, jjA, jjB, jjC, jjD, jjE, jjF, jjG, jjH, jjI, jjJ, ↓reduceIte, reduceCtorEq, wrap_id, w_ite_ne, w_ite_lt, jjK, jjL, g1]
  · exact open_bad rfl g1
  have hok := (watE_ok.1 g1).1
  refine dcall_pc (okl_slices_Clone__Watch (wts l) (by rw [wts_length]; omega) (wts_pur l) (wts_ok l)) (by simp [go_sem, wts_pur]) (by simp [go_sem, wts_pur]) ?_
  try simp (maxSteps := 500000) (disch := omega) only [go_sem, jjA, jjB, jjC, jjD, jjE, jjF, jjG, jjH, jjI, jjJ, ↓reduceIte, reduceCtorEq, wrap_id, w_ite_ne, w_ite_lt, jjK, jjL, wts_length]
  refine ⟨by omega, by omega, by omega, ?_⟩
  rw [openN, if_pos g1]
  exact Pub.tu (.cons (Pub.ag (.cons (Pub.e rfl) (.cons (Pub.e rfl) (.cons (.nl 4) .nil)))) (.cons (Pub.e rfl) .nil))
theorem ok_ref36_Open (l : List Wt) (hl : l.length ≤ 9223372036854775807) : PC prog n_ref36_Open [.list 4 (wts l)] (openV l) := by
  refine PC.nl ?_ (openN_nl l)
  refine PC_of_body b_ref36_Open (by simp) ?_
  simp only [c_ref36_Open, go_sem, jjA, jjB, jjC, jjD, jjE, jjF, jjG, jjH, jjI, jjJ, ↓reduceIte, reduceCtorEq, wts_length]
  refine cond_d (fun h0 => ?_) (fun h0 => ?_) <;> try simp (maxSteps := 500000) (disch := omega) only [go_sem, jjA, jjB, jjC, jjD, jjE, jjF, jjG, jjH, jjI, jjJ, ↓reduceIte, reduceCtorEq, wrap_id, w_ite_ne, w_ite_lt, jjK, jjL, wts_length]
  · exact open_bad (by rw [watE, if_pos (by omega)]) (by omega)
  refine awp_upG [3, 5, 12, 13, 14, 15, 16, 17, 18, 19, 20] (by kernel_rfl) l.length (fun k e σ => e 12 = .int .i64 k ∧ σ.ob 0 = some ⟨0, 3, 31, false, true, [.agg [.nil, .nil, .nil]]⟩ ∧ (l.take k).all wtB = true) ?_ ?_
  · exact ⟨(by first | ((try simp (maxSteps := 1000000) only [go_sem, jjA, jjB, jjC, jjD, jjE, jjF, jjG, jjH, jjI, jjJ, ↓reduceIte, reduceCtorEq, w_app_nl]); done) | ((try simp (maxSteps := 1000000) only [go_sem, jjA, jjB, jjC, jjD, jjE, jjF, jjG, jjH, jjI, jjJ, ↓reduceIte, reduceCtorEq, w_app_nl]); rfl) | ((try simp (maxSteps := 1000000) (disch := omega) only [go_sem, jjA, jjB, jjC, jjD, jjE, jjF, jjG, jjH, jjI, jjJ, ↓reduceIte, reduceCtorEq, w_app_nl, wrap_id, w_ite_ne, w_ite_lt]); rfl) | (simp (maxSteps := 1000000) (disch := omega) only [go_sem, jjA, jjB, jjC, jjD, jjE, jjF, jjG, jjH, jjI, jjJ, ↓reduceIte, reduceCtorEq, w_app_nl, wrap_id, w_ite_ne, w_ite_lt]; done)), (by first | ((try simp (maxSteps := 1000000) only [go_sem, jjA, jjB, jjC, jjD, jjE, jjF, jjG, jjH, jjI, jjJ, ↓reduceIte, reduceCtorEq, w_app_nl]); done) | ((try simp (maxSteps := 1000000) only [go_sem, jjA, jjB, jjC, jjD, jjE, jjF, jjG, jjH, jjI, jjJ, ↓reduceIte, reduceCtorEq, w_app_nl]); rfl) | ((try simp (maxSteps := 1000000) (disch := omega) only [go_sem, jjA, jjB, jjC, jjD, jjE, jjF, jjG, jjH, jjI, jjJ, ↓reduceIte, reduceCtorEq, w_app_nl, wrap_id, w_ite_ne, w_ite_lt]); rfl) | (simp (maxSteps := 1000000) (disch := omega) only [go_sem, jjA, jjB, jjC, jjD, jjE, jjF, jjG, jjH, jjI, jjJ, ↓reduceIte, reduceCtorEq, w_app_nl, wrap_id, w_ite_ne, w_ite_lt]; done)), by simp⟩
  rintro k fe ob m c hk hm ⟨h12, ho, hj⟩
  simp (maxSteps := 1000000) only [go_sem, jjA, jjB, jjC, jjD, jjE, jjF, jjG, jjH, jjI, jjJ, ↓reduceIte, reduceCtorEq, w_app_nl] at h12 hm ho
  try simp (maxSteps := 500000) (disch := omega) only [go_sem, jjA, jjB, jjC, jjD, jjE, jjF, jjG, jjH, jjI, jjJ, ↓reduceIte, reduceCtorEq, wrap_id, w_ite_ne, w_ite_lt, jjK, jjL, h12, wts_length]
  refine cond_d (fun hlt => ?_) (fun hge => ?_)
  · have hkl : k < l.length := by omega
    have hk2 : l[k]? = some l[k] := List.getElem?_eq_getElem hkl
    have hgo := all_go (p := wtB) hkl hj
    have hbad : wtB l[k] = false → watE l = 52 := fun h => by rw [watE, if_neg (by omega), all_bad (p := wtB) hkl h]; rfl
    have hp := ok_ref36_point l[k]
    have z0 : ¬ 0 = m := by omega
    generalize l[k] = x at *
    simp only [wtv] at hp
    try simp (maxSteps := 500000) (disch := omega) only [go_sem, jjA, jjB, jjC, jjD, jjE, jjF, jjG, jjH, jjI, jjJ, ↓reduceIte, reduceCtorEq, wrap_id, w_ite_ne, w_ite_lt, jjK, jjL, h12, wts_length, wts_get, hk2, Option.map_some, wtv, ho, z0]
    refine ⟨by omega, by omega, ?_⟩
    refine call_pc hp (by simp [go_sem]) ?_
    cases hb : wtB x <;> try simp (maxSteps := 500000) (disch := omega) only [go_sem, jjA, jjB, jjC, jjD, jjE, jjF, jjG, jjH, jjI, jjJ, ↓reduceIte, reduceCtorEq, wrap_id, w_ite_ne, w_ite_lt, jjK, jjL, h12, ho, z0]
    · exact open_bad (hbad hb) (by omega)
    · exact up_nextG (m + 1) hkl (by omega) ⟨(by first | ((try simp (maxSteps := 1000000) only [go_sem, jjA, jjB, jjC, jjD, jjE, jjF, jjG, jjH, jjI, jjJ, ↓reduceIte, reduceCtorEq, w_app_nl]); done) | ((try simp (maxSteps := 1000000) only [go_sem, jjA, jjB, jjC, jjD, jjE, jjF, jjG, jjH, jjI, jjJ, ↓reduceIte, reduceCtorEq, w_app_nl]); rfl) | ((try simp (maxSteps := 1000000) (disch := omega) only [go_sem, jjA, jjB, jjC, jjD, jjE, jjF, jjG, jjH, jjI, jjJ, ↓reduceIte, reduceCtorEq, w_app_nl, wrap_id, w_ite_ne, w_ite_lt]); rfl) | (simp (maxSteps := 1000000) (disch := omega) only [go_sem, jjA, jjB, jjC, jjD, jjE, jjF, jjG, jjH, jjI, jjJ, ↓reduceIte, reduceCtorEq, w_app_nl, wrap_id, w_ite_ne, w_ite_lt]; done)), by try simp (maxSteps := 500000) (disch := omega) only [go_sem, jjA, jjB, jjC, jjD, jjE, jjF, jjG, jjH, jjI, jjJ, ↓reduceIte, reduceCtorEq, wrap_id, w_ite_ne, w_ite_lt, jjK, jjL, z0]; exact ho, hgo hb⟩
  · obtain rfl : k = l.length := by omega
    rw [List.take_length] at hj
    have g1 : watE l = 0 := by rw [watE, if_neg (by omega), hj]; rfl
    try simp (maxSteps := 500000) (disch := omega) only [go_sem, jjA, jjB, jjC, jjD, jjE, jjF, jjG, jjH, jjI, jjJ, ↓reduceIte, reduceCtorEq, wrap_id, w_ite_ne, w_ite_lt, jjK, jjL, wts_length]
    refine app_slrs (M := wts l) (b := 32) SlR.nil (by simp [wts_length]; omega) (by simp [wts_length]; omega) fun X τ hX kX => ?_
    obtain ⟨ob2, m2, c2⟩ := τ
    simp only [List.nil_append] at hX
    have q0 : ob2 0 = ob 0 := kX.2.1 0 (by simp only; omega) (Oth.nil _)
    rw [ho] at q0
    have z0 : ¬ 0 = m2 := by have := kX.1; simp only at this; omega
    have ox : Oth X 0 := kX.2.2 0 (by simp only; omega) (Oth.nil _)
    try simp (maxSteps := 500000) (disch := omega) only [go_sem, jjA, jjB, jjC, jjD, jjE, jjF, jjG, jjH, jjI, jjJ, ↓reduceIte, reduceCtorEq, wrap_id, w_ite_ne, w_ite_lt, jjK, jjL, wts_length, hX.flat, hX.cells, hX.one, q0, z0]
    refine ⟨by omega, by omega, by omega, ?_⟩
    rw [openN, if_pos g1]
    refine Pub.tu (.cons (Pub.ag (.cons (hX.pub (fun i hi hh => ?_) (wts_pur _) (wts_ok _)) (.cons (Pub.e rfl) (.cons (.nl 4) .nil)))) (.cons (Pub.e rfl) .nil))
    simp only at hi ⊢
    rw [upd_ne _ _ _ _ (fun h => hh (by cases h; exact ox))]
/-- the warning of a point -/
def actO (b : Bo) (p : Int) : Option Wn := if vdB b then b.ac.find? (fun w => decide (w.p = p)) else none
def actV (b : Bo) (p : Int) : AV := .tuple [wnv ((actO b p).getD wnZ), .bool (actO b p).isSome]
theorem pub_wnZ {σ : St} : Pub σ (.agg [.int .i64 0, .int .i64 0, .nil, .int .i64 0]) (wnv wnZ) := Pub.ag (.cons (Pub.e rfl) (.cons (Pub.e rfl) (.cons (.nl 2) (.cons (Pub.e rfl) .nil))))
theorem act_no {b : Bo} {p : Int} (h : actO b p = none) {σ : St} : Pub σ (.tuple [.agg [.int .i64 0, .int .i64 0, .nil, .int .i64 0], .bool false]) (actV b p) := by
  rw [actV, h]
  exact Pub.tu (.cons pub_wnZ (.cons (Pub.e rfl) .nil))
theorem find_at {α : Type} {p : α → Bool} {l : List α} {k : Nat} {x : α} (hx : l[k]? = some x) (hp : p x = true) (h : ∀ j, j < k → ∀ y, l[j]? = some y → p y = false) : l.find? p = some x := by
  rw [List.find?_eq_some_iff_getElem]
  obtain ⟨hk, rfl⟩ := List.getElem?_eq_some_iff.1 hx
  exact ⟨hp, k, hk, rfl, fun j hj => by have := h j hj l[j] (List.getElem?_eq_getElem (by omega)); simp [this]⟩
theorem find_no {α : Type} {p : α → Bool} {l : List α} (h : ∀ j, j < l.length → ∀ y, l[j]? = some y → p y = false) : l.find? p = none := by
  rw [List.find?_eq_none]
  intro x hx
  obtain ⟨i, hi⟩ := List.getElem?_of_mem hx
  rw [h i (List.getElem?_eq_some_iff.1 hi).1 x hi]
  simp
theorem ok_warning_copied (w : Wn) (hl : w.cs.length ≤ 1000000) : PC prog n_warning_copied [wnv w] (wnv w) := by
  refine PC_of_body b_warning_copied (by simp) ?_
  simp only [c_warning_copied, go_sem, jjA, jjB, jjC, jjD, jjE, jjF, jjG, jjH, jjI, jjJ, ↓reduceIte, reduceCtorEq, w_app_nl, wnv]
  refine call_pc (okl_slices_Clone__Cause (css w.cs) (by rw [css_length]; omega) (css_pur _) (css_ok _)) (by simp [go_sem, css_pur]) ?_
  try simp (maxSteps := 500000) (disch := omega) only [go_sem, jjA, jjB, jjC, jjD, jjE, jjF, jjG, jjH, jjI, jjJ, ↓reduceIte, reduceCtorEq, wrap_id, w_ite_ne, w_ite_lt, jjK, jjL]
  exact Pub.pure (by simp [go_sem, css_pur])
theorem ok_warning_Active (b : Bo) (p : Int) (h : BoL b) : PC prog n_warning_Active [bov b, .int .i64 p] (actV b p) := by
  refine PC_of_body b_warning_Active (by simp) ?_
  simp only [c_warning_Active, go_sem, jjA, jjB, jjC, jjD, jjE, jjF, jjG, jjH, jjI, jjJ, ↓reduceIte, reduceCtorEq, w_app_nl, bov]
  have hV := ok_warning_valid b h
  simp only [bov] at hV
  refine call_pc hV (by simp [go_sem, wts_pur, lls_pur, wns_pur]) ?_
  cases hv : vdB b <;> try simp (maxSteps := 500000) (disch := omega) only [go_sem, jjA, jjB, jjC, jjD, jjE, jjF, jjG, jjH, jjI, jjJ, ↓reduceIte, reduceCtorEq, wrap_id, w_ite_ne, w_ite_lt, jjK, jjL, wns_length]
  · exact act_no (by rw [actO, hv]; rfl)
  have hB := vdB_iff.1 hv
  have ha8 := hB.a1
  refine awp_upG [5, 7, 15, 16, 17, 18, 19, 20, 21, 22, 23, 24, 25] (by kernel_rfl) b.ac.length (fun k e σ => e 15 = .int .i64 k ∧ σ.ob 1 = some ⟨1, 4, 44, false, true, [.agg [.int .i64 0, .int .i64 0, .nil, .int .i64 0]]⟩ ∧ ∀ j, j < k → ∀ y, b.ac[j]? = some y → decide (y.p = p) = false) ?_ ?_
  · exact ⟨(by first | ((try simp (maxSteps := 1000000) only [go_sem, jjA, jjB, jjC, jjD, jjE, jjF, jjG, jjH, jjI, jjJ, ↓reduceIte, reduceCtorEq, w_app_nl]); done) | ((try simp (maxSteps := 1000000) only [go_sem, jjA, jjB, jjC, jjD, jjE, jjF, jjG, jjH, jjI, jjJ, ↓reduceIte, reduceCtorEq, w_app_nl]); rfl) | ((try simp (maxSteps := 1000000) (disch := omega) only [go_sem, jjA, jjB, jjC, jjD, jjE, jjF, jjG, jjH, jjI, jjJ, ↓reduceIte, reduceCtorEq, w_app_nl, wrap_id, w_ite_ne, w_ite_lt]); rfl) | (simp (maxSteps := 1000000) (disch := omega) only [go_sem, jjA, jjB, jjC, jjD, jjE, jjF, jjG, jjH, jjI, jjJ, ↓reduceIte, reduceCtorEq, w_app_nl, wrap_id, w_ite_ne, w_ite_lt]; done)), (by first | ((try simp (maxSteps := 1000000) only [go_sem, jjA, jjB, jjC, jjD, jjE, jjF, jjG, jjH, jjI, jjJ, ↓reduceIte, reduceCtorEq, w_app_nl]); done) | ((try simp (maxSteps := 1000000) only [go_sem, jjA, jjB, jjC, jjD, jjE, jjF, jjG, jjH, jjI, jjJ, ↓reduceIte, reduceCtorEq, w_app_nl]); rfl) | ((try simp (maxSteps := 1000000) (disch := omega) only [go_sem, jjA, jjB, jjC, jjD, jjE, jjF, jjG, jjH, jjI, jjJ, ↓reduceIte, reduceCtorEq, w_app_nl, wrap_id, w_ite_ne, w_ite_lt]); rfl) | (simp (maxSteps := 1000000) (disch := omega) only [go_sem, jjA, jjB, jjC, jjD, jjE, jjF, jjG, jjH, jjI, jjJ, ↓reduceIte, reduceCtorEq, w_app_nl, wrap_id, w_ite_ne, w_ite_lt]; done)), fun j hj => by omega⟩
  rintro k fe ob m c hk hm ⟨hki, ho, hj⟩
  simp (maxSteps := 1000000) only [go_sem, jjA, jjB, jjC, jjD, jjE, jjF, jjG, jjH, jjI, jjJ, ↓reduceIte, reduceCtorEq, w_app_nl] at hki hm ho
  try simp (maxSteps := 500000) (disch := omega) only [go_sem, jjA, jjB, jjC, jjD, jjE, jjF, jjG, jjH, jjI, jjJ, ↓reduceIte, reduceCtorEq, wrap_id, w_ite_ne, w_ite_lt, jjK, jjL, hki, wns_length]
  refine cond_d (fun hlt => ?_) (fun hge => ?_)
  · have hkl : k < b.ac.length := by omega
    have hk2 : b.ac[k]? = some b.ac[k] := List.getElem?_eq_getElem hkl
    have hcl := wnB_cs (hB.wn _ (List.getElem_mem hkl))
    have z1 : ¬ 1 = m := by omega
    have hW := ok_warning_copied b.ac[k] (by omega)
    generalize b.ac[k] = x at *
    simp only [wnv] at hW
    try simp (maxSteps := 500000) (disch := omega) only [go_sem, jjA, jjB, jjC, jjD, jjE, jjF, jjG, jjH, jjI, jjJ, ↓reduceIte, reduceCtorEq, wrap_id, w_ite_ne, w_ite_lt, jjK, jjL, hki, wns_length, wns_get, hk2, Option.map_some, wnv, ho, z1]
    refine ⟨by omega, by omega, ?_⟩
    refine cond_d (fun hp => ?_) (fun hp => ?_) <;> try simp (maxSteps := 500000) (disch := omega) only [go_sem, jjA, jjB, jjC, jjD, jjE, jjF, jjG, jjH, jjI, jjJ, ↓reduceIte, reduceCtorEq, wrap_id, w_ite_ne, w_ite_lt, jjK, jjL, hki, ho, z1]
    · refine call_pc hW (by simp [go_sem, css_pur]) ?_
      try simp (maxSteps := 500000) (disch := omega) only [go_sem, jjA, jjB, jjC, jjD, jjE, jjF, jjG, jjH, jjI, jjJ, ↓reduceIte, reduceCtorEq, wrap_id, w_ite_ne, w_ite_lt, jjK, jjL, ho, z1]
      have hf : actO b p = some x := by rw [actO, hv, if_pos rfl]; exact find_at hk2 (by simpa using hp) hj
      rw [actV, hf]
      exact Pub.tu (.cons (Pub.e (by simp [go_sem, css_pur])) (.cons (Pub.e rfl) .nil))
    · refine up_nextG (m + 1) hkl (by omega) ⟨(by first | ((try simp (maxSteps := 1000000) only [go_sem, jjA, jjB, jjC, jjD, jjE, jjF, jjG, jjH, jjI, jjJ, ↓reduceIte, reduceCtorEq, w_app_nl]); done) | ((try simp (maxSteps := 1000000) only [go_sem, jjA, jjB, jjC, jjD, jjE, jjF, jjG, jjH, jjI, jjJ, ↓reduceIte, reduceCtorEq, w_app_nl]); rfl) | ((try simp (maxSteps := 1000000) (disch := omega) only [go_sem, jjA, jjB, jjC, jjD, jjE, jjF, jjG, jjH, jjI, jjJ, ↓reduceIte, reduceCtorEq, w_app_nl, wrap_id, w_ite_ne, w_ite_lt]); rfl) | (simp (maxSteps := 1000000) (disch := omega) only [go_sem, jjA, jjB, jjC, jjD, jjE, jjF, jjG, jjH, jjI, jjJ, ↓reduceIte, reduceCtorEq, w_app_nl, wrap_id, w_ite_ne, w_ite_lt]; done)), by try simp (maxSteps := 500000) (disch := omega) only [go_sem, jjA, jjB, jjC, jjD, jjE, jjF, jjG, jjH, jjI, jjJ, ↓reduceIte, reduceCtorEq, wrap_id, w_ite_ne, w_ite_lt, jjK, jjL, z1]; exact ho, fun j hj' y hy => ?_⟩
      by_cases e : j = k
      · subst e; rw [hk2] at hy; obtain rfl := Option.some.inj hy; simpa using hp
      · exact hj j (by omega) y hy
  · obtain rfl : k = b.ac.length := by omega
    try simp (maxSteps := 500000) (disch := omega) only [go_sem, jjA, jjB, jjC, jjD, jjE, jjF, jjG, jjH, jjI, jjJ, ↓reduceIte, reduceCtorEq, wrap_id, w_ite_ne, w_ite_lt, jjK, jjL, ho]
    exact act_no (by rw [actO, hv, if_pos rfl]; exact find_no hj)
def gX (l : List (List Int)) (i : Nat) : List Int := l.getD i []
theorem gX_get {l : List (List Int)} {i : Nat} (h : i < l.length) : l[i]? = some (gX l i) := by simp [gX, List.getD_eq_getElem?_getD, List.getElem?_eq_getElem h]
def nxtI (b : Bo) (next : List (List Int)) (i : Nat) : List Int := (gX next i).take ((gW b i).ld + 1).toNat
def ahdI (b : Bo) (next : List (List Int)) (i : Nat) : Bool := (firstGo (gW b i).w (gW b i).lim 0 (gL b i) (nxtI b next i)).2
def ahdE (b : Bo) (next : List (List Int)) : Int := if vdB b = false then 50 else if next.length ≠ b.ps.length then 3 else if next.all flsB = false then 1 else 0
def ahdL (b : Bo) (next : List (List Int)) : List Int := if ahdE b next = 0 then selL (ahdI b next) b.ps.length else []
def ahdV (b : Bo) (next : List (List Int)) : AV := .tuple [.list 1 (ints (ahdL b next)), .int .i64 (ahdE b next)]
theorem ahd_bad {b : Bo} {next : List (List Int)} {n : Int} (h : ahdE b next = n) (hn : n ≠ 0) {σ : St} : Pub σ (.tuple [.nil, .int .i64 n]) (ahdV b next) := by
  rw [ahdV, ahdL, h, if_neg hn]
  exact Pub.tu (.cons (.nl 1) (.cons (Pub.e rfl) .nil))
theorem ahd_e50 {b : Bo} {next : List (List Int)} (h : vdB b = false) : ahdE b next = 50 := by rw [ahdE, if_pos h]
theorem ahd_e3 {b : Bo} {next : List (List Int)} (h : vdB b = true) (h2 : next.length ≠ b.ps.length) : ahdE b next = 3 := by rw [ahdE, if_neg (by simp [h]), if_pos h2]
theorem ahd_e1 {b : Bo} {next : List (List Int)} (h : vdB b = true) (h2 : next.length = b.ps.length) (h3 : next.all flsB = false) : ahdE b next = 1 := by rw [ahdE, if_neg (by simp [h]), if_neg (by simp [h2]), if_pos h3]
theorem ahd_e0 {b : Bo} {next : List (List Int)} (h : vdB b = true) (h2 : next.length = b.ps.length) (h3 : next.all flsB = true) : ahdE b next = 0 := by rw [ahdE, if_neg (by simp [h]), if_neg (by simp [h2]), if_neg (by simp [h3])]
theorem take_min (l : List Int) (n : Int) (h : 0 ≤ n) : l.take (min (l.length : Int) n).toNat = l.take n.toNat := by
  by_cases h1 : (l.length : Int) ≤ n
  · rw [Int.min_eq_left h1, List.take_of_length_le (by omega), List.take_of_length_le (by omega)]
  · rw [Int.min_eq_right (by omega)]
theorem ok_warning_Ahead (b : Bo) (next : List (List Int)) (h : BoL b) (hn : next.length ≤ 9223372036854775807) (hx : ∀ l ∈ next, l.length ≤ 9223372036854775807) : PC prog n_warning_Ahead [bov b, .list 1 (lls next)] (ahdV b next) := by
  refine PC_of_body b_warning_Ahead (by simp) ?_
  simp only [c_warning_Ahead, go_sem, jjA, jjB, jjC, jjD, jjE, jjF, jjG, jjH, jjI, jjJ, ↓reduceIte, reduceCtorEq, w_app_nl, bov]
  have hC := ok_warning_valid b h
  simp only [bov] at hC
  refine call_pc hC (by simp [go_sem, wts_pur, lls_pur, wns_pur]) ?_
  cases hv : vdB b <;> try simp (maxSteps := 500000) (disch := omega) only [go_sem, jjA, jjB, jjC, jjD, jjE, jjF, jjG, jjH, jjI, jjJ, ↓reduceIte, reduceCtorEq, wrap_id, w_ite_ne, w_ite_lt, jjK, jjL, wts_length, lls_length]
  · exact ahd_bad (ahd_e50 hv) (by omega)
  refine cond_n (fun g1 => ?_) (fun g1 => ?_) <;> try simp (maxSteps := 500000) (disch := omega) only [go_sem, jjA, jjB, jjC, jjD, jjE, jjF, jjG, jjH, jjI, jjJ, ↓reduceIte, reduceCtorEq, wrap_id, w_ite_ne, w_ite_lt, jjK, jjL, wts_length, lls_length]
  · exact ahd_bad (ahd_e3 hv (by omega)) (by omega)
  have hV := vdB_iff.1 hv
  have hps := hV.p
  have hpq := hV.q
  refine awp_upF [4, 5, 7, 24, 25, 26, 27, 28, 29, 30] (by kernel_rfl) next.length (fun k e σ => e 24 = .int .i64 k ∧ σ.ob 0 = some ⟨0, 3, 31, false, true, [.agg [.list 4 (wts b.ps), .list 1 (lls b.pa), .list 4 (wns b.ac)]]⟩ ∧ (next.take k).all flsB = true) ?_ ?_
  · exact ⟨(by first | ((try simp (maxSteps := 1000000) only [go_sem, jjA, jjB, jjC, jjD, jjE, jjF, jjG, jjH, jjI, jjJ, ↓reduceIte, reduceCtorEq, w_app_nl]); done) | ((try simp (maxSteps := 1000000) only [go_sem, jjA, jjB, jjC, jjD, jjE, jjF, jjG, jjH, jjI, jjJ, ↓reduceIte, reduceCtorEq, w_app_nl]); rfl) | ((try simp (maxSteps := 1000000) (disch := omega) only [go_sem, jjA, jjB, jjC, jjD, jjE, jjF, jjG, jjH, jjI, jjJ, ↓reduceIte, reduceCtorEq, w_app_nl, wrap_id, w_ite_ne, w_ite_lt]); rfl) | (simp (maxSteps := 1000000) (disch := omega) only [go_sem, jjA, jjB, jjC, jjD, jjE, jjF, jjG, jjH, jjI, jjJ, ↓reduceIte, reduceCtorEq, w_app_nl, wrap_id, w_ite_ne, w_ite_lt]; done)), (by first | ((try simp (maxSteps := 1000000) only [go_sem, jjA, jjB, jjC, jjD, jjE, jjF, jjG, jjH, jjI, jjJ, ↓reduceIte, reduceCtorEq, w_app_nl]); done) | ((try simp (maxSteps := 1000000) only [go_sem, jjA, jjB, jjC, jjD, jjE, jjF, jjG, jjH, jjI, jjJ, ↓reduceIte, reduceCtorEq, w_app_nl]); rfl) | ((try simp (maxSteps := 1000000) (disch := omega) only [go_sem, jjA, jjB, jjC, jjD, jjE, jjF, jjG, jjH, jjI, jjJ, ↓reduceIte, reduceCtorEq, w_app_nl, wrap_id, w_ite_ne, w_ite_lt]); rfl) | (simp (maxSteps := 1000000) (disch := omega) only [go_sem, jjA, jjB, jjC, jjD, jjE, jjF, jjG, jjH, jjI, jjJ, ↓reduceIte, reduceCtorEq, w_app_nl, wrap_id, w_ite_ne, w_ite_lt]; done)), by simp⟩
  rintro k fe ob c hk ⟨h24, ho, hj⟩
  simp (maxSteps := 1000000) only [go_sem, jjA, jjB, jjC, jjD, jjE, jjF, jjG, jjH, jjI, jjJ, ↓reduceIte, reduceCtorEq, w_app_nl] at h24 ho
  try simp (maxSteps := 500000) (disch := omega) only [go_sem, jjA, jjB, jjC, jjD, jjE, jjF, jjG, jjH, jjI, jjJ, ↓reduceIte, reduceCtorEq, wrap_id, w_ite_ne, w_ite_lt, jjK, jjL, h24, lls_length]
  refine cond_d (fun hlt => ?_) (fun hge => ?_)
  · have hkl : k < next.length := by omega
    have hk2 : next[k]? = some next[k] := List.getElem?_eq_getElem hkl
    have hgo := all_go (p := flsB) hkl hj
    have hbad := all_bad (p := flsB) hkl
    have hxl := hx _ (List.getElem_mem hkl)
    generalize next[k] = l at *
    try simp (maxSteps := 500000) (disch := omega) only [go_sem, jjA, jjB, jjC, jjD, jjE, jjF, jjG, jjH, jjI, jjJ, ↓reduceIte, reduceCtorEq, wrap_id, w_ite_ne, w_ite_lt, jjK, jjL, h24, lls_length, lls_get, hk2, Option.map_some]
    refine ⟨by omega, by omega, ?_⟩
    refine call_pc (ok_beyonds l hxl) (by simp [go_sem, ints_pur]) ?_
    cases hp : flsB l <;> try simp (maxSteps := 500000) (disch := omega) only [go_sem, jjA, jjB, jjC, jjD, jjE, jjF, jjG, jjH, jjI, jjJ, ↓reduceIte, reduceCtorEq, wrap_id, w_ite_ne, w_ite_lt, jjK, jjL, h24]
    · exact ahd_bad (ahd_e1 hv (by omega) (hbad hp)) (by omega)
    · exact up_next hkl ⟨(by first | ((try simp (maxSteps := 1000000) only [go_sem, jjA, jjB, jjC, jjD, jjE, jjF, jjG, jjH, jjI, jjJ, ↓reduceIte, reduceCtorEq, w_app_nl]); done) | ((try simp (maxSteps := 1000000) only [go_sem, jjA, jjB, jjC, jjD, jjE, jjF, jjG, jjH, jjI, jjJ, ↓reduceIte, reduceCtorEq, w_app_nl]); rfl) | ((try simp (maxSteps := 1000000) (disch := omega) only [go_sem, jjA, jjB, jjC, jjD, jjE, jjF, jjG, jjH, jjI, jjJ, ↓reduceIte, reduceCtorEq, w_app_nl, wrap_id, w_ite_ne, w_ite_lt]); rfl) | (simp (maxSteps := 1000000) (disch := omega) only [go_sem, jjA, jjB, jjC, jjD, jjE, jjF, jjG, jjH, jjI, jjJ, ↓reduceIte, reduceCtorEq, w_app_nl, wrap_id, w_ite_ne, w_ite_lt]; done)), by try simp (maxSteps := 500000) (disch := omega) only [go_sem, jjA, jjB, jjC, jjD, jjE, jjF, jjG, jjH, jjI, jjJ, ↓reduceIte, reduceCtorEq, wrap_id, w_ite_ne, w_ite_lt, jjK, jjL]; exact ho, hgo hp⟩
  obtain rfl : k = next.length := by omega
  rw [List.take_length] at hj
  clear h24 hge
  try simp (maxSteps := 500000) (disch := omega) only [go_sem, jjA, jjB, jjC, jjD, jjE, jjF, jjG, jjH, jjI, jjJ, ↓reduceIte, reduceCtorEq, wrap_id, w_ite_ne, w_ite_lt, jjK, jjL, ho, wts_length]
  refine awp_upG [8, 9, 10, 11, 12, 34, 35, 36, 37, 38, 39, 40, 41, 42, 43, 44, 45, 46, 47, 48, 49, 50, 51, 52, 53, 54, 55, 56, 57, 58, 59, 60, 61, 62, 63, 64, 65, 66, 67, 68, 69, 70, 71, 72, 73, 74] (by kernel_rfl) b.ps.length (fun k e σ => e 34 = .int .i64 k ∧ σ.ob 0 = some ⟨0, 3, 31, false, true, [.agg [.list 4 (wts b.ps), .list 1 (lls b.pa), .list 4 (wns b.ac)]]⟩ ∧ ∃ Z, At e 8 Z ∧ SlR 1 3 σ (ints (selL (ahdI b next) k)) Z ∧ Oth Z 0) ?_ ?_
  · exact ⟨(by first | ((try simp (maxSteps := 1000000) only [go_sem, jjA, jjB, jjC, jjD, jjE, jjF, jjG, jjH, jjI, jjJ, ↓reduceIte, reduceCtorEq, w_app_nl]); done) | ((try simp (maxSteps := 1000000) only [go_sem, jjA, jjB, jjC, jjD, jjE, jjF, jjG, jjH, jjI, jjJ, ↓reduceIte, reduceCtorEq, w_app_nl]); rfl) | ((try simp (maxSteps := 1000000) (disch := omega) only [go_sem, jjA, jjB, jjC, jjD, jjE, jjF, jjG, jjH, jjI, jjJ, ↓reduceIte, reduceCtorEq, w_app_nl, wrap_id, w_ite_ne, w_ite_lt]); rfl) | (simp (maxSteps := 1000000) (disch := omega) only [go_sem, jjA, jjB, jjC, jjD, jjE, jjF, jjG, jjH, jjI, jjJ, ↓reduceIte, reduceCtorEq, w_app_nl, wrap_id, w_ite_ne, w_ite_lt]; done)), by try simp (maxSteps := 500000) (disch := omega) only [go_sem, jjA, jjB, jjC, jjD, jjE, jjF, jjG, jjH, jjI, jjJ, ↓reduceIte, reduceCtorEq, wrap_id, w_ite_ne, w_ite_lt, jjK, jjL, ho], .nil, by (simp only [At]; try simp (maxSteps := 500000) (disch := omega) only [go_sem, jjA, jjB, jjC, jjD, jjE, jjF, jjG, jjH, jjI, jjJ, ↓reduceIte, reduceCtorEq, wrap_id, w_ite_ne, w_ite_lt, jjK, jjL]), SlR.nil, Oth.nil _⟩
  clear ho
  rintro k fe2 ob2 m c2 hk2 hm ⟨hki, ho, Z, h8, hZ, hZ0⟩
  simp (maxSteps := 1000000) only [go_sem, jjA, jjB, jjC, jjD, jjE, jjF, jjG, jjH, jjI, jjJ, ↓reduceIte, reduceCtorEq, w_app_nl, At] at hki hm ho h8
  try simp (maxSteps := 500000) (disch := omega) only [go_sem, jjA, jjB, jjC, jjD, jjE, jjF, jjG, jjH, jjI, jjJ, ↓reduceIte, reduceCtorEq, wrap_id, w_ite_ne, w_ite_lt, jjK, jjL, hki, wts_length]
  refine cond_d (fun hlt => ?_) (fun hge => ?_)
  · have hkl : k < b.ps.length := by omega
    have hw := gW_get hkl
    have hl := gL_get (b := b) (i := k) (by omega)
    have hn2 := gX_get (l := next) (i := k) (by omega)
    have hwt := wtB_bd (hV.w _ (List.mem_of_getElem? hw))
    obtain ⟨hll, hlf⟩ := hV.l1 _ (List.mem_of_getElem? hl)
    have hnf := flsB_ok (List.all_eq_true.1 hj _ (List.mem_of_getElem? hn2))
    have hnl := hx _ (List.mem_of_getElem? hn2)
    have z0 : ¬ 0 = m := by omega
    have z1 : ¬ m = 0 := by omega
    have hsel := selL_len (ahdI b next) k
    have htk := take_min (gX next k) ((gW b k).ld + 1) (by omega)
    have hnn : ((gX next k).take ((gW b k).ld + 1).toNat).length ≤ 97 := by simp; omega
    have hF := ok_rise_First (gL b k) (nxtI b next k) (gW b k).w (gW b k).lim (by rw [nxtI]; omega) (by omega) hlf (okFl_take hnf _)
    try simp (maxSteps := 500000) (disch := omega) only [go_sem, jjA, jjB, jjC, jjD, jjE, jjF, jjG, jjH, jjI, jjJ, ↓reduceIte, reduceCtorEq, wrap_id, w_ite_ne, w_ite_lt, jjK, jjL, hki, wts_length, lls_length, ints_length, wts_get, lls_get, hw, hl, hn2, Option.map_some, wtv, ho, z0, z1]
    refine ⟨by omega, by omega, by omega, by omega, by omega, by omega, by omega, by omega, by omega, by omega, ?_⟩
    simp only [ints_take, htk]
    simp only [nxtI] at hF
    refine call_pc hF (by simp [go_sem, ints_pur]) ?_
    try simp (maxSteps := 500000) (disch := omega) only [go_sem, jjA, jjB, jjC, jjD, jjE, jjF, jjG, jjH, jjI, jjJ, ↓reduceIte, reduceCtorEq, wrap_id, w_ite_ne, w_ite_lt, jjK, jjL]
    have hdef : ahdI b next k = (firstGo (gW b k).w (gW b k).lim 0 (gL b k) ((gX next k).take ((gW b k).ld + 1).toNat)).2 := rfl
    cases hb : (firstGo (gW b k).w (gW b k).lim 0 (gL b k) ((gX next k).take ((gW b k).ld + 1).toNat)).2 <;> try simp (maxSteps := 500000) (disch := omega) only [go_sem, jjA, jjB, jjC, jjD, jjE, jjF, jjG, jjH, jjI, jjJ, ↓reduceIte, reduceCtorEq, wrap_id, w_ite_ne, w_ite_lt, jjK, jjL, h8, hki]
    · refine up_nextG (m + 1) hkl (by omega) ⟨(by first | ((try simp (maxSteps := 1000000) only [go_sem, jjA, jjB, jjC, jjD, jjE, jjF, jjG, jjH, jjI, jjJ, ↓reduceIte, reduceCtorEq, w_app_nl]); done) | ((try simp (maxSteps := 1000000) only [go_sem, jjA, jjB, jjC, jjD, jjE, jjF, jjG, jjH, jjI, jjJ, ↓reduceIte, reduceCtorEq, w_app_nl]); rfl) | ((try simp (maxSteps := 1000000) (disch := omega) only [go_sem, jjA, jjB, jjC, jjD, jjE, jjF, jjG, jjH, jjI, jjJ, ↓reduceIte, reduceCtorEq, w_app_nl, wrap_id, w_ite_ne, w_ite_lt]); rfl) | (simp (maxSteps := 1000000) (disch := omega) only [go_sem, jjA, jjB, jjC, jjD, jjE, jjF, jjG, jjH, jjI, jjJ, ↓reduceIte, reduceCtorEq, w_app_nl, wrap_id, w_ite_ne, w_ite_lt]; done)), by try simp (maxSteps := 500000) (disch := omega) only [go_sem, jjA, jjB, jjC, jjD, jjE, jjF, jjG, jjH, jjI, jjJ, ↓reduceIte, reduceCtorEq, wrap_id, w_ite_ne, w_ite_lt, jjK, jjL, z0]; exact ho, Z, (by simp only [At]; try simp (maxSteps := 500000) (disch := omega) only [go_sem, jjA, jjB, jjC, jjD, jjE, jjF, jjG, jjH, jjI, jjJ, ↓reduceIte, reduceCtorEq, wrap_id, w_ite_ne, w_ite_lt, jjK, jjL, h8]), ?_, hZ0⟩
      rw [selL_succ, hdef, hb, if_neg (by simp), List.append_nil]
      refine hZ.move (by simp only [St.trunc]; omega) fun i hi _ => ?_
      simp only at hi
      have e1 : i ≠ m := by omega
      simp [St.trunc, upd, e1, show i < m + 1 by omega]
    · refine app_slr (L := ints (selL (ahdI b next) k)) (b := 8) (hZ.move (by simp only; omega) fun i hi _ => ?_) (by rw [ints_length]; omega) (by rw [ints_length]; omega) fun Z' τ hZ' kZ => ?_
      · simp only at hi ⊢
        rw [upd_ne _ _ _ _ (by omega), upd_ne _ _ _ _ (by omega)]
      obtain ⟨ob3, m3, c3⟩ := τ
      have q1 : m + 1 ≤ m3 := kZ.1
      have q0 := (kZ.2.1 0 (by simp only; omega) hZ0).trans (by simp only; rw [upd_ne _ _ _ _ (by omega), upd_ne _ _ _ _ (by omega)])
      simp only at q0
      try simp (maxSteps := 500000) (disch := omega) only [go_sem, jjA, jjB, jjC, jjD, jjE, jjF, jjG, jjH, jjI, jjJ, ↓reduceIte, reduceCtorEq, wrap_id, w_ite_ne, w_ite_lt, jjK, jjL, hki]
      refine up_nextG m3 hkl (by omega) ⟨(by first | ((try simp (maxSteps := 1000000) only [go_sem, jjA, jjB, jjC, jjD, jjE, jjF, jjG, jjH, jjI, jjJ, ↓reduceIte, reduceCtorEq, w_app_nl]); done) | ((try simp (maxSteps := 1000000) only [go_sem, jjA, jjB, jjC, jjD, jjE, jjF, jjG, jjH, jjI, jjJ, ↓reduceIte, reduceCtorEq, w_app_nl]); rfl) | ((try simp (maxSteps := 1000000) (disch := omega) only [go_sem, jjA, jjB, jjC, jjD, jjE, jjF, jjG, jjH, jjI, jjJ, ↓reduceIte, reduceCtorEq, w_app_nl, wrap_id, w_ite_ne, w_ite_lt]); rfl) | (simp (maxSteps := 1000000) (disch := omega) only [go_sem, jjA, jjB, jjC, jjD, jjE, jjF, jjG, jjH, jjI, jjJ, ↓reduceIte, reduceCtorEq, w_app_nl, wrap_id, w_ite_ne, w_ite_lt]; done)), ?_, Z', (by simp only [At]; try simp (maxSteps := 500000) (disch := omega) only [go_sem, jjA, jjB, jjC, jjD, jjE, jjF, jjG, jjH, jjI, jjJ, ↓reduceIte, reduceCtorEq, wrap_id, w_ite_ne, w_ite_lt, jjK, jjL]), ?_, kZ.2.2 0 (by simp only; omega) hZ0⟩
      · simp only [St.trunc, if_pos (show 0 < m3 by omega)]; rw [q0, ho]
      · rw [selL_succ, hdef, hb, if_pos rfl, ← ints_append]
        exact hZ'.move (Nat.le_refl _) fun i hi _ => by simp only [St.trunc]; simp only at hi; rw [if_pos hi]
  · obtain rfl : k = b.ps.length := by omega
    try simp (maxSteps := 500000) (disch := omega) only [go_sem, jjA, jjB, jjC, jjD, jjE, jjF, jjG, jjH, jjI, jjJ, ↓reduceIte, reduceCtorEq, wrap_id, w_ite_ne, w_ite_lt, jjK, jjL, h8]
    rw [ahdV, ahdL, ahd_e0 hv (by omega) hj, if_pos rfl]
    exact Pub.tu (.cons (hZ.pub (fun _ _ _ => rfl) (ints_pur _) (ints_ok _)) (.cons (Pub.e rfl) .nil))
theorem lls_snoc (l : List (List Int)) (x : List Int) : lls l ++ [.list 1 (ints x)] = lls (l ++ [x]) := by simp [lls]
theorem wns_snoc (l : List Wn) (x : Wn) : wns l ++ [wnv x] = wns (l ++ [x]) := by simp [wns]
theorem range_snoc {α : Type} (f : Nat → α) (k : Nat) : (List.range (k + 1)).map f = (List.range k).map f ++ [f k] := by simp [List.range_succ]
theorem ok_warning_See (b : Bo) (now : List Int) (h : BoL b) (hn : now.length ≤ 9223372036854775807) : PC prog n_warning_See [bov b, .list 1 (ints now)] (seeV b now) := by
  refine PC_of_body b_warning_See (by simp) ?_
  simp only [c_warning_See, bov]
  try simp (maxSteps := 500000) (disch := omega) only [go_sem, jjA, jjB, jjC, jjD, jjE, jjF, jjG, jjH, jjI, jjJ, ↓reduceIte, reduceCtorEq, wrap_id, w_ite_ne, w_ite_lt, jjK, jjL]
  have hC := ok_warning_valid b h
  simp only [bov] at hC
  refine call_pc hC (by simp [go_sem, wts_pur, lls_pur, wns_pur]) ?_
  cases hv : vdB b <;> try simp (maxSteps := 500000) (disch := omega) only [go_sem, jjA, jjB, jjC, jjD, jjE, jjF, jjG, jjH, jjI, jjJ, ↓reduceIte, reduceCtorEq, wrap_id, w_ite_ne, w_ite_lt, jjK, jjL, ints_length, wts_length]
  · exact see_bad (see_e50 hv) (by omega)
  refine cond_n (fun g1 => ?_) (fun g1 => ?_) <;> try simp (maxSteps := 500000) (disch := omega) only [go_sem, jjA, jjB, jjC, jjD, jjE, jjF, jjG, jjH, jjI, jjJ, ↓reduceIte, reduceCtorEq, wrap_id, w_ite_ne, w_ite_lt, jjK, jjL, ints_length, wts_length]
  · exact see_bad (see_e3 hv (by omega)) (by omega)
  refine call_pc (ok_beyonds now hn) (by simp [go_sem, ints_pur]) ?_
  cases hf : flsB now <;> try simp (maxSteps := 500000) (disch := omega) only [go_sem, jjA, jjB, jjC, jjD, jjE, jjF, jjG, jjH, jjI, jjJ, ↓reduceIte, reduceCtorEq, wrap_id, w_ite_ne, w_ite_lt, jjK, jjL]
  · exact see_bad (see_e1 hv (by omega) hf) (by omega)
  have hV := vdB_iff.1 hv
  have hps := hV.p
  have hpq := hV.q
  refine call_pc (okl_slices_Clone__Watch (wts b.ps) (by rw [wts_length]; omega) (wts_pur _) (wts_ok _)) (by simp [go_sem, wts_pur]) ?_
  try simp (maxSteps := 500000) (disch := omega) only [go_sem, jjA, jjB, jjC, jjD, jjE, jjF, jjG, jjH, jjI, jjJ, ↓reduceIte, reduceCtorEq, wrap_id, w_ite_ne, w_ite_lt, jjK, jjL, wts_length]
  refine awp_upG [8, 9, 10, 11, 35, 36, 37, 38, 39, 40, 41, 42, 43, 44, 45, 46, 47, 48, 49, 50, 51, 52, 53, 54, 55, 56, 57, 58, 59, 60, 61, 62, 63, 64, 65, 66, 67, 68, 69, 70, 71, 72, 73, 74, 75, 76, 77, 78, 79, 80, 81, 82, 83, 84, 85] (by kernel_rfl) b.ps.length (fun k e σ => e 35 = .int .i64 k ∧ 3 ≤ σ.n ∧ σ.ob 0 = some ⟨0, 3, 31, false, true, [.agg [.list 4 (wts b.ps), .list 1 (lls b.pa), .list 4 (wns b.ac)]]⟩ ∧ σ.ob 1 = some ⟨1, 3, 31, false, true, [.agg [.nil, .nil, .nil]]⟩ ∧
    ∃ Y Z, At e 8 Z ∧ σ.ob 2 = some ⟨2, 3, 31, false, true, [.agg [.list 4 (wts b.ps), Y, .nil]]⟩ ∧ SlR 1 3 σ (ints (selL (roseI b now) k)) Z ∧ SlR 1 22 σ (lls ((List.range k).map (pastI b now))) Y ∧ (∀ i, ¬ Oth Z i → 3 ≤ i ∧ Oth Y i) ∧ (∀ i, ¬ Oth Y i → 3 ≤ i)) ?_ ?_
  · exact ⟨(by first | ((try simp (maxSteps := 1000000) only [go_sem, jjA, jjB, jjC, jjD, jjE, jjF, jjG, jjH, jjI, jjJ, ↓reduceIte, reduceCtorEq, w_app_nl]); done) | ((try simp (maxSteps := 1000000) only [go_sem, jjA, jjB, jjC, jjD, jjE, jjF, jjG, jjH, jjI, jjJ, ↓reduceIte, reduceCtorEq, w_app_nl]); rfl) | ((try simp (maxSteps := 1000000) (disch := omega) only [go_sem, jjA, jjB, jjC, jjD, jjE, jjF, jjG, jjH, jjI, jjJ, ↓reduceIte, reduceCtorEq, w_app_nl, wrap_id, w_ite_ne, w_ite_lt]); rfl) | (simp (maxSteps := 1000000) (disch := omega) only [go_sem, jjA, jjB, jjC, jjD, jjE, jjF, jjG, jjH, jjI, jjJ, ↓reduceIte, reduceCtorEq, w_app_nl, wrap_id, w_ite_ne, w_ite_lt]; done)), Nat.le_refl _, (by first | ((try simp (maxSteps := 1000000) only [go_sem, jjA, jjB, jjC, jjD, jjE, jjF, jjG, jjH, jjI, jjJ, ↓reduceIte, reduceCtorEq, w_app_nl]); done) | ((try simp (maxSteps := 1000000) only [go_sem, jjA, jjB, jjC, jjD, jjE, jjF, jjG, jjH, jjI, jjJ, ↓reduceIte, reduceCtorEq, w_app_nl]); rfl) | ((try simp (maxSteps := 1000000) (disch := omega) only [go_sem, jjA, jjB, jjC, jjD, jjE, jjF, jjG, jjH, jjI, jjJ, ↓reduceIte, reduceCtorEq, w_app_nl, wrap_id, w_ite_ne, w_ite_lt]); rfl) | (simp (maxSteps := 1000000) (disch := omega) only [go_sem, jjA, jjB, jjC, jjD, jjE, jjF, jjG, jjH, jjI, jjJ, ↓reduceIte, reduceCtorEq, w_app_nl, wrap_id, w_ite_ne, w_ite_lt]; done)), (by first | ((try simp (maxSteps := 1000000) only [go_sem, jjA, jjB, jjC, jjD, jjE, jjF, jjG, jjH, jjI, jjJ, ↓reduceIte, reduceCtorEq, w_app_nl]); done) | ((try simp (maxSteps := 1000000) only [go_sem, jjA, jjB, jjC, jjD, jjE, jjF, jjG, jjH, jjI, jjJ, ↓reduceIte, reduceCtorEq, w_app_nl]); rfl) | ((try simp (maxSteps := 1000000) (disch := omega) only [go_sem, jjA, jjB, jjC, jjD, jjE, jjF, jjG, jjH, jjI, jjJ, ↓reduceIte, reduceCtorEq, w_app_nl, wrap_id, w_ite_ne, w_ite_lt]); rfl) | (simp (maxSteps := 1000000) (disch := omega) only [go_sem, jjA, jjB, jjC, jjD, jjE, jjF, jjG, jjH, jjI, jjJ, ↓reduceIte, reduceCtorEq, w_app_nl, wrap_id, w_ite_ne, w_ite_lt]; done)), .nil, .nil, (by simp only [At]; try simp (maxSteps := 500000) (disch := omega) only [go_sem, jjA, jjB, jjC, jjD, jjE, jjF, jjG, jjH, jjI, jjJ, ↓reduceIte, reduceCtorEq, wrap_id, w_ite_ne, w_ite_lt, jjK, jjL]), (by first | ((try simp (maxSteps := 1000000) only [go_sem, jjA, jjB, jjC, jjD, jjE, jjF, jjG, jjH, jjI, jjJ, ↓reduceIte, reduceCtorEq, w_app_nl]); done) | ((try simp (maxSteps := 1000000) only [go_sem, jjA, jjB, jjC, jjD, jjE, jjF, jjG, jjH, jjI, jjJ, ↓reduceIte, reduceCtorEq, w_app_nl]); rfl) | ((try simp (maxSteps := 1000000) (disch := omega) only [go_sem, jjA, jjB, jjC, jjD, jjE, jjF, jjG, jjH, jjI, jjJ, ↓reduceIte, reduceCtorEq, w_app_nl, wrap_id, w_ite_ne, w_ite_lt]); rfl) | (simp (maxSteps := 1000000) (disch := omega) only [go_sem, jjA, jjB, jjC, jjD, jjE, jjF, jjG, jjH, jjI, jjJ, ↓reduceIte, reduceCtorEq, w_app_nl, wrap_id, w_ite_ne, w_ite_lt]; done)), SlR.nil, SlR.nil, fun i hi => absurd (Oth.nil i) hi, fun i hi => absurd (Oth.nil i) hi⟩
  rintro k fe ob m c hk hm ⟨h35, hm1, ho0, ho1, Y, Z, h8, ho2, hZ, hY, hZn, hYn⟩
  simp (maxSteps := 1000000) only [go_sem, jjA, jjB, jjC, jjD, jjE, jjF, jjG, jjH, jjI, jjJ, ↓reduceIte, reduceCtorEq, w_app_nl, At] at h35 hm hm1 ho0 ho1 ho2 h8
  try simp (maxSteps := 500000) (disch := omega) only [go_sem, jjA, jjB, jjC, jjD, jjE, jjF, jjG, jjH, jjI, jjJ, ↓reduceIte, reduceCtorEq, wrap_id, w_ite_ne, w_ite_lt, jjK, jjL, h35, wts_length]
  have y0 : Oth Y 0 := Oth.em fun h => by have := hYn 0 h; omega
  have y1 : Oth Y 1 := Oth.em fun h => by have := hYn 1 h; omega
  have y2 : Oth Y 2 := Oth.em fun h => by have := hYn 2 h; omega
  have x0 : Oth Z 0 := Oth.em fun h => by have := (hZn 0 h).1; omega
  have x1 : Oth Z 1 := Oth.em fun h => by have := (hZn 1 h).1; omega
  have x2 : Oth Z 2 := Oth.em fun h => by have := (hZn 2 h).1; omega
  refine cond_d (fun hlt => ?_) (fun hge => ?_)
  · have hkl : k < b.ps.length := by omega
    have hk2 := gW_get hkl
    have hk3 := gL_get (b := b) (i := k) (by rw [hV.q]; exact hkl)
    have hk4 := gN_get (l := now) (i := k) (by omega)
    have hwt := wtB_bd (hV.w _ (List.mem_of_getElem? hk2))
    obtain ⟨hll, hlf⟩ := hV.l1 _ (List.mem_of_getElem? hk3)
    have hfk := flsB_ok hf _ (List.mem_of_getElem? hk4)
    have z3 : ¬ 0 = m := by omega
    have z4 : ¬ m = 0 := by omega
    have z5 : ¬ 2 = m := by omega
    have hsel := selL_len (roseI b now) k
    try simp (maxSteps := 500000) (disch := omega) only [go_sem, jjA, jjB, jjC, jjD, jjE, jjF, jjG, jjH, jjI, jjJ, ↓reduceIte, reduceCtorEq, wrap_id, w_ite_ne, w_ite_lt, jjK, jjL, h35, wts_length, lls_length, ints_length, wts_get, lls_get, ints_get, hk2, hk3, hk4, Option.map_some, wtv, ho0, z3, z4, z5]
    refine ⟨by omega, by omega, by omega, by omega, by omega, by omega, ?_⟩
    refine call_pc (ok_rise_Rise (gL b k) (gW b k).w (gN now k) (by omega) (by omega) hlf hfk) (by simp [go_sem, ints_pur]) ?_
    try simp (maxSteps := 500000) (disch := omega) only [go_sem, jjA, jjB, jjC, jjD, jjE, jjF, jjG, jjH, jjI, jjJ, ↓reduceIte, reduceCtorEq, wrap_id, w_ite_ne, w_ite_lt, jjK, jjL]
    refine cond_cut [8, 59, 60, 61, 62] (by kernel_rfl) (fun e σ => m < σ.n ∧ (∀ i, i < m → Oth Z i → σ.ob i = ob i) ∧ σ.ob m = some ⟨c, 4, 41, false, true, [wtv (gW b k)]⟩ ∧ ∃ Z', At e 8 Z' ∧ SlR 1 3 σ (ints (selL (roseI b now) (k + 1))) Z' ∧ ∀ i, i ≤ m → Oth Z i → Oth Z' i) ?_ ?_
    · refine cond_d (fun hr => ?_) (fun hr => ?_)
      · try simp (maxSteps := 500000) (disch := omega) only [go_sem, jjA, jjB, jjC, jjD, jjE, jjF, jjG, jjH, jjI, jjJ, ↓reduceIte, reduceCtorEq, wrap_id, w_ite_ne, w_ite_lt, jjK, jjL, h8]
        refine app_slr (L := ints (selL (roseI b now) k)) (b := 8) (hZ.move (by simp only; omega) fun i hi hh => ?_) (by rw [ints_length]; omega) (by rw [ints_length]; omega) fun Z' τ hZ' kZ => ?_
        · simp only at hi ⊢
          rw [upd_ne _ _ _ _ (by omega), upd_ne _ _ _ _ (by omega)]
        obtain ⟨ob2, m2, c2⟩ := τ
        have q1 : m + 1 ≤ m2 := kZ.1
        try simp (maxSteps := 500000) (disch := omega) only [go_sem, jjA, jjB, jjC, jjD, jjE, jjF, jjG, jjH, jjI, jjJ, ↓reduceIte, reduceCtorEq, wrap_id, w_ite_ne, w_ite_lt, jjK, jjL]
        refine ⟨by omega, fun i hi hh => (kZ.2.1 i (by simp only; omega) hh).trans (by simp only; rw [upd_ne _ _ _ _ (by omega), upd_ne _ _ _ _ (by omega)]), (kZ.2.1 m (by simp only; omega) (hZ.oth (Nat.le_refl _))).trans (by simp only; rw [upd_same]; rfl), Z', (by simp only [At]; try simp (maxSteps := 500000) (disch := omega) only [go_sem, jjA, jjB, jjC, jjD, jjE, jjF, jjG, jjH, jjI, jjJ, ↓reduceIte, reduceCtorEq, wrap_id, w_ite_ne, w_ite_lt, jjK, jjL]), ?_, fun i hi hh => kZ.2.2 i (by simp only; omega) hh⟩
        rw [selL_succ, show roseI b now k = true from decide_eq_true hr, if_pos rfl, ← ints_append]
        exact hZ'
      · try simp (maxSteps := 500000) (disch := omega) only [go_sem, jjA, jjB, jjC, jjD, jjE, jjF, jjG, jjH, jjI, jjJ, ↓reduceIte, reduceCtorEq, wrap_id, w_ite_ne, w_ite_lt, jjK, jjL, h8]
        refine ⟨by omega, fun i hi hh => by rw [if_neg (by omega)], rfl, Z, (by simp only [At]; try simp (maxSteps := 500000) (disch := omega) only [go_sem, jjA, jjB, jjC, jjD, jjE, jjF, jjG, jjH, jjI, jjJ, ↓reduceIte, reduceCtorEq, wrap_id, w_ite_ne, w_ite_lt, jjK, jjL, h8]), ?_, fun i hi hh => hh⟩
        rw [selL_succ, show roseI b now k = false from decide_eq_false hr, if_neg (by simp), List.append_nil]
        refine hZ.move (by simp only; omega) fun i hi hh => ?_
        simp only at hi ⊢
        rw [upd_ne _ _ _ _ (by omega), upd_ne _ _ _ _ (by omega)]
    · rintro fe3 ⟨ob3, m3, c3⟩ ⟨hm3, ho3, hob3, Z', h83, hZ3, hZZ⟩
      simp (maxSteps := 1000000) only [go_sem, jjA, jjB, jjC, jjD, jjE, jjF, jjG, jjH, jjI, jjJ, ↓reduceIte, reduceCtorEq, w_app_nl, At] at hm3 ho3 hob3 h83
      have u2 := (ho3 2 (by omega) x2).trans ho2
      have u0 := (ho3 0 (by omega) x0).trans ho0
      have u1 := (ho3 1 (by omega) x1).trans ho1
      have hd1 : (k : Int).toNat = k := by omega
      have hd2 : ((k : Int) + 1).toNat = k + 1 := by omega
      have hone : ((ints now).take (k + 1)).drop k = ints [gN now k] := by
        rw [ints_take, ints_drop, take_snoc now k (by omega), List.drop_left' (by simp; omega)]
        congr 2
        rw [List.getElem?_eq_getElem (show k < now.length by omega)] at hk4
        exact Option.some.inj hk4
      have hnp : ∀ x ∈ ints [gN now k], x.pur = true := ints_pur _
      try simp (maxSteps := 500000) (disch := omega) only [go_sem, jjA, jjB, jjC, jjD, jjE, jjF, jjG, jjH, jjI, jjJ, ↓reduceIte, reduceCtorEq, wrap_id, w_ite_ne, w_ite_lt, jjK, jjL, hob3, h83, u2, hd1, hd2, ints_length, hone, wtv]
      refine ⟨by omega, by omega, by omega, ?_⟩
      have hCc := ok_slices_Concat__int [gL b k, [gN now k]] (by simp) (by simp [tot]; omega)
      rw [show ([gL b k, [gN now k]] : List (List Int)).flatten = gL b k ++ [gN now k] by simp] at hCc
      simp only [lls, List.map_cons, List.map_nil] at hCc
      refine call_pc hCc (by simp [go_sem, ints_pur]) ?_
      have hlen : (gL b k ++ [gN now k]).length = (gL b k).length + 1 := by simp
      have hmx : (max 0 (((gL b k).length : Int) + 1 - (gW b k).w)).toNat = (gL b k ++ [gN now k]).length - (gW b k).w.toNat := by rw [hlen]; omega
      try simp (maxSteps := 500000) (disch := omega) only [go_sem, jjA, jjB, jjC, jjD, jjE, jjF, jjG, jjH, jjI, jjJ, ↓reduceIte, reduceCtorEq, wrap_id, w_ite_ne, w_ite_lt, jjK, jjL, hob3, h83, u2, ints_length, hlen, Int.natCast_add, hmx, wtv, List.take_length, ints_take, ints_drop]
      refine ⟨by omega, by omega, ?_⟩
      have hpa : List.drop ((gL b k).length + 1 - (gW b k).w.toNat) (gL b k ++ [gN now k]) = pastI b now k := by rw [pastI, lastW, hlen]
      rw [hpa]
      have hpl : (pastI b now k).length ≤ 97 := by rw [← hpa]; simp; omega
      refine call_pc (okl_slices_Clone__int (ints (pastI b now k)) (by rw [ints_length]; omega) (ints_pur _) (ints_ok _)) (by simp [go_sem, ints_pur]) ?_
      try simp (maxSteps := 500000) (disch := omega) only [go_sem, jjA, jjB, jjC, jjD, jjE, jjF, jjG, jjH, jjI, jjJ, ↓reduceIte, reduceCtorEq, wrap_id, w_ite_ne, w_ite_lt, jjK, jjL, u2, ints_length]
      have hp1 : (lls ((List.range k).map (pastI b now))).length = k := by simp [lls]
      have hYo : ∀ i, ¬ Oth Y i → Oth Z i := fun i hi => Oth.em fun h => hi (hZn i h).2
      refine app_slr (L := lls ((List.range k).map (pastI b now))) (b := 24) (hY.move (by simp only; omega) fun i hi hh => ho3 i hi (hYo i hh)) (by rw [hp1]; omega) (by rw [hp1]; omega) fun Y' τ hY' kY => ?_
      obtain ⟨ob4, m4, c4⟩ := τ
      have q1 : m3 ≤ m4 := kY.1
      have q2 : ∀ i, i < m3 → Oth Y i → ob4 i = ob3 i := fun i hi hh => kY.2.1 i hi hh
      have u24 := (q2 2 (by omega) y2).trans u2
      rw [lls_snoc, ← range_snoc] at hY'
      try simp (maxSteps := 500000) (disch := omega) only [go_sem, jjA, jjB, jjC, jjD, jjE, jjF, jjG, jjH, jjI, jjJ, ↓reduceIte, reduceCtorEq, wrap_id, w_ite_ne, w_ite_lt, jjK, jjL, u24, hY'.flat, hY'.cells, hY'.one]
      have hF : ∀ (v : Option AObj) i, i < m4 → i ≠ 2 → ((⟨upd ob4 2 v, m4, c4⟩ : St).trunc m4).ob i = ob4 i := fun v i hi hne => by
        simp only [St.trunc, if_pos hi]; rw [upd_ne _ _ _ _ hne]
      have hF2 : ∀ v : Option AObj, ((⟨upd ob4 2 v, m4, c4⟩ : St).trunc m4).ob 2 = v := fun v => by
        simp only [St.trunc, if_pos (show 2 < m4 by omega), upd_same]
      have hZ'Y : ∀ i, ¬ Oth Z' i → 3 ≤ i ∧ i < m3 ∧ Oth Y i := fun i hi => by
        have h1 := hZ3.lt hi
        by_cases him : i ≤ m
        · have h2 := hZn i fun hh => hi (hZZ i him hh)
          exact ⟨h2.1, h1, h2.2⟩
        · exact ⟨by omega, h1, hY.oth (by simp only; omega)⟩
      have hY'n : ∀ i, ¬ Oth Y' i → 3 ≤ i ∧ i < m4 := fun i hi => ⟨Nat.le_of_not_lt fun hh => hi (kY.2.2 i (by simp only; omega) (Oth.em fun h => by have := hYn i h; omega)), hY'.lt hi⟩
      refine up_nextG m4 hkl (by omega) ⟨(by first | ((try simp (maxSteps := 1000000) only [go_sem, jjA, jjB, jjC, jjD, jjE, jjF, jjG, jjH, jjI, jjJ, ↓reduceIte, reduceCtorEq, w_app_nl]); done) | ((try simp (maxSteps := 1000000) only [go_sem, jjA, jjB, jjC, jjD, jjE, jjF, jjG, jjH, jjI, jjJ, ↓reduceIte, reduceCtorEq, w_app_nl]); rfl) | ((try simp (maxSteps := 1000000) (disch := omega) only [go_sem, jjA, jjB, jjC, jjD, jjE, jjF, jjG, jjH, jjI, jjJ, ↓reduceIte, reduceCtorEq, w_app_nl, wrap_id, w_ite_ne, w_ite_lt]); rfl) | (simp (maxSteps := 1000000) (disch := omega) only [go_sem, jjA, jjB, jjC, jjD, jjE, jjF, jjG, jjH, jjI, jjJ, ↓reduceIte, reduceCtorEq, w_app_nl, wrap_id, w_ite_ne, w_ite_lt]; done)), by simp only [St.trunc]; omega, ?_, ?_, Y', Z', (by simp only [At]; try simp (maxSteps := 500000) (disch := omega) only [go_sem, jjA, jjB, jjC, jjD, jjE, jjF, jjG, jjH, jjI, jjJ, ↓reduceIte, reduceCtorEq, wrap_id, w_ite_ne, w_ite_lt, jjK, jjL, h83]), ?_, ?_, ?_, fun i hi => ?_, fun i hi => (hY'n i hi).1⟩
      · rw [hF _ 0 (by omega) (by omega), q2 0 (by omega) y0, u0]
      · rw [hF _ 1 (by omega) (by omega), q2 1 (by omega) y1, u1]
      · rw [hF2]
      · refine hZ3.move (by simp only [St.trunc]; omega) fun i hi hh => ?_
        have h1 := hZ'Y i hh
        simp only at hi ⊢
        rw [hF _ i (by omega) (by omega), q2 i hi h1.2.2]
      · refine hY'.move (by simp only [St.trunc]; omega) fun i hi hh => ?_
        have h1 := hY'n i hh
        simp only at hi ⊢
        rw [hF _ i (by omega) (by omega)]
      · have h1 := hZ'Y i hi
        exact ⟨h1.1, kY.2.2 i h1.2.1 h1.2.2⟩
  · obtain rfl : k = b.ps.length := by omega
    have ha8 := hV.a1
    try simp (maxSteps := 500000) (disch := omega) only [go_sem, jjA, jjB, jjC, jjD, jjE, jjF, jjG, jjH, jjI, jjJ, ↓reduceIte, reduceCtorEq, wrap_id, w_ite_ne, w_ite_lt, jjK, jjL, ho0, wns_length]
    refine awp_upG [13, 89, 90, 91, 92, 93, 94, 95, 96, 97, 98, 99, 100] (by kernel_rfl) b.ac.length (fun k e σ => e 89 = .int .i64 k ∧ m ≤ σ.n ∧ (∀ i, i < m → i ≠ 2 → σ.ob i = ob i) ∧ ∃ A, σ.ob 2 = some ⟨2, 3, 31, false, true, [.agg [.list 4 (wts b.ps), Y, A]]⟩ ∧ SlR 4 44 σ (wns (b.ac.take k)) A ∧ (∀ i, ¬ Oth A i → m ≤ i)) ?_ ?_
    · exact ⟨(by first | ((try simp (maxSteps := 1000000) only [go_sem, jjA, jjB, jjC, jjD, jjE, jjF, jjG, jjH, jjI, jjJ, ↓reduceIte, reduceCtorEq, w_app_nl]); done) | ((try simp (maxSteps := 1000000) only [go_sem, jjA, jjB, jjC, jjD, jjE, jjF, jjG, jjH, jjI, jjJ, ↓reduceIte, reduceCtorEq, w_app_nl]); rfl) | ((try simp (maxSteps := 1000000) (disch := omega) only [go_sem, jjA, jjB, jjC, jjD, jjE, jjF, jjG, jjH, jjI, jjJ, ↓reduceIte, reduceCtorEq, w_app_nl, wrap_id, w_ite_ne, w_ite_lt]); rfl) | (simp (maxSteps := 1000000) (disch := omega) only [go_sem, jjA, jjB, jjC, jjD, jjE, jjF, jjG, jjH, jjI, jjJ, ↓reduceIte, reduceCtorEq, w_app_nl, wrap_id, w_ite_ne, w_ite_lt]; done)), Nat.le_refl _, fun i _ _ => rfl, .nil, ho2, SlR.nil, fun i hi => absurd (Oth.nil i) hi⟩
    rintro j fe2 ob2 m2 c2 hj hm2 ⟨h89, hm3, ho3, A, hA2, hA, hAn⟩
    simp (maxSteps := 1000000) only [go_sem, jjA, jjB, jjC, jjD, jjE, jjF, jjG, jjH, jjI, jjJ, ↓reduceIte, reduceCtorEq, w_app_nl] at h89 hm2 hm3 ho3 hA2
    try simp (maxSteps := 500000) (disch := omega) only [go_sem, jjA, jjB, jjC, jjD, jjE, jjF, jjG, jjH, jjI, jjJ, ↓reduceIte, reduceCtorEq, wrap_id, w_ite_ne, w_ite_lt, jjK, jjL, h89, wns_length]
    refine cond_d (fun hlt => ?_) (fun hge => ?_)
    · have hjl : j < b.ac.length := by omega
      have hj2 : b.ac[j]? = some b.ac[j] := List.getElem?_eq_getElem hjl
      have htk : wns (b.ac.take (j + 1)) = wns (b.ac.take j) ++ [wnv b.ac[j]] := by rw [wns_snoc, List.take_add_one, hj2]; rfl
      have hcl := wnB_cs (hV.wn _ (List.getElem_mem hjl))
      have hW := ok_warning_copied b.ac[j] (by omega)
      generalize b.ac[j] = x at *
      simp only [wnv] at hW
      have z3 : ¬ 2 = m2 := by omega
      try simp (maxSteps := 500000) (disch := omega) only [go_sem, jjA, jjB, jjC, jjD, jjE, jjF, jjG, jjH, jjI, jjJ, ↓reduceIte, reduceCtorEq, wrap_id, w_ite_ne, w_ite_lt, jjK, jjL, h89, wns_length, wns_get, hj2, Option.map_some, wnv, hA2, z3]
      refine ⟨by omega, by omega, ?_⟩
      refine call_pc hW (by simp [go_sem, css_pur]) ?_
      try simp (maxSteps := 500000) (disch := omega) only [go_sem, jjA, jjB, jjC, jjD, jjE, jjF, jjG, jjH, jjI, jjJ, ↓reduceIte, reduceCtorEq, wrap_id, w_ite_ne, w_ite_lt, jjK, jjL, hA2, z3]
      have hjt : (wns (b.ac.take j)).length = j := by rw [wns_length, List.length_take]; omega
      refine app_slr (L := wns (b.ac.take j)) (b := 48) (hA.move (by simp only; omega) fun i hi hh => ?_) (by omega) (by omega) fun A' τ hA' kA => ?_
      · simp only at hi ⊢
        rw [upd_ne _ _ _ _ (by omega), upd_ne _ _ _ _ (by omega)]
      obtain ⟨ob4, m4, c4⟩ := τ
      have q1 : m2 + 1 ≤ m4 := kA.1
      have q2 : ∀ i, i < m → ob4 i = ob2 i := fun i hi => (kA.2.1 i (by simp only; omega) (Oth.em fun h => by have := hAn i h; omega)).trans (by simp only; rw [upd_ne _ _ _ _ (by omega), upd_ne _ _ _ _ (by omega)])
      have u24 := (q2 2 (by omega)).trans hA2
      try simp (maxSteps := 500000) (disch := omega) only [go_sem, jjA, jjB, jjC, jjD, jjE, jjF, jjG, jjH, jjI, jjJ, ↓reduceIte, reduceCtorEq, wrap_id, w_ite_ne, w_ite_lt, jjK, jjL, u24, hA'.flat, hA'.cells, hA'.one]
      refine up_nextG m4 hjl (by omega) ⟨(by first | ((try simp (maxSteps := 1000000) only [go_sem, jjA, jjB, jjC, jjD, jjE, jjF, jjG, jjH, jjI, jjJ, ↓reduceIte, reduceCtorEq, w_app_nl]); done) | ((try simp (maxSteps := 1000000) only [go_sem, jjA, jjB, jjC, jjD, jjE, jjF, jjG, jjH, jjI, jjJ, ↓reduceIte, reduceCtorEq, w_app_nl]); rfl) | ((try simp (maxSteps := 1000000) (disch := omega) only [go_sem, jjA, jjB, jjC, jjD, jjE, jjF, jjG, jjH, jjI, jjJ, ↓reduceIte, reduceCtorEq, w_app_nl, wrap_id, w_ite_ne, w_ite_lt]); rfl) | (simp (maxSteps := 1000000) (disch := omega) only [go_sem, jjA, jjB, jjC, jjD, jjE, jjF, jjG, jjH, jjI, jjJ, ↓reduceIte, reduceCtorEq, w_app_nl, wrap_id, w_ite_ne, w_ite_lt]; done)), by simp only [St.trunc]; omega, fun i hi hne => ?_, A', ?_, ?_, fun i hi => ?_⟩
      · simp only [St.trunc, if_pos (show i < m4 by omega)]
        rw [upd_ne _ _ _ _ hne, q2 i hi, ho3 i hi hne]
      · simp only [St.trunc, if_pos (show 2 < m4 by omega), upd_same]
      · rw [htk, wnv]
        refine hA'.move (by simp only [St.trunc]; omega) fun i hi hh => ?_
        simp only at hi ⊢
        have h1 : m ≤ i := Nat.le_of_not_lt fun h2 => hh (kA.2.2 i (by simp only; omega) (Oth.em fun h => by have := hAn i h; omega))
        simp only [St.trunc, if_pos (show i < m4 by omega)]
        rw [upd_ne _ _ _ _ (by omega)]
      · exact Nat.le_of_not_lt fun h2 => hi (kA.2.2 i (by simp only; omega) (Oth.em fun h => by have := hAn i h; omega))
    · obtain rfl : j = b.ac.length := by omega
      rw [List.take_length] at hA
      have u1 : ob2 1 = some ⟨1, 3, 31, false, true, [.agg [.nil, .nil, .nil]]⟩ := by rw [ho3 1 (by omega) (by omega), ho1]
      try simp (maxSteps := 500000) (disch := omega) only [go_sem, jjA, jjB, jjC, jjD, jjE, jjF, jjG, jjH, jjI, jjJ, ↓reduceIte, reduceCtorEq, wrap_id, w_ite_ne, w_ite_lt, jjK, jjL, hA2, u1, h8, hY.one, hA.one]
      have hYlt : ∀ i, ¬ Oth Y i → 3 ≤ i ∧ i < m := fun i hi => ⟨hYn i hi, hY.lt hi⟩
      have hZlt : ∀ i, ¬ Oth Z i → 3 ≤ i ∧ i < m := fun i hi => ⟨(hZn i hi).1, hZ.lt hi⟩
      rw [seeV, seeR, see_e0 hv (by omega) hf, if_pos rfl]
      refine Pub.tu (.cons (Pub.ag (.cons (Pub.e rfl) (.cons (hY.pub (fun i hi hh => ?_) (lls_pur _) (lls_ok _)) (.cons (hA.pub (fun i hi hh => ?_) (wns_pur _) (wns_ok _)) .nil)))) (.cons (hZ.pub (fun i _ hh => ?_) (ints_pur _) (ints_ok _)) (.cons (Pub.e rfl) .nil)))
      · have := hYlt i hh
        simp only
        rw [upd_ne _ _ _ _ (by omega), ho3 i (by omega) (by omega)]
      · have := hAn i hh
        simp only
        rw [upd_ne _ _ _ _ (by omega)]
      · have := hZlt i hh
        simp only
        rw [upd_ne _ _ _ _ (by omega), ho3 i (by omega) (by omega)]
end Go.Proofs.Try
