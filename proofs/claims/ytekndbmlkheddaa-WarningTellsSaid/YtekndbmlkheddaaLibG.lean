/-
  OWN WORK, put together by tools/asm.py: what functions do.
-/
import Derived.Test.YtekndbmlkheddaaLibF
set_option linter.unusedSimpArgs false
set_option linter.unusedVariables false
set_option maxRecDepth 100000
set_option maxHeartbeats 1000000
namespace Go.Proofs.Try
open Go.Ab Go
open Int renaming reduceEq → jjA, reduceLT → jjB, reduceLE → jjC, reduceToNat → jjD
open Nat renaming reduceLT → jjE, reduceEqDiff → jjF, reduceAdd → jjG, reduceLeDiff → jjH, reduceSub → jjI, reduceMul → jjJ, sub_zero → jjK, sub_self → jjL
theorem call_rod {P : Program} {σ : St} {f : Nat} {args args' : List AV} {r : AV} {K : AV → St → Prop} (d : Nat) (o : AObj) (ho : σ.ob d = some o) (h : PC P f args' r) (hp : Lent ⟨fun i => if decide (i ≠ d) then none else σ.ob i, σ.n, σ.c⟩ args args') (ha : ∀ a ∈ args', a.pur = true)
    (hK : ∀ ob', (∀ j, j ≠ d → ob' j = σ.ob j) → ob' d = some { o with ro := true } → K r ⟨ob', σ.n, σ.c⟩) : HC P f args σ K :=
  call_ro (fun i => decide (i ≠ d)) h hp ha (hK _ (fun j hj => by simp [hj]) (by simp [ho]))
theorem ahd_len (x : Bo) (N : List (List Int)) (h : BoL x) : (ahdL x N).length ≤ 9223372036854775807 := by
  rw [ahdL]
  have h1 := selL_len (ahdI x N) x.ps.length
  have h2 := h.p
  split
  · omega
  · simp
theorem see_len (x : Bo) (N : List Int) (h : BoL x) : (seeR x N).2.length ≤ 9223372036854775807 := by
  rw [seeR]
  have h1 := selL_len (roseI x N) x.ps.length
  have h2 := h.p
  split
  · simp only; omega
  · simp
theorem see_sz (x : Bo) (N : List Int) (h : BoL x) : BoL (seeR x N).1 := by
  rw [seeR]
  split
  · rename_i e
    rw [seeE] at e
    split at e
    · omega
    · rename_i h1
      split at e
      · omega
      · rename_i h2
        split at e
        · omega
        · rename_i h3
          exact ((vdB_iff.1 (by simpa using h1)).see (by simpa using h2) (by simpa using h3)).sz
  · exact ⟨by simp [boZ], by simp [boZ], by simp [boZ], by simp [boZ], by simp [boZ]⟩
theorem open_sz (l : List Wt) : BoL (openR l) := by
  rw [openR]
  split
  · rename_i e
    exact (Vb.open e).sz
  · exact ⟨by simp [boZ], by simp [boZ], by simp [boZ], by simp [boZ], by simp [boZ]⟩
theorem act_len (x : Bo) (n : Int) (h : BoL x) : ((actO x n).getD wnZ).cs.length ≤ 9223372036854775807 := by
  cases e : actO x n with
  | none => simp [wnZ]
  | some w =>
    rw [actO] at e
    split at e
    · exact h.c w (List.mem_of_find?_eq_some e)
    · cases e
theorem lls_len (l : List (List Int)) : (lls l).length = l.length := by simp [lls]
theorem ok_law36_WarningTells (t : List Int) (raw : Bo) (next : List (List Int)) (now : List Int) (point : Int) (hr : BoL raw) (hx : next.length ≤ 9223372036854775807) (hxs : ∀ l ∈ next, l.length ≤ 9223372036854775807) (hw : now.length ≤ 9223372036854775807) (hp : -9223372036854775808 ≤ point ∧ point ≤ 9223372036854775807) :
    PC prog n_law36_WarningTells [.list 1 (ints t), bov raw, .list 1 (lls next), .list 1 (ints now), .int .i64 point] (.bool true) := by
  refine PC_of_body b_law36_WarningTells (by simp) ?_
  simp only [c_law36_WarningTells, go_sem, jjA, jjB, jjC, jjD, jjE, jjF, jjG, jjH, jjI, jjJ, ↓reduceIte, reduceCtorEq, w_app_nl, bov]
  try simp (maxSteps := 500000) (disch := omega) only [go_sem, jjA, jjB, jjC, jjD, jjE, jjF, jjG, jjH, jjI, jjJ, ↓reduceIte, reduceCtorEq, wrap_id, w_ite_ne, w_ite_lt, jjK, jjL]
  refine call_pc ok_law36_sane (by simp) ?_
  try simp (maxSteps := 500000) (disch := omega) only [go_sem, jjA, jjB, jjC, jjD, jjE, jjF, jjG, jjH, jjI, jjJ, ↓reduceIte, reduceCtorEq, wrap_id, w_ite_ne, w_ite_lt, jjK, jjL, wts_length, lls_length, wns_length, ints_length]
  refine awp_upG [11, 13, 70, 71, 72, 73, 74, 75, 76, 77, 78] (by kernel_rfl) raw.pa.length (fun k e σ => e 70 = .int .i64 k ∧ 1 ≤ σ.n ∧ (∃ v, e 11 = .int .i64 v) ∧ σ.ob 0 = some ⟨0, 3, 31, false, true, [.agg [.list 4 (wts raw.ps), .list 1 (lls raw.pa), .list 4 (wns raw.ac)]]⟩) ?_ ?_
  · exact ⟨(by first | ((try simp (maxSteps := 1000000) only [go_sem, jjA, jjB, jjC, jjD, jjE, jjF, jjG, jjH, jjI, jjJ, ↓reduceIte, reduceCtorEq, w_app_nl]); done) | ((try simp (maxSteps := 1000000) only [go_sem, jjA, jjB, jjC, jjD, jjE, jjF, jjG, jjH, jjI, jjJ, ↓reduceIte, reduceCtorEq, w_app_nl]); rfl) | ((try simp (maxSteps := 1000000) (disch := omega) only [go_sem, jjA, jjB, jjC, jjD, jjE, jjF, jjG, jjH, jjI, jjJ, ↓reduceIte, reduceCtorEq, w_app_nl, wrap_id, w_ite_ne, w_ite_lt]); rfl) | (simp (maxSteps := 1000000) (disch := omega) only [go_sem, jjA, jjB, jjC, jjD, jjE, jjF, jjG, jjH, jjI, jjJ, ↓reduceIte, reduceCtorEq, w_app_nl, wrap_id, w_ite_ne, w_ite_lt]; done)), Nat.le_refl _, ⟨_, by try simp (maxSteps := 500000) (disch := omega) only [go_sem, jjA, jjB, jjC, jjD, jjE, jjF, jjG, jjH, jjI, jjJ, ↓reduceIte, reduceCtorEq, wrap_id, w_ite_ne, w_ite_lt, jjK, jjL]; rfl⟩, (by first | ((try simp (maxSteps := 1000000) only [go_sem, jjA, jjB, jjC, jjD, jjE, jjF, jjG, jjH, jjI, jjJ, ↓reduceIte, reduceCtorEq, w_app_nl]); done) | ((try simp (maxSteps := 1000000) only [go_sem, jjA, jjB, jjC, jjD, jjE, jjF, jjG, jjH, jjI, jjJ, ↓reduceIte, reduceCtorEq, w_app_nl]); rfl) | ((try simp (maxSteps := 1000000) (disch := omega) only [go_sem, jjA, jjB, jjC, jjD, jjE, jjF, jjG, jjH, jjI, jjJ, ↓reduceIte, reduceCtorEq, w_app_nl, wrap_id, w_ite_ne, w_ite_lt]); rfl) | (simp (maxSteps := 1000000) (disch := omega) only [go_sem, jjA, jjB, jjC, jjD, jjE, jjF, jjG, jjH, jjI, jjJ, ↓reduceIte, reduceCtorEq, w_app_nl, wrap_id, w_ite_ne, w_ite_lt]; done))⟩
  rintro k fe ob m c hk hm ⟨hki, hm1, ⟨v, h11⟩, ho⟩
  simp (maxSteps := 1000000) only [go_sem, jjA, jjB, jjC, jjD, jjE, jjF, jjG, jjH, jjI, jjJ, ↓reduceIte, reduceCtorEq, w_app_nl] at hki hm hm1 h11 ho
  try simp (maxSteps := 500000) (disch := omega) only [go_sem, jjA, jjB, jjC, jjD, jjE, jjF, jjG, jjH, jjI, jjJ, ↓reduceIte, reduceCtorEq, wrap_id, w_ite_ne, w_ite_lt, jjK, jjL, hki, lls_length]
  have hq := hr.q
  have ha := hr.a
  refine cond_d (fun hlt => ?_) (fun hge => ?_)
  · have hkl : k < raw.pa.length := by omega
    have hk2 : raw.pa[k]? = some raw.pa[k] := List.getElem?_eq_getElem hkl
    generalize raw.pa[k] = x at *
    try simp (maxSteps := 500000) (disch := omega) only [go_sem, jjA, jjB, jjC, jjD, jjE, jjF, jjG, jjH, jjI, jjJ, ↓reduceIte, reduceCtorEq, wrap_id, w_ite_ne, w_ite_lt, jjK, jjL, hki, lls_length, lls_get, hk2, Option.map_some, h11, ints_length]
    refine ⟨by omega, by omega, ?_⟩
    exact up_nextG m hkl (by omega) ⟨(by first | ((try simp (maxSteps := 1000000) only [go_sem, jjA, jjB, jjC, jjD, jjE, jjF, jjG, jjH, jjI, jjJ, ↓reduceIte, reduceCtorEq, w_app_nl]); done) | ((try simp (maxSteps := 1000000) only [go_sem, jjA, jjB, jjC, jjD, jjE, jjF, jjG, jjH, jjI, jjJ, ↓reduceIte, reduceCtorEq, w_app_nl]); rfl) | ((try simp (maxSteps := 1000000) (disch := omega) only [go_sem, jjA, jjB, jjC, jjD, jjE, jjF, jjG, jjH, jjI, jjJ, ↓reduceIte, reduceCtorEq, w_app_nl, wrap_id, w_ite_ne, w_ite_lt]); rfl) | (simp (maxSteps := 1000000) (disch := omega) only [go_sem, jjA, jjB, jjC, jjD, jjE, jjF, jjG, jjH, jjI, jjJ, ↓reduceIte, reduceCtorEq, w_app_nl, wrap_id, w_ite_ne, w_ite_lt]; done)), by simp only [St.trunc]; omega, ⟨_, by try simp (maxSteps := 500000) (disch := omega) only [go_sem, jjA, jjB, jjC, jjD, jjE, jjF, jjG, jjH, jjI, jjJ, ↓reduceIte, reduceCtorEq, wrap_id, w_ite_ne, w_ite_lt, jjK, jjL]; rfl⟩, by rw [tr_ob (by omega)]; exact ho⟩
  clear hge hki hk
  try simp (maxSteps := 500000) (disch := omega) only [go_sem, jjA, jjB, jjC, jjD, jjE, jjF, jjG, jjH, jjI, jjJ, ↓reduceIte, reduceCtorEq, wrap_id, w_ite_ne, w_ite_lt, jjK, jjL, ho, wns_length]
  refine awp_upG [11, 15, 82, 83, 84, 85, 86, 87, 88, 89, 90, 91] (by kernel_rfl) raw.ac.length (fun k e σ => e 82 = .int .i64 k ∧ 1 ≤ σ.n ∧ (∃ v, e 11 = .int .i64 v) ∧ σ.ob 0 = some ⟨0, 3, 31, false, true, [.agg [.list 4 (wts raw.ps), .list 1 (lls raw.pa), .list 4 (wns raw.ac)]]⟩) ?_ ?_
  · exact ⟨(by first | ((try simp (maxSteps := 1000000) only [go_sem, jjA, jjB, jjC, jjD, jjE, jjF, jjG, jjH, jjI, jjJ, ↓reduceIte, reduceCtorEq, w_app_nl]); done) | ((try simp (maxSteps := 1000000) only [go_sem, jjA, jjB, jjC, jjD, jjE, jjF, jjG, jjH, jjI, jjJ, ↓reduceIte, reduceCtorEq, w_app_nl]); rfl) | ((try simp (maxSteps := 1000000) (disch := omega) only [go_sem, jjA, jjB, jjC, jjD, jjE, jjF, jjG, jjH, jjI, jjJ, ↓reduceIte, reduceCtorEq, w_app_nl, wrap_id, w_ite_ne, w_ite_lt]); rfl) | (simp (maxSteps := 1000000) (disch := omega) only [go_sem, jjA, jjB, jjC, jjD, jjE, jjF, jjG, jjH, jjI, jjJ, ↓reduceIte, reduceCtorEq, w_app_nl, wrap_id, w_ite_ne, w_ite_lt]; done)), by simp only; omega, ⟨v, by try simp (maxSteps := 500000) (disch := omega) only [go_sem, jjA, jjB, jjC, jjD, jjE, jjF, jjG, jjH, jjI, jjJ, ↓reduceIte, reduceCtorEq, wrap_id, w_ite_ne, w_ite_lt, jjK, jjL]; exact h11⟩, ho⟩
  clear h11 ho hm hm1
  rintro k fe ob m c hk hm ⟨hki, hm1, ⟨v, h11⟩, ho⟩
  simp (maxSteps := 1000000) only [go_sem, jjA, jjB, jjC, jjD, jjE, jjF, jjG, jjH, jjI, jjJ, ↓reduceIte, reduceCtorEq, w_app_nl] at hki hm hm1 h11 ho
  try simp (maxSteps := 500000) (disch := omega) only [go_sem, jjA, jjB, jjC, jjD, jjE, jjF, jjG, jjH, jjI, jjJ, ↓reduceIte, reduceCtorEq, wrap_id, w_ite_ne, w_ite_lt, jjK, jjL, hki, wns_length]
  refine cond_d (fun hlt => ?_) (fun hge => ?_)
  · have hkl : k < raw.ac.length := by omega
    have hk2 : raw.ac[k]? = some raw.ac[k] := List.getElem?_eq_getElem hkl
    generalize raw.ac[k] = x at *
    have z0 : ¬ 0 = m := by omega
    try simp (maxSteps := 500000) (disch := omega) only [go_sem, jjA, jjB, jjC, jjD, jjE, jjF, jjG, jjH, jjI, jjJ, ↓reduceIte, reduceCtorEq, wrap_id, w_ite_ne, w_ite_lt, jjK, jjL, hki, wns_length, wns_get, hk2, Option.map_some, h11, wnv]
    refine ⟨by omega, by omega, ?_⟩
    exact up_nextG (m + 1) hkl (by omega) ⟨(by first | ((try simp (maxSteps := 1000000) only [go_sem, jjA, jjB, jjC, jjD, jjE, jjF, jjG, jjH, jjI, jjJ, ↓reduceIte, reduceCtorEq, w_app_nl]); done) | ((try simp (maxSteps := 1000000) only [go_sem, jjA, jjB, jjC, jjD, jjE, jjF, jjG, jjH, jjI, jjJ, ↓reduceIte, reduceCtorEq, w_app_nl]); rfl) | ((try simp (maxSteps := 1000000) (disch := omega) only [go_sem, jjA, jjB, jjC, jjD, jjE, jjF, jjG, jjH, jjI, jjJ, ↓reduceIte, reduceCtorEq, w_app_nl, wrap_id, w_ite_ne, w_ite_lt]); rfl) | (simp (maxSteps := 1000000) (disch := omega) only [go_sem, jjA, jjB, jjC, jjD, jjE, jjF, jjG, jjH, jjI, jjJ, ↓reduceIte, reduceCtorEq, w_app_nl, wrap_id, w_ite_ne, w_ite_lt]; done)), by simp only [St.trunc]; omega, ⟨_, by try simp (maxSteps := 500000) (disch := omega) only [go_sem, jjA, jjB, jjC, jjD, jjE, jjF, jjG, jjH, jjI, jjJ, ↓reduceIte, reduceCtorEq, wrap_id, w_ite_ne, w_ite_lt, jjK, jjL]; rfl⟩, by rw [tr_ob (by omega), upd_ne _ _ _ _ z0, upd_ne _ _ _ _ z0]; exact ho⟩
  clear hge hki hk
  try simp (maxSteps := 500000) (disch := omega) only [go_sem, jjA, jjB, jjC, jjD, jjE, jjF, jjG, jjH, jjI, jjJ, ↓reduceIte, reduceCtorEq, wrap_id, w_ite_ne, w_ite_lt, jjK, jjL, lls_length]
  refine awp_upG [11, 17, 94, 95, 96, 97, 98, 99, 100, 101, 102] (by kernel_rfl) next.length (fun k e σ => e 94 = .int .i64 k ∧ 1 ≤ σ.n ∧ (∃ v, e 11 = .int .i64 v) ∧ σ.ob 0 = some ⟨0, 3, 31, false, true, [.agg [.list 4 (wts raw.ps), .list 1 (lls raw.pa), .list 4 (wns raw.ac)]]⟩) ?_ ?_
  · exact ⟨(by first | ((try simp (maxSteps := 1000000) only [go_sem, jjA, jjB, jjC, jjD, jjE, jjF, jjG, jjH, jjI, jjJ, ↓reduceIte, reduceCtorEq, w_app_nl]); done) | ((try simp (maxSteps := 1000000) only [go_sem, jjA, jjB, jjC, jjD, jjE, jjF, jjG, jjH, jjI, jjJ, ↓reduceIte, reduceCtorEq, w_app_nl]); rfl) | ((try simp (maxSteps := 1000000) (disch := omega) only [go_sem, jjA, jjB, jjC, jjD, jjE, jjF, jjG, jjH, jjI, jjJ, ↓reduceIte, reduceCtorEq, w_app_nl, wrap_id, w_ite_ne, w_ite_lt]); rfl) | (simp (maxSteps := 1000000) (disch := omega) only [go_sem, jjA, jjB, jjC, jjD, jjE, jjF, jjG, jjH, jjI, jjJ, ↓reduceIte, reduceCtorEq, w_app_nl, wrap_id, w_ite_ne, w_ite_lt]; done)), by simp only; omega, ⟨v, by try simp (maxSteps := 500000) (disch := omega) only [go_sem, jjA, jjB, jjC, jjD, jjE, jjF, jjG, jjH, jjI, jjJ, ↓reduceIte, reduceCtorEq, wrap_id, w_ite_ne, w_ite_lt, jjK, jjL]; exact h11⟩, ho⟩
  clear h11 ho hm hm1
  rintro k fe ob m c hk hm ⟨hki, hm1, ⟨v, h11⟩, ho⟩
  simp (maxSteps := 1000000) only [go_sem, jjA, jjB, jjC, jjD, jjE, jjF, jjG, jjH, jjI, jjJ, ↓reduceIte, reduceCtorEq, w_app_nl] at hki hm hm1 h11 ho
  try simp (maxSteps := 500000) (disch := omega) only [go_sem, jjA, jjB, jjC, jjD, jjE, jjF, jjG, jjH, jjI, jjJ, ↓reduceIte, reduceCtorEq, wrap_id, w_ite_ne, w_ite_lt, jjK, jjL, hki, lls_length]
  refine cond_d (fun hlt => ?_) (fun hge => ?_)
  · have hkl : k < next.length := by omega
    have hk2 : next[k]? = some next[k] := List.getElem?_eq_getElem hkl
    generalize next[k] = x at *
    try simp (maxSteps := 500000) (disch := omega) only [go_sem, jjA, jjB, jjC, jjD, jjE, jjF, jjG, jjH, jjI, jjJ, ↓reduceIte, reduceCtorEq, wrap_id, w_ite_ne, w_ite_lt, jjK, jjL, hki, lls_length, lls_get, hk2, Option.map_some, h11, ints_length]
    refine ⟨by omega, by omega, ?_⟩
    exact up_nextG m hkl (by omega) ⟨(by first | ((try simp (maxSteps := 1000000) only [go_sem, jjA, jjB, jjC, jjD, jjE, jjF, jjG, jjH, jjI, jjJ, ↓reduceIte, reduceCtorEq, w_app_nl]); done) | ((try simp (maxSteps := 1000000) only [go_sem, jjA, jjB, jjC, jjD, jjE, jjF, jjG, jjH, jjI, jjJ, ↓reduceIte, reduceCtorEq, w_app_nl]); rfl) | ((try simp (maxSteps := 1000000) (disch := omega) only [go_sem, jjA, jjB, jjC, jjD, jjE, jjF, jjG, jjH, jjI, jjJ, ↓reduceIte, reduceCtorEq, w_app_nl, wrap_id, w_ite_ne, w_ite_lt]); rfl) | (simp (maxSteps := 1000000) (disch := omega) only [go_sem, jjA, jjB, jjC, jjD, jjE, jjF, jjG, jjH, jjI, jjJ, ↓reduceIte, reduceCtorEq, w_app_nl, wrap_id, w_ite_ne, w_ite_lt]; done)), by simp only [St.trunc]; omega, ⟨_, by try simp (maxSteps := 500000) (disch := omega) only [go_sem, jjA, jjB, jjC, jjD, jjE, jjF, jjG, jjH, jjI, jjJ, ↓reduceIte, reduceCtorEq, wrap_id, w_ite_ne, w_ite_lt, jjK, jjL]; rfl⟩, by rw [tr_ob (by omega)]; exact ho⟩
  clear hge hki hk
  try simp (maxSteps := 500000) (disch := omega) only [go_sem, jjA, jjB, jjC, jjD, jjE, jjF, jjG, jjH, jjI, jjJ, ↓reduceIte, reduceCtorEq, wrap_id, w_ite_ne, w_ite_lt, jjK, jjL]
  refine call_pc (ok_mk_Few t) (by simp [go_sem]) ?_
  cases hfew : fewB t
  · try simp (maxSteps := 500000) (disch := omega) only [go_sem, jjA, jjB, jjC, jjD, jjE, jjF, jjG, jjH, jjI, jjJ, ↓reduceIte, reduceCtorEq, wrap_id, w_ite_ne, w_ite_lt, jjK, jjL]
    exact Pub.pure rfl
  have hlt : t.length ≤ 9223372036854775807 := by simp [fewB] at hfew; omega
  try simp (maxSteps := 500000) (disch := omega) only [go_sem, jjA, jjB, jjC, jjD, jjE, jjF, jjG, jjH, jjI, jjJ, ↓reduceIte, reduceCtorEq, wrap_id, w_ite_ne, w_ite_lt, jjK, jjL, h11]
  refine cond_d (fun hv => ?_) (fun hv => ?_) <;> try simp (maxSteps := 500000) (disch := omega) only [go_sem, jjA, jjB, jjC, jjD, jjE, jjF, jjG, jjH, jjI, jjJ, ↓reduceIte, reduceCtorEq, wrap_id, w_ite_ne, w_ite_lt, jjK, jjL]
  · exact Pub.pure rfl
  clear h11 hv
  refine call_hc (ok_mk_New _ t) ?_
  have z0m : ¬ 0 = m := by omega
  try simp (maxSteps := 500000) (disch := omega) only [go_sem, jjA, jjB, jjC, jjD, jjE, jjF, jjG, jjH, jjI, jjJ, ↓reduceIte, reduceCtorEq, wrap_id, w_ite_ne, w_ite_lt, jjK, jjL]
  refine (hc_flow_Board _ m c t 0 hlt (by simp only [St.push]; omega) (by try simp (maxSteps := 500000) (disch := omega) only [go_sem, jjA, jjB, jjC, jjD, jjE, jjF, jjG, jjH, jjI, jjJ, ↓reduceIte, reduceCtorEq, wrap_id, w_ite_ne, w_ite_lt, jjK, jjL])).mono ?_
  intro r τ hD
  obtain ⟨⟨b, rfl, hB⟩, hn, ⟨at1, hd⟩, hf⟩ := hD.use (by simp only [St.push]; omega)
  obtain ⟨ob1, m1, c1⟩ := τ
  simp only [St.push] at hn hd hf
  subst hn
  clear hD
  have w0 : ob1 0 = some ⟨0, 3, 31, false, true, [.agg [.list 4 (wts raw.ps), .list 1 (lls raw.pa), .list 4 (wns raw.ac)]]⟩ := by
    rw [hf 0 (by omega) z0m, upd_ne _ _ _ _ z0m, ho]
  have hV := hB.v
  have hl1 := hB.p.1
  have hl3 := hB.p.2.1
  have z1 : ¬ m = m + 1 := by omega
  have z2 : ¬ 0 = m + 1 := by omega
  try simp (maxSteps := 500000) (disch := omega) only [go_sem, jjA, jjB, jjC, jjD, jjE, jjF, jjG, jjH, jjI, jjJ, ↓reduceIte, reduceCtorEq, wrap_id, w_ite_ne, w_ite_lt, jjK, jjL, bov, wts_length]
  refine (hcD_mk_Flows _ m c t at1 b.ps.length 40 (by omega) (by omega) (by omega) hlt (by simp only; omega) (by try simp (maxSteps := 500000) (disch := omega) only [go_sem, jjA, jjB, jjC, jjD, jjE, jjF, jjG, jjH, jjI, jjJ, ↓reduceIte, reduceCtorEq, wrap_id, w_ite_ne, w_ite_lt, jjK, jjL, z1]; exact hd)).mono ?_
  intro r τ hD
  obtain ⟨⟨made, rfl, hml, hmb⟩, hn, ⟨at2, hd2⟩, hf2⟩ := hD.use (by simp only; omega)
  obtain ⟨ob2, m2, c2⟩ := τ
  simp only at hn hd2 hf2
  subst hn
  clear hD
  have x0 : ob2 0 = some ⟨0, 3, 31, false, true, [.agg [.list 4 (wts raw.ps), .list 1 (lls raw.pa), .list 4 (wns raw.ac)]]⟩ := by
    rw [hf2 0 (by omega) z0m, upd_ne _ _ _ _ z2, upd_ne _ _ _ _ z2, w0]
  have x1 : ob2 (m + 1) = some ⟨c1, 3, 31, false, true, [.agg [.list 4 (wts b.ps), .list 1 (lls b.pa), .list 4 (wns b.ac)]]⟩ := by
    rw [hf2 (m + 1) (by omega) (by omega), upd_same]
  clear hf hf2 hd w0 ho
  try simp (maxSteps := 500000) (disch := omega) only [go_sem, jjA, jjB, jjC, jjD, jjE, jjF, jjG, jjH, jjI, jjJ, ↓reduceIte, reduceCtorEq, wrap_id, w_ite_ne, w_ite_lt, jjK, jjL, x1, wts_length]
  refine awp_upG [21, 122, 123, 124, 125, 126, 127, 128, 129, 130, 131] (by kernel_rfl) b.ps.length (fun k e σ => e 122 = .int .i64 k ∧ m + 2 ≤ σ.n ∧ (∃ a, σ.ob m = some ⟨c, 2, ty_Deck, false, true, [deckV t a]⟩) ∧ σ.ob 0 = ob2 0 ∧ σ.ob (m + 1) = ob2 (m + 1) ∧ ∃ X L, At e 21 X ∧ L.length = k ∧ (∀ l ∈ L, l.length ≤ 8) ∧ SlR 1 22 σ (lls L) X ∧ ∀ i, ¬ Oth X i → m + 2 ≤ i) ?_ ?_
  · exact ⟨(by first | ((try simp (maxSteps := 1000000) only [go_sem, jjA, jjB, jjC, jjD, jjE, jjF, jjG, jjH, jjI, jjJ, ↓reduceIte, reduceCtorEq, w_app_nl]); done) | ((try simp (maxSteps := 1000000) only [go_sem, jjA, jjB, jjC, jjD, jjE, jjF, jjG, jjH, jjI, jjJ, ↓reduceIte, reduceCtorEq, w_app_nl]); rfl) | ((try simp (maxSteps := 1000000) (disch := omega) only [go_sem, jjA, jjB, jjC, jjD, jjE, jjF, jjG, jjH, jjI, jjJ, ↓reduceIte, reduceCtorEq, w_app_nl, wrap_id, w_ite_ne, w_ite_lt]); rfl) | (simp (maxSteps := 1000000) (disch := omega) only [go_sem, jjA, jjB, jjC, jjD, jjE, jjF, jjG, jjH, jjI, jjJ, ↓reduceIte, reduceCtorEq, w_app_nl, wrap_id, w_ite_ne, w_ite_lt]; done)), Nat.le_refl _, ⟨at2, hd2⟩, rfl, rfl, .nil, [], (by simp only [At]; try simp (maxSteps := 500000) (disch := omega) only [go_sem, jjA, jjB, jjC, jjD, jjE, jjF, jjG, jjH, jjI, jjJ, ↓reduceIte, reduceCtorEq, wrap_id, w_ite_ne, w_ite_lt, jjK, jjL]), rfl, (fun l hl => by cases hl), SlR.nil, fun i hi => absurd (Oth.nil i) hi⟩
  rintro k fe ob m3 c3 hk hm3 ⟨hki, hm4, ⟨a, hd⟩, y0, y1, X, L, h21, hL, hLb, hX, hXn⟩
  simp (maxSteps := 1000000) only [go_sem, jjA, jjB, jjC, jjD, jjE, jjF, jjG, jjH, jjI, jjJ, ↓reduceIte, reduceCtorEq, w_app_nl, At] at hki hm3 hm4 hd y0 y1 h21
  rw [x0] at y0
  rw [x1] at y1
  try simp (maxSteps := 500000) (disch := omega) only [go_sem, jjA, jjB, jjC, jjD, jjE, jjF, jjG, jjH, jjI, jjJ, ↓reduceIte, reduceCtorEq, wrap_id, w_ite_ne, w_ite_lt, jjK, jjL, hki, wts_length]
  refine cond_d (fun hlt2 => ?_) (fun hge => ?_)
  · have hkl : k < b.ps.length := by omega
    have oX : ∀ i, i < m + 2 → Oth X i := fun i hi => Oth.em fun h => by have := hXn i h; omega
    try simp (maxSteps := 500000) (disch := omega) only [go_sem, jjA, jjB, jjC, jjD, jjE, jjF, jjG, jjH, jjI, jjJ, ↓reduceIte, reduceCtorEq, wrap_id, w_ite_ne, w_ite_lt, jjK, jjL, h21]
    refine call_hc (ok_mk_Deck_Next _ m c ty_Deck true t a 8 hd (by omega) hlt) ?_
    have b1 := deckR_bd t a 8
    generalize deckR t a 8 = dr at *
    obtain ⟨x, a1⟩ := dr
    simp only at b1
    try simp (maxSteps := 500000) (disch := omega) only [go_sem, jjA, jjB, jjC, jjD, jjE, jjF, jjG, jjH, jjI, jjJ, ↓reduceIte, reduceCtorEq, wrap_id, w_ite_ne, w_ite_lt, jjK, jjL]
    refine (hcD_mk_Flows _ m c t a1 x 40 (by omega) (by omega) (by omega) hlt (by simp only; omega) (by try simp (maxSteps := 500000) (disch := omega) only [go_sem, jjA, jjB, jjC, jjD, jjE, jjF, jjG, jjH, jjI, jjJ, ↓reduceIte, reduceCtorEq, wrap_id, w_ite_ne, w_ite_lt, jjK, jjL])).mono ?_
    intro r τ hD
    obtain ⟨⟨l, rfl, hll, hlb⟩, hn, ⟨a2, hda⟩, hf⟩ := hD.use (by simp only; omega)
    obtain ⟨ob4, m4, c4⟩ := τ
    simp only at hn hda hf
    subst hn
    have hf' : ∀ i, i < m4 → i ≠ m → ob4 i = ob i := fun i hi hne => by rw [hf i hi hne, upd_ne _ _ _ _ hne]
    have lll : (lls L).length = k := by rw [lls_len, hL]
    try simp (maxSteps := 500000) (disch := omega) only [go_sem, jjA, jjB, jjC, jjD, jjE, jjF, jjG, jjH, jjI, jjJ, ↓reduceIte, reduceCtorEq, wrap_id, w_ite_ne, w_ite_lt, jjK, jjL, h21]
    refine app_slr (b := 24) (hX.move (Nat.le_refl _) fun i hi hh => hf' i hi (by have := hXn i hh; omega)) (by omega) (by omega) fun Y τ hY kY => ?_
    obtain ⟨ob5, m5, c5⟩ := τ
    have q1 : m4 ≤ m5 := kY.1
    have q2 : ∀ i, i < m + 2 → ob5 i = ob4 i := fun i hi => kY.2.1 i (by simp only; omega) (oX i hi)
    try simp (maxSteps := 500000) (disch := omega) only [go_sem, jjA, jjB, jjC, jjD, jjE, jjF, jjG, jjH, jjI, jjJ, ↓reduceIte, reduceCtorEq, wrap_id, w_ite_ne, w_ite_lt, jjK, jjL, hki]
    refine up_nextG m5 hkl (by omega) ⟨(by first | ((try simp (maxSteps := 1000000) only [go_sem, jjA, jjB, jjC, jjD, jjE, jjF, jjG, jjH, jjI, jjJ, ↓reduceIte, reduceCtorEq, w_app_nl]); done) | ((try simp (maxSteps := 1000000) only [go_sem, jjA, jjB, jjC, jjD, jjE, jjF, jjG, jjH, jjI, jjJ, ↓reduceIte, reduceCtorEq, w_app_nl]); rfl) | ((try simp (maxSteps := 1000000) (disch := omega) only [go_sem, jjA, jjB, jjC, jjD, jjE, jjF, jjG, jjH, jjI, jjJ, ↓reduceIte, reduceCtorEq, w_app_nl, wrap_id, w_ite_ne, w_ite_lt]); rfl) | (simp (maxSteps := 1000000) (disch := omega) only [go_sem, jjA, jjB, jjC, jjD, jjE, jjF, jjG, jjH, jjI, jjJ, ↓reduceIte, reduceCtorEq, w_app_nl, wrap_id, w_ite_ne, w_ite_lt]; done)), by simp only [St.trunc]; omega, ⟨a2, by rw [tr_ob (by omega), q2 m (by omega)]; exact hda⟩, by rw [tr_ob (by omega), q2 0 (by omega), hf' 0 (by omega) z0m, y0, x0], by rw [tr_ob (by omega), q2 (m + 1) (by omega), hf' (m + 1) (by omega) (by omega), y1, x1], Y, L ++ [l], (by simp only [At]; try simp (maxSteps := 500000) (disch := omega) only [go_sem, jjA, jjB, jjC, jjD, jjE, jjF, jjG, jjH, jjI, jjJ, ↓reduceIte, reduceCtorEq, wrap_id, w_ite_ne, w_ite_lt, jjK, jjL]), by simp [hL], fun z hz => ?_, ?_, fun i hi => Nat.le_of_not_lt fun hh => hi (kY.2.2 i (by simp only; omega) (oX i hh))⟩
    · rcases List.mem_append.1 hz with hz | hz
      · exact hLb z hz
      · rw [List.mem_singleton] at hz; subst hz; omega
    · rw [← lls_snoc]
      exact hY.tr
  obtain rfl : k = b.ps.length := by omega
  clear hge hk hki hd hd2
  rcases hX with ⟨_, h0⟩ | ⟨xi, gx, rfl, hxi, hoX⟩
  · have : L.length = 0 := by rw [← lls_len, h0]; rfl
    omega
  have hxi2 := hXn xi fun h => h _ _ _ _ rfl
  simp only at hxi hoX
  clear hXn
  try simp (maxSteps := 500000) (disch := omega) only [go_sem, jjA, jjB, jjC, jjD, jjE, jjF, jjG, jjH, jjI, jjJ, ↓reduceIte, reduceCtorEq, wrap_id, w_ite_ne, w_ite_lt, jjK, jjL, y0, y1]
  have y0' := y0
  clear y0 x0 x1
  refine awp_upG [10, 23, 25, 26, 27, 28, 29, 31, 32, 33, 34, 35, 36, 37, 38, 39, 40, 41, 43, 44, 45, 46, 47, 136, 137, 138, 139, 140, 141, 142, 143, 144, 145, 146, 147, 148, 149, 150, 151, 152, 153, 154, 155, 156, 157, 158, 159, 160, 161, 162, 163, 164, 165, 166, 167, 168, 169, 170, 171, 172, 173, 174, 175, 176, 177, 178, 179, 180, 181, 182, 183, 184, 185, 186, 187, 188, 189, 190, 191, 192, 193, 194, 195, 196, 197, 198, 199, 200, 201, 202, 203, 204, 205, 206, 207, 208, 209, 210, 211, 212, 213, 214, 215, 216, 217, 218, 219, 220, 221, 222, 223, 224, 225, 226, 227, 228, 229, 230, 231, 232, 233, 234, 235, 236, 237, 238, 239, 240, 241, 242, 243, 244, 245, 246, 247, 248, 249, 250, 251, 252, 253, 254, 255, 256, 257, 258, 259, 260, 261, 262, 263, 264, 265, 266, 267, 268, 269, 270, 271, 272, 273, 274] (by kernel_rfl) 2 (fun k e σ => e 136 = .int .i64 k ∧ m3 ≤ σ.n ∧ σ.ob (m + 1) = some ⟨c1, 3, 31, false, true, [.agg [.list 4 (wts b.ps), .list 1 (lls b.pa), .list 4 (wns b.ac)]]⟩ ∧ ∃ ro, σ.ob xi = some ⟨gx, 1, 22, ro, true, lls L⟩) ?_ ?_
  · exact ⟨(by first | ((try simp (maxSteps := 1000000) only [go_sem, jjA, jjB, jjC, jjD, jjE, jjF, jjG, jjH, jjI, jjJ, ↓reduceIte, reduceCtorEq, w_app_nl]); done) | ((try simp (maxSteps := 1000000) only [go_sem, jjA, jjB, jjC, jjD, jjE, jjF, jjG, jjH, jjI, jjJ, ↓reduceIte, reduceCtorEq, w_app_nl]); rfl) | ((try simp (maxSteps := 1000000) (disch := omega) only [go_sem, jjA, jjB, jjC, jjD, jjE, jjF, jjG, jjH, jjI, jjJ, ↓reduceIte, reduceCtorEq, w_app_nl, wrap_id, w_ite_ne, w_ite_lt]); rfl) | (simp (maxSteps := 1000000) (disch := omega) only [go_sem, jjA, jjB, jjC, jjD, jjE, jjF, jjG, jjH, jjI, jjJ, ↓reduceIte, reduceCtorEq, w_app_nl, wrap_id, w_ite_ne, w_ite_lt]; done)), Nat.le_refl _, y1, false, hoX⟩
  clear y1 hoX
  rintro k fe ob q c5 hk hq ⟨hki, hq1, y1, ro, hoX⟩
  simp (maxSteps := 1000000) only [go_sem, jjA, jjB, jjC, jjD, jjE, jjF, jjG, jjH, jjI, jjJ, ↓reduceIte, reduceCtorEq, w_app_nl] at hki hq hq1 y1 hoX
  try simp (maxSteps := 500000) (disch := omega) only [go_sem, jjA, jjB, jjC, jjD, jjE, jjF, jjG, jjH, jjI, jjJ, ↓reduceIte, reduceCtorEq, wrap_id, w_ite_ne, w_ite_lt, jjK, jjL, hki]
  refine cond_d (fun hlt2 => ?_) (fun hge => ?_)
  · have hkl : k < 2 := by omega
    obtain ⟨x, hx1, hgk⟩ : ∃ x : Bo, BoL x ∧ ([.agg [.list 4 (wts raw.ps), .list 1 (lls raw.pa), .list 4 (wns raw.ac)], .agg [.list 4 (wts b.ps), .list 1 (lls b.pa), .list 4 (wns b.ac)]] : List AV)[k]? = some (.agg [.list 4 (wts x.ps), .list 1 (lls x.pa), .list 4 (wns x.ac)]) := by
      rcases (show k = 0 ∨ k = 1 by omega) with rfl | rfl
      · exact ⟨raw, hr, rfl⟩
      · exact ⟨b, hV.sz, rfl⟩
    have e1 := ok_warning_Check x hx1
    have e2 := ok_ref36_Check x hx1
    have e3 := ok_warning_Same x b hx1
    have e4 := ok_ref36_Same x b hx1
    simp only [bov] at e1 e2 e3 e4
    have z3 : ¬ q = m + 1 := by omega
    have z4 : ¬ m + 1 = q := by omega
    have z5 : ¬ xi = q := by omega
    try simp (maxSteps := 500000) (disch := omega) only [go_sem, jjA, jjB, jjC, jjD, jjE, jjF, jjG, jjH, jjI, jjJ, ↓reduceIte, reduceCtorEq, wrap_id, w_ite_ne, w_ite_lt, jjK, jjL, hki, hgk, y1, z3, z4, z5]
    refine ⟨by omega, by omega, ?_⟩
    refine call_pc e1 (by simp [go_sem, wts_pur, lls_pur, wns_pur]) ?_
    try simp (maxSteps := 500000) (disch := omega) only [go_sem, jjA, jjB, jjC, jjD, jjE, jjF, jjG, jjH, jjI, jjJ, ↓reduceIte, reduceCtorEq, wrap_id, w_ite_ne, w_ite_lt, jjK, jjL, y1, z3, z4]
    refine call_pc e2 (by simp [go_sem, wts_pur, lls_pur, wns_pur]) ?_
    try simp (maxSteps := 500000) (disch := omega) only [go_sem, jjA, jjB, jjC, jjD, jjE, jjF, jjG, jjH, jjI, jjJ, ↓reduceIte, reduceCtorEq, wrap_id, w_ite_ne, w_ite_lt, jjK, jjL, y1, z3, z4]
    refine call_pc e3 (by simp [go_sem, wts_pur, lls_pur, wns_pur]) ?_
    try simp (maxSteps := 500000) (disch := omega) only [go_sem, jjA, jjB, jjC, jjD, jjE, jjF, jjG, jjH, jjI, jjJ, ↓reduceIte, reduceCtorEq, wrap_id, w_ite_ne, w_ite_lt, jjK, jjL, y1, z3, z4]
    refine call_pc e4 (by simp [go_sem, wts_pur, lls_pur, wns_pur]) ?_
    try simp (maxSteps := 500000) (disch := omega) only [go_sem, jjA, jjB, jjC, jjD, jjE, jjF, jjG, jjH, jjI, jjJ, ↓reduceIte, reduceCtorEq, wrap_id, w_ite_ne, w_ite_lt, jjK, jjL, y1, z3, z4, h21]
    have z6 : ¬ xi = q + 1 := by omega
    have z7 : ¬ m + 1 = q + 1 := by omega
    have z8 : ¬ q = q + 1 := by omega
    refine awp_upG [10, 25, 26, 27, 28, 29, 158, 159, 160, 161, 162, 163, 164, 165, 166, 167, 168, 169, 170, 171, 172, 173, 174, 175, 176, 177, 178, 179, 180, 181, 182, 183] (by kernel_rfl) 2 (fun j e σ => e 158 = .int .i64 j ∧ q + 2 ≤ σ.n ∧ σ.ob (m + 1) = some ⟨c1, 3, 31, false, true, [.agg [.list 4 (wts b.ps), .list 1 (lls b.pa), .list 4 (wns b.ac)]]⟩ ∧ σ.ob q = some ⟨c5, 3, 31, false, true, [.agg [.list 4 (wts x.ps), .list 1 (lls x.pa), .list 4 (wns x.ac)]]⟩ ∧ σ.ob (q + 1) = some ⟨c5 + 1, 1, 28, false, true, [.list 1 (lls next), .sl xi gx 1 0 (lls L).length]⟩ ∧ ∃ ro, σ.ob xi = some ⟨gx, 1, 22, ro, true, lls L⟩) ?_ ?_
    · refine ⟨(by first | ((try simp (maxSteps := 1000000) only [go_sem, jjA, jjB, jjC, jjD, jjE, jjF, jjG, jjH, jjI, jjJ, ↓reduceIte, reduceCtorEq, w_app_nl]); done) | ((try simp (maxSteps := 1000000) only [go_sem, jjA, jjB, jjC, jjD, jjE, jjF, jjG, jjH, jjI, jjJ, ↓reduceIte, reduceCtorEq, w_app_nl]); rfl) | ((try simp (maxSteps := 1000000) (disch := omega) only [go_sem, jjA, jjB, jjC, jjD, jjE, jjF, jjG, jjH, jjI, jjJ, ↓reduceIte, reduceCtorEq, w_app_nl, wrap_id, w_ite_ne, w_ite_lt]); rfl) | (simp (maxSteps := 1000000) (disch := omega) only [go_sem, jjA, jjB, jjC, jjD, jjE, jjF, jjG, jjH, jjI, jjJ, ↓reduceIte, reduceCtorEq, w_app_nl, wrap_id, w_ite_ne, w_ite_lt]; done)), Nat.le_refl _, ?_, ?_, ?_, ro, ?_⟩ <;> try simp (maxSteps := 500000) (disch := omega) only [go_sem, jjA, jjB, jjC, jjD, jjE, jjF, jjG, jjH, jjI, jjJ, ↓reduceIte, reduceCtorEq, wrap_id, w_ite_ne, w_ite_lt, jjK, jjL, z3, z4, z5, z6, z7, z8]
      · exact y1
      · exact hoX
    rintro j fe3 ob3 q3 c6 hj hq3 ⟨hji, hq4, v1, v2, v3, ro3, v4⟩
    simp (maxSteps := 1000000) only [go_sem, jjA, jjB, jjC, jjD, jjE, jjF, jjG, jjH, jjI, jjJ, ↓reduceIte, reduceCtorEq, w_app_nl] at hji hq3 hq4 v1 v2 v3 v4
    try simp (maxSteps := 500000) (disch := omega) only [go_sem, jjA, jjB, jjC, jjD, jjE, jjF, jjG, jjH, jjI, jjJ, ↓reduceIte, reduceCtorEq, wrap_id, w_ite_ne, w_ite_lt, jjK, jjL, hji]
    refine cond_d (fun hlt3 => ?_) (fun hge3 => ?_)
    · have hjl : j < 2 := by omega
      obtain ⟨V, N, hgV, hN, hNs, hf, hc, ho1, hPub⟩ : ∃ (V : AV) (N : List (List Int)), ([.list 1 (lls next), .sl xi gx 1 0 (lls L).length] : List AV)[j]? = some V ∧ N.length ≤ 9223372036854775807 ∧ (∀ l ∈ N, l.length ≤ 9223372036854775807) ∧ V.flat = true ∧ V.cells = [V] ∧ V.one = true ∧
          ∀ (σ : St) ro, σ.ob xi = some ⟨gx, 1, 22, ro, true, lls L⟩ → Pub σ V (.list 1 (lls N)) := by
        rcases (show j = 0 ∨ j = 1 by omega) with rfl | rfl
        · exact ⟨_, next, rfl, hx, hxs, rfl, rfl, rfl, fun σ ro h => Pub.e (by simp [go_sem, lls_pur])⟩
        · exact ⟨_, L, rfl, by omega, fun l hl => by have := hLb l hl; omega, rfl, rfl, rfl, fun σ ro h => Pub.of_sl h rfl (lls_pur _) (lls_ok _)⟩
      have a1 := ok_warning_Ahead x N hx1 hN hNs
      have a2 := ok_ref36_Ahead x N hx1 hN hNs
      have hal := ahd_len x N hx1
      rw [ahdV] at a1 a2
      simp only [bov] at a1 a2
      try simp (maxSteps := 500000) (disch := omega) only [go_sem, jjA, jjB, jjC, jjD, jjE, jjF, jjG, jjH, jjI, jjJ, ↓reduceIte, reduceCtorEq, wrap_id, w_ite_ne, w_ite_lt, jjK, jjL, hji, v3, hgV, hf, hc, ho1, v2]
      refine ⟨by omega, by omega, ?_⟩
      have hpx : (AV.agg [.list 4 (wts x.ps), .list 1 (lls x.pa), .list 4 (wns x.ac)]).pur = true := by simp [go_sem, wts_pur, lls_pur, wns_pur]
      have hpar : ∀ a ∈ [AV.agg [.list 4 (wts x.ps), .list 1 (lls x.pa), .list 4 (wns x.ac)], .list 1 (lls N)], a.pur = true := by simp [go_sem, wts_pur, lls_pur, wns_pur]
      refine call_rod xi _ v4 a1 (.cons (.pure hpx) (.cons (hPub _ _ (by simp only; rw [if_neg (by simp)]; exact v4)) .nil)) hpar fun ob4 hne4 hxi4 => ?_
      simp only at hne4 hxi4
      have t2 := (hne4 q (fun e => z5 e.symm)).trans v2
      try simp (maxSteps := 500000) (disch := omega) only [go_sem, jjA, jjB, jjC, jjD, jjE, jjF, jjG, jjH, jjI, jjJ, ↓reduceIte, reduceCtorEq, wrap_id, w_ite_ne, w_ite_lt, jjK, jjL, t2]
      refine call_rod xi _ hxi4 a2 (.cons (.pure hpx) (.cons (hPub _ _ (by simp only; rw [if_neg (by simp)]; exact hxi4)) .nil)) hpar fun ob5 hne5 hxi5 => ?_
      simp only at hne5 hxi5
      have hsm : ∀ i, i ≠ xi → ob5 i = ob3 i := fun i hi => (hne5 i hi).trans (hne4 i hi)
      try simp (maxSteps := 500000) (disch := omega) only [go_sem, jjA, jjB, jjC, jjD, jjE, jjF, jjG, jjH, jjI, jjJ, ↓reduceIte, reduceCtorEq, wrap_id, w_ite_ne, w_ite_lt, jjK, jjL]
      refine call_pc (ok_law36_ints _ _ hal) (by simp [go_sem, ints_pur]) ?_
      try simp (maxSteps := 500000) (disch := omega) only [go_sem, jjA, jjB, jjC, jjD, jjE, jjF, jjG, jjH, jjI, jjJ, ↓reduceIte, reduceCtorEq, wrap_id, w_ite_ne, w_ite_lt, jjK, jjL, hji, decide_true, Bool.not_true]
      refine up_nextG q3 hjl (by omega) ⟨(by first | ((try simp (maxSteps := 1000000) only [go_sem, jjA, jjB, jjC, jjD, jjE, jjF, jjG, jjH, jjI, jjJ, ↓reduceIte, reduceCtorEq, w_app_nl]); done) | ((try simp (maxSteps := 1000000) only [go_sem, jjA, jjB, jjC, jjD, jjE, jjF, jjG, jjH, jjI, jjJ, ↓reduceIte, reduceCtorEq, w_app_nl]); rfl) | ((try simp (maxSteps := 1000000) (disch := omega) only [go_sem, jjA, jjB, jjC, jjD, jjE, jjF, jjG, jjH, jjI, jjJ, ↓reduceIte, reduceCtorEq, w_app_nl, wrap_id, w_ite_ne, w_ite_lt]); rfl) | (simp (maxSteps := 1000000) (disch := omega) only [go_sem, jjA, jjB, jjC, jjD, jjE, jjF, jjG, jjH, jjI, jjJ, ↓reduceIte, reduceCtorEq, w_app_nl, wrap_id, w_ite_ne, w_ite_lt]; done)), by simp only [St.trunc]; omega, ?_, ?_, ?_, true, ?_⟩
      · rw [tr_ob (by omega), hsm _ (by omega)]; exact v1
      · rw [tr_ob (by omega), hsm _ (by omega)]; exact v2
      · rw [tr_ob (by omega), hsm _ (by omega)]; exact v3
      · rw [tr_ob (by omega), hxi5]
    clear hge3 hji hj v3 z6 z7 z8 y1 hoX ro
    have a3 := fun N hN => ok_warning_See x N hx1 hN
    have a4 := fun N hN => ok_ref36_See x N hx1 hN
    have a5 := ok_warning_Open x.ps hx1.p
    have a6 := ok_ref36_Open x.ps hx1.p
    have a7 := fun n => ok_warning_Active x n hx1
    have a8 := fun n => ok_ref36_Active x n hx1
    simp only [seeV, bov] at a3 a4
    simp only [openV, bov] at a5 a6
    simp only [actV, bov] at a7 a8
    try simp (maxSteps := 500000) (disch := omega) only [go_sem, jjA, jjB, jjC, jjD, jjE, jjF, jjG, jjH, jjI, jjJ, ↓reduceIte, reduceCtorEq, wrap_id, w_ite_ne, w_ite_lt, jjK, jjL]
    refine awp_upG [10, 31, 32, 33, 34, 35, 36, 37, 188, 189, 190, 191, 192, 193, 194, 195, 196, 197, 198, 199, 200, 201, 202, 203, 204, 205, 206, 207, 208, 209, 210, 211, 212, 213, 214, 215, 216, 217, 218, 219, 220, 221] (by kernel_rfl) 2 (fun j e σ => e 188 = .int .i64 j ∧ q + 2 ≤ σ.n ∧ σ.ob (m + 1) = some ⟨c1, 3, 31, false, true, [.agg [.list 4 (wts b.ps), .list 1 (lls b.pa), .list 4 (wns b.ac)]]⟩ ∧ σ.ob q = some ⟨c5, 3, 31, false, true, [.agg [.list 4 (wts x.ps), .list 1 (lls x.pa), .list 4 (wns x.ac)]]⟩ ∧ ∃ ro, σ.ob xi = some ⟨gx, 1, 22, ro, true, lls L⟩) ?_ ?_
    · exact ⟨(by first | ((try simp (maxSteps := 1000000) only [go_sem, jjA, jjB, jjC, jjD, jjE, jjF, jjG, jjH, jjI, jjJ, ↓reduceIte, reduceCtorEq, w_app_nl]); done) | ((try simp (maxSteps := 1000000) only [go_sem, jjA, jjB, jjC, jjD, jjE, jjF, jjG, jjH, jjI, jjJ, ↓reduceIte, reduceCtorEq, w_app_nl]); rfl) | ((try simp (maxSteps := 1000000) (disch := omega) only [go_sem, jjA, jjB, jjC, jjD, jjE, jjF, jjG, jjH, jjI, jjJ, ↓reduceIte, reduceCtorEq, w_app_nl, wrap_id, w_ite_ne, w_ite_lt]); rfl) | (simp (maxSteps := 1000000) (disch := omega) only [go_sem, jjA, jjB, jjC, jjD, jjE, jjF, jjG, jjH, jjI, jjJ, ↓reduceIte, reduceCtorEq, w_app_nl, wrap_id, w_ite_ne, w_ite_lt]; done)), by simp only; omega, v1, v2, ro3, v4⟩
    clear v1 v2 v4 ro3 hq3 hq4
    rintro j fe3 ob3 q3 c6 hj hq3 ⟨hji, hq4, v1, v2, ro3, v4⟩
    simp (maxSteps := 1000000) only [go_sem, jjA, jjB, jjC, jjD, jjE, jjF, jjG, jjH, jjI, jjJ, ↓reduceIte, reduceCtorEq, w_app_nl] at hji hq3 hq4 v1 v2 v4
    try simp (maxSteps := 500000) (disch := omega) only [go_sem, jjA, jjB, jjC, jjD, jjE, jjF, jjG, jjH, jjI, jjJ, ↓reduceIte, reduceCtorEq, wrap_id, w_ite_ne, w_ite_lt, jjK, jjL, hji]
    refine cond_d (fun hlt3 => ?_) (fun hge3 => ?_)
    · have hjl : j < 2 := by omega
      obtain ⟨N, hgV, hN⟩ : ∃ (N : List Int), ([.list 1 (ints now), .list 1 (ints made)] : List AV)[j]? = some (.list 1 (ints N)) ∧ N.length ≤ 9223372036854775807 := by
        rcases (show j = 0 ∨ j = 1 by omega) with rfl | rfl
        · exact ⟨now, rfl, hw⟩
        · exact ⟨made, rfl, by omega⟩
      have b3 := see_len x N hx1
      have b4 := ok_ref36_Same (seeR x N).1 (seeR x N).1 (see_sz x N hx1)
      simp only [bov] at b4
      have z9 : ¬ q = q3 := by omega
      have z10 : ¬ q3 = q3 + 1 := by omega
      try simp (maxSteps := 500000) (disch := omega) only [go_sem, jjA, jjB, jjC, jjD, jjE, jjF, jjG, jjH, jjI, jjJ, ↓reduceIte, reduceCtorEq, wrap_id, w_ite_ne, w_ite_lt, jjK, jjL, hji, hgV, v2]
      refine ⟨by omega, by omega, ?_⟩
      refine call_pc (a3 N hN) (by simp [go_sem, wts_pur, lls_pur, wns_pur, ints_pur]) ?_
      try simp (maxSteps := 500000) (disch := omega) only [go_sem, jjA, jjB, jjC, jjD, jjE, jjF, jjG, jjH, jjI, jjJ, ↓reduceIte, reduceCtorEq, wrap_id, w_ite_ne, w_ite_lt, jjK, jjL, v2, z9]
      refine call_pc (a4 N hN) (by simp [go_sem, wts_pur, lls_pur, wns_pur, ints_pur]) ?_
      try simp (maxSteps := 500000) (disch := omega) only [go_sem, jjA, jjB, jjC, jjD, jjE, jjF, jjG, jjH, jjI, jjJ, ↓reduceIte, reduceCtorEq, wrap_id, w_ite_ne, w_ite_lt, jjK, jjL]
      refine call_pc (ok_law36_ints _ _ b3) (by simp [go_sem, ints_pur]) ?_
      try simp (maxSteps := 500000) (disch := omega) only [go_sem, jjA, jjB, jjC, jjD, jjE, jjF, jjG, jjH, jjI, jjJ, ↓reduceIte, reduceCtorEq, wrap_id, w_ite_ne, w_ite_lt, jjK, jjL, decide_true, Bool.not_true, z10]
      refine call_pc b4 (by simp [go_sem, wts_pur, lls_pur, wns_pur]) ?_
      try simp (maxSteps := 500000) (disch := omega) only [go_sem, jjA, jjB, jjC, jjD, jjE, jjF, jjG, jjH, jjI, jjJ, ↓reduceIte, reduceCtorEq, wrap_id, w_ite_ne, w_ite_lt, jjK, jjL, hji, decide_true, Bool.not_true]
      refine up_nextG (q3 + 1 + 1) hjl (by omega) ⟨(by first | ((try simp (maxSteps := 1000000) only [go_sem, jjA, jjB, jjC, jjD, jjE, jjF, jjG, jjH, jjI, jjJ, ↓reduceIte, reduceCtorEq, w_app_nl]); done) | ((try simp (maxSteps := 1000000) only [go_sem, jjA, jjB, jjC, jjD, jjE, jjF, jjG, jjH, jjI, jjJ, ↓reduceIte, reduceCtorEq, w_app_nl]); rfl) | ((try simp (maxSteps := 1000000) (disch := omega) only [go_sem, jjA, jjB, jjC, jjD, jjE, jjF, jjG, jjH, jjI, jjJ, ↓reduceIte, reduceCtorEq, w_app_nl, wrap_id, w_ite_ne, w_ite_lt]); rfl) | (simp (maxSteps := 1000000) (disch := omega) only [go_sem, jjA, jjB, jjC, jjD, jjE, jjF, jjG, jjH, jjI, jjJ, ↓reduceIte, reduceCtorEq, w_app_nl, wrap_id, w_ite_ne, w_ite_lt]; done)), by simp only [St.trunc]; omega, ?_, ?_, ro3, ?_⟩
      · rw [tr_ob (by omega), upd_ne _ _ _ _ (by omega), upd_ne _ _ _ _ (by omega), upd_ne _ _ _ _ (by omega), upd_ne _ _ _ _ (by omega)]; exact v1
      · rw [tr_ob (by omega), upd_ne _ _ _ _ (by omega), upd_ne _ _ _ _ (by omega), upd_ne _ _ _ _ (by omega), upd_ne _ _ _ _ (by omega)]; exact v2
      · rw [tr_ob (by omega), upd_ne _ _ _ _ (by omega), upd_ne _ _ _ _ (by omega), upd_ne _ _ _ _ (by omega), upd_ne _ _ _ _ (by omega)]; exact v4
    clear hge3 hji hj
    have b5 := ok_ref36_Same (openR x.ps) (openR x.ps) (open_sz x.ps)
    simp only [bov] at b5
    have z9 : ¬ q = q3 := by omega
    have z10 : ¬ q3 = q3 + 1 := by omega
    try simp (maxSteps := 500000) (disch := omega) only [go_sem, jjA, jjB, jjC, jjD, jjE, jjF, jjG, jjH, jjI, jjJ, ↓reduceIte, reduceCtorEq, wrap_id, w_ite_ne, w_ite_lt, jjK, jjL, v2]
    refine call_pc a5 (by simp [go_sem, wts_pur]) ?_
    try simp (maxSteps := 500000) (disch := omega) only [go_sem, jjA, jjB, jjC, jjD, jjE, jjF, jjG, jjH, jjI, jjJ, ↓reduceIte, reduceCtorEq, wrap_id, w_ite_ne, w_ite_lt, jjK, jjL, v2, z9]
    refine call_pc a6 (by simp [go_sem, wts_pur]) ?_
    try simp (maxSteps := 500000) (disch := omega) only [go_sem, jjA, jjB, jjC, jjD, jjE, jjF, jjG, jjH, jjI, jjJ, ↓reduceIte, reduceCtorEq, wrap_id, w_ite_ne, w_ite_lt, jjK, jjL, z10]
    refine call_pc b5 (by simp [go_sem, wts_pur, lls_pur, wns_pur]) ?_
    try simp (maxSteps := 500000) (disch := omega) only [go_sem, jjA, jjB, jjC, jjD, jjE, jjF, jjG, jjH, jjI, jjJ, ↓reduceIte, reduceCtorEq, wrap_id, w_ite_ne, w_ite_lt, jjK, jjL, decide_true, Bool.not_true]
    refine call_pc (ok_mk_Mod point 3 (by omega) (by omega)) (by simp [go_sem]) ?_
    try simp (maxSteps := 500000) (disch := omega) only [go_sem, jjA, jjB, jjC, jjD, jjE, jjF, jjG, jjH, jjI, jjJ, ↓reduceIte, reduceCtorEq, wrap_id, w_ite_ne, w_ite_lt, jjK, jjL]
    refine awp_upG [10, 43, 44, 45, 46, 47, 248, 249, 250, 251, 252, 253, 254, 255, 256, 257, 258, 259, 260, 261, 262, 263, 264, 265, 266, 267, 268, 269, 270, 271, 272, 273] (by kernel_rfl) 2 (fun j e σ => e 248 = .int .i64 j ∧ q3 + 2 ≤ σ.n ∧ σ.ob (m + 1) = some ⟨c1, 3, 31, false, true, [.agg [.list 4 (wts b.ps), .list 1 (lls b.pa), .list 4 (wns b.ac)]]⟩ ∧ σ.ob q = some ⟨c5, 3, 31, false, true, [.agg [.list 4 (wts x.ps), .list 1 (lls x.pa), .list 4 (wns x.ac)]]⟩ ∧ ∃ ro, σ.ob xi = some ⟨gx, 1, 22, ro, true, lls L⟩) ?_ ?_
    · refine ⟨(by first | ((try simp (maxSteps := 1000000) only [go_sem, jjA, jjB, jjC, jjD, jjE, jjF, jjG, jjH, jjI, jjJ, ↓reduceIte, reduceCtorEq, w_app_nl]); done) | ((try simp (maxSteps := 1000000) only [go_sem, jjA, jjB, jjC, jjD, jjE, jjF, jjG, jjH, jjI, jjJ, ↓reduceIte, reduceCtorEq, w_app_nl]); rfl) | ((try simp (maxSteps := 1000000) (disch := omega) only [go_sem, jjA, jjB, jjC, jjD, jjE, jjF, jjG, jjH, jjI, jjJ, ↓reduceIte, reduceCtorEq, w_app_nl, wrap_id, w_ite_ne, w_ite_lt]); rfl) | (simp (maxSteps := 1000000) (disch := omega) only [go_sem, jjA, jjB, jjC, jjD, jjE, jjF, jjG, jjH, jjI, jjJ, ↓reduceIte, reduceCtorEq, w_app_nl, wrap_id, w_ite_ne, w_ite_lt]; done)), by simp only; omega, ?_, ?_, ro3, ?_⟩
      · simp only; rw [upd_ne _ _ _ _ (by omega), upd_ne _ _ _ _ (by omega), upd_ne _ _ _ _ (by omega), upd_ne _ _ _ _ (by omega)]; exact v1
      · simp only; rw [upd_ne _ _ _ _ (by omega), upd_ne _ _ _ _ (by omega), upd_ne _ _ _ _ (by omega), upd_ne _ _ _ _ (by omega)]; exact v2
      · simp only; rw [upd_ne _ _ _ _ (by omega), upd_ne _ _ _ _ (by omega), upd_ne _ _ _ _ (by omega), upd_ne _ _ _ _ (by omega)]; exact v4
    clear v1 v2 v4 ro3 z9 z10
    rintro j fe4 ob4 q4 c7 hj hq5 ⟨hji, hq6, v1, v2, ro3, v4⟩
    simp (maxSteps := 1000000) only [go_sem, jjA, jjB, jjC, jjD, jjE, jjF, jjG, jjH, jjI, jjJ, ↓reduceIte, reduceCtorEq, w_app_nl] at hji hq5 hq6 v1 v2 v4
    try simp (maxSteps := 500000) (disch := omega) only [go_sem, jjA, jjB, jjC, jjD, jjE, jjF, jjG, jjH, jjI, jjJ, ↓reduceIte, reduceCtorEq, wrap_id, w_ite_ne, w_ite_lt, jjK, jjL, hji]
    refine cond_d (fun hlt3 => ?_) (fun hge3 => ?_)
    · have hjl : j < 2 := by omega
      obtain ⟨n, hgV⟩ : ∃ n : Int, ([.int .i64 point, .int .i64 (point % 3)] : List AV)[j]? = some (.int .i64 n) := by
        rcases (show j = 0 ∨ j = 1 by omega) with rfl | rfl <;> exact ⟨_, rfl⟩
      have z9 : ¬ q = q4 := by omega
      have z10 : ¬ q4 = q4 + 1 := by omega
      have b6 := ok_ref36_SameWarning ((actO x n).getD wnZ) ((actO x n).getD wnZ) (act_len x n hx1)
      have b7 : sameW ((actO x n).getD wnZ) ((actO x n).getD wnZ) = true := sameW_iff.2 rfl
      have c7 := a7 n
      have c8 := a8 n
      generalize (actO x n).getD wnZ = w at *
      generalize (actO x n).isSome = bb at *
      simp only [wnv] at c7 c8 b6
      try simp (maxSteps := 500000) (disch := omega) only [go_sem, jjA, jjB, jjC, jjD, jjE, jjF, jjG, jjH, jjI, jjJ, ↓reduceIte, reduceCtorEq, wrap_id, w_ite_ne, w_ite_lt, jjK, jjL, hji, hgV, v2]
      refine ⟨by omega, by omega, ?_⟩
      refine call_pc c7 (by simp [go_sem, wts_pur, lls_pur, wns_pur]) ?_
      try simp (maxSteps := 500000) (disch := omega) only [go_sem, jjA, jjB, jjC, jjD, jjE, jjF, jjG, jjH, jjI, jjJ, ↓reduceIte, reduceCtorEq, wrap_id, w_ite_ne, w_ite_lt, jjK, jjL, v2, z9]
      refine call_pc c8 (by simp [go_sem, wts_pur, lls_pur, wns_pur]) ?_
      try simp (maxSteps := 500000) (disch := omega) only [go_sem, jjA, jjB, jjC, jjD, jjE, jjF, jjG, jjH, jjI, jjJ, ↓reduceIte, reduceCtorEq, wrap_id, w_ite_ne, w_ite_lt, jjK, jjL, z10]
      refine call_pc b6 (by simp [go_sem, css_pur]) ?_
      rw [b7]
      try simp (maxSteps := 500000) (disch := omega) only [go_sem, jjA, jjB, jjC, jjD, jjE, jjF, jjG, jjH, jjI, jjJ, ↓reduceIte, reduceCtorEq, wrap_id, w_ite_ne, w_ite_lt, jjK, jjL, hji]
      refine up_nextG (q4 + 1 + 1) hjl (by omega) ⟨(by first | ((try simp (maxSteps := 1000000) only [go_sem, jjA, jjB, jjC, jjD, jjE, jjF, jjG, jjH, jjI, jjJ, ↓reduceIte, reduceCtorEq, w_app_nl]); done) | ((try simp (maxSteps := 1000000) only [go_sem, jjA, jjB, jjC, jjD, jjE, jjF, jjG, jjH, jjI, jjJ, ↓reduceIte, reduceCtorEq, w_app_nl]); rfl) | ((try simp (maxSteps := 1000000) (disch := omega) only [go_sem, jjA, jjB, jjC, jjD, jjE, jjF, jjG, jjH, jjI, jjJ, ↓reduceIte, reduceCtorEq, w_app_nl, wrap_id, w_ite_ne, w_ite_lt]); rfl) | (simp (maxSteps := 1000000) (disch := omega) only [go_sem, jjA, jjB, jjC, jjD, jjE, jjF, jjG, jjH, jjI, jjJ, ↓reduceIte, reduceCtorEq, w_app_nl, wrap_id, w_ite_ne, w_ite_lt]; done)), by simp only [St.trunc]; omega, ?_, ?_, ro3, ?_⟩
      · rw [tr_ob (by omega), upd_ne _ _ _ _ (by omega), upd_ne _ _ _ _ (by omega), upd_ne _ _ _ _ (by omega), upd_ne _ _ _ _ (by omega)]; exact v1
      · rw [tr_ob (by omega), upd_ne _ _ _ _ (by omega), upd_ne _ _ _ _ (by omega), upd_ne _ _ _ _ (by omega), upd_ne _ _ _ _ (by omega)]; exact v2
      · rw [tr_ob (by omega), upd_ne _ _ _ _ (by omega), upd_ne _ _ _ _ (by omega), upd_ne _ _ _ _ (by omega), upd_ne _ _ _ _ (by omega)]; exact v4
    try simp (maxSteps := 500000) (disch := omega) only [go_sem, jjA, jjB, jjC, jjD, jjE, jjF, jjG, jjH, jjI, jjJ, ↓reduceIte, reduceCtorEq, wrap_id, w_ite_ne, w_ite_lt, jjK, jjL, hki]
    refine up_nextG q4 hkl (by omega) ⟨(by first | ((try simp (maxSteps := 1000000) only [go_sem, jjA, jjB, jjC, jjD, jjE, jjF, jjG, jjH, jjI, jjJ, ↓reduceIte, reduceCtorEq, w_app_nl]); done) | ((try simp (maxSteps := 1000000) only [go_sem, jjA, jjB, jjC, jjD, jjE, jjF, jjG, jjH, jjI, jjJ, ↓reduceIte, reduceCtorEq, w_app_nl]); rfl) | ((try simp (maxSteps := 1000000) (disch := omega) only [go_sem, jjA, jjB, jjC, jjD, jjE, jjF, jjG, jjH, jjI, jjJ, ↓reduceIte, reduceCtorEq, w_app_nl, wrap_id, w_ite_ne, w_ite_lt]); rfl) | (simp (maxSteps := 1000000) (disch := omega) only [go_sem, jjA, jjB, jjC, jjD, jjE, jjF, jjG, jjH, jjI, jjJ, ↓reduceIte, reduceCtorEq, w_app_nl, wrap_id, w_ite_ne, w_ite_lt]; done)), by simp only [St.trunc]; omega, by rw [tr_ob (by omega)]; exact v1, ro3, by rw [tr_ob (by omega)]; exact v4⟩
  try simp (maxSteps := 500000) (disch := omega) only [go_sem, jjA, jjB, jjC, jjD, jjE, jjF, jjG, jjH, jjI, jjJ, ↓reduceIte, reduceCtorEq, wrap_id, w_ite_ne, w_ite_lt, jjK, jjL]
  exact Pub.pure rfl
/-! arguments by shape: boards, causes, lists of lists -/
abbrev shI : Sh := .int .i64
abbrev shWt : Sh := .struct (.fc shI (.fc shI (.fc shI (.fc shI .f0))))
abbrev shCs : Sh := .struct (.fc shI (.fc shI .f0))
abbrev shWn : Sh := .struct (.fc shI (.fc shI (.fc (.slice 2 shCs) (.fc shI .f0))))
abbrev shLls : Sh := .slice 1 (.slice 1 shI)
abbrev shBo : Sh := .struct (.fc (.slice 4 shWt) (.fc shLls (.fc (.slice 4 shWn) .f0)))
theorem shCsR {c : List AV} (h : shCs.R c) : ∃ b : Cs, shCs.mk1 c = csv b := by
  obtain ⟨x, y, rfl, ⟨a, rfl, _⟩, z, w, rfl, ⟨b, rfl, _⟩, rfl⟩ := h
  exact ⟨⟨a, b⟩, rfl⟩
theorem shCssR {c : List AV} (h : (Sh.slice 2 shCs).R c) : ∃ L : List Cs, c = [.list 2 (css L)] ∧ L.length ≤ 9223372036854775807 := by
  obtain ⟨xs, rfl, hl, h⟩ := h
  obtain ⟨L, rfl, hL⟩ := exists_map (f := csv) (Q := fun _ => True) fun x hx => by
    obtain ⟨cs, hr, _, rfl⟩ := h x hx
    obtain ⟨b, hb⟩ := shCsR hr
    exact ⟨b, trivial, hb⟩
  exact ⟨L, rfl, by simpa using hl⟩
theorem shWtR {c : List AV} (h : shWt.R c) : ∃ b : Wt, shWt.mk1 c = wtv b := by
  obtain ⟨x1, y1, rfl, ⟨a, rfl, _⟩, x2, y2, rfl, ⟨b, rfl, _⟩, x3, y3, rfl, ⟨d, rfl, _⟩, x4, y4, rfl, ⟨e, rfl, _⟩, rfl⟩ := h
  exact ⟨⟨a, b, d, e⟩, rfl⟩
theorem shWtsR {c : List AV} (h : (Sh.slice 4 shWt).R c) : ∃ L : List Wt, c = [.list 4 (wts L)] ∧ L.length ≤ 9223372036854775807 := by
  obtain ⟨xs, rfl, hl, h⟩ := h
  obtain ⟨L, rfl, hL⟩ := exists_map (f := wtv) (Q := fun _ => True) fun x hx => by
    obtain ⟨cs, hr, _, rfl⟩ := h x hx
    obtain ⟨b, hb⟩ := shWtR hr
    exact ⟨b, trivial, hb⟩
  exact ⟨L, rfl, by simpa using hl⟩
theorem shWnR {c : List AV} (h : shWn.R c) : ∃ b : Wn, b.cs.length ≤ 9223372036854775807 ∧ shWn.mk1 c = wnv b := by
  obtain ⟨x1, y1, rfl, ⟨a, rfl, _⟩, x2, y2, rfl, ⟨b, rfl, _⟩, x3, y3, rfl, h3, x4, y4, rfl, ⟨e, rfl, _⟩, rfl⟩ := h
  obtain ⟨L, rfl, hL⟩ := shCssR h3
  exact ⟨⟨a, b, L, e⟩, hL, rfl⟩
theorem shWnsR {c : List AV} (h : (Sh.slice 4 shWn).R c) : ∃ L : List Wn, c = [.list 4 (wns L)] ∧ L.length ≤ 9223372036854775807 ∧ ∀ w ∈ L, w.cs.length ≤ 9223372036854775807 := by
  obtain ⟨xs, rfl, hl, h⟩ := h
  obtain ⟨L, rfl, hL⟩ := exists_map (f := wnv) (Q := fun w => w.cs.length ≤ 9223372036854775807) fun x hx => by
    obtain ⟨cs, hr, _, rfl⟩ := h x hx
    obtain ⟨b, hb1, hb⟩ := shWnR hr
    exact ⟨b, hb1, hb⟩
  exact ⟨L, rfl, by simpa using hl, hL⟩
theorem shLlsR {c : List AV} (h : shLls.R c) : ∃ L : List (List Int), c = [.list 1 (lls L)] ∧ L.length ≤ 9223372036854775807 ∧ ∀ l ∈ L, l.length ≤ 9223372036854775807 := by
  obtain ⟨xs, rfl, hl, h⟩ := h
  obtain ⟨L, rfl, hL⟩ := exists_map (f := fun l => AV.list 1 (ints l)) (Q := fun w => w.length ≤ 9223372036854775807) fun x hx => by
    obtain ⟨cs, hr, _, rfl⟩ := h x hx
    obtain ⟨l, rfl, hl, _⟩ := shInts hr
    exact ⟨l, hl, rfl⟩
  exact ⟨L, rfl, by simpa using hl, hL⟩
theorem shBoR {c : List AV} (h : shBo.R c) : ∃ b : Bo, shBo.mk1 c = bov b ∧ BoL b := by
  obtain ⟨x1, y1, rfl, h1, x2, y2, rfl, h2, x3, y3, rfl, h3, rfl⟩ := h
  obtain ⟨L1, rfl, l1⟩ := shWtsR h1
  obtain ⟨L2, rfl, l2, m2⟩ := shLlsR h2
  obtain ⟨L3, rfl, l3, m3⟩ := shWnsR h3
  exact ⟨⟨L1, L2, L3⟩, rfl, l1, l2, m2, l3, m3⟩
theorem law_law36_WarningTells {c0 c1 c2 c3 c4 : List AV} (s0 : (Sh.slice 1 (.int .i64)).R c0) (s1 : shBo.R c1) (s2 : shLls.R c2) (s3 : (Sh.slice 1 (.int .i64)).R c3) (s4 : (Sh.int .i64).R c4) :
    PC prog n_law36_WarningTells [(Sh.slice 1 (.int .i64)).mk1 c0, shBo.mk1 c1, shLls.mk1 c2, (Sh.slice 1 (.int .i64)).mk1 c3, (Sh.int .i64).mk1 c4] (.bool true) := by
  obtain ⟨l0, rfl, _, _⟩ := shInts s0
  obtain ⟨b, hb, hL⟩ := shBoR s1
  obtain ⟨x, rfl, hx, hxs⟩ := shLlsR s2
  obtain ⟨l3, rfl, h3, _⟩ := shInts s3
  obtain ⟨a4, rfl, w4⟩ := s4
  rw [hb]
  exact ok_law36_WarningTells l0 b x l3 a4 hL hx hxs h3 (wf_i64 w4)
end Go.Proofs.Try
