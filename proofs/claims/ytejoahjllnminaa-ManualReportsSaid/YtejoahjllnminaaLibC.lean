/-
  OWN WORK, put together by tools/asm.py: what functions do.
-/
import Derived.Test.YtejoahjllnminaaLibB
set_option linter.unusedSimpArgs false
set_option linter.unusedVariables false
set_option maxRecDepth 100000
set_option maxHeartbeats 1000000
namespace Go.Proofs.Try
open Go.Ab Go
theorem ok_slices_IndexFunc__int (l : List Int) (f : Nat) (p : Int → Bool) (hl : l.length ≤ 9223372036854775807) (hcb : ∀ x : Int, PC prog f [.int .i64 x] (.bool (p x))) :
    PC prog n_slices_IndexFunc__int [.list 1 (ints l), .func f []] (.int .i64 (match l.findIdx? p with | some i => (i : Int) | none => -1)) := by
  refine PC_of_body b_slices_IndexFunc__int (by simp) ?_
  simp only [c_slices_IndexFunc__int, go_sem, Int.reduceEq, Int.reduceLT, Int.reduceLE, Int.reduceToNat, Nat.reduceLT, Nat.reduceEqDiff, Nat.reduceAdd, Nat.reduceLeDiff, Nat.reduceSub, Nat.reduceMul, ↓reduceIte, reduceCtorEq, w_app_nl, ints_length]
  refine awp_upF [4, 5, 8, 9, 10, 11, 12, 13, 14, 15, 16, 17, 18] (by kernel_rfl) l.length (fun k e _ => e 8 = .int .i64 k ∧ (l.take k).all (fun x => !p x) = true) ?_ ?_
  · exact ⟨(by first | ((try simp (maxSteps := 1000000) only [go_sem, Int.reduceEq, Int.reduceLT, Int.reduceLE, Int.reduceToNat, Nat.reduceLT, Nat.reduceEqDiff, Nat.reduceAdd, Nat.reduceLeDiff, Nat.reduceSub, Nat.reduceMul, ↓reduceIte, reduceCtorEq, w_app_nl]); done) | ((try simp (maxSteps := 1000000) only [go_sem, Int.reduceEq, Int.reduceLT, Int.reduceLE, Int.reduceToNat, Nat.reduceLT, Nat.reduceEqDiff, Nat.reduceAdd, Nat.reduceLeDiff, Nat.reduceSub, Nat.reduceMul, ↓reduceIte, reduceCtorEq, w_app_nl]); rfl) | ((try simp (maxSteps := 1000000) (disch := omega) only [go_sem, Int.reduceEq, Int.reduceLT, Int.reduceLE, Int.reduceToNat, Nat.reduceLT, Nat.reduceEqDiff, Nat.reduceAdd, Nat.reduceLeDiff, Nat.reduceSub, Nat.reduceMul, ↓reduceIte, reduceCtorEq, w_app_nl, wrap_id, w_ite_ne, w_ite_lt]); rfl) | (simp (maxSteps := 1000000) (disch := omega) only [go_sem, Int.reduceEq, Int.reduceLT, Int.reduceLE, Int.reduceToNat, Nat.reduceLT, Nat.reduceEqDiff, Nat.reduceAdd, Nat.reduceLeDiff, Nat.reduceSub, Nat.reduceMul, ↓reduceIte, reduceCtorEq, w_app_nl, wrap_id, w_ite_ne, w_ite_lt]; done)), by simp⟩
  · rintro k fe ob c hk ⟨h8, hj⟩
    simp (maxSteps := 1000000) only [go_sem, Int.reduceEq, Int.reduceLT, Int.reduceLE, Int.reduceToNat, Nat.reduceLT, Nat.reduceEqDiff, Nat.reduceAdd, Nat.reduceLeDiff, Nat.reduceSub, Nat.reduceMul, ↓reduceIte, reduceCtorEq, w_app_nl] at h8
    try simp (disch := omega) only [go_sem, Int.reduceEq, Int.reduceLT, Int.reduceLE, Int.reduceToNat, Nat.reduceLT, Nat.reduceEqDiff, Nat.reduceAdd, Nat.reduceLeDiff, Nat.reduceSub, Nat.reduceMul, ↓reduceIte, reduceCtorEq, wrap_id, w_ite_ne, w_ite_lt, Nat.sub_zero, Nat.sub_self, h8, ints_length]
    refine cond_d (fun hlt => ?_) (fun hge => ?_)
    · have hkl : k < l.length := by omega
      have hk2 : l[k]? = some l[k] := List.getElem?_eq_getElem hkl
      have hst : (l.take (k + 1)).all (fun x => !p x) = !p l[k] := by
        rw [List.take_add_one, hk2, List.all_append, hj]; simp
      have hfi : p l[k] = true → l.findIdx? p = some k := fun hp => by
        rw [List.findIdx?_eq_some_iff_getElem]
        refine ⟨hkl, hp, fun j hj' => ?_⟩
        rw [List.all_eq_true] at hj
        have := hj l[j] (by rw [List.mem_take_iff_getElem]; exact ⟨j, by omega, rfl⟩)
        simpa using this
      generalize l[k] = x at *
      try simp (disch := omega) only [go_sem, Int.reduceEq, Int.reduceLT, Int.reduceLE, Int.reduceToNat, Nat.reduceLT, Nat.reduceEqDiff, Nat.reduceAdd, Nat.reduceLeDiff, Nat.reduceSub, Nat.reduceMul, ↓reduceIte, reduceCtorEq, wrap_id, w_ite_ne, w_ite_lt, Nat.sub_zero, Nat.sub_self, h8, ints_length, ints_get, hk2, Option.map_some]
      refine ⟨by omega, by omega, ?_⟩
      refine call_pc (hcb x) (by simp [go_sem]) ?_
      try simp (disch := omega) only [go_sem, Int.reduceEq, Int.reduceLT, Int.reduceLE, Int.reduceToNat, Nat.reduceLT, Nat.reduceEqDiff, Nat.reduceAdd, Nat.reduceLeDiff, Nat.reduceSub, Nat.reduceMul, ↓reduceIte, reduceCtorEq, wrap_id, w_ite_ne, w_ite_lt, Nat.sub_zero, Nat.sub_self]
      cases hp : p x
      · try simp (disch := omega) only [go_sem, Int.reduceEq, Int.reduceLT, Int.reduceLE, Int.reduceToNat, Nat.reduceLT, Nat.reduceEqDiff, Nat.reduceAdd, Nat.reduceLeDiff, Nat.reduceSub, Nat.reduceMul, ↓reduceIte, reduceCtorEq, wrap_id, w_ite_ne, w_ite_lt, Nat.sub_zero, Nat.sub_self, h8]
        exact up_next hkl ⟨(by first | ((try simp (maxSteps := 1000000) only [go_sem, Int.reduceEq, Int.reduceLT, Int.reduceLE, Int.reduceToNat, Nat.reduceLT, Nat.reduceEqDiff, Nat.reduceAdd, Nat.reduceLeDiff, Nat.reduceSub, Nat.reduceMul, ↓reduceIte, reduceCtorEq, w_app_nl]); done) | ((try simp (maxSteps := 1000000) only [go_sem, Int.reduceEq, Int.reduceLT, Int.reduceLE, Int.reduceToNat, Nat.reduceLT, Nat.reduceEqDiff, Nat.reduceAdd, Nat.reduceLeDiff, Nat.reduceSub, Nat.reduceMul, ↓reduceIte, reduceCtorEq, w_app_nl]); rfl) | ((try simp (maxSteps := 1000000) (disch := omega) only [go_sem, Int.reduceEq, Int.reduceLT, Int.reduceLE, Int.reduceToNat, Nat.reduceLT, Nat.reduceEqDiff, Nat.reduceAdd, Nat.reduceLeDiff, Nat.reduceSub, Nat.reduceMul, ↓reduceIte, reduceCtorEq, w_app_nl, wrap_id, w_ite_ne, w_ite_lt]); rfl) | (simp (maxSteps := 1000000) (disch := omega) only [go_sem, Int.reduceEq, Int.reduceLT, Int.reduceLE, Int.reduceToNat, Nat.reduceLT, Nat.reduceEqDiff, Nat.reduceAdd, Nat.reduceLeDiff, Nat.reduceSub, Nat.reduceMul, ↓reduceIte, reduceCtorEq, w_app_nl, wrap_id, w_ite_ne, w_ite_lt]; done)), by rw [hst, hp]; rfl⟩
      · try simp (disch := omega) only [go_sem, Int.reduceEq, Int.reduceLT, Int.reduceLE, Int.reduceToNat, Nat.reduceLT, Nat.reduceEqDiff, Nat.reduceAdd, Nat.reduceLeDiff, Nat.reduceSub, Nat.reduceMul, ↓reduceIte, reduceCtorEq, wrap_id, w_ite_ne, w_ite_lt, Nat.sub_zero, Nat.sub_self, h8]
        rw [hfi hp]
        exact Pub.of_eq rfl rfl
    · try simp (disch := omega) only [go_sem, Int.reduceEq, Int.reduceLT, Int.reduceLE, Int.reduceToNat, Nat.reduceLT, Nat.reduceEqDiff, Nat.reduceAdd, Nat.reduceLeDiff, Nat.reduceSub, Nat.reduceMul, ↓reduceIte, reduceCtorEq, wrap_id, w_ite_ne, w_ite_lt, Nat.sub_zero, Nat.sub_self]
      have : k = l.length := by omega
      subst this
      rw [List.take_length] at hj
      have : l.findIdx? p = none := by
        rw [List.findIdx?_eq_none_iff]
        intro x hx
        rw [List.all_eq_true] at hj
        simpa using hj x hx
      rw [this]
      exact Pub.of_eq rfl rfl
theorem ok_slices_ContainsFunc__int (l : List Int) (f : Nat) (p : Int → Bool) (hl : l.length ≤ 9223372036854775807) (hcb : ∀ x : Int, PC prog f [.int .i64 x] (.bool (p x))) :
    PC prog n_slices_ContainsFunc__int [.list 1 (ints l), .func f []] (.bool (l.any p)) := by
  refine PC_of_body b_slices_ContainsFunc__int (by simp) ?_
  simp only [c_slices_ContainsFunc__int, go_sem, Int.reduceEq, Int.reduceLT, Int.reduceLE, Int.reduceToNat, Nat.reduceLT, Nat.reduceEqDiff, Nat.reduceAdd, Nat.reduceLeDiff, Nat.reduceSub, Nat.reduceMul, ↓reduceIte, reduceCtorEq, w_app_nl, ints_length]
  refine call_pc (ok_slices_IndexFunc__int l f p hl hcb) (by simp [go_sem]) ?_
  try simp (disch := omega) only [go_sem, Int.reduceEq, Int.reduceLT, Int.reduceLE, Int.reduceToNat, Nat.reduceLT, Nat.reduceEqDiff, Nat.reduceAdd, Nat.reduceLeDiff, Nat.reduceSub, Nat.reduceMul, ↓reduceIte, reduceCtorEq, wrap_id, w_ite_ne, w_ite_lt, Nat.sub_zero, Nat.sub_self]
  refine Pub.of_eq ?_ rfl
  congr 1
  cases h : l.findIdx? p with
  | none =>
    rw [List.findIdx?_eq_none_iff] at h
    simp only []
    rw [show l.any p = false from by rw [List.any_eq_false]; intro x hx; simp [h x hx]]
    rfl
  | some i =>
    obtain ⟨h1, h2, _⟩ := List.findIdx?_eq_some_iff_getElem.1 h
    simp only []
    rw [show l.any p = true from List.any_eq_true.2 ⟨_, List.getElem_mem h1, h2⟩]
    simp
structure Rp where
  n : Int
  a : Int
  f : Int
  t : Int
  l : Int
  m : Int
  deriving DecidableEq
def rpv (r : Rp) : AV := .agg [.int .i64 r.n, .int .i64 r.a, .int .i64 r.f, .int .i64 r.t, .int .i64 r.l, .int .i64 r.m]
def rps (l : List Rp) : List AV := l.map rpv
theorem rps_length (l : List Rp) : (rps l).length = l.length := by simp [rps]
theorem rps_get (l : List Rp) (i : Nat) : (rps l)[i]? = (l[i]?).map rpv := by simp [rps]
theorem rps_pur (l : List Rp) : ∀ x ∈ rps l, x.pur = true := by simp [rps, rpv, go_sem]
theorem rps_ok (l : List Rp) : ∀ x ∈ rps l, okE 6 x := by simp [rps, rpv, okE, go_sem]
def volB (x : Int) : Bool := decide (x < 0) || decide (274877906944 < x)
def rp1 (first account field frm tol : Int) (i : Nat) (x : Int) : Rp := ⟨first + i, account, field, frm + i, max 0 (x - tol), min 274877906944 (x + tol)⟩
def repL (first account field frm : Int) (v : List Int) (tol : Int) (k : Nat) : List Rp := (List.range k).map fun i => rp1 first account field frm tol i (v.getD i 0)
theorem repL_succ (first account field frm : Int) (v : List Int) (tol : Int) (k : Nat) : repL first account field frm v tol (k + 1) = repL first account field frm v tol k ++ [rp1 first account field frm tol k (v.getD k 0)] := by simp [repL, List.range_succ]
theorem repL_length (first account field frm : Int) (v : List Int) (tol : Int) (k : Nat) : (repL first account field frm v tol k).length = k := by simp [repL]
def repR (first account field frm : Int) (v : List Int) (tol : Int) : List Rp × Int :=
  if first < 0 ∨ account < 0 then ([], 1) else
  if 400 < v.length ∨ (0 < v.length ∧ 1073741824 - (v.length : Int) + 1 < first) then ([], 10) else
  if frm < 0 ∨ (0 < v.length ∧ 16777216 - (v.length : Int) + 1 < frm) then ([], 6) else
  if tol < 0 ∨ 274877906944 < tol ∨ v.any volB = true then ([], 1) else (repL first account field frm v tol v.length, 0)
theorem ok_manual_Reports_1 (x : Int) : PC prog n_manual_Reports_1 [.int .i64 x] (.bool (volB x)) := by
  refine PC_of_body b_manual_Reports_1 (by simp) ?_
  simp only [c_manual_Reports_1, go_sem, Int.reduceEq, Int.reduceLT, Int.reduceLE, Int.reduceToNat, Nat.reduceLT, Nat.reduceEqDiff, Nat.reduceAdd, Nat.reduceLeDiff, Nat.reduceSub, Nat.reduceMul, ↓reduceIte, reduceCtorEq, w_app_nl]
  refine gd_fd rfl (fun g1 => ?_) (fun g1 => ?_) <;> try simp (disch := omega) only [go_sem, Int.reduceEq, Int.reduceLT, Int.reduceLE, Int.reduceToNat, Nat.reduceLT, Nat.reduceEqDiff, Nat.reduceAdd, Nat.reduceLeDiff, Nat.reduceSub, Nat.reduceMul, ↓reduceIte, reduceCtorEq, wrap_id, w_ite_ne, w_ite_lt, Nat.sub_zero, Nat.sub_self]
  · exact Pub.of_eq (by simp [volB, g1]) rfl
  · exact Pub.of_eq (by simp [volB, g1]) rfl
theorem ok_manual_Reports (first account field frm : Int) (v : List Int) (tol : Int) (hv : v.length ≤ 9223372036854775807) :
    PC prog n_manual_Reports [.int .i64 first, .int .i64 account, .int .i64 field, .int .i64 frm, .list 1 (ints v), .int .i64 tol] (.tuple [.list 6 (rps (repR first account field frm v tol).1), .int .i64 (repR first account field frm v tol).2]) := by
  have no : ∀ {σ : St} (e : Int), repR first account field frm v tol = ([], e) → Pub σ (.tuple [.nil, .int .i64 e]) (.tuple [.list 6 (rps (repR first account field frm v tol).1), .int .i64 (repR first account field frm v tol).2]) := by
    intro σ e h
    rw [h]
    exact Pub.pair (.nl 6) (Pub.of_eq rfl rfl)
  refine PC_of_body b_manual_Reports (by simp) ?_
  simp only [c_manual_Reports, go_sem, Int.reduceEq, Int.reduceLT, Int.reduceLE, Int.reduceToNat, Nat.reduceLT, Nat.reduceEqDiff, Nat.reduceAdd, Nat.reduceLeDiff, Nat.reduceSub, Nat.reduceMul, ↓reduceIte, reduceCtorEq, w_app_nl]
  try simp (disch := omega) only [go_sem, Int.reduceEq, Int.reduceLT, Int.reduceLE, Int.reduceToNat, Nat.reduceLT, Nat.reduceEqDiff, Nat.reduceAdd, Nat.reduceLeDiff, Nat.reduceSub, Nat.reduceMul, ↓reduceIte, reduceCtorEq, wrap_id, w_ite_ne, w_ite_lt, Nat.sub_zero, Nat.sub_self, ints_length]
  refine gd_fd rfl (fun g1 => ?_) (fun g1 => ?_) <;> try simp (disch := omega) only [go_sem, Int.reduceEq, Int.reduceLT, Int.reduceLE, Int.reduceToNat, Nat.reduceLT, Nat.reduceEqDiff, Nat.reduceAdd, Nat.reduceLeDiff, Nat.reduceSub, Nat.reduceMul, ↓reduceIte, reduceCtorEq, wrap_id, w_ite_ne, w_ite_lt, Nat.sub_zero, Nat.sub_self, ints_length]
  · exact no 1 (by simp only [repR]; rw [if_pos (by omega)])
  refine cond_d (fun g2 => ?_) (fun g2 => ?_) <;> try simp (disch := omega) only [go_sem, Int.reduceEq, Int.reduceLT, Int.reduceLE, Int.reduceToNat, Nat.reduceLT, Nat.reduceEqDiff, Nat.reduceAdd, Nat.reduceLeDiff, Nat.reduceSub, Nat.reduceMul, ↓reduceIte, reduceCtorEq, wrap_id, w_ite_ne, w_ite_lt, Nat.sub_zero, Nat.sub_self, ints_length]
  · exact no 1 (by simp only [repR]; rw [if_pos (by omega)])
  refine gd_fd rfl (fun g3 => ?_) (fun g3 => ?_) <;> try simp (disch := omega) only [go_sem, Int.reduceEq, Int.reduceLT, Int.reduceLE, Int.reduceToNat, Nat.reduceLT, Nat.reduceEqDiff, Nat.reduceAdd, Nat.reduceLeDiff, Nat.reduceSub, Nat.reduceMul, ↓reduceIte, reduceCtorEq, wrap_id, w_ite_ne, w_ite_lt, Nat.sub_zero, Nat.sub_self, ints_length]
  · exact no 10 (by simp only [repR]; rw [if_neg (by omega), if_pos (by omega)])
  refine gd_td rfl (fun hz => ?_) (fun hz => ?_) <;> try simp (disch := omega) only [go_sem, Int.reduceEq, Int.reduceLT, Int.reduceLE, Int.reduceToNat, Nat.reduceLT, Nat.reduceEqDiff, Nat.reduceAdd, Nat.reduceLeDiff, Nat.reduceSub, Nat.reduceMul, ↓reduceIte, reduceCtorEq, wrap_id, w_ite_ne, w_ite_lt, Nat.sub_zero, Nat.sub_self, ints_length, hz]
  · refine cond_d (fun g4 => ?_) (fun g4 => ?_) <;> try simp (disch := omega) only [go_sem, Int.reduceEq, Int.reduceLT, Int.reduceLE, Int.reduceToNat, Nat.reduceLT, Nat.reduceEqDiff, Nat.reduceAdd, Nat.reduceLeDiff, Nat.reduceSub, Nat.reduceMul, ↓reduceIte, reduceCtorEq, wrap_id, w_ite_ne, w_ite_lt, Nat.sub_zero, Nat.sub_self, ints_length, hz]
    · exact no 10 (by simp only [repR]; rw [if_neg (by omega), if_pos (by omega)])
    refine gd_fd rfl (fun g5 => ?_) (fun g5 => ?_) <;> try simp (disch := omega) only [go_sem, Int.reduceEq, Int.reduceLT, Int.reduceLE, Int.reduceToNat, Nat.reduceLT, Nat.reduceEqDiff, Nat.reduceAdd, Nat.reduceLeDiff, Nat.reduceSub, Nat.reduceMul, ↓reduceIte, reduceCtorEq, wrap_id, w_ite_ne, w_ite_lt, Nat.sub_zero, Nat.sub_self, ints_length, hz]
    · exact no 6 (by simp only [repR]; rw [if_neg (by omega), if_neg (by omega), if_pos (by omega)])
    refine cond_d (fun g6 => ?_) (fun g6 => ?_) <;> try simp (disch := omega) only [go_sem, Int.reduceEq, Int.reduceLT, Int.reduceLE, Int.reduceToNat, Nat.reduceLT, Nat.reduceEqDiff, Nat.reduceAdd, Nat.reduceLeDiff, Nat.reduceSub, Nat.reduceMul, ↓reduceIte, reduceCtorEq, wrap_id, w_ite_ne, w_ite_lt, Nat.sub_zero, Nat.sub_self, ints_length, hz]
    · exact no 6 (by simp only [repR]; rw [if_neg (by omega), if_neg (by omega), if_pos (by omega)])
    refine gd_fd rfl (fun g7 => ?_) (fun g7 => ?_) <;> try simp (disch := omega) only [go_sem, Int.reduceEq, Int.reduceLT, Int.reduceLE, Int.reduceToNat, Nat.reduceLT, Nat.reduceEqDiff, Nat.reduceAdd, Nat.reduceLeDiff, Nat.reduceSub, Nat.reduceMul, ↓reduceIte, reduceCtorEq, wrap_id, w_ite_ne, w_ite_lt, Nat.sub_zero, Nat.sub_self, ints_length, hz]
    · exact no 1 (by simp only [repR]; rw [if_neg (by omega), if_neg (by omega), if_neg (by omega), if_pos (by omega)])
    refine gd_fd rfl (fun g8 => ?_) (fun g8 => ?_) <;> try simp (disch := omega) only [go_sem, Int.reduceEq, Int.reduceLT, Int.reduceLE, Int.reduceToNat, Nat.reduceLT, Nat.reduceEqDiff, Nat.reduceAdd, Nat.reduceLeDiff, Nat.reduceSub, Nat.reduceMul, ↓reduceIte, reduceCtorEq, wrap_id, w_ite_ne, w_ite_lt, Nat.sub_zero, Nat.sub_self, ints_length, hz]
    · exact no 1 (by simp only [repR]; rw [if_neg (by omega), if_neg (by omega), if_neg (by omega), if_pos (by omega)])
    refine call_pc (ok_slices_ContainsFunc__int v _ volB hv ok_manual_Reports_1) (by simp [go_sem]) ?_
    try simp (disch := omega) only [go_sem, Int.reduceEq, Int.reduceLT, Int.reduceLE, Int.reduceToNat, Nat.reduceLT, Nat.reduceEqDiff, Nat.reduceAdd, Nat.reduceLeDiff, Nat.reduceSub, Nat.reduceMul, ↓reduceIte, reduceCtorEq, wrap_id, w_ite_ne, w_ite_lt, Nat.sub_zero, Nat.sub_self, ints_length, hz]
    cases ha : v.any volB
    case true =>
      try simp (disch := omega) only [go_sem, Int.reduceEq, Int.reduceLT, Int.reduceLE, Int.reduceToNat, Nat.reduceLT, Nat.reduceEqDiff, Nat.reduceAdd, Nat.reduceLeDiff, Nat.reduceSub, Nat.reduceMul, ↓reduceIte, reduceCtorEq, wrap_id, w_ite_ne, w_ite_lt, Nat.sub_zero, Nat.sub_self]
      exact no 1 (by simp only [repR]; rw [if_neg (by omega), if_neg (by omega), if_neg (by omega), if_pos (.inr (.inr ha))])
    have htk : repR first account field frm v tol = (repL first account field frm v tol v.length, 0) := by
      simp only [repR]; rw [if_neg (by omega), if_neg (by omega), if_neg (by omega), if_neg]
      rintro (h | h | h)
      · omega
      · omega
      · rw [ha] at h; cases h
    have hn4 : v.length ≤ 400 := by omega
    try simp (disch := omega) only [go_sem, Int.reduceEq, Int.reduceLT, Int.reduceLE, Int.reduceToNat, Nat.reduceLT, Nat.reduceEqDiff, Nat.reduceAdd, Nat.reduceLeDiff, Nat.reduceSub, Nat.reduceMul, ↓reduceIte, reduceCtorEq, wrap_id, w_ite_ne, w_ite_lt, Nat.sub_zero, Nat.sub_self, ints_length, hz]
    refine awp_upG [15, 16, 17, 68, 69, 70, 71, 72, 73, 74, 75, 76, 77, 78, 79, 80, 81, 82, 83, 84, 85, 86, 87, 88, 89, 90, 91, 92, 93, 94] (by kernel_rfl) v.length (fun k e σ => e 68 = .int .i64 k ∧ SlR 6 47 σ (rps (repL first account field frm v tol k)) (e 15)) ?_ ?_
    · exact ⟨(by first | ((try simp (maxSteps := 1000000) only [go_sem, Int.reduceEq, Int.reduceLT, Int.reduceLE, Int.reduceToNat, Nat.reduceLT, Nat.reduceEqDiff, Nat.reduceAdd, Nat.reduceLeDiff, Nat.reduceSub, Nat.reduceMul, ↓reduceIte, reduceCtorEq, w_app_nl]); done) | ((try simp (maxSteps := 1000000) only [go_sem, Int.reduceEq, Int.reduceLT, Int.reduceLE, Int.reduceToNat, Nat.reduceLT, Nat.reduceEqDiff, Nat.reduceAdd, Nat.reduceLeDiff, Nat.reduceSub, Nat.reduceMul, ↓reduceIte, reduceCtorEq, w_app_nl]); rfl) | ((try simp (maxSteps := 1000000) (disch := omega) only [go_sem, Int.reduceEq, Int.reduceLT, Int.reduceLE, Int.reduceToNat, Nat.reduceLT, Nat.reduceEqDiff, Nat.reduceAdd, Nat.reduceLeDiff, Nat.reduceSub, Nat.reduceMul, ↓reduceIte, reduceCtorEq, w_app_nl, wrap_id, w_ite_ne, w_ite_lt]); rfl) | (simp (maxSteps := 1000000) (disch := omega) only [go_sem, Int.reduceEq, Int.reduceLT, Int.reduceLE, Int.reduceToNat, Nat.reduceLT, Nat.reduceEqDiff, Nat.reduceAdd, Nat.reduceLeDiff, Nat.reduceSub, Nat.reduceMul, ↓reduceIte, reduceCtorEq, w_app_nl, wrap_id, w_ite_ne, w_ite_lt]; done)), by try simp (disch := omega) only [go_sem, Int.reduceEq, Int.reduceLT, Int.reduceLE, Int.reduceToNat, Nat.reduceLT, Nat.reduceEqDiff, Nat.reduceAdd, Nat.reduceLeDiff, Nat.reduceSub, Nat.reduceMul, ↓reduceIte, reduceCtorEq, wrap_id, w_ite_ne, w_ite_lt, Nat.sub_zero, Nat.sub_self]; exact .nil⟩
    · rintro k fe ob m c hk hm ⟨hc, hR⟩
      simp (maxSteps := 1000000) only [go_sem, Int.reduceEq, Int.reduceLT, Int.reduceLE, Int.reduceToNat, Nat.reduceLT, Nat.reduceEqDiff, Nat.reduceAdd, Nat.reduceLeDiff, Nat.reduceSub, Nat.reduceMul, ↓reduceIte, reduceCtorEq, w_app_nl] at hc hR
      obtain ⟨X, hX⟩ : ∃ X, fe 15 = X := ⟨_, rfl⟩
      rw [hX] at hR
      try simp (disch := omega) only [go_sem, Int.reduceEq, Int.reduceLT, Int.reduceLE, Int.reduceToNat, Nat.reduceLT, Nat.reduceEqDiff, Nat.reduceAdd, Nat.reduceLeDiff, Nat.reduceSub, Nat.reduceMul, ↓reduceIte, reduceCtorEq, wrap_id, w_ite_ne, w_ite_lt, Nat.sub_zero, Nat.sub_self, hc, ints_length]
      refine cond_d (fun hlt => ?_) (fun hge => ?_)
      · have hkl : k < v.length := by omega
        have hk2 : v[k]? = some v[k] := List.getElem?_eq_getElem hkl
        have hgd : v.getD k 0 = v[k] := by simp [hk2]
        have hvk : volB v[k] = false := by
          rw [List.any_eq_false] at ha
          exact Bool.eq_false_iff.2 (ha _ (List.getElem_mem _))
        have hvk2 : 0 ≤ v[k] ∧ v[k] ≤ 274877906944 := by simp [volB] at hvk; omega
        generalize v[k] = x at *
        try simp (disch := omega) only [go_sem, Int.reduceEq, Int.reduceLT, Int.reduceLE, Int.reduceToNat, Nat.reduceLT, Nat.reduceEqDiff, Nat.reduceAdd, Nat.reduceLeDiff, Nat.reduceSub, Nat.reduceMul, ↓reduceIte, reduceCtorEq, wrap_id, w_ite_ne, w_ite_lt, Nat.sub_zero, Nat.sub_self, hc, ints_length, ints_get, hk2, hX, Option.map_some]
        refine ⟨by omega, by omega, ?_⟩
        refine app_slr hR (by rw [rps_length, repL_length]; omega) (by rw [rps_length, repL_length]; omega) fun X2 τ2 hR2 hK2 => ?_
        try simp (disch := omega) only [go_sem, Int.reduceEq, Int.reduceLT, Int.reduceLE, Int.reduceToNat, Nat.reduceLT, Nat.reduceEqDiff, Nat.reduceAdd, Nat.reduceLeDiff, Nat.reduceSub, Nat.reduceMul, ↓reduceIte, reduceCtorEq, wrap_id, w_ite_ne, w_ite_lt, Nat.sub_zero, Nat.sub_self, hc]
        refine up_nextG τ2.n hkl (Nat.zero_le _) ⟨(by first | ((try simp (maxSteps := 1000000) only [go_sem, Int.reduceEq, Int.reduceLT, Int.reduceLE, Int.reduceToNat, Nat.reduceLT, Nat.reduceEqDiff, Nat.reduceAdd, Nat.reduceLeDiff, Nat.reduceSub, Nat.reduceMul, ↓reduceIte, reduceCtorEq, w_app_nl]); done) | ((try simp (maxSteps := 1000000) only [go_sem, Int.reduceEq, Int.reduceLT, Int.reduceLE, Int.reduceToNat, Nat.reduceLT, Nat.reduceEqDiff, Nat.reduceAdd, Nat.reduceLeDiff, Nat.reduceSub, Nat.reduceMul, ↓reduceIte, reduceCtorEq, w_app_nl]); rfl) | ((try simp (maxSteps := 1000000) (disch := omega) only [go_sem, Int.reduceEq, Int.reduceLT, Int.reduceLE, Int.reduceToNat, Nat.reduceLT, Nat.reduceEqDiff, Nat.reduceAdd, Nat.reduceLeDiff, Nat.reduceSub, Nat.reduceMul, ↓reduceIte, reduceCtorEq, w_app_nl, wrap_id, w_ite_ne, w_ite_lt]); rfl) | (simp (maxSteps := 1000000) (disch := omega) only [go_sem, Int.reduceEq, Int.reduceLT, Int.reduceLE, Int.reduceToNat, Nat.reduceLT, Nat.reduceEqDiff, Nat.reduceAdd, Nat.reduceLeDiff, Nat.reduceSub, Nat.reduceMul, ↓reduceIte, reduceCtorEq, w_app_nl, wrap_id, w_ite_ne, w_ite_lt]; done)), ?_⟩
        try simp (disch := omega) only [go_sem, Int.reduceEq, Int.reduceLT, Int.reduceLE, Int.reduceToNat, Nat.reduceLT, Nat.reduceEqDiff, Nat.reduceAdd, Nat.reduceLeDiff, Nat.reduceSub, Nat.reduceMul, ↓reduceIte, reduceCtorEq, wrap_id, w_ite_ne, w_ite_lt, Nat.sub_zero, Nat.sub_self]
        rw [repL_succ, hgd]
        rw [show rps (repL first account field frm v tol k) ++ [AV.agg [.int .i64 (first + k), .int .i64 account, .int .i64 field, .int .i64 (frm + k), .int .i64 (max 0 (x - tol)), .int .i64 (min 274877906944 (x + tol))]] = rps (repL first account field frm v tol k ++ [rp1 first account field frm tol k x]) by simp [rps, rpv, rp1]] at hR2
        refine hR2.move (Nat.le_refl _) fun i hi _ => ?_
        simp only [St.trunc, if_pos hi]
      · have hkl : k = v.length := by omega
        subst hkl
        try simp (disch := omega) only [go_sem, Int.reduceEq, Int.reduceLT, Int.reduceLE, Int.reduceToNat, Nat.reduceLT, Nat.reduceEqDiff, Nat.reduceAdd, Nat.reduceLeDiff, Nat.reduceSub, Nat.reduceMul, ↓reduceIte, reduceCtorEq, wrap_id, w_ite_ne, w_ite_lt, Nat.sub_zero, Nat.sub_self, hX]
        rw [htk]
        exact Pub.pair (hR.pub (fun _ _ _ => rfl) (rps_pur _) (rps_ok _)) (Pub.of_eq rfl rfl)
  · refine gd_fd rfl (fun g5 => ?_) (fun g5 => ?_) <;> try simp (disch := omega) only [go_sem, Int.reduceEq, Int.reduceLT, Int.reduceLE, Int.reduceToNat, Nat.reduceLT, Nat.reduceEqDiff, Nat.reduceAdd, Nat.reduceLeDiff, Nat.reduceSub, Nat.reduceMul, ↓reduceIte, reduceCtorEq, wrap_id, w_ite_ne, w_ite_lt, Nat.sub_zero, Nat.sub_self, ints_length, hz]
    · exact no 6 (by simp only [repR]; rw [if_neg (by omega), if_neg (by omega), if_pos (by omega)])
    refine gd_fd rfl (fun g7 => ?_) (fun g7 => ?_) <;> try simp (disch := omega) only [go_sem, Int.reduceEq, Int.reduceLT, Int.reduceLE, Int.reduceToNat, Nat.reduceLT, Nat.reduceEqDiff, Nat.reduceAdd, Nat.reduceLeDiff, Nat.reduceSub, Nat.reduceMul, ↓reduceIte, reduceCtorEq, wrap_id, w_ite_ne, w_ite_lt, Nat.sub_zero, Nat.sub_self, ints_length, hz]
    · exact no 1 (by simp only [repR]; rw [if_neg (by omega), if_neg (by omega), if_neg (by omega), if_pos (by omega)])
    refine gd_fd rfl (fun g8 => ?_) (fun g8 => ?_) <;> try simp (disch := omega) only [go_sem, Int.reduceEq, Int.reduceLT, Int.reduceLE, Int.reduceToNat, Nat.reduceLT, Nat.reduceEqDiff, Nat.reduceAdd, Nat.reduceLeDiff, Nat.reduceSub, Nat.reduceMul, ↓reduceIte, reduceCtorEq, wrap_id, w_ite_ne, w_ite_lt, Nat.sub_zero, Nat.sub_self, ints_length, hz]
    · exact no 1 (by simp only [repR]; rw [if_neg (by omega), if_neg (by omega), if_neg (by omega), if_pos (by omega)])
    refine call_pc (ok_slices_ContainsFunc__int v _ volB hv ok_manual_Reports_1) (by simp [go_sem]) ?_
    try simp (disch := omega) only [go_sem, Int.reduceEq, Int.reduceLT, Int.reduceLE, Int.reduceToNat, Nat.reduceLT, Nat.reduceEqDiff, Nat.reduceAdd, Nat.reduceLeDiff, Nat.reduceSub, Nat.reduceMul, ↓reduceIte, reduceCtorEq, wrap_id, w_ite_ne, w_ite_lt, Nat.sub_zero, Nat.sub_self, ints_length, hz]
    cases ha : v.any volB
    case true =>
      try simp (disch := omega) only [go_sem, Int.reduceEq, Int.reduceLT, Int.reduceLE, Int.reduceToNat, Nat.reduceLT, Nat.reduceEqDiff, Nat.reduceAdd, Nat.reduceLeDiff, Nat.reduceSub, Nat.reduceMul, ↓reduceIte, reduceCtorEq, wrap_id, w_ite_ne, w_ite_lt, Nat.sub_zero, Nat.sub_self]
      exact no 1 (by simp only [repR]; rw [if_neg (by omega), if_neg (by omega), if_neg (by omega), if_pos (.inr (.inr ha))])
    have htk : repR first account field frm v tol = (repL first account field frm v tol v.length, 0) := by
      simp only [repR]; rw [if_neg (by omega), if_neg (by omega), if_neg (by omega), if_neg]
      rintro (h | h | h)
      · omega
      · omega
      · rw [ha] at h; cases h
    have hn4 : v.length ≤ 400 := by omega
    try simp (disch := omega) only [go_sem, Int.reduceEq, Int.reduceLT, Int.reduceLE, Int.reduceToNat, Nat.reduceLT, Nat.reduceEqDiff, Nat.reduceAdd, Nat.reduceLeDiff, Nat.reduceSub, Nat.reduceMul, ↓reduceIte, reduceCtorEq, wrap_id, w_ite_ne, w_ite_lt, Nat.sub_zero, Nat.sub_self, ints_length, hz]
    refine awp_upG [15, 16, 17, 68, 69, 70, 71, 72, 73, 74, 75, 76, 77, 78, 79, 80, 81, 82, 83, 84, 85, 86, 87, 88, 89, 90, 91, 92, 93, 94] (by kernel_rfl) v.length (fun k e σ => e 68 = .int .i64 k ∧ SlR 6 47 σ (rps (repL first account field frm v tol k)) (e 15)) ?_ ?_
    · exact ⟨(by first | ((try simp (maxSteps := 1000000) only [go_sem, Int.reduceEq, Int.reduceLT, Int.reduceLE, Int.reduceToNat, Nat.reduceLT, Nat.reduceEqDiff, Nat.reduceAdd, Nat.reduceLeDiff, Nat.reduceSub, Nat.reduceMul, ↓reduceIte, reduceCtorEq, w_app_nl]); done) | ((try simp (maxSteps := 1000000) only [go_sem, Int.reduceEq, Int.reduceLT, Int.reduceLE, Int.reduceToNat, Nat.reduceLT, Nat.reduceEqDiff, Nat.reduceAdd, Nat.reduceLeDiff, Nat.reduceSub, Nat.reduceMul, ↓reduceIte, reduceCtorEq, w_app_nl]); rfl) | ((try simp (maxSteps := 1000000) (disch := omega) only [go_sem, Int.reduceEq, Int.reduceLT, Int.reduceLE, Int.reduceToNat, Nat.reduceLT, Nat.reduceEqDiff, Nat.reduceAdd, Nat.reduceLeDiff, Nat.reduceSub, Nat.reduceMul, ↓reduceIte, reduceCtorEq, w_app_nl, wrap_id, w_ite_ne, w_ite_lt]); rfl) | (simp (maxSteps := 1000000) (disch := omega) only [go_sem, Int.reduceEq, Int.reduceLT, Int.reduceLE, Int.reduceToNat, Nat.reduceLT, Nat.reduceEqDiff, Nat.reduceAdd, Nat.reduceLeDiff, Nat.reduceSub, Nat.reduceMul, ↓reduceIte, reduceCtorEq, w_app_nl, wrap_id, w_ite_ne, w_ite_lt]; done)), by try simp (disch := omega) only [go_sem, Int.reduceEq, Int.reduceLT, Int.reduceLE, Int.reduceToNat, Nat.reduceLT, Nat.reduceEqDiff, Nat.reduceAdd, Nat.reduceLeDiff, Nat.reduceSub, Nat.reduceMul, ↓reduceIte, reduceCtorEq, wrap_id, w_ite_ne, w_ite_lt, Nat.sub_zero, Nat.sub_self]; exact .nil⟩
    · rintro k fe ob m c hk hm ⟨hc, hR⟩
      simp (maxSteps := 1000000) only [go_sem, Int.reduceEq, Int.reduceLT, Int.reduceLE, Int.reduceToNat, Nat.reduceLT, Nat.reduceEqDiff, Nat.reduceAdd, Nat.reduceLeDiff, Nat.reduceSub, Nat.reduceMul, ↓reduceIte, reduceCtorEq, w_app_nl] at hc hR
      obtain ⟨X, hX⟩ : ∃ X, fe 15 = X := ⟨_, rfl⟩
      rw [hX] at hR
      try simp (disch := omega) only [go_sem, Int.reduceEq, Int.reduceLT, Int.reduceLE, Int.reduceToNat, Nat.reduceLT, Nat.reduceEqDiff, Nat.reduceAdd, Nat.reduceLeDiff, Nat.reduceSub, Nat.reduceMul, ↓reduceIte, reduceCtorEq, wrap_id, w_ite_ne, w_ite_lt, Nat.sub_zero, Nat.sub_self, hc, ints_length]
      refine cond_d (fun hlt => ?_) (fun hge => ?_)
      · have hkl : k < v.length := by omega
        exfalso; omega
      · have hkl : k = v.length := by omega
        subst hkl
        try simp (disch := omega) only [go_sem, Int.reduceEq, Int.reduceLT, Int.reduceLE, Int.reduceToNat, Nat.reduceLT, Nat.reduceEqDiff, Nat.reduceAdd, Nat.reduceLeDiff, Nat.reduceSub, Nat.reduceMul, ↓reduceIte, reduceCtorEq, wrap_id, w_ite_ne, w_ite_lt, Nat.sub_zero, Nat.sub_self, hX]
        rw [htk]
        exact Pub.pair (hR.pub (fun _ _ _ => rfl) (rps_pur _) (rps_ok _)) (Pub.of_eq rfl rfl)
theorem ok_ref38_Reports (first account field frm : Int) (v : List Int) (tol : Int) (hv : v.length ≤ 9223372036854775807) :
    PC prog n_ref38_Reports [.int .i64 first, .int .i64 account, .int .i64 field, .int .i64 frm, .list 1 (ints v), .int .i64 tol] (.tuple [.list 6 (rps (repR first account field frm v tol).1), .int .i64 (repR first account field frm v tol).2]) := by
  have no : ∀ {σ : St} (e : Int), repR first account field frm v tol = ([], e) → Pub σ (.tuple [.nil, .int .i64 e]) (.tuple [.list 6 (rps (repR first account field frm v tol).1), .int .i64 (repR first account field frm v tol).2]) := by
    intro σ e h
    rw [h]
    exact Pub.pair (.nl 6) (Pub.of_eq rfl rfl)
  refine PC_of_body b_ref38_Reports (by simp) ?_
  simp only [c_ref38_Reports, go_sem, Int.reduceEq, Int.reduceLT, Int.reduceLE, Int.reduceToNat, Nat.reduceLT, Nat.reduceEqDiff, Nat.reduceAdd, Nat.reduceLeDiff, Nat.reduceSub, Nat.reduceMul, ↓reduceIte, reduceCtorEq, w_app_nl]
  try simp (disch := omega) only [go_sem, Int.reduceEq, Int.reduceLT, Int.reduceLE, Int.reduceToNat, Nat.reduceLT, Nat.reduceEqDiff, Nat.reduceAdd, Nat.reduceLeDiff, Nat.reduceSub, Nat.reduceMul, ↓reduceIte, reduceCtorEq, wrap_id, w_ite_ne, w_ite_lt, Nat.sub_zero, Nat.sub_self, ints_length]
  refine gd_fd rfl (fun g1 => ?_) (fun g1 => ?_) <;> try simp (disch := omega) only [go_sem, Int.reduceEq, Int.reduceLT, Int.reduceLE, Int.reduceToNat, Nat.reduceLT, Nat.reduceEqDiff, Nat.reduceAdd, Nat.reduceLeDiff, Nat.reduceSub, Nat.reduceMul, ↓reduceIte, reduceCtorEq, wrap_id, w_ite_ne, w_ite_lt, Nat.sub_zero, Nat.sub_self, ints_length]
  · exact no 1 (by simp only [repR]; rw [if_pos (by omega)])
  refine cond_d (fun g2 => ?_) (fun g2 => ?_) <;> try simp (disch := omega) only [go_sem, Int.reduceEq, Int.reduceLT, Int.reduceLE, Int.reduceToNat, Nat.reduceLT, Nat.reduceEqDiff, Nat.reduceAdd, Nat.reduceLeDiff, Nat.reduceSub, Nat.reduceMul, ↓reduceIte, reduceCtorEq, wrap_id, w_ite_ne, w_ite_lt, Nat.sub_zero, Nat.sub_self, ints_length]
  · exact no 1 (by simp only [repR]; rw [if_pos (by omega)])
  refine gd_fd rfl (fun g3 => ?_) (fun g3 => ?_) <;> try simp (disch := omega) only [go_sem, Int.reduceEq, Int.reduceLT, Int.reduceLE, Int.reduceToNat, Nat.reduceLT, Nat.reduceEqDiff, Nat.reduceAdd, Nat.reduceLeDiff, Nat.reduceSub, Nat.reduceMul, ↓reduceIte, reduceCtorEq, wrap_id, w_ite_ne, w_ite_lt, Nat.sub_zero, Nat.sub_self, ints_length]
  · exact no 10 (by simp only [repR]; rw [if_neg (by omega), if_pos (by omega)])
  refine gd_td rfl (fun hz => ?_) (fun hz => ?_) <;> try simp (disch := omega) only [go_sem, Int.reduceEq, Int.reduceLT, Int.reduceLE, Int.reduceToNat, Nat.reduceLT, Nat.reduceEqDiff, Nat.reduceAdd, Nat.reduceLeDiff, Nat.reduceSub, Nat.reduceMul, ↓reduceIte, reduceCtorEq, wrap_id, w_ite_ne, w_ite_lt, Nat.sub_zero, Nat.sub_self, ints_length, hz]
  · refine cond_d (fun g4 => ?_) (fun g4 => ?_) <;> try simp (disch := omega) only [go_sem, Int.reduceEq, Int.reduceLT, Int.reduceLE, Int.reduceToNat, Nat.reduceLT, Nat.reduceEqDiff, Nat.reduceAdd, Nat.reduceLeDiff, Nat.reduceSub, Nat.reduceMul, ↓reduceIte, reduceCtorEq, wrap_id, w_ite_ne, w_ite_lt, Nat.sub_zero, Nat.sub_self, ints_length, hz]
    · exact no 10 (by simp only [repR]; rw [if_neg (by omega), if_pos (by omega)])
    refine gd_fd rfl (fun g5 => ?_) (fun g5 => ?_) <;> try simp (disch := omega) only [go_sem, Int.reduceEq, Int.reduceLT, Int.reduceLE, Int.reduceToNat, Nat.reduceLT, Nat.reduceEqDiff, Nat.reduceAdd, Nat.reduceLeDiff, Nat.reduceSub, Nat.reduceMul, ↓reduceIte, reduceCtorEq, wrap_id, w_ite_ne, w_ite_lt, Nat.sub_zero, Nat.sub_self, ints_length, hz]
    · exact no 6 (by simp only [repR]; rw [if_neg (by omega), if_neg (by omega), if_pos (by omega)])
    refine cond_d (fun g6 => ?_) (fun g6 => ?_) <;> try simp (disch := omega) only [go_sem, Int.reduceEq, Int.reduceLT, Int.reduceLE, Int.reduceToNat, Nat.reduceLT, Nat.reduceEqDiff, Nat.reduceAdd, Nat.reduceLeDiff, Nat.reduceSub, Nat.reduceMul, ↓reduceIte, reduceCtorEq, wrap_id, w_ite_ne, w_ite_lt, Nat.sub_zero, Nat.sub_self, ints_length, hz]
    · exact no 6 (by simp only [repR]; rw [if_neg (by omega), if_neg (by omega), if_pos (by omega)])
    refine gd_fd rfl (fun g7 => ?_) (fun g7 => ?_) <;> try simp (disch := omega) only [go_sem, Int.reduceEq, Int.reduceLT, Int.reduceLE, Int.reduceToNat, Nat.reduceLT, Nat.reduceEqDiff, Nat.reduceAdd, Nat.reduceLeDiff, Nat.reduceSub, Nat.reduceMul, ↓reduceIte, reduceCtorEq, wrap_id, w_ite_ne, w_ite_lt, Nat.sub_zero, Nat.sub_self, ints_length, hz]
    · exact no 1 (by simp only [repR]; rw [if_neg (by omega), if_neg (by omega), if_neg (by omega), if_pos (by omega)])
    refine cond_d (fun g8 => ?_) (fun g8 => ?_) <;> try simp (disch := omega) only [go_sem, Int.reduceEq, Int.reduceLT, Int.reduceLE, Int.reduceToNat, Nat.reduceLT, Nat.reduceEqDiff, Nat.reduceAdd, Nat.reduceLeDiff, Nat.reduceSub, Nat.reduceMul, ↓reduceIte, reduceCtorEq, wrap_id, w_ite_ne, w_ite_lt, Nat.sub_zero, Nat.sub_self, ints_length, hz]
    · exact no 1 (by simp only [repR]; rw [if_neg (by omega), if_neg (by omega), if_neg (by omega), if_pos (by omega)])
    have hn4 : v.length ≤ 400 := by omega
    try simp (disch := omega) only [go_sem, Int.reduceEq, Int.reduceLT, Int.reduceLE, Int.reduceToNat, Nat.reduceLT, Nat.reduceEqDiff, Nat.reduceAdd, Nat.reduceLeDiff, Nat.reduceSub, Nat.reduceMul, ↓reduceIte, reduceCtorEq, wrap_id, w_ite_ne, w_ite_lt, Nat.sub_zero, Nat.sub_self, ints_length, hz]
    refine awp_upG [12, 13, 15, 16, 17, 60, 61, 62, 63, 64, 65, 66, 67, 68, 69, 70, 71, 72, 73, 74, 75, 76, 77, 78, 79, 80, 81, 82, 83, 84, 85, 86, 87, 88, 89, 90, 91, 92] (by kernel_rfl) v.length (fun k e σ => e 60 = .int .i64 k ∧ ((v.take k).any volB = false) ∧ SlR 6 47 σ (rps (repL first account field frm v tol k)) (e 15)) ?_ ?_
    · exact ⟨(by first | ((try simp (maxSteps := 1000000) only [go_sem, Int.reduceEq, Int.reduceLT, Int.reduceLE, Int.reduceToNat, Nat.reduceLT, Nat.reduceEqDiff, Nat.reduceAdd, Nat.reduceLeDiff, Nat.reduceSub, Nat.reduceMul, ↓reduceIte, reduceCtorEq, w_app_nl]); done) | ((try simp (maxSteps := 1000000) only [go_sem, Int.reduceEq, Int.reduceLT, Int.reduceLE, Int.reduceToNat, Nat.reduceLT, Nat.reduceEqDiff, Nat.reduceAdd, Nat.reduceLeDiff, Nat.reduceSub, Nat.reduceMul, ↓reduceIte, reduceCtorEq, w_app_nl]); rfl) | ((try simp (maxSteps := 1000000) (disch := omega) only [go_sem, Int.reduceEq, Int.reduceLT, Int.reduceLE, Int.reduceToNat, Nat.reduceLT, Nat.reduceEqDiff, Nat.reduceAdd, Nat.reduceLeDiff, Nat.reduceSub, Nat.reduceMul, ↓reduceIte, reduceCtorEq, w_app_nl, wrap_id, w_ite_ne, w_ite_lt]); rfl) | (simp (maxSteps := 1000000) (disch := omega) only [go_sem, Int.reduceEq, Int.reduceLT, Int.reduceLE, Int.reduceToNat, Nat.reduceLT, Nat.reduceEqDiff, Nat.reduceAdd, Nat.reduceLeDiff, Nat.reduceSub, Nat.reduceMul, ↓reduceIte, reduceCtorEq, w_app_nl, wrap_id, w_ite_ne, w_ite_lt]; done)), by simp, by try simp (disch := omega) only [go_sem, Int.reduceEq, Int.reduceLT, Int.reduceLE, Int.reduceToNat, Nat.reduceLT, Nat.reduceEqDiff, Nat.reduceAdd, Nat.reduceLeDiff, Nat.reduceSub, Nat.reduceMul, ↓reduceIte, reduceCtorEq, wrap_id, w_ite_ne, w_ite_lt, Nat.sub_zero, Nat.sub_self]; exact .nil⟩
    · rintro k fe ob m c hk hm ⟨hc, hj, hR⟩
      simp (maxSteps := 1000000) only [go_sem, Int.reduceEq, Int.reduceLT, Int.reduceLE, Int.reduceToNat, Nat.reduceLT, Nat.reduceEqDiff, Nat.reduceAdd, Nat.reduceLeDiff, Nat.reduceSub, Nat.reduceMul, ↓reduceIte, reduceCtorEq, w_app_nl] at hc hR
      obtain ⟨X, hX⟩ : ∃ X, fe 15 = X := ⟨_, rfl⟩
      rw [hX] at hR
      try simp (disch := omega) only [go_sem, Int.reduceEq, Int.reduceLT, Int.reduceLE, Int.reduceToNat, Nat.reduceLT, Nat.reduceEqDiff, Nat.reduceAdd, Nat.reduceLeDiff, Nat.reduceSub, Nat.reduceMul, ↓reduceIte, reduceCtorEq, wrap_id, w_ite_ne, w_ite_lt, Nat.sub_zero, Nat.sub_self, hc, ints_length]
      refine cond_d (fun hlt => ?_) (fun hge => ?_)
      · have hkl : k < v.length := by omega
        have hk2 : v[k]? = some v[k] := List.getElem?_eq_getElem hkl
        have hgd : v.getD k 0 = v[k] := by simp [hk2]
        have hst : (v.take (k + 1)).any volB = volB v[k] := by
          rw [List.take_add_one, hk2, List.any_append, hj]; simp
        have hin : v[k] ∈ v := List.getElem_mem _
        generalize v[k] = x at *
        try simp (disch := omega) only [go_sem, Int.reduceEq, Int.reduceLT, Int.reduceLE, Int.reduceToNat, Nat.reduceLT, Nat.reduceEqDiff, Nat.reduceAdd, Nat.reduceLeDiff, Nat.reduceSub, Nat.reduceMul, ↓reduceIte, reduceCtorEq, wrap_id, w_ite_ne, w_ite_lt, Nat.sub_zero, Nat.sub_self, hc, ints_length, ints_get, hk2, hX, Option.map_some]
        refine ⟨by omega, by omega, ?_⟩
        have hbad : volB x = true → v.any volB = true := fun h => List.any_eq_true.2 ⟨x, hin, h⟩
        have nob : ∀ {σ : St}, volB x = true → Pub σ (.tuple [.nil, .int .i64 1]) (.tuple [.list 6 (rps (repR first account field frm v tol).1), .int .i64 (repR first account field frm v tol).2]) := fun h =>
          no 1 (by simp only [repR]; rw [if_neg (by omega), if_neg (by omega), if_neg (by omega), if_pos (.inr (.inr (hbad h)))])
        refine gd_fd rfl (fun g9 => ?_) (fun g9 => ?_) <;> try simp (disch := omega) only [go_sem, Int.reduceEq, Int.reduceLT, Int.reduceLE, Int.reduceToNat, Nat.reduceLT, Nat.reduceEqDiff, Nat.reduceAdd, Nat.reduceLeDiff, Nat.reduceSub, Nat.reduceMul, ↓reduceIte, reduceCtorEq, wrap_id, w_ite_ne, w_ite_lt, Nat.sub_zero, Nat.sub_self, hc, hX]
        · exact nob (by simp [volB, g9])
        refine cond_d (fun g10 => ?_) (fun g10 => ?_) <;> try simp (disch := omega) only [go_sem, Int.reduceEq, Int.reduceLT, Int.reduceLE, Int.reduceToNat, Nat.reduceLT, Nat.reduceEqDiff, Nat.reduceAdd, Nat.reduceLeDiff, Nat.reduceSub, Nat.reduceMul, ↓reduceIte, reduceCtorEq, wrap_id, w_ite_ne, w_ite_lt, Nat.sub_zero, Nat.sub_self, hc, hX]
        · exact nob (by simp [volB, g10])
        have hvx : volB x = false := by simp [volB, g9, g10]
        refine app_slr hR (by rw [rps_length, repL_length]; omega) (by rw [rps_length, repL_length]; omega) fun X2 τ2 hR2 hK2 => ?_
        try simp (disch := omega) only [go_sem, Int.reduceEq, Int.reduceLT, Int.reduceLE, Int.reduceToNat, Nat.reduceLT, Nat.reduceEqDiff, Nat.reduceAdd, Nat.reduceLeDiff, Nat.reduceSub, Nat.reduceMul, ↓reduceIte, reduceCtorEq, wrap_id, w_ite_ne, w_ite_lt, Nat.sub_zero, Nat.sub_self, hc]
        refine up_nextG τ2.n hkl (Nat.zero_le _) ⟨(by first | ((try simp (maxSteps := 1000000) only [go_sem, Int.reduceEq, Int.reduceLT, Int.reduceLE, Int.reduceToNat, Nat.reduceLT, Nat.reduceEqDiff, Nat.reduceAdd, Nat.reduceLeDiff, Nat.reduceSub, Nat.reduceMul, ↓reduceIte, reduceCtorEq, w_app_nl]); done) | ((try simp (maxSteps := 1000000) only [go_sem, Int.reduceEq, Int.reduceLT, Int.reduceLE, Int.reduceToNat, Nat.reduceLT, Nat.reduceEqDiff, Nat.reduceAdd, Nat.reduceLeDiff, Nat.reduceSub, Nat.reduceMul, ↓reduceIte, reduceCtorEq, w_app_nl]); rfl) | ((try simp (maxSteps := 1000000) (disch := omega) only [go_sem, Int.reduceEq, Int.reduceLT, Int.reduceLE, Int.reduceToNat, Nat.reduceLT, Nat.reduceEqDiff, Nat.reduceAdd, Nat.reduceLeDiff, Nat.reduceSub, Nat.reduceMul, ↓reduceIte, reduceCtorEq, w_app_nl, wrap_id, w_ite_ne, w_ite_lt]); rfl) | (simp (maxSteps := 1000000) (disch := omega) only [go_sem, Int.reduceEq, Int.reduceLT, Int.reduceLE, Int.reduceToNat, Nat.reduceLT, Nat.reduceEqDiff, Nat.reduceAdd, Nat.reduceLeDiff, Nat.reduceSub, Nat.reduceMul, ↓reduceIte, reduceCtorEq, w_app_nl, wrap_id, w_ite_ne, w_ite_lt]; done)), by rw [hst]; exact hvx, ?_⟩
        try simp (disch := omega) only [go_sem, Int.reduceEq, Int.reduceLT, Int.reduceLE, Int.reduceToNat, Nat.reduceLT, Nat.reduceEqDiff, Nat.reduceAdd, Nat.reduceLeDiff, Nat.reduceSub, Nat.reduceMul, ↓reduceIte, reduceCtorEq, wrap_id, w_ite_ne, w_ite_lt, Nat.sub_zero, Nat.sub_self]
        rw [repL_succ, hgd]
        rw [show rps (repL first account field frm v tol k) ++ [AV.agg [.int .i64 (first + k), .int .i64 account, .int .i64 field, .int .i64 (frm + k), .int .i64 (max 0 (x - tol)), .int .i64 (min 274877906944 (x + tol))]] = rps (repL first account field frm v tol k ++ [rp1 first account field frm tol k x]) by simp [rps, rpv, rp1]] at hR2
        refine hR2.move (Nat.le_refl _) fun i hi _ => ?_
        simp only [St.trunc, if_pos hi]
      · have hkl : k = v.length := by omega
        subst hkl
        try simp (disch := omega) only [go_sem, Int.reduceEq, Int.reduceLT, Int.reduceLE, Int.reduceToNat, Nat.reduceLT, Nat.reduceEqDiff, Nat.reduceAdd, Nat.reduceLeDiff, Nat.reduceSub, Nat.reduceMul, ↓reduceIte, reduceCtorEq, wrap_id, w_ite_ne, w_ite_lt, Nat.sub_zero, Nat.sub_self, hX]
        rw [List.take_length] at hj
        have htk : repR first account field frm v tol = (repL first account field frm v tol v.length, 0) := by
          simp only [repR]; rw [if_neg (by omega), if_neg (by omega), if_neg (by omega), if_neg]
          rintro (h | h | h)
          · omega
          · omega
          · rw [hj] at h; cases h
        rw [htk]
        exact Pub.pair (hR.pub (fun _ _ _ => rfl) (rps_pur _) (rps_ok _)) (Pub.of_eq rfl rfl)
  · refine gd_fd rfl (fun g5 => ?_) (fun g5 => ?_) <;> try simp (disch := omega) only [go_sem, Int.reduceEq, Int.reduceLT, Int.reduceLE, Int.reduceToNat, Nat.reduceLT, Nat.reduceEqDiff, Nat.reduceAdd, Nat.reduceLeDiff, Nat.reduceSub, Nat.reduceMul, ↓reduceIte, reduceCtorEq, wrap_id, w_ite_ne, w_ite_lt, Nat.sub_zero, Nat.sub_self, ints_length, hz]
    · exact no 6 (by simp only [repR]; rw [if_neg (by omega), if_neg (by omega), if_pos (by omega)])
    refine gd_fd rfl (fun g7 => ?_) (fun g7 => ?_) <;> try simp (disch := omega) only [go_sem, Int.reduceEq, Int.reduceLT, Int.reduceLE, Int.reduceToNat, Nat.reduceLT, Nat.reduceEqDiff, Nat.reduceAdd, Nat.reduceLeDiff, Nat.reduceSub, Nat.reduceMul, ↓reduceIte, reduceCtorEq, wrap_id, w_ite_ne, w_ite_lt, Nat.sub_zero, Nat.sub_self, ints_length, hz]
    · exact no 1 (by simp only [repR]; rw [if_neg (by omega), if_neg (by omega), if_neg (by omega), if_pos (by omega)])
    refine cond_d (fun g8 => ?_) (fun g8 => ?_) <;> try simp (disch := omega) only [go_sem, Int.reduceEq, Int.reduceLT, Int.reduceLE, Int.reduceToNat, Nat.reduceLT, Nat.reduceEqDiff, Nat.reduceAdd, Nat.reduceLeDiff, Nat.reduceSub, Nat.reduceMul, ↓reduceIte, reduceCtorEq, wrap_id, w_ite_ne, w_ite_lt, Nat.sub_zero, Nat.sub_self, ints_length, hz]
    · exact no 1 (by simp only [repR]; rw [if_neg (by omega), if_neg (by omega), if_neg (by omega), if_pos (by omega)])
    have hn4 : v.length ≤ 400 := by omega
    try simp (disch := omega) only [go_sem, Int.reduceEq, Int.reduceLT, Int.reduceLE, Int.reduceToNat, Nat.reduceLT, Nat.reduceEqDiff, Nat.reduceAdd, Nat.reduceLeDiff, Nat.reduceSub, Nat.reduceMul, ↓reduceIte, reduceCtorEq, wrap_id, w_ite_ne, w_ite_lt, Nat.sub_zero, Nat.sub_self, ints_length, hz]
    refine awp_upG [12, 13, 15, 16, 17, 60, 61, 62, 63, 64, 65, 66, 67, 68, 69, 70, 71, 72, 73, 74, 75, 76, 77, 78, 79, 80, 81, 82, 83, 84, 85, 86, 87, 88, 89, 90, 91, 92] (by kernel_rfl) v.length (fun k e σ => e 60 = .int .i64 k ∧ ((v.take k).any volB = false) ∧ SlR 6 47 σ (rps (repL first account field frm v tol k)) (e 15)) ?_ ?_
    · exact ⟨(by first | ((try simp (maxSteps := 1000000) only [go_sem, Int.reduceEq, Int.reduceLT, Int.reduceLE, Int.reduceToNat, Nat.reduceLT, Nat.reduceEqDiff, Nat.reduceAdd, Nat.reduceLeDiff, Nat.reduceSub, Nat.reduceMul, ↓reduceIte, reduceCtorEq, w_app_nl]); done) | ((try simp (maxSteps := 1000000) only [go_sem, Int.reduceEq, Int.reduceLT, Int.reduceLE, Int.reduceToNat, Nat.reduceLT, Nat.reduceEqDiff, Nat.reduceAdd, Nat.reduceLeDiff, Nat.reduceSub, Nat.reduceMul, ↓reduceIte, reduceCtorEq, w_app_nl]); rfl) | ((try simp (maxSteps := 1000000) (disch := omega) only [go_sem, Int.reduceEq, Int.reduceLT, Int.reduceLE, Int.reduceToNat, Nat.reduceLT, Nat.reduceEqDiff, Nat.reduceAdd, Nat.reduceLeDiff, Nat.reduceSub, Nat.reduceMul, ↓reduceIte, reduceCtorEq, w_app_nl, wrap_id, w_ite_ne, w_ite_lt]); rfl) | (simp (maxSteps := 1000000) (disch := omega) only [go_sem, Int.reduceEq, Int.reduceLT, Int.reduceLE, Int.reduceToNat, Nat.reduceLT, Nat.reduceEqDiff, Nat.reduceAdd, Nat.reduceLeDiff, Nat.reduceSub, Nat.reduceMul, ↓reduceIte, reduceCtorEq, w_app_nl, wrap_id, w_ite_ne, w_ite_lt]; done)), by simp, by try simp (disch := omega) only [go_sem, Int.reduceEq, Int.reduceLT, Int.reduceLE, Int.reduceToNat, Nat.reduceLT, Nat.reduceEqDiff, Nat.reduceAdd, Nat.reduceLeDiff, Nat.reduceSub, Nat.reduceMul, ↓reduceIte, reduceCtorEq, wrap_id, w_ite_ne, w_ite_lt, Nat.sub_zero, Nat.sub_self]; exact .nil⟩
    · rintro k fe ob m c hk hm ⟨hc, hj, hR⟩
      simp (maxSteps := 1000000) only [go_sem, Int.reduceEq, Int.reduceLT, Int.reduceLE, Int.reduceToNat, Nat.reduceLT, Nat.reduceEqDiff, Nat.reduceAdd, Nat.reduceLeDiff, Nat.reduceSub, Nat.reduceMul, ↓reduceIte, reduceCtorEq, w_app_nl] at hc hR
      obtain ⟨X, hX⟩ : ∃ X, fe 15 = X := ⟨_, rfl⟩
      rw [hX] at hR
      try simp (disch := omega) only [go_sem, Int.reduceEq, Int.reduceLT, Int.reduceLE, Int.reduceToNat, Nat.reduceLT, Nat.reduceEqDiff, Nat.reduceAdd, Nat.reduceLeDiff, Nat.reduceSub, Nat.reduceMul, ↓reduceIte, reduceCtorEq, wrap_id, w_ite_ne, w_ite_lt, Nat.sub_zero, Nat.sub_self, hc, ints_length]
      refine cond_d (fun hlt => ?_) (fun hge => ?_)
      · have hkl : k < v.length := by omega
        exfalso; omega
      · have hkl : k = v.length := by omega
        subst hkl
        try simp (disch := omega) only [go_sem, Int.reduceEq, Int.reduceLT, Int.reduceLE, Int.reduceToNat, Nat.reduceLT, Nat.reduceEqDiff, Nat.reduceAdd, Nat.reduceLeDiff, Nat.reduceSub, Nat.reduceMul, ↓reduceIte, reduceCtorEq, wrap_id, w_ite_ne, w_ite_lt, Nat.sub_zero, Nat.sub_self, hX]
        rw [List.take_length] at hj
        have htk : repR first account field frm v tol = (repL first account field frm v tol v.length, 0) := by
          simp only [repR]; rw [if_neg (by omega), if_neg (by omega), if_neg (by omega), if_neg]
          rintro (h | h | h)
          · omega
          · omega
          · rw [hj] at h; cases h
        rw [htk]
        exact Pub.pair (hR.pub (fun _ _ _ => rfl) (rps_pur _) (rps_ok _)) (Pub.of_eq rfl rfl)
theorem hdOk_snoc : ∀ {L : List Hd} {last : Int} {h : Hd}, hdOk last L = true → last < h.s → (∀ x ∈ L, x.s < h.s) → h.s < 6 → 0 ≤ h.t → h.t ≤ 16777216 → hdOk last (L ++ [h]) = true
  | [], last, h, _, h1, _, h2, h3, h4 => by simp [hdOk, hd1]; omega
  | a :: r, last, h, hok, _, hx, h2, h3, h4 => by
    simp only [List.cons_append, hdOk, Bool.and_eq_true] at hok ⊢
    exact ⟨hok.1, hdOk_snoc hok.2 (hx a (by simp)) (fun y hy => hx y (by simp [hy])) h2 h3 h4⟩
def Hands0 (σ : St) (id g : Nat) (t : List Int) (r : AV) (τ : St) : Prop := ∃ (L : List Hd) (at2 : Nat), hdOk (-1) L = true ∧ SlR 2 60 τ (hds L) r ∧ (∀ i, i < σ.n → Oth r i) ∧ τ.ob id = some ⟨g, 2, ty_Deck, false, true, [deckV t at2]⟩ ∧ (∀ i, i < σ.n → i ≠ id → τ.ob i = σ.ob i) ∧ σ.n ≤ τ.n
theorem hc_law38_hands0 (σ : St) (id g : Nat) (t : List Int) (at' : Nat) (hl : t.length ≤ 9223372036854775807) (hid : id < σ.n) (hob : σ.ob id = some ⟨g, 2, ty_Deck, false, true, [deckV t at']⟩) :
    HC prog n_law38_hands [.ptr id g 2 0 0] σ (Hands0 σ id g t) := by
  obtain ⟨ob0, n0, c0⟩ := σ
  simp only at hob hid
  refine HC_of_body b_law38_hands (by simp) ?_
  simp only [c_law38_hands, go_sem, Int.reduceEq, Int.reduceLT, Int.reduceLE, Int.reduceToNat, Nat.reduceLT, Nat.reduceEqDiff, Nat.reduceAdd, Nat.reduceLeDiff, Nat.reduceSub, Nat.reduceMul, ↓reduceIte, reduceCtorEq, w_app_nl]
  refine awp_upG [3, 4, 5, 6, 7, 8, 9, 10, 11, 12, 13, 14, 15, 16, 17, 18] (by kernel_rfl) 6 (fun k e σ => e 4 = .int .i64 k ∧ (∃ at', σ.ob id = some ⟨g, 2, ty_Deck, false, true, [deckV t at']⟩) ∧ (∀ i, i < n0 → i ≠ id → σ.ob i = ob0 i) ∧ (∀ i, i < n0 → Oth (e 3) i) ∧
    ∃ L : List Hd, SlR 2 60 σ (hds L) (e 3) ∧ hdOk (-1) L = true ∧ ∀ h ∈ L, h.s < (k : Int)) ?_ ?_
  · refine ⟨(by first | ((try simp (maxSteps := 1000000) only [go_sem, Int.reduceEq, Int.reduceLT, Int.reduceLE, Int.reduceToNat, Nat.reduceLT, Nat.reduceEqDiff, Nat.reduceAdd, Nat.reduceLeDiff, Nat.reduceSub, Nat.reduceMul, ↓reduceIte, reduceCtorEq, w_app_nl]); done) | ((try simp (maxSteps := 1000000) only [go_sem, Int.reduceEq, Int.reduceLT, Int.reduceLE, Int.reduceToNat, Nat.reduceLT, Nat.reduceEqDiff, Nat.reduceAdd, Nat.reduceLeDiff, Nat.reduceSub, Nat.reduceMul, ↓reduceIte, reduceCtorEq, w_app_nl]); rfl) | ((try simp (maxSteps := 1000000) (disch := omega) only [go_sem, Int.reduceEq, Int.reduceLT, Int.reduceLE, Int.reduceToNat, Nat.reduceLT, Nat.reduceEqDiff, Nat.reduceAdd, Nat.reduceLeDiff, Nat.reduceSub, Nat.reduceMul, ↓reduceIte, reduceCtorEq, w_app_nl, wrap_id, w_ite_ne, w_ite_lt]); rfl) | (simp (maxSteps := 1000000) (disch := omega) only [go_sem, Int.reduceEq, Int.reduceLT, Int.reduceLE, Int.reduceToNat, Nat.reduceLT, Nat.reduceEqDiff, Nat.reduceAdd, Nat.reduceLeDiff, Nat.reduceSub, Nat.reduceMul, ↓reduceIte, reduceCtorEq, w_app_nl, wrap_id, w_ite_ne, w_ite_lt]; done)), ⟨at', by try simp (disch := omega) only [go_sem, Int.reduceEq, Int.reduceLT, Int.reduceLE, Int.reduceToNat, Nat.reduceLT, Nat.reduceEqDiff, Nat.reduceAdd, Nat.reduceLeDiff, Nat.reduceSub, Nat.reduceMul, ↓reduceIte, reduceCtorEq, wrap_id, w_ite_ne, w_ite_lt, Nat.sub_zero, Nat.sub_self]; exact hob⟩, fun i _ _ => rfl, fun i _ => ?_, [], ?_, rfl, by simp⟩
    · try simp (disch := omega) only [go_sem, Int.reduceEq, Int.reduceLT, Int.reduceLE, Int.reduceToNat, Nat.reduceLT, Nat.reduceEqDiff, Nat.reduceAdd, Nat.reduceLeDiff, Nat.reduceSub, Nat.reduceMul, ↓reduceIte, reduceCtorEq, wrap_id, w_ite_ne, w_ite_lt, Nat.sub_zero, Nat.sub_self]; exact Oth.nil i
    · try simp (disch := omega) only [go_sem, Int.reduceEq, Int.reduceLT, Int.reduceLE, Int.reduceToNat, Nat.reduceLT, Nat.reduceEqDiff, Nat.reduceAdd, Nat.reduceLeDiff, Nat.reduceSub, Nat.reduceMul, ↓reduceIte, reduceCtorEq, wrap_id, w_ite_ne, w_ite_lt, Nat.sub_zero, Nat.sub_self]; exact .nil
  · rintro k fe ob m c hk hm ⟨h4, ⟨at1, hd⟩, hfr, ho, L, hR, hL, hLk⟩
    have hm' : n0 ≤ m := hm
    simp (maxSteps := 1000000) only [go_sem, Int.reduceEq, Int.reduceLT, Int.reduceLE, Int.reduceToNat, Nat.reduceLT, Nat.reduceEqDiff, Nat.reduceAdd, Nat.reduceLeDiff, Nat.reduceSub, Nat.reduceMul, ↓reduceIte, reduceCtorEq, w_app_nl] at h4 hd hfr ho hR
    obtain ⟨X, hX⟩ : ∃ X, fe 3 = X := ⟨_, rfl⟩
    rw [hX] at hR
    simp only [hX] at ho
    try simp (disch := omega) only [go_sem, Int.reduceEq, Int.reduceLT, Int.reduceLE, Int.reduceToNat, Nat.reduceLT, Nat.reduceEqDiff, Nat.reduceAdd, Nat.reduceLeDiff, Nat.reduceSub, Nat.reduceMul, ↓reduceIte, reduceCtorEq, wrap_id, w_ite_ne, w_ite_lt, Nat.sub_zero, Nat.sub_self, h4]
    refine cond_d (fun hlt => ?_) (fun hge => ?_)
    · have hk6 : k < 6 := by omega
      try simp (disch := omega) only [go_sem, Int.reduceEq, Int.reduceLT, Int.reduceLE, Int.reduceToNat, Nat.reduceLT, Nat.reduceEqDiff, Nat.reduceAdd, Nat.reduceLeDiff, Nat.reduceSub, Nat.reduceMul, ↓reduceIte, reduceCtorEq, wrap_id, w_ite_ne, w_ite_lt, Nat.sub_zero, Nat.sub_self, h4]
      refine call_hc (ok_mk_Deck_Next _ id g ty_Deck true t at1 3 (by (try simp (maxSteps := 1000000) only [go_sem, Int.reduceEq, Int.reduceLT, Int.reduceLE, Int.reduceToNat, Nat.reduceLT, Nat.reduceEqDiff, Nat.reduceAdd, Nat.reduceLeDiff, Nat.reduceSub, Nat.reduceMul, ↓reduceIte, reduceCtorEq, w_app_nl]); exact hd) (by omega) hl) ?_
      generalize deckR t at1 3 = dr at *
      obtain ⟨x1, at2⟩ := dr
      try simp (disch := omega) only [go_sem, Int.reduceEq, Int.reduceLT, Int.reduceLE, Int.reduceToNat, Nat.reduceLT, Nat.reduceEqDiff, Nat.reduceAdd, Nat.reduceLeDiff, Nat.reduceSub, Nat.reduceMul, ↓reduceIte, reduceCtorEq, wrap_id, w_ite_ne, w_ite_lt, Nat.sub_zero, Nat.sub_self, h4]
      have hoid : ∀ i, ¬ Oth X i → i ≠ id := fun i hi e => hi (by subst e; exact ho _ (by omega))
      refine cond_d (fun hz => ?_) (fun hz => ?_) <;> try simp (disch := omega) only [go_sem, Int.reduceEq, Int.reduceLT, Int.reduceLE, Int.reduceToNat, Nat.reduceLT, Nat.reduceEqDiff, Nat.reduceAdd, Nat.reduceLeDiff, Nat.reduceSub, Nat.reduceMul, ↓reduceIte, reduceCtorEq, wrap_id, w_ite_ne, w_ite_lt, Nat.sub_zero, Nat.sub_self, h4]
      · refine call_hc (ok_mk_Deck_Next _ id g ty_Deck true t at2 20 (by first | rfl | simp (maxSteps := 1000000) only [go_sem, Int.reduceEq, Int.reduceLT, Int.reduceLE, Int.reduceToNat, Nat.reduceLT, Nat.reduceEqDiff, Nat.reduceAdd, Nat.reduceLeDiff, Nat.reduceSub, Nat.reduceMul, ↓reduceIte, reduceCtorEq, w_app_nl]) (by omega) hl) ?_
        have hx2 := deckR_bd t at2 20
        generalize deckR t at2 20 = dr at *
        obtain ⟨x2, at3⟩ := dr
        simp only at hx2
        try simp (disch := omega) only [go_sem, Int.reduceEq, Int.reduceLT, Int.reduceLE, Int.reduceToNat, Nat.reduceLT, Nat.reduceEqDiff, Nat.reduceAdd, Nat.reduceLeDiff, Nat.reduceSub, Nat.reduceMul, ↓reduceIte, reduceCtorEq, wrap_id, w_ite_ne, w_ite_lt, Nat.sub_zero, Nat.sub_self, h4, hX]
        have hlen := hdOk_len (by omega) (by omega) hL
        refine app_slr (hR.move (Nat.le_refl _) fun i hi hi2 => ?_) (by rw [hds_length]; omega) (by rw [hds_length]; omega) fun X2 τ2 hR2 hK2 => ?_
        · have := hoid i hi2
          try simp (disch := omega) only [go_sem, Int.reduceEq, Int.reduceLT, Int.reduceLE, Int.reduceToNat, Nat.reduceLT, Nat.reduceEqDiff, Nat.reduceAdd, Nat.reduceLeDiff, Nat.reduceSub, Nat.reduceMul, ↓reduceIte, reduceCtorEq, wrap_id, w_ite_ne, w_ite_lt, Nat.sub_zero, Nat.sub_self]
        have hn2 := hK2.1
        have hk2 := hK2.2.1
        simp only at hn2 hk2
        try simp (disch := omega) only [go_sem, Int.reduceEq, Int.reduceLT, Int.reduceLE, Int.reduceToNat, Nat.reduceLT, Nat.reduceEqDiff, Nat.reduceAdd, Nat.reduceLeDiff, Nat.reduceSub, Nat.reduceMul, ↓reduceIte, reduceCtorEq, wrap_id, w_ite_ne, w_ite_lt, Nat.sub_zero, Nat.sub_self, h4]
        refine up_nextG τ2.n hk6 (by omega) ⟨(by first | ((try simp (maxSteps := 1000000) only [go_sem, Int.reduceEq, Int.reduceLT, Int.reduceLE, Int.reduceToNat, Nat.reduceLT, Nat.reduceEqDiff, Nat.reduceAdd, Nat.reduceLeDiff, Nat.reduceSub, Nat.reduceMul, ↓reduceIte, reduceCtorEq, w_app_nl]); done) | ((try simp (maxSteps := 1000000) only [go_sem, Int.reduceEq, Int.reduceLT, Int.reduceLE, Int.reduceToNat, Nat.reduceLT, Nat.reduceEqDiff, Nat.reduceAdd, Nat.reduceLeDiff, Nat.reduceSub, Nat.reduceMul, ↓reduceIte, reduceCtorEq, w_app_nl]); rfl) | ((try simp (maxSteps := 1000000) (disch := omega) only [go_sem, Int.reduceEq, Int.reduceLT, Int.reduceLE, Int.reduceToNat, Nat.reduceLT, Nat.reduceEqDiff, Nat.reduceAdd, Nat.reduceLeDiff, Nat.reduceSub, Nat.reduceMul, ↓reduceIte, reduceCtorEq, w_app_nl, wrap_id, w_ite_ne, w_ite_lt]); rfl) | (simp (maxSteps := 1000000) (disch := omega) only [go_sem, Int.reduceEq, Int.reduceLT, Int.reduceLE, Int.reduceToNat, Nat.reduceLT, Nat.reduceEqDiff, Nat.reduceAdd, Nat.reduceLeDiff, Nat.reduceSub, Nat.reduceMul, ↓reduceIte, reduceCtorEq, w_app_nl, wrap_id, w_ite_ne, w_ite_lt]; done)), ⟨at3, ?_⟩, fun i hi hi2 => ?_, ?_, L ++ [⟨k, x2⟩], ?_, ?_, ?_⟩
        · simp only [St.trunc]
          rw [if_pos (by omega), hk2 id (by omega) (ho id hid), upd_same]
        · simp only [St.trunc]
          rw [if_pos (by omega), hk2 i (by omega) (ho i hi), upd_ne _ _ _ _ hi2, upd_ne _ _ _ _ hi2]
          exact hfr i hi hi2
        · try simp (disch := omega) only [go_sem, Int.reduceEq, Int.reduceLT, Int.reduceLE, Int.reduceToNat, Nat.reduceLT, Nat.reduceEqDiff, Nat.reduceAdd, Nat.reduceLeDiff, Nat.reduceSub, Nat.reduceMul, ↓reduceIte, reduceCtorEq, wrap_id, w_ite_ne, w_ite_lt, Nat.sub_zero, Nat.sub_self]
          intro i hi
          exact hK2.2.2 i (by simp only; omega) (ho i hi)
        · try simp (disch := omega) only [go_sem, Int.reduceEq, Int.reduceLT, Int.reduceLE, Int.reduceToNat, Nat.reduceLT, Nat.reduceEqDiff, Nat.reduceAdd, Nat.reduceLeDiff, Nat.reduceSub, Nat.reduceMul, ↓reduceIte, reduceCtorEq, wrap_id, w_ite_ne, w_ite_lt, Nat.sub_zero, Nat.sub_self]
          rw [show hds L ++ [AV.agg [.int .i64 k, .int .i64 x2]] = hds (L ++ [⟨k, x2⟩]) by simp [hds, hdv]] at hR2
          refine hR2.move (Nat.le_refl _) fun i hi _ => ?_
          simp only [St.trunc, if_pos hi]
        · exact hdOk_snoc hL (by simp only; omega) (fun x hx => hLk x hx) (by simp only; omega) (by simp only; omega) (by simp only; omega)
        · intro h hh
          rcases List.mem_append.1 hh with hh | hh
          · have := hLk h hh; omega
          · simp at hh; subst hh; simp only; omega
      · refine up_nextG m hk6 hm ⟨(by first | ((try simp (maxSteps := 1000000) only [go_sem, Int.reduceEq, Int.reduceLT, Int.reduceLE, Int.reduceToNat, Nat.reduceLT, Nat.reduceEqDiff, Nat.reduceAdd, Nat.reduceLeDiff, Nat.reduceSub, Nat.reduceMul, ↓reduceIte, reduceCtorEq, w_app_nl]); done) | ((try simp (maxSteps := 1000000) only [go_sem, Int.reduceEq, Int.reduceLT, Int.reduceLE, Int.reduceToNat, Nat.reduceLT, Nat.reduceEqDiff, Nat.reduceAdd, Nat.reduceLeDiff, Nat.reduceSub, Nat.reduceMul, ↓reduceIte, reduceCtorEq, w_app_nl]); rfl) | ((try simp (maxSteps := 1000000) (disch := omega) only [go_sem, Int.reduceEq, Int.reduceLT, Int.reduceLE, Int.reduceToNat, Nat.reduceLT, Nat.reduceEqDiff, Nat.reduceAdd, Nat.reduceLeDiff, Nat.reduceSub, Nat.reduceMul, ↓reduceIte, reduceCtorEq, w_app_nl, wrap_id, w_ite_ne, w_ite_lt]); rfl) | (simp (maxSteps := 1000000) (disch := omega) only [go_sem, Int.reduceEq, Int.reduceLT, Int.reduceLE, Int.reduceToNat, Nat.reduceLT, Nat.reduceEqDiff, Nat.reduceAdd, Nat.reduceLeDiff, Nat.reduceSub, Nat.reduceMul, ↓reduceIte, reduceCtorEq, w_app_nl, wrap_id, w_ite_ne, w_ite_lt]; done)), ⟨at2, (by first | ((try simp (maxSteps := 1000000) only [go_sem, Int.reduceEq, Int.reduceLT, Int.reduceLE, Int.reduceToNat, Nat.reduceLT, Nat.reduceEqDiff, Nat.reduceAdd, Nat.reduceLeDiff, Nat.reduceSub, Nat.reduceMul, ↓reduceIte, reduceCtorEq, w_app_nl]); done) | ((try simp (maxSteps := 1000000) only [go_sem, Int.reduceEq, Int.reduceLT, Int.reduceLE, Int.reduceToNat, Nat.reduceLT, Nat.reduceEqDiff, Nat.reduceAdd, Nat.reduceLeDiff, Nat.reduceSub, Nat.reduceMul, ↓reduceIte, reduceCtorEq, w_app_nl]); rfl) | ((try simp (maxSteps := 1000000) (disch := omega) only [go_sem, Int.reduceEq, Int.reduceLT, Int.reduceLE, Int.reduceToNat, Nat.reduceLT, Nat.reduceEqDiff, Nat.reduceAdd, Nat.reduceLeDiff, Nat.reduceSub, Nat.reduceMul, ↓reduceIte, reduceCtorEq, w_app_nl, wrap_id, w_ite_ne, w_ite_lt]); rfl) | (simp (maxSteps := 1000000) (disch := omega) only [go_sem, Int.reduceEq, Int.reduceLT, Int.reduceLE, Int.reduceToNat, Nat.reduceLT, Nat.reduceEqDiff, Nat.reduceAdd, Nat.reduceLeDiff, Nat.reduceSub, Nat.reduceMul, ↓reduceIte, reduceCtorEq, w_app_nl, wrap_id, w_ite_ne, w_ite_lt]; done))⟩, fun i hi hi2 => ?_, ?_, L, ?_, hL, fun h hh => by have := hLk h hh; omega⟩
        · try simp (disch := omega) only [go_sem, Int.reduceEq, Int.reduceLT, Int.reduceLE, Int.reduceToNat, Nat.reduceLT, Nat.reduceEqDiff, Nat.reduceAdd, Nat.reduceLeDiff, Nat.reduceSub, Nat.reduceMul, ↓reduceIte, reduceCtorEq, wrap_id, w_ite_ne, w_ite_lt, Nat.sub_zero, Nat.sub_self]; exact hfr i hi hi2
        · try simp (disch := omega) only [go_sem, Int.reduceEq, Int.reduceLT, Int.reduceLE, Int.reduceToNat, Nat.reduceLT, Nat.reduceEqDiff, Nat.reduceAdd, Nat.reduceLeDiff, Nat.reduceSub, Nat.reduceMul, ↓reduceIte, reduceCtorEq, wrap_id, w_ite_ne, w_ite_lt, Nat.sub_zero, Nat.sub_self, hX]; exact ho
        · try simp (disch := omega) only [go_sem, Int.reduceEq, Int.reduceLT, Int.reduceLE, Int.reduceToNat, Nat.reduceLT, Nat.reduceEqDiff, Nat.reduceAdd, Nat.reduceLeDiff, Nat.reduceSub, Nat.reduceMul, ↓reduceIte, reduceCtorEq, wrap_id, w_ite_ne, w_ite_lt, Nat.sub_zero, Nat.sub_self, hX]
          refine hR.move (Nat.le_refl _) fun i hi hi2 => ?_
          have := hoid i hi2
          try simp (disch := omega) only [go_sem, Int.reduceEq, Int.reduceLT, Int.reduceLE, Int.reduceToNat, Nat.reduceLT, Nat.reduceEqDiff, Nat.reduceAdd, Nat.reduceLeDiff, Nat.reduceSub, Nat.reduceMul, ↓reduceIte, reduceCtorEq, wrap_id, w_ite_ne, w_ite_lt, Nat.sub_zero, Nat.sub_self]
    · try simp (disch := omega) only [go_sem, Int.reduceEq, Int.reduceLT, Int.reduceLE, Int.reduceToNat, Nat.reduceLT, Nat.reduceEqDiff, Nat.reduceAdd, Nat.reduceLeDiff, Nat.reduceSub, Nat.reduceMul, ↓reduceIte, reduceCtorEq, wrap_id, w_ite_ne, w_ite_lt, Nat.sub_zero, Nat.sub_self, hX]
      exact ⟨L, at1, hL, hR, ho, hd, hfr, hm'⟩
/-- The same, for who calls it: a valid list; the deck is drawn from. -/
def HandsR (σ : St) (id g : Nat) (t : List Int) (r : AV) (σ' : St) : Prop := ∃ L at2 c, r = .list 2 (hds L) ∧ hdOk (-1) L = true ∧ σ' = ⟨upd (fun i => if i < σ.n then σ.ob i else none) id (some ⟨g, 2, ty_Deck, false, true, [deckV t at2]⟩), σ.n, c⟩
theorem hc_law38_hands (σ : St) (id g : Nat) (t : List Int) (at' : Nat) (hl : t.length ≤ 9223372036854775807) (hid : id < σ.n) (hob : σ.ob id = some ⟨g, 2, ty_Deck, false, true, [deckV t at']⟩) :
    HC prog n_law38_hands [.ptr id g 2 0 0] σ (HandsR σ id g t) := by
  refine HC.trunc σ.n (HC.seal (fun i => decide (i < σ.n)) (hc_law38_hands0 σ id g t at' hl hid hob) ?_)
  rintro r σ' ⟨L, at2, hok, h1, h2, h3, h4, h5⟩
  refine ⟨.list 2 (hds L), ?_, L, at2, σ'.c, rfl, hok, ?_⟩
  · rcases h1 with ⟨rfl, hl0⟩ | ⟨k, g2, rfl, hk, hq⟩
    · rw [hl0]; exact .nl 2
    · have hks : ¬ k < σ.n := fun h => h2 k h _ _ _ _ rfl
      exact Pub.of_sl (ty := 60) (ro := false) (ap := true) (by simp only; rw [if_neg (by simpa using hks)]; exact hq) rfl (hds_pur _) (hds_ok _)
  · simp only [St.trunc]
    congr 1
    funext i
    simp only [upd]
    by_cases e : i = id
    · subst e; simp [hid, h3]
    · rw [if_neg e]
      by_cases hi : i < σ.n
      · simp [hi, h4 i hi e]
      · simp [hi]
end Go.Proofs.Try
