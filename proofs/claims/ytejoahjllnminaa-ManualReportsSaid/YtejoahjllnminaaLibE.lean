/-
  OWN WORK, put together by tools/asm.py: what functions do.
-/
import Derived.Test.YtejoahjllnminaaLibD
set_option linter.unusedSimpArgs false
set_option linter.unusedVariables false
set_option maxRecDepth 100000
set_option maxHeartbeats 1000000
namespace Go.Proofs.Try
open Go.Ab Go
theorem ok_ref38_SameReports (a b : List Rp) (ha : a.length ≤ 9223372036854775807) : PC prog n_ref38_SameReports [.list 6 (rps a), .list 6 (rps b)] (.bool (decide (a = b))) := by
  refine PC_of_body b_ref38_SameReports (by simp) ?_
  simp only [c_ref38_SameReports, go_sem, Int.reduceEq, Int.reduceLT, Int.reduceLE, Int.reduceToNat, Nat.reduceLT, Nat.reduceEqDiff, Nat.reduceAdd, Nat.reduceLeDiff, Nat.reduceSub, Nat.reduceMul, ↓reduceIte, reduceCtorEq, w_app_nl, rps_length]
  refine cond_n (fun h => ?_) (fun h => ?_) <;> try simp (disch := omega) only [go_sem, Int.reduceEq, Int.reduceLT, Int.reduceLE, Int.reduceToNat, Nat.reduceLT, Nat.reduceEqDiff, Nat.reduceAdd, Nat.reduceLeDiff, Nat.reduceSub, Nat.reduceMul, ↓reduceIte, reduceCtorEq, wrap_id, w_ite_ne, w_ite_lt, Nat.sub_zero, Nat.sub_self, rps_length]
  · exact Pub.of_eq (by congr 1; simp; intro hab; exact h (by rw [hab])) rfl
  have hl : a.length = b.length := by omega
  refine awp_upF [4, 5, 13, 14, 15, 16, 17, 18, 19, 20, 21, 22, 23, 24, 25] (by kernel_rfl) a.length (fun k e _ => e 13 = .int .i64 k ∧ ∀ j, j < k → a[j]? = b[j]?) ?_ ?_
  · exact ⟨(by first | ((try simp (maxSteps := 1000000) only [go_sem, Int.reduceEq, Int.reduceLT, Int.reduceLE, Int.reduceToNat, Nat.reduceLT, Nat.reduceEqDiff, Nat.reduceAdd, Nat.reduceLeDiff, Nat.reduceSub, Nat.reduceMul, ↓reduceIte, reduceCtorEq, w_app_nl]); done) | ((try simp (maxSteps := 1000000) only [go_sem, Int.reduceEq, Int.reduceLT, Int.reduceLE, Int.reduceToNat, Nat.reduceLT, Nat.reduceEqDiff, Nat.reduceAdd, Nat.reduceLeDiff, Nat.reduceSub, Nat.reduceMul, ↓reduceIte, reduceCtorEq, w_app_nl]); rfl) | ((try simp (maxSteps := 1000000) (disch := omega) only [go_sem, Int.reduceEq, Int.reduceLT, Int.reduceLE, Int.reduceToNat, Nat.reduceLT, Nat.reduceEqDiff, Nat.reduceAdd, Nat.reduceLeDiff, Nat.reduceSub, Nat.reduceMul, ↓reduceIte, reduceCtorEq, w_app_nl, wrap_id, w_ite_ne, w_ite_lt]); rfl) | (simp (maxSteps := 1000000) (disch := omega) only [go_sem, Int.reduceEq, Int.reduceLT, Int.reduceLE, Int.reduceToNat, Nat.reduceLT, Nat.reduceEqDiff, Nat.reduceAdd, Nat.reduceLeDiff, Nat.reduceSub, Nat.reduceMul, ↓reduceIte, reduceCtorEq, w_app_nl, wrap_id, w_ite_ne, w_ite_lt]; done)), by simp⟩
  · rintro k fe ob c hk ⟨h13, hj⟩
    simp (maxSteps := 1000000) only [go_sem, Int.reduceEq, Int.reduceLT, Int.reduceLE, Int.reduceToNat, Nat.reduceLT, Nat.reduceEqDiff, Nat.reduceAdd, Nat.reduceLeDiff, Nat.reduceSub, Nat.reduceMul, ↓reduceIte, reduceCtorEq, w_app_nl] at h13
    try simp (disch := omega) only [go_sem, Int.reduceEq, Int.reduceLT, Int.reduceLE, Int.reduceToNat, Nat.reduceLT, Nat.reduceEqDiff, Nat.reduceAdd, Nat.reduceLeDiff, Nat.reduceSub, Nat.reduceMul, ↓reduceIte, reduceCtorEq, wrap_id, w_ite_ne, w_ite_lt, Nat.sub_zero, Nat.sub_self, h13, rps_length]
    refine cond_d (fun hlt => ?_) (fun hge => ?_)
    · have hka : k < a.length := by omega
      have hga : a[k]? = some a[k] := List.getElem?_eq_getElem hka
      have hgb : b[k]? = some b[k] := List.getElem?_eq_getElem (by omega)
      generalize a[k] = x at *
      generalize b[k] = y at *
      try simp (disch := omega) only [go_sem, Int.reduceEq, Int.reduceLT, Int.reduceLE, Int.reduceToNat, Nat.reduceLT, Nat.reduceEqDiff, Nat.reduceAdd, Nat.reduceLeDiff, Nat.reduceSub, Nat.reduceMul, ↓reduceIte, reduceCtorEq, wrap_id, w_ite_ne, w_ite_lt, Nat.sub_zero, Nat.sub_self, h13, rps_length, rps_get, hga, hgb, rpv, Option.map_some]
      refine ⟨by omega, by omega, by omega, by omega, ?_⟩
      have hxy : (decide (x.n = y.n) && (decide (x.a = y.a) && (decide (x.f = y.f) && (decide (x.t = y.t) && (decide (x.l = y.l) && decide (x.m = y.m)))))) = decide (x = y) := by cases x; cases y; simp
      rw [hxy]
      refine cond_n (fun hne => ?_) (fun heq => ?_) <;> try simp (disch := omega) only [go_sem, Int.reduceEq, Int.reduceLT, Int.reduceLE, Int.reduceToNat, Nat.reduceLT, Nat.reduceEqDiff, Nat.reduceAdd, Nat.reduceLeDiff, Nat.reduceSub, Nat.reduceMul, ↓reduceIte, reduceCtorEq, wrap_id, w_ite_ne, w_ite_lt, Nat.sub_zero, Nat.sub_self, h13]
      · refine Pub.of_eq ?_ rfl
        congr 1
        simp only [Bool.false_eq, decide_eq_false_iff_not]
        intro hab
        subst hab
        rw [hga] at hgb
        exact hne (Option.some.inj hgb)
      · refine up_next hka ⟨(by first | ((try simp (maxSteps := 1000000) only [go_sem, Int.reduceEq, Int.reduceLT, Int.reduceLE, Int.reduceToNat, Nat.reduceLT, Nat.reduceEqDiff, Nat.reduceAdd, Nat.reduceLeDiff, Nat.reduceSub, Nat.reduceMul, ↓reduceIte, reduceCtorEq, w_app_nl]); done) | ((try simp (maxSteps := 1000000) only [go_sem, Int.reduceEq, Int.reduceLT, Int.reduceLE, Int.reduceToNat, Nat.reduceLT, Nat.reduceEqDiff, Nat.reduceAdd, Nat.reduceLeDiff, Nat.reduceSub, Nat.reduceMul, ↓reduceIte, reduceCtorEq, w_app_nl]); rfl) | ((try simp (maxSteps := 1000000) (disch := omega) only [go_sem, Int.reduceEq, Int.reduceLT, Int.reduceLE, Int.reduceToNat, Nat.reduceLT, Nat.reduceEqDiff, Nat.reduceAdd, Nat.reduceLeDiff, Nat.reduceSub, Nat.reduceMul, ↓reduceIte, reduceCtorEq, w_app_nl, wrap_id, w_ite_ne, w_ite_lt]); rfl) | (simp (maxSteps := 1000000) (disch := omega) only [go_sem, Int.reduceEq, Int.reduceLT, Int.reduceLE, Int.reduceToNat, Nat.reduceLT, Nat.reduceEqDiff, Nat.reduceAdd, Nat.reduceLeDiff, Nat.reduceSub, Nat.reduceMul, ↓reduceIte, reduceCtorEq, w_app_nl, wrap_id, w_ite_ne, w_ite_lt]; done)), ?_⟩
        intro j hj'
        by_cases e : j = k
        · subst e; rw [hga, hgb, heq]
        · exact hj j (by omega)
    · try simp (disch := omega) only [go_sem, Int.reduceEq, Int.reduceLT, Int.reduceLE, Int.reduceToNat, Nat.reduceLT, Nat.reduceEqDiff, Nat.reduceAdd, Nat.reduceLeDiff, Nat.reduceSub, Nat.reduceMul, ↓reduceIte, reduceCtorEq, wrap_id, w_ite_ne, w_ite_lt, Nat.sub_zero, Nat.sub_self]
      exact Pub.of_eq (by congr 1; simp; exact eq_of_get hl fun j hj' => hj j (by omega)) rfl
theorem and_small : ∀ n : Nat, n < 401 → IntKind.u64.wrap ((BitVec.ofInt 64 (n : Int)) &&& (BitVec.ofInt 64 4294967295)).toNat = (n : Int) := by decide +kernel
theorem mul_small (n : Nat) (h : n < 401) : bitD .and .u64 (n : Int) .u64 4294967295 = some (.int .u64 (n : Int)) := by
  have := and_small n h
  simp only [bitD, IntKind.bits, if_true]
  exact congrArg (fun z => some (AV.int .u64 z)) this
theorem ok_math_bits_Mul64 (n : Nat) (hn : n < 401) : PC prog n_math_bits_Mul64 [.int .u64 1, .int .u64 n] (.tuple [.int .u64 0, .int .u64 n]) := by
  refine PC_of_body b_math_bits_Mul64 (by simp) ?_
  simp only [c_math_bits_Mul64, go_sem, Int.reduceEq, Int.reduceLT, Int.reduceLE, Int.reduceToNat, Nat.reduceLT, Nat.reduceEqDiff, Nat.reduceAdd, Nat.reduceLeDiff, Nat.reduceSub, Nat.reduceMul, ↓reduceIte, reduceCtorEq, w_app_nl]
  have h1 := mul_small n hn
  have h2 : bitD .and .u64 1 .u64 4294967295 = some (.int .u64 1) := mul_small 1 (by omega)
  have h0 : bitD .and .u64 0 .u64 4294967295 = some (.int .u64 0) := mul_small 0 (by omega)
  have h3 : bitD .shr .u64 1 .u64 32 = some (.int .u64 0) := by kernel_rfl
  have h00 : bitD .shr .u64 0 .u64 32 = some (.int .u64 0) := by kernel_rfl
  have h4 : bitD .shr .u64 (n : Int) .u64 32 = some (.int .u64 0) := by
    simp only [bitD, IntKind.bits]
    rw [if_pos (by omega)]
    have : (2 : Int) ^ min (32 : Int).toNat 64 = 4294967296 := by decide
    rw [this, Int.fdiv_eq_ediv_of_nonneg _ (by omega), Int.ediv_eq_zero_of_lt (by omega) (by omega)]
  try simp (disch := omega) only [go_sem, Int.reduceEq, Int.reduceLT, Int.reduceLE, Int.reduceToNat, Nat.reduceLT, Nat.reduceEqDiff, Nat.reduceAdd, Nat.reduceLeDiff, Nat.reduceSub, Nat.reduceMul, ↓reduceIte, reduceCtorEq, wrap_id, w_ite_ne, w_ite_lt, Nat.sub_zero, Nat.sub_self, h1, h2, h3, h4, h0, h00, Option.some.injEq, exists_eq_left', wrap_u64, Int.one_mul, Int.zero_mul, Int.mul_zero, Int.add_zero, Int.zero_add]
  exact Pub.of_eq rfl rfl
theorem ok_math_bits_Mul (n : Nat) (hn : n < 401) : PC prog n_math_bits_Mul [.int .u64 1, .int .u64 n] (.tuple [.int .u64 0, .int .u64 n]) := by
  refine PC_of_body b_math_bits_Mul (by simp) ?_
  simp only [c_math_bits_Mul, go_sem, Int.reduceEq, Int.reduceLT, Int.reduceLE, Int.reduceToNat, Nat.reduceLT, Nat.reduceEqDiff, Nat.reduceAdd, Nat.reduceLeDiff, Nat.reduceSub, Nat.reduceMul, ↓reduceIte, reduceCtorEq, w_app_nl]
  refine call_pc (ok_math_bits_Mul64 n hn) (by simp [go_sem]) ?_
  try simp (disch := omega) only [go_sem, Int.reduceEq, Int.reduceLT, Int.reduceLE, Int.reduceToNat, Nat.reduceLT, Nat.reduceEqDiff, Nat.reduceAdd, Nat.reduceLeDiff, Nat.reduceSub, Nat.reduceMul, ↓reduceIte, reduceCtorEq, wrap_id, w_ite_ne, w_ite_lt, Nat.sub_zero, Nat.sub_self]
  exact Pub.of_eq rfl rfl
theorem rep_step {a z : AV} {n k m : Nat} (hk : k < n) (hm : m = min k (n - k)) :
    (List.replicate k a ++ List.replicate (n - k) z).take k ++ ((List.replicate k a ++ List.replicate (n - k) z).take k).take (n - k) ++ (List.replicate k a ++ List.replicate (n - k) z).drop (k + m) = List.replicate (k + m) a ++ List.replicate (n - (k + m)) z := by
  have h1 : (List.replicate k a).length = k := by simp
  rw [List.take_left' h1, List.drop_append, h1, List.drop_of_length_le (l := List.replicate k a) (by simp), Nat.add_sub_cancel_left, List.drop_replicate, List.take_replicate, List.nil_append, List.replicate_append_replicate, Nat.min_comm, ← hm, show n - k - m = n - (k + m) by omega]
theorem ok_slices_Repeat__Bounds (a : AV) (ha : a.pur = true) (hae : okE 2 a) (n : Nat) (hn : n < 401) : PC prog n_slices_Repeat__Bounds [.list 2 [a], .int .i64 n] (.list 2 (List.replicate n a)) := by
  refine PC_of_body b_slices_Repeat__Bounds (by simp) ?_
  simp only [c_slices_Repeat__Bounds, go_sem, Int.reduceEq, Int.reduceLT, Int.reduceLE, Int.reduceToNat, Nat.reduceLT, Nat.reduceEqDiff, Nat.reduceAdd, Nat.reduceLeDiff, Nat.reduceSub, Nat.reduceMul, ↓reduceIte, reduceCtorEq, w_app_nl]
  try simp (disch := omega) only [go_sem, Int.reduceEq, Int.reduceLT, Int.reduceLE, Int.reduceToNat, Nat.reduceLT, Nat.reduceEqDiff, Nat.reduceAdd, Nat.reduceLeDiff, Nat.reduceSub, Nat.reduceMul, ↓reduceIte, reduceCtorEq, wrap_id, w_ite_ne, w_ite_lt, Nat.sub_zero, Nat.sub_self, wrap_u64]
  refine cond_d (fun h => absurd h (by omega)) (fun _ => ?_)
  try simp (disch := omega) only [go_sem, Int.reduceEq, Int.reduceLT, Int.reduceLE, Int.reduceToNat, Nat.reduceLT, Nat.reduceEqDiff, Nat.reduceAdd, Nat.reduceLeDiff, Nat.reduceSub, Nat.reduceMul, ↓reduceIte, reduceCtorEq, wrap_id, w_ite_ne, w_ite_lt, Nat.sub_zero, Nat.sub_self, wrap_u64]
  refine call_pc (ok_math_bits_Mul n hn) (by simp [go_sem]) ?_
  try simp (disch := omega) only [go_sem, Int.reduceEq, Int.reduceLT, Int.reduceLE, Int.reduceToNat, Nat.reduceLT, Nat.reduceEqDiff, Nat.reduceAdd, Nat.reduceLeDiff, Nat.reduceSub, Nat.reduceMul, ↓reduceIte, reduceCtorEq, wrap_id, w_ite_ne, w_ite_lt, Nat.sub_zero, Nat.sub_self, wrap_u64]
  refine cond_d (fun h => absurd h (by omega)) (fun _ => ?_)
  have hnn : ((n : Int)).toNat = n := by omega
  try simp (disch := omega) only [go_sem, Int.reduceEq, Int.reduceLT, Int.reduceLE, Int.reduceToNat, Nat.reduceLT, Nat.reduceEqDiff, Nat.reduceAdd, Nat.reduceLeDiff, Nat.reduceSub, Nat.reduceMul, ↓reduceIte, reduceCtorEq, wrap_id, w_ite_ne, w_ite_lt, Nat.sub_zero, Nat.sub_self, wrap_u64, hnn]
  refine ⟨by omega, by omega, by omega, by simp, ?_⟩
  refine awp_loopF [8, 34, 35, 36, 37, 38, 39, 40, 41, 42, 43, 44, 45, 46] (by kernel_rfl) (fun r e σ => ∃ k : Nat, r = n - k ∧ e 8 = .int .i64 k ∧ k ≤ n ∧ (0 < n → 1 ≤ k) ∧ σ.ob 0 = some ⟨0, 2, 45, false, true, List.replicate k a ++ List.replicate (n - k) (.agg [.int .i64 0, .int .i64 0])⟩) (n - min 1 n) ?_ ?_
  · refine ⟨min 1 n, rfl, (by first | ((try simp (maxSteps := 1000000) only [go_sem, Int.reduceEq, Int.reduceLT, Int.reduceLE, Int.reduceToNat, Nat.reduceLT, Nat.reduceEqDiff, Nat.reduceAdd, Nat.reduceLeDiff, Nat.reduceSub, Nat.reduceMul, ↓reduceIte, reduceCtorEq, w_app_nl]); done) | ((try simp (maxSteps := 1000000) only [go_sem, Int.reduceEq, Int.reduceLT, Int.reduceLE, Int.reduceToNat, Nat.reduceLT, Nat.reduceEqDiff, Nat.reduceAdd, Nat.reduceLeDiff, Nat.reduceSub, Nat.reduceMul, ↓reduceIte, reduceCtorEq, w_app_nl]); rfl) | ((try simp (maxSteps := 1000000) (disch := omega) only [go_sem, Int.reduceEq, Int.reduceLT, Int.reduceLE, Int.reduceToNat, Nat.reduceLT, Nat.reduceEqDiff, Nat.reduceAdd, Nat.reduceLeDiff, Nat.reduceSub, Nat.reduceMul, ↓reduceIte, reduceCtorEq, w_app_nl, wrap_id, w_ite_ne, w_ite_lt]); rfl) | (simp (maxSteps := 1000000) (disch := omega) only [go_sem, Int.reduceEq, Int.reduceLT, Int.reduceLE, Int.reduceToNat, Nat.reduceLT, Nat.reduceEqDiff, Nat.reduceAdd, Nat.reduceLeDiff, Nat.reduceSub, Nat.reduceMul, ↓reduceIte, reduceCtorEq, w_app_nl, wrap_id, w_ite_ne, w_ite_lt]; done)), by omega, by omega, ?_⟩
    try simp (disch := omega) only [go_sem, Int.reduceEq, Int.reduceLT, Int.reduceLE, Int.reduceToNat, Nat.reduceLT, Nat.reduceEqDiff, Nat.reduceAdd, Nat.reduceLeDiff, Nat.reduceSub, Nat.reduceMul, ↓reduceIte, reduceCtorEq, wrap_id, w_ite_ne, w_ite_lt, Nat.sub_zero, Nat.sub_self]
    rcases Nat.eq_zero_or_pos n with h | h
    · subst h; rfl
    · rw [show min 1 n = 1 by omega, List.take_of_length_le (by simp; omega), List.drop_replicate]; rfl
  · rintro r fe ob c ⟨k, rfl, h8, hk, hk1, hob⟩
    simp (maxSteps := 1000000) only [go_sem, Int.reduceEq, Int.reduceLT, Int.reduceLE, Int.reduceToNat, Nat.reduceLT, Nat.reduceEqDiff, Nat.reduceAdd, Nat.reduceLeDiff, Nat.reduceSub, Nat.reduceMul, ↓reduceIte, reduceCtorEq, w_app_nl] at h8 hob
    try simp (disch := omega) only [go_sem, Int.reduceEq, Int.reduceLT, Int.reduceLE, Int.reduceToNat, Nat.reduceLT, Nat.reduceEqDiff, Nat.reduceAdd, Nat.reduceLeDiff, Nat.reduceSub, Nat.reduceMul, ↓reduceIte, reduceCtorEq, wrap_id, w_ite_ne, w_ite_lt, Nat.sub_zero, Nat.sub_self, h8]
    refine cond_d (fun hlt => ?_) (fun hge => ?_)
    · have hkn : k < n := by omega
      have hk2 := hk1 (by omega)
      try simp (disch := omega) only [go_sem, Int.reduceEq, Int.reduceLT, Int.reduceLE, Int.reduceToNat, Nat.reduceLT, Nat.reduceEqDiff, Nat.reduceAdd, Nat.reduceLeDiff, Nat.reduceSub, Nat.reduceMul, ↓reduceIte, reduceCtorEq, wrap_id, w_ite_ne, w_ite_lt, Nat.sub_zero, Nat.sub_self, h8, hob]
      refine ⟨by omega, by omega, fun h => by omega, fun _ => ⟨by omega, by omega, fun h => by omega, fun _ => ?_⟩⟩
      refine cpy_ss ?_
      try simp (disch := omega) only [go_sem, Int.reduceEq, Int.reduceLT, Int.reduceLE, Int.reduceToNat, Nat.reduceLT, Nat.reduceEqDiff, Nat.reduceAdd, Nat.reduceLeDiff, Nat.reduceSub, Nat.reduceMul, ↓reduceIte, reduceCtorEq, wrap_id, w_ite_ne, w_ite_lt, Nat.sub_zero, Nat.sub_self, hob, h8]
      refine ⟨by simp, by simp, ?_⟩
      refine ⟨n - (k + min k (n - k)), by omega, _, Nat.le_refl _, rfl, k + min k (n - k), rfl, ?_, by omega, by omega, ?_⟩
      · rw [show (List.take k (List.replicate k a ++ List.replicate (n - k) (AV.agg [.int .i64 0, .int .i64 0]))).length = k by simp]
        congr 1
      · rw [if_pos Nat.one_pos, show (List.take k (List.replicate k a ++ List.replicate (n - k) (AV.agg [.int .i64 0, .int .i64 0]))).length = k by simp, rep_step hkn rfl]
    · have hkn : k = n := by omega
      subst hkn
      try simp (disch := omega) only [go_sem, Int.reduceEq, Int.reduceLT, Int.reduceLE, Int.reduceToNat, Nat.reduceLT, Nat.reduceEqDiff, Nat.reduceAdd, Nat.reduceLeDiff, Nat.reduceSub, Nat.reduceMul, ↓reduceIte, reduceCtorEq, wrap_id, w_ite_ne, w_ite_lt, Nat.sub_zero, Nat.sub_self, h8]
      refine Pub.of_sl (ty := 45) (ro := false) (ap := true) ?_ (by simp) (fun x hx => by rw [List.eq_of_mem_replicate hx]; exact ha) (fun x hx => by rw [List.eq_of_mem_replicate hx]; exact hae)
      simp only []
      rw [hob]
      simp
def unkR (steps most : Int) : List AV × Int := if steps < 0 ∨ 400 < steps then ([], 10) else if most < 0 ∨ 274877906944 < most then ([], 1) else (List.replicate steps.toNat (.agg [.int .i64 0, .int .i64 most]), 0)
theorem bd_pur (m : Int) (n : Nat) : ∀ x ∈ List.replicate n (AV.agg [.int .i64 0, .int .i64 m]), x.pur = true := fun x hx => by rw [List.eq_of_mem_replicate hx]; rfl
theorem bd_ok (m : Int) (n : Nat) : ∀ x ∈ List.replicate n (AV.agg [.int .i64 0, .int .i64 m]), okE 2 x := fun x hx => by rw [List.eq_of_mem_replicate hx]; exact ⟨rfl, rfl⟩
theorem ok_manual_Unknown (steps most : Int) : PC prog n_manual_Unknown [.int .i64 steps, .int .i64 most] (.tuple [.list 2 (unkR steps most).1, .int .i64 (unkR steps most).2]) := by
  have no : ∀ {σ : St} (e : Int), unkR steps most = ([], e) → Pub σ (.tuple [.nil, .int .i64 e]) (.tuple [.list 2 (unkR steps most).1, .int .i64 (unkR steps most).2]) := by
    intro σ e h
    rw [h]
    exact Pub.pair (.nl 2) (Pub.of_eq rfl rfl)
  refine PC_of_body b_manual_Unknown (by simp) ?_
  simp only [c_manual_Unknown, go_sem, Int.reduceEq, Int.reduceLT, Int.reduceLE, Int.reduceToNat, Nat.reduceLT, Nat.reduceEqDiff, Nat.reduceAdd, Nat.reduceLeDiff, Nat.reduceSub, Nat.reduceMul, ↓reduceIte, reduceCtorEq, w_app_nl]
  refine gd_fd rfl (fun g1 => ?_) (fun g1 => ?_) <;> try simp (disch := omega) only [go_sem, Int.reduceEq, Int.reduceLT, Int.reduceLE, Int.reduceToNat, Nat.reduceLT, Nat.reduceEqDiff, Nat.reduceAdd, Nat.reduceLeDiff, Nat.reduceSub, Nat.reduceMul, ↓reduceIte, reduceCtorEq, wrap_id, w_ite_ne, w_ite_lt, Nat.sub_zero, Nat.sub_self]
  · exact no 10 (by simp only [unkR]; rw [if_pos (by omega)])
  refine cond_d (fun g2 => ?_) (fun g2 => ?_) <;> try simp (disch := omega) only [go_sem, Int.reduceEq, Int.reduceLT, Int.reduceLE, Int.reduceToNat, Nat.reduceLT, Nat.reduceEqDiff, Nat.reduceAdd, Nat.reduceLeDiff, Nat.reduceSub, Nat.reduceMul, ↓reduceIte, reduceCtorEq, wrap_id, w_ite_ne, w_ite_lt, Nat.sub_zero, Nat.sub_self]
  · exact no 10 (by simp only [unkR]; rw [if_pos (by omega)])
  refine gd_fd rfl (fun g3 => ?_) (fun g3 => ?_) <;> try simp (disch := omega) only [go_sem, Int.reduceEq, Int.reduceLT, Int.reduceLE, Int.reduceToNat, Nat.reduceLT, Nat.reduceEqDiff, Nat.reduceAdd, Nat.reduceLeDiff, Nat.reduceSub, Nat.reduceMul, ↓reduceIte, reduceCtorEq, wrap_id, w_ite_ne, w_ite_lt, Nat.sub_zero, Nat.sub_self]
  · exact no 1 (by simp only [unkR]; rw [if_neg (by omega), if_pos (by omega)])
  refine cond_d (fun g4 => ?_) (fun g4 => ?_) <;> try simp (disch := omega) only [go_sem, Int.reduceEq, Int.reduceLT, Int.reduceLE, Int.reduceToNat, Nat.reduceLT, Nat.reduceEqDiff, Nat.reduceAdd, Nat.reduceLeDiff, Nat.reduceSub, Nat.reduceMul, ↓reduceIte, reduceCtorEq, wrap_id, w_ite_ne, w_ite_lt, Nat.sub_zero, Nat.sub_self]
  · exact no 1 (by simp only [unkR]; rw [if_neg (by omega), if_pos (by omega)])
  have hu : unkR steps most = (List.replicate steps.toNat (.agg [.int .i64 0, .int .i64 most]), 0) := by simp only [unkR]; rw [if_neg (by omega), if_neg (by omega)]
  rw [hu]
  have hs : ((steps.toNat : Nat) : Int) = steps := by omega
  have hR := ok_slices_Repeat__Bounds (.agg [.int .i64 0, .int .i64 most]) rfl ⟨rfl, rfl⟩ steps.toNat (by omega)
  rw [hs] at hR
  refine call_pc hR (by simp [go_sem]) ?_
  try simp (disch := omega) only [go_sem, Int.reduceEq, Int.reduceLT, Int.reduceLE, Int.reduceToNat, Nat.reduceLT, Nat.reduceEqDiff, Nat.reduceAdd, Nat.reduceLeDiff, Nat.reduceSub, Nat.reduceMul, ↓reduceIte, reduceCtorEq, wrap_id, w_ite_ne, w_ite_lt, Nat.sub_zero, Nat.sub_self]
  exact Pub.pair (.pure (by simp only [AV.pur]; simp [go_sem])) (Pub.of_eq rfl rfl)
theorem ok_ref38_Unknown (steps most : Int) : PC prog n_ref38_Unknown [.int .i64 steps, .int .i64 most] (.tuple [.list 2 (unkR steps most).1, .int .i64 (unkR steps most).2]) := by
  have no : ∀ {σ : St} (e : Int), unkR steps most = ([], e) → Pub σ (.tuple [.nil, .int .i64 e]) (.tuple [.list 2 (unkR steps most).1, .int .i64 (unkR steps most).2]) := by
    intro σ e h
    rw [h]
    exact Pub.pair (.nl 2) (Pub.of_eq rfl rfl)
  refine PC_of_body b_ref38_Unknown (by simp) ?_
  simp only [c_ref38_Unknown, go_sem, Int.reduceEq, Int.reduceLT, Int.reduceLE, Int.reduceToNat, Nat.reduceLT, Nat.reduceEqDiff, Nat.reduceAdd, Nat.reduceLeDiff, Nat.reduceSub, Nat.reduceMul, ↓reduceIte, reduceCtorEq, w_app_nl]
  refine gd_fd rfl (fun g1 => ?_) (fun g1 => ?_) <;> try simp (disch := omega) only [go_sem, Int.reduceEq, Int.reduceLT, Int.reduceLE, Int.reduceToNat, Nat.reduceLT, Nat.reduceEqDiff, Nat.reduceAdd, Nat.reduceLeDiff, Nat.reduceSub, Nat.reduceMul, ↓reduceIte, reduceCtorEq, wrap_id, w_ite_ne, w_ite_lt, Nat.sub_zero, Nat.sub_self]
  · exact no 10 (by simp only [unkR]; rw [if_pos (by omega)])
  refine cond_d (fun g2 => ?_) (fun g2 => ?_) <;> try simp (disch := omega) only [go_sem, Int.reduceEq, Int.reduceLT, Int.reduceLE, Int.reduceToNat, Nat.reduceLT, Nat.reduceEqDiff, Nat.reduceAdd, Nat.reduceLeDiff, Nat.reduceSub, Nat.reduceMul, ↓reduceIte, reduceCtorEq, wrap_id, w_ite_ne, w_ite_lt, Nat.sub_zero, Nat.sub_self]
  · exact no 10 (by simp only [unkR]; rw [if_pos (by omega)])
  refine gd_fd rfl (fun g3 => ?_) (fun g3 => ?_) <;> try simp (disch := omega) only [go_sem, Int.reduceEq, Int.reduceLT, Int.reduceLE, Int.reduceToNat, Nat.reduceLT, Nat.reduceEqDiff, Nat.reduceAdd, Nat.reduceLeDiff, Nat.reduceSub, Nat.reduceMul, ↓reduceIte, reduceCtorEq, wrap_id, w_ite_ne, w_ite_lt, Nat.sub_zero, Nat.sub_self]
  · exact no 1 (by simp only [unkR]; rw [if_neg (by omega), if_pos (by omega)])
  refine cond_d (fun g4 => ?_) (fun g4 => ?_) <;> try simp (disch := omega) only [go_sem, Int.reduceEq, Int.reduceLT, Int.reduceLE, Int.reduceToNat, Nat.reduceLT, Nat.reduceEqDiff, Nat.reduceAdd, Nat.reduceLeDiff, Nat.reduceSub, Nat.reduceMul, ↓reduceIte, reduceCtorEq, wrap_id, w_ite_ne, w_ite_lt, Nat.sub_zero, Nat.sub_self]
  · exact no 1 (by simp only [unkR]; rw [if_neg (by omega), if_pos (by omega)])
  have hu : unkR steps most = (List.replicate steps.toNat (.agg [.int .i64 0, .int .i64 most]), 0) := by simp only [unkR]; rw [if_neg (by omega), if_neg (by omega)]
  rw [hu]
  refine awp_upG [0, 6, 19, 20, 21, 22, 23, 24, 25, 26, 27] (by kernel_rfl) steps.toNat (fun k e σ => e 0 = .int .i64 (steps - k) ∧ SlR 2 45 σ (List.replicate k (.agg [.int .i64 0, .int .i64 most])) (e 6)) ?_ ?_
  · exact ⟨by try simp (disch := omega) only [go_sem, Int.reduceEq, Int.reduceLT, Int.reduceLE, Int.reduceToNat, Nat.reduceLT, Nat.reduceEqDiff, Nat.reduceAdd, Nat.reduceLeDiff, Nat.reduceSub, Nat.reduceMul, ↓reduceIte, reduceCtorEq, wrap_id, w_ite_ne, w_ite_lt, Nat.sub_zero, Nat.sub_self]; simp, by try simp (disch := omega) only [go_sem, Int.reduceEq, Int.reduceLT, Int.reduceLE, Int.reduceToNat, Nat.reduceLT, Nat.reduceEqDiff, Nat.reduceAdd, Nat.reduceLeDiff, Nat.reduceSub, Nat.reduceMul, ↓reduceIte, reduceCtorEq, wrap_id, w_ite_ne, w_ite_lt, Nat.sub_zero, Nat.sub_self]; exact .nil⟩
  · rintro k fe ob m c hk hm ⟨h0, hR⟩
    simp (maxSteps := 1000000) only [go_sem, Int.reduceEq, Int.reduceLT, Int.reduceLE, Int.reduceToNat, Nat.reduceLT, Nat.reduceEqDiff, Nat.reduceAdd, Nat.reduceLeDiff, Nat.reduceSub, Nat.reduceMul, ↓reduceIte, reduceCtorEq, w_app_nl] at h0 hR
    obtain ⟨X, hX⟩ : ∃ X, fe 6 = X := ⟨_, rfl⟩
    rw [hX] at hR
    try simp (disch := omega) only [go_sem, Int.reduceEq, Int.reduceLT, Int.reduceLE, Int.reduceToNat, Nat.reduceLT, Nat.reduceEqDiff, Nat.reduceAdd, Nat.reduceLeDiff, Nat.reduceSub, Nat.reduceMul, ↓reduceIte, reduceCtorEq, wrap_id, w_ite_ne, w_ite_lt, Nat.sub_zero, Nat.sub_self, h0]
    refine cond_d (fun hlt => ?_) (fun hge => ?_)
    · have hkl : k < steps.toNat := by omega
      try simp (disch := omega) only [go_sem, Int.reduceEq, Int.reduceLT, Int.reduceLE, Int.reduceToNat, Nat.reduceLT, Nat.reduceEqDiff, Nat.reduceAdd, Nat.reduceLeDiff, Nat.reduceSub, Nat.reduceMul, ↓reduceIte, reduceCtorEq, wrap_id, w_ite_ne, w_ite_lt, Nat.sub_zero, Nat.sub_self, h0, hX]
      refine app_slr hR (by simp; omega) (by simp; omega) fun X2 τ2 hR2 hK2 => ?_
      try simp (disch := omega) only [go_sem, Int.reduceEq, Int.reduceLT, Int.reduceLE, Int.reduceToNat, Nat.reduceLT, Nat.reduceEqDiff, Nat.reduceAdd, Nat.reduceLeDiff, Nat.reduceSub, Nat.reduceMul, ↓reduceIte, reduceCtorEq, wrap_id, w_ite_ne, w_ite_lt, Nat.sub_zero, Nat.sub_self, h0]
      refine up_nextG τ2.n hkl (Nat.zero_le _) ⟨by try simp (disch := omega) only [go_sem, Int.reduceEq, Int.reduceLT, Int.reduceLE, Int.reduceToNat, Nat.reduceLT, Nat.reduceEqDiff, Nat.reduceAdd, Nat.reduceLeDiff, Nat.reduceSub, Nat.reduceMul, ↓reduceIte, reduceCtorEq, wrap_id, w_ite_ne, w_ite_lt, Nat.sub_zero, Nat.sub_self]; congr 1; omega, ?_⟩
      try simp (disch := omega) only [go_sem, Int.reduceEq, Int.reduceLT, Int.reduceLE, Int.reduceToNat, Nat.reduceLT, Nat.reduceEqDiff, Nat.reduceAdd, Nat.reduceLeDiff, Nat.reduceSub, Nat.reduceMul, ↓reduceIte, reduceCtorEq, wrap_id, w_ite_ne, w_ite_lt, Nat.sub_zero, Nat.sub_self]
      rw [List.replicate_succ']
      refine hR2.move (Nat.le_refl _) fun i hi _ => ?_
      simp only [St.trunc, if_pos hi]
    · have hkl : k = steps.toNat := by omega
      subst hkl
      try simp (disch := omega) only [go_sem, Int.reduceEq, Int.reduceLT, Int.reduceLE, Int.reduceToNat, Nat.reduceLT, Nat.reduceEqDiff, Nat.reduceAdd, Nat.reduceLeDiff, Nat.reduceSub, Nat.reduceMul, ↓reduceIte, reduceCtorEq, wrap_id, w_ite_ne, w_ite_lt, Nat.sub_zero, Nat.sub_self, hX]
      exact Pub.pair (hR.pub (fun _ _ _ => rfl) (bd_pur _ _) (bd_ok _ _)) (Pub.of_eq rfl rfl)
/-- what lies below N is as it was, but that it may not be written any more -/
def Fr0 (N : Nat) (σ τ : St) : Prop := ∀ id o, id < N → σ.ob id = some o → ∃ b, τ.ob id = some { o with ro := b }
/-- E is read as the list L -/
def RdL (N : Nat) (ty : TypeId) (σ : St) (E : AV) (L : List Int) : Prop := E = .list 1 (ints L) ∨ (E = .nil ∧ L = []) ∨ ∃ id g b, E = .sl id g 1 0 L.length ∧ id < N ∧ σ.ob id = some ⟨g, 1, ty, b, true, ints L⟩
theorem RdL.mv {N : Nat} {ty : TypeId} {σ τ : St} {E : AV} {L : List Int} (h : RdL N ty σ E L) (hf : Fr0 N σ τ) : RdL N ty τ E L := by
  rcases h with h | h | ⟨id, g, b, rfl, h1, h2⟩
  · exact .inl h
  · exact .inr (.inl h)
  · obtain ⟨b', h3⟩ := hf id _ h1 h2
    exact .inr (.inr ⟨id, g, b', rfl, h1, h3⟩)
theorem RdL.one {N : Nat} {ty : TypeId} {σ : St} {E : AV} {L : List Int} (h : RdL N ty σ E L) : E.one = true ∧ E.flat = true ∧ E.cells = [E] := by
  rcases h with rfl | ⟨rfl, _⟩ | ⟨id, g, b, rfl, _⟩ <;> exact ⟨rfl, rfl, rfl⟩
theorem RdL.pub {N : Nat} {ty : TypeId} {σ : St} {E : AV} {L : List Int} (h : RdL N ty σ E L) : Pub σ E (.list 1 (ints L)) := by
  rcases h with rfl | ⟨rfl, rfl⟩ | ⟨id, g, b, rfl, _, h⟩
  · exact .pure rfl
  · exact .nl 1
  · exact Pub.of_sl h (by rw [ints_length]) (ints_pur _) (ints_ok _)
theorem RdL.len {N : Nat} {ty : TypeId} {σ : St} {E : AV} {L : List Int} (h : RdL N ty σ E L) {K : AV → St → Prop} (k : K (.int .i64 L.length) σ) : lenC E σ K := by
  rcases h with rfl | ⟨rfl, rfl⟩ | ⟨id, g, b, rfl, _, h⟩
  · simpa [lenC, ints] using k
  · simpa [lenC] using k
  · simpa [lenC] using k
theorem ok_law38_ManualReports (first account field frm : Int) (values : List Int) (tolerance steps most : Int) (hv : values.length ≤ 9223372036854775807) :
    PC prog n_law38_ManualReports [.int .i64 first, .int .i64 account, .int .i64 field, .int .i64 frm, .list 1 (ints values), .int .i64 tolerance, .int .i64 steps, .int .i64 most] (.bool true) := by
  refine PC_of_body b_law38_ManualReports (by simp) ?_
  simp only [c_law38_ManualReports, go_sem, Int.reduceEq, Int.reduceLT, Int.reduceLE, Int.reduceToNat, Nat.reduceLT, Nat.reduceEqDiff, Nat.reduceAdd, Nat.reduceLeDiff, Nat.reduceSub, Nat.reduceMul, ↓reduceIte, reduceCtorEq, w_app_nl]
  refine call_pc ok_law38_sane (by simp) ?_
  try simp (disch := omega) only [go_sem, Int.reduceEq, Int.reduceLT, Int.reduceLE, Int.reduceToNat, Nat.reduceLT, Nat.reduceEqDiff, Nat.reduceAdd, Nat.reduceLeDiff, Nat.reduceSub, Nat.reduceMul, ↓reduceIte, reduceCtorEq, wrap_id, w_ite_ne, w_ite_lt, Nat.sub_zero, Nat.sub_self, ints_length]
  refine cond_d (fun h => ?_) (fun hr1 => ?_) <;> try simp (disch := omega) only [go_sem, Int.reduceEq, Int.reduceLT, Int.reduceLE, Int.reduceToNat, Nat.reduceLT, Nat.reduceEqDiff, Nat.reduceAdd, Nat.reduceLeDiff, Nat.reduceSub, Nat.reduceMul, ↓reduceIte, reduceCtorEq, wrap_id, w_ite_ne, w_ite_lt, Nat.sub_zero, Nat.sub_self]
  · exact Pub.of_eq rfl rfl
  try simp (disch := omega) only [go_sem, Int.reduceEq, Int.reduceLT, Int.reduceLE, Int.reduceToNat, Nat.reduceLT, Nat.reduceEqDiff, Nat.reduceAdd, Nat.reduceLeDiff, Nat.reduceSub, Nat.reduceMul, ↓reduceIte, reduceCtorEq, wrap_id, w_ite_ne, w_ite_lt, Nat.sub_zero, Nat.sub_self, ints_length]
  refine awp_upG [17, 19, 42, 43, 44, 45, 46, 47, 48, 49, 50, 51] (by kernel_rfl) values.length (fun k e σ => e 42 = .int .i64 k ∧ SlR 1 3 σ (ints ((values.take k).map fun v => v % 1000)) (e 17)) ?_ ?_
  · exact ⟨(by first | ((try simp (maxSteps := 1000000) only [go_sem, Int.reduceEq, Int.reduceLT, Int.reduceLE, Int.reduceToNat, Nat.reduceLT, Nat.reduceEqDiff, Nat.reduceAdd, Nat.reduceLeDiff, Nat.reduceSub, Nat.reduceMul, ↓reduceIte, reduceCtorEq, w_app_nl]); done) | ((try simp (maxSteps := 1000000) only [go_sem, Int.reduceEq, Int.reduceLT, Int.reduceLE, Int.reduceToNat, Nat.reduceLT, Nat.reduceEqDiff, Nat.reduceAdd, Nat.reduceLeDiff, Nat.reduceSub, Nat.reduceMul, ↓reduceIte, reduceCtorEq, w_app_nl]); rfl) | ((try simp (maxSteps := 1000000) (disch := omega) only [go_sem, Int.reduceEq, Int.reduceLT, Int.reduceLE, Int.reduceToNat, Nat.reduceLT, Nat.reduceEqDiff, Nat.reduceAdd, Nat.reduceLeDiff, Nat.reduceSub, Nat.reduceMul, ↓reduceIte, reduceCtorEq, w_app_nl, wrap_id, w_ite_ne, w_ite_lt]); rfl) | (simp (maxSteps := 1000000) (disch := omega) only [go_sem, Int.reduceEq, Int.reduceLT, Int.reduceLE, Int.reduceToNat, Nat.reduceLT, Nat.reduceEqDiff, Nat.reduceAdd, Nat.reduceLeDiff, Nat.reduceSub, Nat.reduceMul, ↓reduceIte, reduceCtorEq, w_app_nl, wrap_id, w_ite_ne, w_ite_lt]; done)), by try simp (disch := omega) only [go_sem, Int.reduceEq, Int.reduceLT, Int.reduceLE, Int.reduceToNat, Nat.reduceLT, Nat.reduceEqDiff, Nat.reduceAdd, Nat.reduceLeDiff, Nat.reduceSub, Nat.reduceMul, ↓reduceIte, reduceCtorEq, wrap_id, w_ite_ne, w_ite_lt, Nat.sub_zero, Nat.sub_self]; exact .nil⟩
  · rintro k fe ob m c hk hm ⟨h42, hR⟩
    simp (maxSteps := 1000000) only [go_sem, Int.reduceEq, Int.reduceLT, Int.reduceLE, Int.reduceToNat, Nat.reduceLT, Nat.reduceEqDiff, Nat.reduceAdd, Nat.reduceLeDiff, Nat.reduceSub, Nat.reduceMul, ↓reduceIte, reduceCtorEq, w_app_nl] at h42 hR
    obtain ⟨X, hX⟩ : ∃ X, fe 17 = X := ⟨_, rfl⟩
    rw [hX] at hR
    try simp (disch := omega) only [go_sem, Int.reduceEq, Int.reduceLT, Int.reduceLE, Int.reduceToNat, Nat.reduceLT, Nat.reduceEqDiff, Nat.reduceAdd, Nat.reduceLeDiff, Nat.reduceSub, Nat.reduceMul, ↓reduceIte, reduceCtorEq, wrap_id, w_ite_ne, w_ite_lt, Nat.sub_zero, Nat.sub_self, h42, ints_length]
    refine cond_d (fun hlt2 => ?_) (fun hge => ?_)
    · have hkl : k < values.length := by omega
      have hk2 : values[k]? = some values[k] := List.getElem?_eq_getElem hkl
      have hst : (values.take (k + 1)).map (fun v => v % 1000) = (values.take k).map (fun v => v % 1000) ++ [values[k] % 1000] := by rw [List.take_add_one, hk2, List.map_append]; rfl
      generalize values[k] = v at *
      try simp (disch := omega) only [go_sem, Int.reduceEq, Int.reduceLT, Int.reduceLE, Int.reduceToNat, Nat.reduceLT, Nat.reduceEqDiff, Nat.reduceAdd, Nat.reduceLeDiff, Nat.reduceSub, Nat.reduceMul, ↓reduceIte, reduceCtorEq, wrap_id, w_ite_ne, w_ite_lt, Nat.sub_zero, Nat.sub_self, h42, ints_length, ints_get, hk2, hX, Option.map_some]
      refine ⟨by omega, by omega, ?_⟩
      refine call_pc (ok_mk_Mod v 1000 (by omega) (by omega)) (by simp [go_sem]) ?_
      try simp (disch := omega) only [go_sem, Int.reduceEq, Int.reduceLT, Int.reduceLE, Int.reduceToNat, Nat.reduceLT, Nat.reduceEqDiff, Nat.reduceAdd, Nat.reduceLeDiff, Nat.reduceSub, Nat.reduceMul, ↓reduceIte, reduceCtorEq, wrap_id, w_ite_ne, w_ite_lt, Nat.sub_zero, Nat.sub_self, h42]
      refine app_slr hR (by simp [ints_length]; omega) (by simp [ints_length]; omega) fun X2 τ2 hR2 hK2 => ?_
      try simp (disch := omega) only [go_sem, Int.reduceEq, Int.reduceLT, Int.reduceLE, Int.reduceToNat, Nat.reduceLT, Nat.reduceEqDiff, Nat.reduceAdd, Nat.reduceLeDiff, Nat.reduceSub, Nat.reduceMul, ↓reduceIte, reduceCtorEq, wrap_id, w_ite_ne, w_ite_lt, Nat.sub_zero, Nat.sub_self, h42]
      refine up_nextG τ2.n hkl (Nat.zero_le _) ⟨(by first | ((try simp (maxSteps := 1000000) only [go_sem, Int.reduceEq, Int.reduceLT, Int.reduceLE, Int.reduceToNat, Nat.reduceLT, Nat.reduceEqDiff, Nat.reduceAdd, Nat.reduceLeDiff, Nat.reduceSub, Nat.reduceMul, ↓reduceIte, reduceCtorEq, w_app_nl]); done) | ((try simp (maxSteps := 1000000) only [go_sem, Int.reduceEq, Int.reduceLT, Int.reduceLE, Int.reduceToNat, Nat.reduceLT, Nat.reduceEqDiff, Nat.reduceAdd, Nat.reduceLeDiff, Nat.reduceSub, Nat.reduceMul, ↓reduceIte, reduceCtorEq, w_app_nl]); rfl) | ((try simp (maxSteps := 1000000) (disch := omega) only [go_sem, Int.reduceEq, Int.reduceLT, Int.reduceLE, Int.reduceToNat, Nat.reduceLT, Nat.reduceEqDiff, Nat.reduceAdd, Nat.reduceLeDiff, Nat.reduceSub, Nat.reduceMul, ↓reduceIte, reduceCtorEq, w_app_nl, wrap_id, w_ite_ne, w_ite_lt]); rfl) | (simp (maxSteps := 1000000) (disch := omega) only [go_sem, Int.reduceEq, Int.reduceLT, Int.reduceLE, Int.reduceToNat, Nat.reduceLT, Nat.reduceEqDiff, Nat.reduceAdd, Nat.reduceLeDiff, Nat.reduceSub, Nat.reduceMul, ↓reduceIte, reduceCtorEq, w_app_nl, wrap_id, w_ite_ne, w_ite_lt]; done)), ?_⟩
      try simp (disch := omega) only [go_sem, Int.reduceEq, Int.reduceLT, Int.reduceLE, Int.reduceToNat, Nat.reduceLT, Nat.reduceEqDiff, Nat.reduceAdd, Nat.reduceLeDiff, Nat.reduceSub, Nat.reduceMul, ↓reduceIte, reduceCtorEq, wrap_id, w_ite_ne, w_ite_lt, Nat.sub_zero, Nat.sub_self]
      rw [hst]
      rw [show ints ((values.take k).map fun v => v % 1000) ++ [AV.int .i64 (v % 1000)] = ints ((values.take k).map (fun v => v % 1000) ++ [v % 1000]) by simp [ints]] at hR2
      refine hR2.move (Nat.le_refl _) fun i hi _ => ?_
      simp only [St.trunc, if_pos hi]
    · have hkl : k = values.length := by omega
      subst hkl
      rw [List.take_length] at hR
      have hgl : (values.map fun v => v % 1000).length ≤ 600 := by simp; omega
      generalize (values.map fun v => v % 1000) = good at *
      have hX1 := hR.one
      have hX2 := hR.flat
      have hX3 := hR.cells
      try simp (disch := omega) only [go_sem, Int.reduceEq, Int.reduceLT, Int.reduceLE, Int.reduceToNat, Nat.reduceLT, Nat.reduceEqDiff, Nat.reduceAdd, Nat.reduceLeDiff, Nat.reduceSub, Nat.reduceMul, ↓reduceIte, reduceCtorEq, wrap_id, w_ite_ne, w_ite_lt, Nat.sub_zero, Nat.sub_self, hX, hX1, hX2, hX3]
      have hLL : ∀ i : Nat, i < 2 → ∃ (E : AV) (L : List Int), [AV.list 1 (ints values), X][i]? = some E ∧ L.length ≤ 1000 ∧ RdL (m + 1) 3 ⟨upd ob m (some ⟨c, 1, 22, false, true, [AV.list 1 (ints values), X]⟩), m + 1, c + 1⟩ E L := fun i hi => by
        rcases i with _ | _ | i
        · exact ⟨_, values, rfl, by omega, .inl rfl⟩
        · refine ⟨X, good, rfl, by omega, ?_⟩
          rcases hR with ⟨rfl, h0⟩ | ⟨id, g, rfl, hid, hob⟩
          · exact .inr (.inl ⟨rfl, by simpa [ints] using h0⟩)
          · simp only at hid hob
            refine .inr (.inr ⟨id, g, false, by rw [ints_length], by omega, ?_⟩)
            simp only []
            rw [upd_ne _ _ _ _ (by omega)]
            exact hob
        · omega
      have hll : [AV.list 1 (ints values), X].length = 2 := rfl
      generalize [AV.list 1 (ints values), X] = LL at *
      obtain ⟨σ0, hσ0⟩ : ∃ σ0 : St, σ0 = ⟨upd ob m (some ⟨c, 1, 22, false, true, LL⟩), m + 1, c + 1⟩ := ⟨_, rfl⟩
      have hm0 : σ0.ob m = some ⟨c, 1, 22, false, true, LL⟩ := by rw [hσ0]; exact upd_same _ _ _
      have hn0 : σ0.n = m + 1 := by rw [hσ0]
      rw [← hσ0] at hLL ⊢
      refine awp_upG [16, 21, 23, 24, 25, 26, 27, 56, 57, 58, 59, 60, 61, 62, 63, 64, 65, 66, 67, 68, 69, 70, 71, 72, 73, 74, 75, 76, 77, 78, 79, 80, 81, 82, 83, 84, 85, 86, 87, 88, 89, 90, 91, 92, 93, 94, 95, 96, 97, 98, 99, 100, 101, 102, 103, 104, 105, 106, 107, 108, 109, 110, 111, 112, 113, 114, 115, 116, 117, 118, 119, 120, 121, 122, 123, 124, 125, 126, 127, 128, 129] (by kernel_rfl) 2 (fun k e σ => e 56 = .int .i64 k ∧ Fr0 (m + 1) σ0 σ) ?_ ?_
      · exact ⟨(by first | ((try simp (maxSteps := 1000000) only [go_sem, Int.reduceEq, Int.reduceLT, Int.reduceLE, Int.reduceToNat, Nat.reduceLT, Nat.reduceEqDiff, Nat.reduceAdd, Nat.reduceLeDiff, Nat.reduceSub, Nat.reduceMul, ↓reduceIte, reduceCtorEq, w_app_nl]); done) | ((try simp (maxSteps := 1000000) only [go_sem, Int.reduceEq, Int.reduceLT, Int.reduceLE, Int.reduceToNat, Nat.reduceLT, Nat.reduceEqDiff, Nat.reduceAdd, Nat.reduceLeDiff, Nat.reduceSub, Nat.reduceMul, ↓reduceIte, reduceCtorEq, w_app_nl]); rfl) | ((try simp (maxSteps := 1000000) (disch := omega) only [go_sem, Int.reduceEq, Int.reduceLT, Int.reduceLE, Int.reduceToNat, Nat.reduceLT, Nat.reduceEqDiff, Nat.reduceAdd, Nat.reduceLeDiff, Nat.reduceSub, Nat.reduceMul, ↓reduceIte, reduceCtorEq, w_app_nl, wrap_id, w_ite_ne, w_ite_lt]); rfl) | (simp (maxSteps := 1000000) (disch := omega) only [go_sem, Int.reduceEq, Int.reduceLT, Int.reduceLE, Int.reduceToNat, Nat.reduceLT, Nat.reduceEqDiff, Nat.reduceAdd, Nat.reduceLeDiff, Nat.reduceSub, Nat.reduceMul, ↓reduceIte, reduceCtorEq, w_app_nl, wrap_id, w_ite_ne, w_ite_lt]; done)), fun id o _ h => ⟨o.ro, h⟩⟩
      · rintro k1 fe1 ob1 m1 c1 hk1 hm1 ⟨h56, hfr⟩
        have hm1' : m + 1 ≤ m1 := by rw [← hn0]; exact hm1
        simp (maxSteps := 1000000) only [go_sem, Int.reduceEq, Int.reduceLT, Int.reduceLE, Int.reduceToNat, Nat.reduceLT, Nat.reduceEqDiff, Nat.reduceAdd, Nat.reduceLeDiff, Nat.reduceSub, Nat.reduceMul, ↓reduceIte, reduceCtorEq, w_app_nl] at h56
        try simp (disch := omega) only [go_sem, Int.reduceEq, Int.reduceLT, Int.reduceLE, Int.reduceToNat, Nat.reduceLT, Nat.reduceEqDiff, Nat.reduceAdd, Nat.reduceLeDiff, Nat.reduceSub, Nat.reduceMul, ↓reduceIte, reduceCtorEq, wrap_id, w_ite_ne, w_ite_lt, Nat.sub_zero, Nat.sub_self, h56]
        refine cond_d (fun hlt1 => ?_) (fun hge1 => ?_)
        · have hk1' : k1 < 2 := by omega
          obtain ⟨E, LE, hE, hLE, hER⟩ := hLL k1 hk1'
          obtain ⟨hE1, hE2, hE3⟩ := hER.one
          obtain ⟨b1, hb1⟩ := hfr m _ (by omega) hm0
          simp only at hb1
          try simp (disch := omega) only [go_sem, Int.reduceEq, Int.reduceLT, Int.reduceLE, Int.reduceToNat, Nat.reduceLT, Nat.reduceEqDiff, Nat.reduceAdd, Nat.reduceLeDiff, Nat.reduceSub, Nat.reduceMul, ↓reduceIte, reduceCtorEq, wrap_id, w_ite_ne, w_ite_lt, Nat.sub_zero, Nat.sub_self, h56, hb1, hE, hE1, hE2, hE3]
          refine ⟨by omega, by omega, ?_⟩
          have hEc := hER.mv hfr
          refine call_pc (ok_mk_Mod first 100 (by omega) (by omega)) (by simp [go_sem]) ?_
          try simp (disch := omega) only [go_sem, Int.reduceEq, Int.reduceLT, Int.reduceLE, Int.reduceToNat, Nat.reduceLT, Nat.reduceEqDiff, Nat.reduceAdd, Nat.reduceLeDiff, Nat.reduceSub, Nat.reduceMul, ↓reduceIte, reduceCtorEq, wrap_id, w_ite_ne, w_ite_lt, Nat.sub_zero, Nat.sub_self]
          refine call_pc (ok_mk_Mod account 9 (by omega) (by omega)) (by simp [go_sem]) ?_
          try simp (disch := omega) only [go_sem, Int.reduceEq, Int.reduceLT, Int.reduceLE, Int.reduceToNat, Nat.reduceLT, Nat.reduceEqDiff, Nat.reduceAdd, Nat.reduceLeDiff, Nat.reduceSub, Nat.reduceMul, ↓reduceIte, reduceCtorEq, wrap_id, w_ite_ne, w_ite_lt, Nat.sub_zero, Nat.sub_self]
          refine call_pc (ok_mk_Mod frm 100 (by omega) (by omega)) (by simp [go_sem]) ?_
          try simp (disch := omega) only [go_sem, Int.reduceEq, Int.reduceLT, Int.reduceLE, Int.reduceToNat, Nat.reduceLT, Nat.reduceEqDiff, Nat.reduceAdd, Nat.reduceLeDiff, Nat.reduceSub, Nat.reduceMul, ↓reduceIte, reduceCtorEq, wrap_id, w_ite_ne, w_ite_lt, Nat.sub_zero, Nat.sub_self]
          refine call_pc (ok_mk_Mod tolerance 50 (by omega) (by omega)) (by simp [go_sem]) ?_
          try simp (disch := omega) only [go_sem, Int.reduceEq, Int.reduceLT, Int.reduceLE, Int.reduceToNat, Nat.reduceLT, Nat.reduceEqDiff, Nat.reduceAdd, Nat.reduceLeDiff, Nat.reduceSub, Nat.reduceMul, ↓reduceIte, reduceCtorEq, wrap_id, w_ite_ne, w_ite_lt, Nat.sub_zero, Nat.sub_self]
          refine hEc.len ?_
          try simp (disch := omega) only [go_sem, Int.reduceEq, Int.reduceLT, Int.reduceLE, Int.reduceToNat, Nat.reduceLT, Nat.reduceEqDiff, Nat.reduceAdd, Nat.reduceLeDiff, Nat.reduceSub, Nat.reduceMul, ↓reduceIte, reduceCtorEq, wrap_id, w_ite_ne, w_ite_lt, Nat.sub_zero, Nat.sub_self]
          refine hEc.len ?_
          try simp (disch := omega) only [go_sem, Int.reduceEq, Int.reduceLT, Int.reduceLE, Int.reduceToNat, Nat.reduceLT, Nat.reduceEqDiff, Nat.reduceAdd, Nat.reduceLeDiff, Nat.reduceSub, Nat.reduceMul, ↓reduceIte, reduceCtorEq, wrap_id, w_ite_ne, w_ite_lt, Nat.sub_zero, Nat.sub_self]
          generalize h1 : [AV.agg [AV.int .i64 first, AV.int .i64 account, AV.int .i64 field, AV.int .i64 frm, AV.int .i64 tolerance], AV.agg [AV.int .i64 (first % 100), AV.int .i64 (account % 9), AV.int .i64 field, AV.int .i64 (frm % 100), AV.int .i64 (tolerance % 50)], AV.agg [AV.int .i64 (1073741825 - (LE.length : Int)), AV.int .i64 0, AV.int .i64 1, AV.int .i64 (16777217 - (LE.length : Int)), AV.int .i64 274877906944]] = MM
          have hMM : ∀ i : Nat, i < 3 → ∃ a b c d e : Int, MM[i]? = some (.agg [.int .i64 a, .int .i64 b, .int .i64 c, .int .i64 d, .int .i64 e]) := fun i hi => by
            rw [← h1]
            rcases i with _ | _ | _ | i
            · exact ⟨_, _, _, _, _, rfl⟩
            · exact ⟨_, _, _, _, _, rfl⟩
            · exact ⟨_, _, _, _, _, rfl⟩
            · omega
          have hMl : MM.length = 3 := by rw [← h1]; rfl
          clear h1
          refine awp_upG [16, 23, 24, 25, 26, 27, 85, 86, 87, 88, 89, 90, 91, 92, 93, 94, 95, 96, 97, 98, 99, 100, 101, 102, 103, 104, 105, 106, 107, 108, 109, 110, 111, 112, 113, 114, 115, 116, 117, 118, 119, 120, 121, 122, 123, 124, 125, 126, 127, 128] (by kernel_rfl) 3 (fun k e σ => e 85 = .int .i64 k ∧ Fr0 (m + 1) σ0 σ) ?_ ?_
          · exact ⟨(by first | ((try simp (maxSteps := 1000000) only [go_sem, Int.reduceEq, Int.reduceLT, Int.reduceLE, Int.reduceToNat, Nat.reduceLT, Nat.reduceEqDiff, Nat.reduceAdd, Nat.reduceLeDiff, Nat.reduceSub, Nat.reduceMul, ↓reduceIte, reduceCtorEq, w_app_nl]); done) | ((try simp (maxSteps := 1000000) only [go_sem, Int.reduceEq, Int.reduceLT, Int.reduceLE, Int.reduceToNat, Nat.reduceLT, Nat.reduceEqDiff, Nat.reduceAdd, Nat.reduceLeDiff, Nat.reduceSub, Nat.reduceMul, ↓reduceIte, reduceCtorEq, w_app_nl]); rfl) | ((try simp (maxSteps := 1000000) (disch := omega) only [go_sem, Int.reduceEq, Int.reduceLT, Int.reduceLE, Int.reduceToNat, Nat.reduceLT, Nat.reduceEqDiff, Nat.reduceAdd, Nat.reduceLeDiff, Nat.reduceSub, Nat.reduceMul, ↓reduceIte, reduceCtorEq, w_app_nl, wrap_id, w_ite_ne, w_ite_lt]); rfl) | (simp (maxSteps := 1000000) (disch := omega) only [go_sem, Int.reduceEq, Int.reduceLT, Int.reduceLE, Int.reduceToNat, Nat.reduceLT, Nat.reduceEqDiff, Nat.reduceAdd, Nat.reduceLeDiff, Nat.reduceSub, Nat.reduceMul, ↓reduceIte, reduceCtorEq, w_app_nl, wrap_id, w_ite_ne, w_ite_lt]; done)), hfr⟩
          · rintro k2 fe2 ob2 m2 c2 hk2 hm2 ⟨h85, hfr2⟩
            have hm2' : m + 1 ≤ m2 := Nat.le_trans hm1' hm2
            simp (maxSteps := 1000000) only [go_sem, Int.reduceEq, Int.reduceLT, Int.reduceLE, Int.reduceToNat, Nat.reduceLT, Nat.reduceEqDiff, Nat.reduceAdd, Nat.reduceLeDiff, Nat.reduceSub, Nat.reduceMul, ↓reduceIte, reduceCtorEq, w_app_nl] at h85
            try simp (disch := omega) only [go_sem, Int.reduceEq, Int.reduceLT, Int.reduceLE, Int.reduceToNat, Nat.reduceLT, Nat.reduceEqDiff, Nat.reduceAdd, Nat.reduceLeDiff, Nat.reduceSub, Nat.reduceMul, ↓reduceIte, reduceCtorEq, wrap_id, w_ite_ne, w_ite_lt, Nat.sub_zero, Nat.sub_self, h85]
            refine cond_d (fun hlt2 => ?_) (fun hge2 => ?_)
            · have hk2' : k2 < 3 := by omega
              obtain ⟨q1, q2, q3, q4, q5, hq⟩ := hMM k2 hk2'
              have hE2c := hER.mv hfr2
              try simp (disch := omega) only [go_sem, Int.reduceEq, Int.reduceLT, Int.reduceLE, Int.reduceToNat, Nat.reduceLT, Nat.reduceEqDiff, Nat.reduceAdd, Nat.reduceLeDiff, Nat.reduceSub, Nat.reduceMul, ↓reduceIte, reduceCtorEq, wrap_id, w_ite_ne, w_ite_lt, Nat.sub_zero, Nat.sub_self, h85, hq]
              refine ⟨by omega, by rw [hMl]; omega, ?_⟩
              have key : ∀ τ : St, (∀ id, id < m + 1 → ∀ o, ob2 id = some o → ∃ b, τ.ob id = some { o with ro := b }) → RdL (m + 1) 3 τ E LE := fun τ h => hE2c.mv fun id o hid ho => h id hid o ho
              refine call_ro (fun _ => false) (ok_manual_Reports q1 q2 q3 q4 LE q5 (by omega)) (.cons (.pure rfl) (.cons (.pure rfl) (.cons (.pure rfl) (.cons (.pure rfl) (.cons (key _ fun id hid o ho => ⟨o.ro, ?_⟩).pub (.cons (.pure rfl) .nil)))))) (by simp [go_sem]) ?_
              · simp [upd, show ¬ id = m2 by omega, ho]
              try simp (disch := omega) only [go_sem, Int.reduceEq, Int.reduceLT, Int.reduceLE, Int.reduceToNat, Nat.reduceLT, Nat.reduceEqDiff, Nat.reduceAdd, Nat.reduceLeDiff, Nat.reduceSub, Nat.reduceMul, ↓reduceIte, reduceCtorEq, wrap_id, w_ite_ne, w_ite_lt, Nat.sub_zero, Nat.sub_self, Option.map_some, Bool.false_eq_true]
              refine call_ro (fun _ => false) (ok_ref38_Reports q1 q2 q3 q4 LE q5 (by omega)) (.cons (.pure rfl) (.cons (.pure rfl) (.cons (.pure rfl) (.cons (.pure rfl) (.cons (key _ fun id hid o ho => ⟨true, ?_⟩).pub (.cons (.pure rfl) .nil)))))) (by simp [go_sem]) ?_
              · simp [show ¬ id = m2 by omega, ho]
              have hrl : (repR q1 q2 q3 q4 LE q5).1.length ≤ 1000 := by
                unfold repR
                repeat' split
                all_goals simp [repL_length]
                omega
              generalize repR q1 q2 q3 q4 LE q5 = T at *
              obtain ⟨T1, T2⟩ := T
              simp only at hrl
              try simp (disch := omega) only [go_sem, Int.reduceEq, Int.reduceLT, Int.reduceLE, Int.reduceToNat, Nat.reduceLT, Nat.reduceEqDiff, Nat.reduceAdd, Nat.reduceLeDiff, Nat.reduceSub, Nat.reduceMul, ↓reduceIte, reduceCtorEq, wrap_id, w_ite_ne, w_ite_lt, Nat.sub_zero, Nat.sub_self, Option.map_some, Bool.false_eq_true, decide_true]
              refine call_pc (ok_ref38_SameReports T1 T1 (by omega)) (by simp [go_sem]) ?_
              try simp (disch := omega) only [go_sem, Int.reduceEq, Int.reduceLT, Int.reduceLE, Int.reduceToNat, Nat.reduceLT, Nat.reduceEqDiff, Nat.reduceAdd, Nat.reduceLeDiff, Nat.reduceSub, Nat.reduceMul, ↓reduceIte, reduceCtorEq, wrap_id, w_ite_ne, w_ite_lt, Nat.sub_zero, Nat.sub_self, decide_true, h85]
              refine up_nextG m2 hk2' hm2 ⟨by try simp (disch := omega) only [go_sem, Int.reduceEq, Int.reduceLT, Int.reduceLE, Int.reduceToNat, Nat.reduceLT, Nat.reduceEqDiff, Nat.reduceAdd, Nat.reduceLeDiff, Nat.reduceSub, Nat.reduceMul, ↓reduceIte, reduceCtorEq, wrap_id, w_ite_ne, w_ite_lt, Nat.sub_zero, Nat.sub_self]; rfl, fun id o hid ho => ?_⟩
              obtain ⟨b, hb⟩ := hfr2 id o hid ho
              refine ⟨true, ?_⟩
              simp only at hb
              simp [St.trunc, show id < m2 by omega, show ¬ id = m2 by omega, hb]
            · try simp (disch := omega) only [go_sem, Int.reduceEq, Int.reduceLT, Int.reduceLE, Int.reduceToNat, Nat.reduceLT, Nat.reduceEqDiff, Nat.reduceAdd, Nat.reduceLeDiff, Nat.reduceSub, Nat.reduceMul, ↓reduceIte, reduceCtorEq, wrap_id, w_ite_ne, w_ite_lt, Nat.sub_zero, Nat.sub_self, h56]
              exact up_nextG _ hk1' (by rw [hn0]; exact hm2') ⟨by try simp (disch := omega) only [go_sem, Int.reduceEq, Int.reduceLT, Int.reduceLE, Int.reduceToNat, Nat.reduceLT, Nat.reduceEqDiff, Nat.reduceAdd, Nat.reduceLeDiff, Nat.reduceSub, Nat.reduceMul, ↓reduceIte, reduceCtorEq, wrap_id, w_ite_ne, w_ite_lt, Nat.sub_zero, Nat.sub_self]; rfl, fun id o hid h => by
                obtain ⟨b, hb⟩ := hfr2 id o hid h
                exact ⟨b, by simp only [St.trunc]; rw [if_pos (by omega)]; exact hb⟩⟩
        · try simp (disch := omega) only [go_sem, Int.reduceEq, Int.reduceLT, Int.reduceLE, Int.reduceToNat, Nat.reduceLT, Nat.reduceEqDiff, Nat.reduceAdd, Nat.reduceLeDiff, Nat.reduceSub, Nat.reduceMul, ↓reduceIte, reduceCtorEq, wrap_id, w_ite_ne, w_ite_lt, Nat.sub_zero, Nat.sub_self]
          refine call_pc (ok_mk_Mod steps 30 (by omega) (by omega)) (by simp [go_sem]) ?_
          try simp (disch := omega) only [go_sem, Int.reduceEq, Int.reduceLT, Int.reduceLE, Int.reduceToNat, Nat.reduceLT, Nat.reduceEqDiff, Nat.reduceAdd, Nat.reduceLeDiff, Nat.reduceSub, Nat.reduceMul, ↓reduceIte, reduceCtorEq, wrap_id, w_ite_ne, w_ite_lt, Nat.sub_zero, Nat.sub_self]
          refine call_pc (ok_mk_Mod most 100 (by omega) (by omega)) (by simp [go_sem]) ?_
          try simp (disch := omega) only [go_sem, Int.reduceEq, Int.reduceLT, Int.reduceLE, Int.reduceToNat, Nat.reduceLT, Nat.reduceEqDiff, Nat.reduceAdd, Nat.reduceLeDiff, Nat.reduceSub, Nat.reduceMul, ↓reduceIte, reduceCtorEq, wrap_id, w_ite_ne, w_ite_lt, Nat.sub_zero, Nat.sub_self]
          generalize h1 : [AV.agg [AV.int .i64 steps, AV.int .i64 most], AV.agg [AV.int .i64 (steps % 30), AV.int .i64 (most % 100)], AV.agg [AV.int .i64 400, AV.int .i64 274877906944]] = MM
          have hMM : ∀ i : Nat, i < 3 → ∃ a b : Int, MM[i]? = some (.agg [.int .i64 a, .int .i64 b]) := fun i hi => by
            rw [← h1]
            rcases i with _ | _ | _ | i
            · exact ⟨_, _, rfl⟩
            · exact ⟨_, _, rfl⟩
            · exact ⟨_, _, rfl⟩
            · omega
          have hMl : MM.length = 3 := by rw [← h1]; rfl
          clear h1
          refine awp_upG [16, 29, 30, 31, 32, 33, 34, 141, 142, 143, 144, 145, 146, 147, 148, 149, 150, 151, 152, 153, 154, 155, 156, 157, 158, 159, 160, 161, 162, 163, 164, 165, 166, 167, 168, 169, 170, 171, 172, 173, 174, 175, 176, 177, 178, 179, 180, 181, 182, 183, 184, 185, 186] (by kernel_rfl) 3 (fun k e σ => e 141 = .int .i64 k) (by first | ((try simp (maxSteps := 1000000) only [go_sem, Int.reduceEq, Int.reduceLT, Int.reduceLE, Int.reduceToNat, Nat.reduceLT, Nat.reduceEqDiff, Nat.reduceAdd, Nat.reduceLeDiff, Nat.reduceSub, Nat.reduceMul, ↓reduceIte, reduceCtorEq, w_app_nl]); done) | ((try simp (maxSteps := 1000000) only [go_sem, Int.reduceEq, Int.reduceLT, Int.reduceLE, Int.reduceToNat, Nat.reduceLT, Nat.reduceEqDiff, Nat.reduceAdd, Nat.reduceLeDiff, Nat.reduceSub, Nat.reduceMul, ↓reduceIte, reduceCtorEq, w_app_nl]); rfl) | ((try simp (maxSteps := 1000000) (disch := omega) only [go_sem, Int.reduceEq, Int.reduceLT, Int.reduceLE, Int.reduceToNat, Nat.reduceLT, Nat.reduceEqDiff, Nat.reduceAdd, Nat.reduceLeDiff, Nat.reduceSub, Nat.reduceMul, ↓reduceIte, reduceCtorEq, w_app_nl, wrap_id, w_ite_ne, w_ite_lt]); rfl) | (simp (maxSteps := 1000000) (disch := omega) only [go_sem, Int.reduceEq, Int.reduceLT, Int.reduceLE, Int.reduceToNat, Nat.reduceLT, Nat.reduceEqDiff, Nat.reduceAdd, Nat.reduceLeDiff, Nat.reduceSub, Nat.reduceMul, ↓reduceIte, reduceCtorEq, w_app_nl, wrap_id, w_ite_ne, w_ite_lt]; done)) ?_
          rintro k2 fe2 ob2 m2 c2 hk2 hm2 h141
          simp (maxSteps := 1000000) only [go_sem, Int.reduceEq, Int.reduceLT, Int.reduceLE, Int.reduceToNat, Nat.reduceLT, Nat.reduceEqDiff, Nat.reduceAdd, Nat.reduceLeDiff, Nat.reduceSub, Nat.reduceMul, ↓reduceIte, reduceCtorEq, w_app_nl] at h141
          try simp (disch := omega) only [go_sem, Int.reduceEq, Int.reduceLT, Int.reduceLE, Int.reduceToNat, Nat.reduceLT, Nat.reduceEqDiff, Nat.reduceAdd, Nat.reduceLeDiff, Nat.reduceSub, Nat.reduceMul, ↓reduceIte, reduceCtorEq, wrap_id, w_ite_ne, w_ite_lt, Nat.sub_zero, Nat.sub_self, h141]
          refine cond_d (fun hlt2 => ?_) (fun hge2 => ?_)
          · have hk2' : k2 < 3 := by omega
            obtain ⟨a, b, hq⟩ := hMM k2 hk2'
            try simp (disch := omega) only [go_sem, Int.reduceEq, Int.reduceLT, Int.reduceLE, Int.reduceToNat, Nat.reduceLT, Nat.reduceEqDiff, Nat.reduceAdd, Nat.reduceLeDiff, Nat.reduceSub, Nat.reduceMul, ↓reduceIte, reduceCtorEq, wrap_id, w_ite_ne, w_ite_lt, Nat.sub_zero, Nat.sub_self, h141, hq]
            refine ⟨by omega, by rw [hMl]; omega, ?_⟩
            refine call_pc (ok_manual_Unknown a b) (by simp [go_sem]) ?_
            try simp (disch := omega) only [go_sem, Int.reduceEq, Int.reduceLT, Int.reduceLE, Int.reduceToNat, Nat.reduceLT, Nat.reduceEqDiff, Nat.reduceAdd, Nat.reduceLeDiff, Nat.reduceSub, Nat.reduceMul, ↓reduceIte, reduceCtorEq, wrap_id, w_ite_ne, w_ite_lt, Nat.sub_zero, Nat.sub_self]
            refine call_pc (ok_ref38_Unknown a b) (by simp [go_sem]) ?_
            have hul : (unkR a b).1.length ≤ 400 ∧ ∃ M : Int, ∀ x ∈ (unkR a b).1, x = .agg [.int .i64 0, .int .i64 M] := by
              unfold unkR
              split
              · exact ⟨by simp, 0, by simp⟩
              · split
                · exact ⟨by simp, 0, by simp⟩
                · exact ⟨by simp; omega, b, fun x hx => List.eq_of_mem_replicate hx⟩
            obtain ⟨hu1, M, hu2⟩ := hul
            generalize unkR a b = U at *
            obtain ⟨U1, U2⟩ := U
            simp only at hu1 hu2
            try simp (disch := omega) only [go_sem, Int.reduceEq, Int.reduceLT, Int.reduceLE, Int.reduceToNat, Nat.reduceLT, Nat.reduceEqDiff, Nat.reduceAdd, Nat.reduceLeDiff, Nat.reduceSub, Nat.reduceMul, ↓reduceIte, reduceCtorEq, wrap_id, w_ite_ne, w_ite_lt, Nat.sub_zero, Nat.sub_self, decide_true]
            refine awp_upG [16, 34, 173, 174, 175, 176, 177, 178, 179, 180, 181, 182, 183, 184, 185] (by kernel_rfl) U1.length (fun k e σ => e 173 = .int .i64 k) (by first | ((try simp (maxSteps := 1000000) only [go_sem, Int.reduceEq, Int.reduceLT, Int.reduceLE, Int.reduceToNat, Nat.reduceLT, Nat.reduceEqDiff, Nat.reduceAdd, Nat.reduceLeDiff, Nat.reduceSub, Nat.reduceMul, ↓reduceIte, reduceCtorEq, w_app_nl]); done) | ((try simp (maxSteps := 1000000) only [go_sem, Int.reduceEq, Int.reduceLT, Int.reduceLE, Int.reduceToNat, Nat.reduceLT, Nat.reduceEqDiff, Nat.reduceAdd, Nat.reduceLeDiff, Nat.reduceSub, Nat.reduceMul, ↓reduceIte, reduceCtorEq, w_app_nl]); rfl) | ((try simp (maxSteps := 1000000) (disch := omega) only [go_sem, Int.reduceEq, Int.reduceLT, Int.reduceLE, Int.reduceToNat, Nat.reduceLT, Nat.reduceEqDiff, Nat.reduceAdd, Nat.reduceLeDiff, Nat.reduceSub, Nat.reduceMul, ↓reduceIte, reduceCtorEq, w_app_nl, wrap_id, w_ite_ne, w_ite_lt]); rfl) | (simp (maxSteps := 1000000) (disch := omega) only [go_sem, Int.reduceEq, Int.reduceLT, Int.reduceLE, Int.reduceToNat, Nat.reduceLT, Nat.reduceEqDiff, Nat.reduceAdd, Nat.reduceLeDiff, Nat.reduceSub, Nat.reduceMul, ↓reduceIte, reduceCtorEq, w_app_nl, wrap_id, w_ite_ne, w_ite_lt]; done)) ?_
            rintro k3 fe3 ob3 m3 c3 hk3 hm3 h173
            simp (maxSteps := 1000000) only [go_sem, Int.reduceEq, Int.reduceLT, Int.reduceLE, Int.reduceToNat, Nat.reduceLT, Nat.reduceEqDiff, Nat.reduceAdd, Nat.reduceLeDiff, Nat.reduceSub, Nat.reduceMul, ↓reduceIte, reduceCtorEq, w_app_nl] at h173
            try simp (disch := omega) only [go_sem, Int.reduceEq, Int.reduceLT, Int.reduceLE, Int.reduceToNat, Nat.reduceLT, Nat.reduceEqDiff, Nat.reduceAdd, Nat.reduceLeDiff, Nat.reduceSub, Nat.reduceMul, ↓reduceIte, reduceCtorEq, wrap_id, w_ite_ne, w_ite_lt, Nat.sub_zero, Nat.sub_self, h173]
            refine cond_d (fun hlt3 => ?_) (fun hge3 => ?_)
            · have hk3' : k3 < U1.length := by omega
              have hg : U1[k3]? = some (.agg [.int .i64 0, .int .i64 M]) := by
                rw [List.getElem?_eq_getElem hk3', hu2 _ (List.getElem_mem _)]
              try simp (disch := omega) only [go_sem, Int.reduceEq, Int.reduceLT, Int.reduceLE, Int.reduceToNat, Nat.reduceLT, Nat.reduceEqDiff, Nat.reduceAdd, Nat.reduceLeDiff, Nat.reduceSub, Nat.reduceMul, ↓reduceIte, reduceCtorEq, wrap_id, w_ite_ne, w_ite_lt, Nat.sub_zero, Nat.sub_self, h173, hg, decide_true, Bool.and_self]
              refine ⟨by omega, by omega, by omega, by omega, ?_⟩
              exact up_nextG m3 hk3' hm3 (by try simp (disch := omega) only [go_sem, Int.reduceEq, Int.reduceLT, Int.reduceLE, Int.reduceToNat, Nat.reduceLT, Nat.reduceEqDiff, Nat.reduceAdd, Nat.reduceLeDiff, Nat.reduceSub, Nat.reduceMul, ↓reduceIte, reduceCtorEq, wrap_id, w_ite_ne, w_ite_lt, Nat.sub_zero, Nat.sub_self]; rfl)
            · try simp (disch := omega) only [go_sem, Int.reduceEq, Int.reduceLT, Int.reduceLE, Int.reduceToNat, Nat.reduceLT, Nat.reduceEqDiff, Nat.reduceAdd, Nat.reduceLeDiff, Nat.reduceSub, Nat.reduceMul, ↓reduceIte, reduceCtorEq, wrap_id, w_ite_ne, w_ite_lt, Nat.sub_zero, Nat.sub_self, h141]
              exact up_nextG _ hk2' (by have := hm2; omega) (by try simp (disch := omega) only [go_sem, Int.reduceEq, Int.reduceLT, Int.reduceLE, Int.reduceToNat, Nat.reduceLT, Nat.reduceEqDiff, Nat.reduceAdd, Nat.reduceLeDiff, Nat.reduceSub, Nat.reduceMul, ↓reduceIte, reduceCtorEq, wrap_id, w_ite_ne, w_ite_lt, Nat.sub_zero, Nat.sub_self]; rfl)
          · try simp (disch := omega) only [go_sem, Int.reduceEq, Int.reduceLT, Int.reduceLE, Int.reduceToNat, Nat.reduceLT, Nat.reduceEqDiff, Nat.reduceAdd, Nat.reduceLeDiff, Nat.reduceSub, Nat.reduceMul, ↓reduceIte, reduceCtorEq, wrap_id, w_ite_ne, w_ite_lt, Nat.sub_zero, Nat.sub_self]
            exact Pub.of_eq rfl rfl
theorem law_law38_ManualReports {c0 c1 c2 c3 c4 c5 c6 c7 : List AV} (s0 : (Sh.int .i64).R c0) (s1 : (Sh.int .i64).R c1) (s2 : (Sh.int .i64).R c2) (s3 : (Sh.int .i64).R c3) (s4 : (Sh.slice 1 (.int .i64)).R c4) (s5 : (Sh.int .i64).R c5) (s6 : (Sh.int .i64).R c6) (s7 : (Sh.int .i64).R c7) :
    PC prog n_law38_ManualReports [(Sh.int .i64).mk1 c0, (Sh.int .i64).mk1 c1, (Sh.int .i64).mk1 c2, (Sh.int .i64).mk1 c3, (Sh.slice 1 (.int .i64)).mk1 c4, (Sh.int .i64).mk1 c5, (Sh.int .i64).mk1 c6, (Sh.int .i64).mk1 c7] (.bool true) := by
  obtain ⟨a0, rfl, _⟩ := s0
  obtain ⟨a1, rfl, _⟩ := s1
  obtain ⟨a2, rfl, _⟩ := s2
  obtain ⟨a3, rfl, _⟩ := s3
  obtain ⟨l4, rfl, h4, _⟩ := shInts s4
  obtain ⟨a5, rfl, _⟩ := s5
  obtain ⟨a6, rfl, _⟩ := s6
  obtain ⟨a7, rfl, _⟩ := s7
  exact ok_law38_ManualReports a0 a1 a2 a3 l4 a5 a6 a7 h4
end Go.Proofs.Try
