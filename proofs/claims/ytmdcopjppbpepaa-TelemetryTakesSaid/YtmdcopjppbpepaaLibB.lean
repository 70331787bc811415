/-
  OWN WORK, put together by tools/asm.py: what functions do.
-/
import Derived.Test.YtmdcopjppbpepaaLib
set_option linter.unusedSimpArgs false
set_option linter.unusedVariables false
set_option maxRecDepth 100000
set_option maxHeartbeats 1000000
namespace Go.Proofs.Try
open Go.Ab Go
/-! bytes that are written one number after the other -/
def u8s (l : List Int) : List AV := l.map (.int .u8)
theorem u8s_length (l : List Int) : (u8s l).length = l.length := by simp [u8s]
theorem u8s_snoc (l : List Int) (n : Int) : u8s l ++ [.int .u8 n] = u8s (l ++ [n]) := by simp [u8s]
theorem bytesL_u8 : ∀ (l : List Int), bytesL (u8s l) = some (l.map fun n => UInt8.ofNat n.toNat)
  | [] => rfl
  | x :: l => by simp only [u8s, List.map_cons, bytesL]; rw [show List.map (AV.int .u8) l = u8s l from rfl, bytesL_u8 l]; rfl
def WrR (ty : TypeId) (σ : St) (B : List Int) (X : AV) : Prop := (X = .nil ∧ B = []) ∨ ∃ id g, X = .sl id g 1 0 B.length ∧ id < σ.n ∧ σ.ob id = some ⟨g, 1, ty, false, true, u8s B⟩
def WrK (σ : St) (X : AV) (τ : St) (X' : AV) : Prop := σ.n ≤ τ.n ∧ (∀ i, i < σ.n → Oth X i → τ.ob i = σ.ob i) ∧ ∀ i, i < σ.n → Oth X i → Oth X' i
theorem WrK.trans {σ τ ρ : St} {X Y Z : AV} (h : WrK σ X τ Y) (k : WrK τ Y ρ Z) : WrK σ X ρ Z :=
  ⟨Nat.le_trans h.1 k.1, fun i hi hx => (k.2.1 i (Nat.lt_of_lt_of_le hi h.1) (h.2.2 i hi hx)).trans (h.2.1 i hi hx), fun i hi hx => k.2.2 i (Nat.lt_of_lt_of_le hi h.1) (h.2.2 i hi hx)⟩
theorem WrR.one {ty : TypeId} {σ : St} {B : List Int} {X : AV} (h : WrR ty σ B X) : X.one = true := by rcases h with ⟨rfl, _⟩ | ⟨id, g, rfl, _⟩ <;> rfl
theorem WrR.move {ty : TypeId} {σ τ : St} {B : List Int} {X : AV} (h : WrR ty σ B X) (hn : σ.n ≤ τ.n) (ho : ∀ i, i < σ.n → τ.ob i = σ.ob i) : WrR ty τ B X := by
  rcases h with h | ⟨id, g, h1, h2, h3⟩
  · exact .inl h
  · exact .inr ⟨id, g, h1, Nat.lt_of_lt_of_le h2 hn, by rw [ho id h2]; exact h3⟩
theorem WrR.oth {ty : TypeId} {σ : St} {B : List Int} {X : AV} (h : WrR ty σ B X) {i : Nat} (hi : σ.n ≤ i) : Oth X i := by
  rcases h with ⟨rfl, _⟩ | ⟨id, g, rfl, h2, _⟩
  · intro g es o n hh; cases hh
  · intro g es o n hh; cases hh; omega
abbrev ty_by : TypeId := 5
abbrev ty_wr : TypeId := 75
theorem hc_number (σ : St) (X : AV) (B : List Int) (x : Int) (k : Nat) (hB : B.length ≤ 100000) (hk : k ≤ 5) (hX : WrR ty_by σ B X) :
    HC prog n_telemetry_writer_number [.agg [X], .int .i64 x, .int .i64 k] σ (fun r τ => ∃ X', r = .agg [X'] ∧ WrR ty_by τ (B ++ putB x k) X' ∧ WrK σ X τ X') := by
  refine HC_of_body b_telemetry_writer_number (by simp) ?_
  obtain ⟨ob0, n0, c0⟩ := σ
  have h1 := hX.one
  simp only [c_telemetry_writer_number, go_sem, Int.reduceEq, Int.reduceLT, Int.reduceLE, Int.reduceToNat, Nat.reduceLT, Nat.reduceEqDiff, Nat.reduceAdd, Nat.reduceLeDiff, Nat.reduceSub, Nat.reduceMul, ↓reduceIte, reduceCtorEq, w_app_nl, h1]
  refine awp_upG [1, 8, 9, 10, 11, 12, 13, 14, 15, 16, 17, 18, 19] (by kernel_rfl) k (fun r e τ => e 8 = .int .i64 r ∧ e 1 = .int .i64 (x / 256 ^ r) ∧ τ.ob (n0 + 1) = some ⟨c0 + 1, 1, ty_wr, false, true, [.agg [.nil]]⟩ ∧
    ∃ X', τ.ob n0 = some ⟨c0, 1, ty_wr, false, true, [.agg [X']]⟩ ∧ WrR ty_by τ (B ++ putB x r) X' ∧ (∀ i, i < n0 → Oth X i → τ.ob i = ob0 i ∧ Oth X' i) ∧ Oth X' n0 ∧ Oth X' (n0 + 1)) ?_ ?_
  · refine ⟨(by first | ((try simp (maxSteps := 1000000) only [go_sem, Int.reduceEq, Int.reduceLT, Int.reduceLE, Int.reduceToNat, Nat.reduceLT, Nat.reduceEqDiff, Nat.reduceAdd, Nat.reduceLeDiff, Nat.reduceSub, Nat.reduceMul, ↓reduceIte, reduceCtorEq, w_app_nl]); done) | ((try simp (maxSteps := 1000000) only [go_sem, Int.reduceEq, Int.reduceLT, Int.reduceLE, Int.reduceToNat, Nat.reduceLT, Nat.reduceEqDiff, Nat.reduceAdd, Nat.reduceLeDiff, Nat.reduceSub, Nat.reduceMul, ↓reduceIte, reduceCtorEq, w_app_nl]); rfl) | ((try simp (maxSteps := 1000000) (disch := omega) only [go_sem, Int.reduceEq, Int.reduceLT, Int.reduceLE, Int.reduceToNat, Nat.reduceLT, Nat.reduceEqDiff, Nat.reduceAdd, Nat.reduceLeDiff, Nat.reduceSub, Nat.reduceMul, ↓reduceIte, reduceCtorEq, w_app_nl, wrap_id, w_ite_ne, w_ite_lt]); rfl) | (simp (maxSteps := 1000000) (disch := omega) only [go_sem, Int.reduceEq, Int.reduceLT, Int.reduceLE, Int.reduceToNat, Nat.reduceLT, Nat.reduceEqDiff, Nat.reduceAdd, Nat.reduceLeDiff, Nat.reduceSub, Nat.reduceMul, ↓reduceIte, reduceCtorEq, w_app_nl, wrap_id, w_ite_ne, w_ite_lt]; done)), ?_, ?_, X, ?_, ?_, ?_, ?_, ?_⟩
    · (try simp (maxSteps := 1000000) only [go_sem, Int.reduceEq, Int.reduceLT, Int.reduceLE, Int.reduceToNat, Nat.reduceLT, Nat.reduceEqDiff, Nat.reduceAdd, Nat.reduceLeDiff, Nat.reduceSub, Nat.reduceMul, ↓reduceIte, reduceCtorEq, w_app_nl]); congr 1; simp
    · try simp (maxSteps := 1000000) only [go_sem, Int.reduceEq, Int.reduceLT, Int.reduceLE, Int.reduceToNat, Nat.reduceLT, Nat.reduceEqDiff, Nat.reduceAdd, Nat.reduceLeDiff, Nat.reduceSub, Nat.reduceMul, ↓reduceIte, reduceCtorEq, w_app_nl]
    · simp (maxSteps := 1000000) (disch := omega) only [go_sem, Int.reduceEq, Int.reduceLT, Int.reduceLE, Int.reduceToNat, Nat.reduceLT, Nat.reduceEqDiff, Nat.reduceAdd, Nat.reduceLeDiff, Nat.reduceSub, Nat.reduceMul, ↓reduceIte, reduceCtorEq, w_app_nl, w_ite_ne]
    · simp only [putB, List.append_nil]
      refine hX.move (by simp only; omega) fun i hi => ?_
      simp only at hi
      simp (maxSteps := 1000000) (disch := omega) only [go_sem, Int.reduceEq, Int.reduceLT, Int.reduceLE, Int.reduceToNat, Nat.reduceLT, Nat.reduceEqDiff, Nat.reduceAdd, Nat.reduceLeDiff, Nat.reduceSub, Nat.reduceMul, ↓reduceIte, reduceCtorEq, w_app_nl, w_ite_ne]
    · intro i hi hx
      refine ⟨?_, hx⟩
      simp (maxSteps := 1000000) (disch := omega) only [go_sem, Int.reduceEq, Int.reduceLT, Int.reduceLE, Int.reduceToNat, Nat.reduceLT, Nat.reduceEqDiff, Nat.reduceAdd, Nat.reduceLeDiff, Nat.reduceSub, Nat.reduceMul, ↓reduceIte, reduceCtorEq, w_app_nl, w_ite_ne]
    · exact hX.oth (by simp)
    · exact hX.oth (by simp)
  · rintro r fe ob m c hr hm ⟨h8, h1, hob1, X', hob, hR, hfr, hz0, hz1⟩
    simp (maxSteps := 1000000) only [go_sem, Int.reduceEq, Int.reduceLT, Int.reduceLE, Int.reduceToNat, Nat.reduceLT, Nat.reduceEqDiff, Nat.reduceAdd, Nat.reduceLeDiff, Nat.reduceSub, Nat.reduceMul, ↓reduceIte, reduceCtorEq, w_app_nl] at h8 h1 hob1 hob hm
    simp (maxSteps := 1000000) only [go_sem, Int.reduceEq, Int.reduceLT, Int.reduceLE, Int.reduceToNat, Nat.reduceLT, Nat.reduceEqDiff, Nat.reduceAdd, Nat.reduceLeDiff, Nat.reduceSub, Nat.reduceMul, ↓reduceIte, reduceCtorEq, w_app_nl, h8]
    refine cond_d (fun hlt => ?_) (fun hge => ?_)
    · have hrk : r < k := by omega
      have hlen : (B ++ putB x r).length ≤ 100005 := by simp [putB_length]; omega
      simp (maxSteps := 1000000) (disch := omega) only [go_sem, Int.reduceEq, Int.reduceLT, Int.reduceLE, Int.reduceToNat, Nat.reduceLT, Nat.reduceEqDiff, Nat.reduceAdd, Nat.reduceLeDiff, Nat.reduceSub, Nat.reduceMul, ↓reduceIte, reduceCtorEq, w_app_nl, wrap_id, h8, h1, hob]
      rcases hR with ⟨rfl, hB0⟩ | ⟨q, g, rfl, hq, hqo⟩
      · simp (maxSteps := 1000000) (disch := omega) only [go_sem, Int.reduceEq, Int.reduceLT, Int.reduceLE, Int.reduceToNat, Nat.reduceLT, Nat.reduceEqDiff, Nat.reduceAdd, Nat.reduceLeDiff, Nat.reduceSub, Nat.reduceMul, ↓reduceIte, reduceCtorEq, w_app_nl, wrap_id, h8, h1, hob, w_ite_ne, bit_shr8, Option.some.injEq, exists_eq_left']
        repeat (refine And.intro (by first | omega | (rw [mxL]; omega) | (simp [maxLen]; done) | (simp [maxLen]; omega)) ?_)
        refine up_nextG (m + 1) hrk (by omega) ⟨?_, ?_, ?_, .sl m c 1 0 1, ?_, .inr ⟨m, c, ?_, ?_, ?_⟩, ?_, ?_, ?_⟩
        · (try simp (maxSteps := 1000000) only [go_sem, Int.reduceEq, Int.reduceLT, Int.reduceLE, Int.reduceToNat, Nat.reduceLT, Nat.reduceEqDiff, Nat.reduceAdd, Nat.reduceLeDiff, Nat.reduceSub, Nat.reduceMul, ↓reduceIte, reduceCtorEq, w_app_nl]); rfl
        · (try simp (maxSteps := 1000000) only [go_sem, Int.reduceEq, Int.reduceLT, Int.reduceLE, Int.reduceToNat, Nat.reduceLT, Nat.reduceEqDiff, Nat.reduceAdd, Nat.reduceLeDiff, Nat.reduceSub, Nat.reduceMul, ↓reduceIte, reduceCtorEq, w_app_nl]); rw [Int.ediv_ediv_of_nonneg (Int.pow_nonneg (by omega)), Int.pow_succ]
        · simp (maxSteps := 1000000) (disch := omega) only [go_sem, Int.reduceEq, Int.reduceLT, Int.reduceLE, Int.reduceToNat, Nat.reduceLT, Nat.reduceEqDiff, Nat.reduceAdd, Nat.reduceLeDiff, Nat.reduceSub, Nat.reduceMul, ↓reduceIte, reduceCtorEq, w_app_nl, w_ite_ne, w_ite_lt]; exact hob1
        · simp (maxSteps := 1000000) (disch := omega) only [go_sem, Int.reduceEq, Int.reduceLT, Int.reduceLE, Int.reduceToNat, Nat.reduceLT, Nat.reduceEqDiff, Nat.reduceAdd, Nat.reduceLeDiff, Nat.reduceSub, Nat.reduceMul, ↓reduceIte, reduceCtorEq, w_app_nl, w_ite_ne, w_ite_lt]
        · rw [putB_snoc, ← List.append_assoc, hB0]; rfl
        · (try simp (maxSteps := 1000000) only [go_sem, Int.reduceEq, Int.reduceLT, Int.reduceLE, Int.reduceToNat, Nat.reduceLT, Nat.reduceEqDiff, Nat.reduceAdd, Nat.reduceLeDiff, Nat.reduceSub, Nat.reduceMul, ↓reduceIte, reduceCtorEq, w_app_nl]); omega
        · simp (maxSteps := 1000000) (disch := omega) only [go_sem, Int.reduceEq, Int.reduceLT, Int.reduceLE, Int.reduceToNat, Nat.reduceLT, Nat.reduceEqDiff, Nat.reduceAdd, Nat.reduceLeDiff, Nat.reduceSub, Nat.reduceMul, ↓reduceIte, reduceCtorEq, w_app_nl, w_ite_ne, w_ite_lt]
          rw [putB_snoc, ← List.append_assoc, hB0, wrap_u8]; rfl
        · intro i hi hx
          refine ⟨?_, ?_⟩
          · simp (maxSteps := 1000000) (disch := omega) only [go_sem, Int.reduceEq, Int.reduceLT, Int.reduceLE, Int.reduceToNat, Nat.reduceLT, Nat.reduceEqDiff, Nat.reduceAdd, Nat.reduceLeDiff, Nat.reduceSub, Nat.reduceMul, ↓reduceIte, reduceCtorEq, w_app_nl, w_ite_ne, w_ite_lt]; exact (hfr i hi hx).1
          · intro g es o n hh; cases hh; omega
        · intro g es o n hh; cases hh; omega
        · intro g es o n hh; cases hh; omega
      · simp only at hq hqo
        have hqn : ¬ q = n0 := fun h => hz0 _ _ _ _ (by rw [h])
        have hqn1 : ¬ q = n0 + 1 := fun h => hz1 _ _ _ _ (by rw [h])
        simp (maxSteps := 1000000) (disch := omega) only [go_sem, Int.reduceEq, Int.reduceLT, Int.reduceLE, Int.reduceToNat, Nat.reduceLT, Nat.reduceEqDiff, Nat.reduceAdd, Nat.reduceLeDiff, Nat.reduceSub, Nat.reduceMul, ↓reduceIte, reduceCtorEq, w_app_nl, wrap_id, h8, h1, hob, hqo, w_ite_ne, bit_shr8, Option.some.injEq, exists_eq_left', u8s_length]
        repeat (refine And.intro (by first | omega | (rw [mxL]; omega) | (simp [maxLen]; done) | (simp [maxLen]; omega)) ?_)
        refine up_nextG m hrk (by omega) ⟨?_, ?_, ?_, .sl q c 1 0 ((B ++ putB x r).length + 1), ?_, .inr ⟨q, c, ?_, ?_, ?_⟩, ?_, ?_, ?_⟩
        · (try simp (maxSteps := 1000000) only [go_sem, Int.reduceEq, Int.reduceLT, Int.reduceLE, Int.reduceToNat, Nat.reduceLT, Nat.reduceEqDiff, Nat.reduceAdd, Nat.reduceLeDiff, Nat.reduceSub, Nat.reduceMul, ↓reduceIte, reduceCtorEq, w_app_nl]); rfl
        · (try simp (maxSteps := 1000000) only [go_sem, Int.reduceEq, Int.reduceLT, Int.reduceLE, Int.reduceToNat, Nat.reduceLT, Nat.reduceEqDiff, Nat.reduceAdd, Nat.reduceLeDiff, Nat.reduceSub, Nat.reduceMul, ↓reduceIte, reduceCtorEq, w_app_nl]); rw [Int.ediv_ediv_of_nonneg (Int.pow_nonneg (by omega)), Int.pow_succ]
        · simp (maxSteps := 1000000) (disch := omega) only [go_sem, Int.reduceEq, Int.reduceLT, Int.reduceLE, Int.reduceToNat, Nat.reduceLT, Nat.reduceEqDiff, Nat.reduceAdd, Nat.reduceLeDiff, Nat.reduceSub, Nat.reduceMul, ↓reduceIte, reduceCtorEq, w_app_nl, w_ite_ne, w_ite_lt]; exact hob1
        · simp (maxSteps := 1000000) (disch := omega) only [go_sem, Int.reduceEq, Int.reduceLT, Int.reduceLE, Int.reduceToNat, Nat.reduceLT, Nat.reduceEqDiff, Nat.reduceAdd, Nat.reduceLeDiff, Nat.reduceSub, Nat.reduceMul, ↓reduceIte, reduceCtorEq, w_app_nl, w_ite_ne, w_ite_lt]
        · rw [putB_snoc, ← List.append_assoc]; simp only [List.length_append, List.length_cons, List.length_nil]
        · (try simp (maxSteps := 1000000) only [go_sem, Int.reduceEq, Int.reduceLT, Int.reduceLE, Int.reduceToNat, Nat.reduceLT, Nat.reduceEqDiff, Nat.reduceAdd, Nat.reduceLeDiff, Nat.reduceSub, Nat.reduceMul, ↓reduceIte, reduceCtorEq, w_app_nl]); exact hq
        · simp (maxSteps := 1000000) (disch := omega) only [go_sem, Int.reduceEq, Int.reduceLT, Int.reduceLE, Int.reduceToNat, Nat.reduceLT, Nat.reduceEqDiff, Nat.reduceAdd, Nat.reduceLeDiff, Nat.reduceSub, Nat.reduceMul, ↓reduceIte, reduceCtorEq, w_app_nl, w_ite_ne, w_ite_lt]
          rw [u8s_snoc, putB_snoc, ← List.append_assoc, wrap_u8]
        · intro i hi hx
          have h2 := (hfr i hi hx).2
          have hqi : ¬ i = q := fun h => h2 _ _ _ _ (by rw [h])
          refine ⟨?_, ?_⟩
          · simp (maxSteps := 1000000) (disch := omega) only [go_sem, Int.reduceEq, Int.reduceLT, Int.reduceLE, Int.reduceToNat, Nat.reduceLT, Nat.reduceEqDiff, Nat.reduceAdd, Nat.reduceLeDiff, Nat.reduceSub, Nat.reduceMul, ↓reduceIte, reduceCtorEq, w_app_nl, w_ite_ne, w_ite_lt]; exact (hfr i hi hx).1
          · intro g es o n hh; cases hh; omega
        · intro g es o n hh; cases hh; omega
        · intro g es o n hh; cases hh; omega
    · have hrk : r = k := by omega
      subst hrk
      have h2 := hR.one
      simp (maxSteps := 1000000) (disch := omega) only [go_sem, Int.reduceEq, Int.reduceLT, Int.reduceLE, Int.reduceToNat, Nat.reduceLT, Nat.reduceEqDiff, Nat.reduceAdd, Nat.reduceLeDiff, Nat.reduceSub, Nat.reduceMul, ↓reduceIte, reduceCtorEq, w_app_nl, hob, hob1, h2, w_ite_ne]
      refine ⟨X', rfl, ?_, by simp only; omega, ?_, fun i hi hx => (hfr i hi hx).2⟩
      · rcases hR with h | ⟨q, g, rfl, hq, hqo⟩
        · exact .inl h
        · have hqn1 : ¬ q = n0 + 1 := fun h => hz1 _ _ _ _ (by rw [h])
          refine .inr ⟨q, g, rfl, hq, ?_⟩
          simp only at hqo
          simp (maxSteps := 1000000) (disch := omega) only [go_sem, Int.reduceEq, Int.reduceLT, Int.reduceLE, Int.reduceToNat, Nat.reduceLT, Nat.reduceEqDiff, Nat.reduceAdd, Nat.reduceLeDiff, Nat.reduceSub, Nat.reduceMul, ↓reduceIte, reduceCtorEq, w_app_nl, w_ite_ne]; exact hqo
      · intro i hi hx
        simp only at hi
        simp (maxSteps := 1000000) (disch := omega) only [go_sem, Int.reduceEq, Int.reduceLT, Int.reduceLE, Int.reduceToNat, Nat.reduceLT, Nat.reduceEqDiff, Nat.reduceAdd, Nat.reduceLeDiff, Nat.reduceSub, Nat.reduceMul, ↓reduceIte, reduceCtorEq, w_app_nl, w_ite_ne]; exact (hfr i hi hx).1
abbrev ty_rd : TypeId := 34
theorem hc_reading (σ : St) (X : AV) (B : List Int) (r : Rd) (hB : B.length ≤ 50000) (hX : WrR ty_by σ B X) :
    HC prog n_telemetry_writer_reading [.agg [X], rdv r] σ (fun r' τ => ∃ X', r' = .agg [X'] ∧ WrR ty_by τ (B ++ rdB r) X' ∧ WrK σ X τ X') := by
  refine HC_of_body b_telemetry_writer_reading (by simp) ?_
  obtain ⟨ob0, n0, c0⟩ := σ
  have h1 := hX.one
  simp only [c_telemetry_writer_reading, go_sem, Int.reduceEq, Int.reduceLT, Int.reduceLE, Int.reduceToNat, Nat.reduceLT, Nat.reduceEqDiff, Nat.reduceAdd, Nat.reduceLeDiff, Nat.reduceSub, Nat.reduceMul, ↓reduceIte, reduceCtorEq, w_app_nl, h1, rdv]
  try simp (disch := omega) only [go_sem, Int.reduceEq, Int.reduceLT, Int.reduceLE, Int.reduceToNat, Nat.reduceLT, Nat.reduceEqDiff, Nat.reduceAdd, Nat.reduceLeDiff, Nat.reduceSub, Nat.reduceMul, ↓reduceIte, reduceCtorEq, wrap_id, w_ite_ne, w_ite_lt, Nat.sub_zero, Nat.sub_self]
  have hX0 := hX.move (τ := ⟨upd (upd (upd ob0 n0 (some ⟨c0, 1, 75, false, true, [.agg [X]]⟩)) (n0 + 1) (some ⟨c0 + 1, 4, 34, false, true, [.agg [.int .i64 r.g, .int .i64 r.t, .int .i64 r.v, .int .i64 r.f]]⟩)) (n0 + 2) (some ⟨c0 + 2, 1, 75, false, true, [.agg [.nil]]⟩), n0 + 3, c0 + 3⟩) (by simp only; omega) (fun i hi => by
    simp only at hi
    try simp (disch := omega) only [go_sem, Int.reduceEq, Int.reduceLT, Int.reduceLE, Int.reduceToNat, Nat.reduceLT, Nat.reduceEqDiff, Nat.reduceAdd, Nat.reduceLeDiff, Nat.reduceSub, Nat.reduceMul, ↓reduceIte, reduceCtorEq, wrap_id, w_ite_ne, w_ite_lt, Nat.sub_zero, Nat.sub_self])
  have o0 := hX.oth (i := n0) (by simp)
  have o1 := hX.oth (i := n0 + 1) (by simp)
  have o2 := hX.oth (i := n0 + 2) (by simp)
  refine (hc_number _ X B r.g 2 (by omega) (by omega) hX0).mono ?_
  rintro _ τ1 ⟨X1, rfl, hR1, hK1⟩
  have a0 := hK1.2.1 n0 (by simp only; omega) o0
  have a1 := hK1.2.1 (n0 + 1) (by simp only; omega) o1
  try simp (disch := omega) only [go_sem, Int.reduceEq, Int.reduceLT, Int.reduceLE, Int.reduceToNat, Nat.reduceLT, Nat.reduceEqDiff, Nat.reduceAdd, Nat.reduceLeDiff, Nat.reduceSub, Nat.reduceMul, ↓reduceIte, reduceCtorEq, wrap_id, w_ite_ne, w_ite_lt, Nat.sub_zero, Nat.sub_self, a0, a1]
  refine (hc_number _ X1 _ r.t 4 (by simp [putB_length]; omega) (by omega) hR1).mono ?_
  rintro _ τ2 ⟨X2, rfl, hR2, hK2⟩
  have hK2 := hK1.trans hK2
  have b0 := hK2.2.1 n0 (by simp only; omega) o0
  have b1 := hK2.2.1 (n0 + 1) (by simp only; omega) o1
  try simp (disch := omega) only [go_sem, Int.reduceEq, Int.reduceLT, Int.reduceLE, Int.reduceToNat, Nat.reduceLT, Nat.reduceEqDiff, Nat.reduceAdd, Nat.reduceLeDiff, Nat.reduceSub, Nat.reduceMul, ↓reduceIte, reduceCtorEq, wrap_id, w_ite_ne, w_ite_lt, Nat.sub_zero, Nat.sub_self, a0, a1, b0, b1]
  refine (hc_number _ X2 _ r.v 5 (by simp [putB_length]; omega) (by omega) hR2).mono ?_
  rintro _ τ3 ⟨X3, rfl, hR3, hK3⟩
  have hK3 := hK2.trans hK3
  have c0' := hK3.2.1 n0 (by simp only; omega) o0
  have c1 := hK3.2.1 (n0 + 1) (by simp only; omega) o1
  try simp (disch := omega) only [go_sem, Int.reduceEq, Int.reduceLT, Int.reduceLE, Int.reduceToNat, Nat.reduceLT, Nat.reduceEqDiff, Nat.reduceAdd, Nat.reduceLeDiff, Nat.reduceSub, Nat.reduceMul, ↓reduceIte, reduceCtorEq, wrap_id, w_ite_ne, w_ite_lt, Nat.sub_zero, Nat.sub_self, a0, a1, b0, b1, c0', c1]
  refine (hc_number _ X3 _ r.f 1 (by simp [putB_length]; omega) (by omega) hR3).mono ?_
  rintro _ τ4 ⟨X4, rfl, hR4, hK4⟩
  have hK4 := hK3.trans hK4
  have h4 := hR4.one
  obtain ⟨ob4, n4, c4⟩ := τ4
  have q2 := hK4.2.1 (n0 + 2) (by simp only; omega) o2
  simp (maxSteps := 1000000) only [go_sem, Int.reduceEq, Int.reduceLT, Int.reduceLE, Int.reduceToNat, Nat.reduceLT, Nat.reduceEqDiff, Nat.reduceAdd, Nat.reduceLeDiff, Nat.reduceSub, Nat.reduceMul, ↓reduceIte, reduceCtorEq, w_app_nl] at q2
  have d0 := hK4.2.1 n0 (by simp only; omega) o0
  have d1 := hK4.2.1 (n0 + 1) (by simp only; omega) o1
  simp only at d0 d1
  try simp (disch := omega) only [go_sem, Int.reduceEq, Int.reduceLT, Int.reduceLE, Int.reduceToNat, Nat.reduceLT, Nat.reduceEqDiff, Nat.reduceAdd, Nat.reduceLeDiff, Nat.reduceSub, Nat.reduceMul, ↓reduceIte, reduceCtorEq, wrap_id, w_ite_ne, w_ite_lt, Nat.sub_zero, Nat.sub_self, c0', c1, d0, d1, q2, h4]
  refine ⟨X4, rfl, ?_, ?_, ?_, ?_⟩
  · have e1 : B ++ rdB r = B ++ putB r.g 2 ++ putB r.t 4 ++ putB r.v 5 ++ putB r.f 1 := by simp [rdB]
    rw [e1]
    rcases hR4 with h | ⟨q, g, rfl, hq, hqo⟩
    · exact .inl h
    · have hq2 : ¬ q = n0 + 2 := fun h => hK4.2.2 (n0 + 2) (by simp only; omega) o2 _ _ _ _ (by rw [h])
      refine .inr ⟨q, g, rfl, hq, ?_⟩
      simp only at hqo
      try simp (disch := omega) only [go_sem, Int.reduceEq, Int.reduceLT, Int.reduceLE, Int.reduceToNat, Nat.reduceLT, Nat.reduceEqDiff, Nat.reduceAdd, Nat.reduceLeDiff, Nat.reduceSub, Nat.reduceMul, ↓reduceIte, reduceCtorEq, wrap_id, w_ite_ne, w_ite_lt, Nat.sub_zero, Nat.sub_self]; exact hqo
  · have := hK4.1; simp only at this ⊢; omega
  · intro i hi hx
    simp only at hi
    have := hK4.2.1 i (by simp only; omega) hx
    try simp (disch := omega) only [go_sem, Int.reduceEq, Int.reduceLT, Int.reduceLE, Int.reduceToNat, Nat.reduceLT, Nat.reduceEqDiff, Nat.reduceAdd, Nat.reduceLeDiff, Nat.reduceSub, Nat.reduceMul, ↓reduceIte, reduceCtorEq, wrap_id, w_ite_ne, w_ite_lt, Nat.sub_zero, Nat.sub_self] at this
    try simp (disch := omega) only [go_sem, Int.reduceEq, Int.reduceLT, Int.reduceLE, Int.reduceToNat, Nat.reduceLT, Nat.reduceEqDiff, Nat.reduceAdd, Nat.reduceLeDiff, Nat.reduceSub, Nat.reduceMul, ↓reduceIte, reduceCtorEq, wrap_id, w_ite_ne, w_ite_lt, Nat.sub_zero, Nat.sub_self]; exact this
  · intro i hi hx
    simp only at hi
    exact hK4.2.2 i (by simp only; omega) hx
theorem frB_parts (f : Fr) : frB f = putB f.s 1 ++ putB f.n 4 ++ putB f.l.length 1 ++ f.l.flatMap rdB := rfl
theorem ok_telemetry_Encode (f : Fr) (hl : f.l.length ≤ 9223372036854775807) : PC prog n_telemetry_Encode [frv f] (.tuple [.str (encR f).1, .int .i64 (encR f).2]) := by
  refine PC_of_body b_telemetry_Encode (by simp) ?_
  simp only [c_telemetry_Encode, go_sem, Int.reduceEq, Int.reduceLT, Int.reduceLE, Int.reduceToNat, Nat.reduceLT, Nat.reduceEqDiff, Nat.reduceAdd, Nat.reduceLeDiff, Nat.reduceSub, Nat.reduceMul, ↓reduceIte, reduceCtorEq, w_app_nl, frv]
  refine call_pc (ok_telemetry_proper f hl) (by simp [go_sem, frv]) ?_
  try simp (maxSteps := 1000000) only [go_sem, Int.reduceEq, Int.reduceLT, Int.reduceLE, Int.reduceToNat, Nat.reduceLT, Nat.reduceEqDiff, Nat.reduceAdd, Nat.reduceLeDiff, Nat.reduceSub, Nat.reduceMul, ↓reduceIte, reduceCtorEq, w_app_nl]
  refine cond_split (fun h => ?_) (fun h => ?_) <;> simp (maxSteps := 1000000) only [go_sem, Int.reduceEq, Int.reduceLT, Int.reduceLE, Int.reduceToNat, Nat.reduceLT, Nat.reduceEqDiff, Nat.reduceAdd, Nat.reduceLeDiff, Nat.reduceSub, Nat.reduceMul, ↓reduceIte, reduceCtorEq, w_app_nl]
  · have h : frOk f = false := by simpa using h
    exact Pub.of_eq (by simp [encR, h]) rfl
  have h : frOk f = true := by simpa using h
  have h32 : f.l.length ≤ 32 := by simp [frOk] at h; exact h.1.2
  have hres : encR f = (encS f, 0) := by simp [encR, h]
  rw [hres]
  try simp (disch := omega) only [go_sem, Int.reduceEq, Int.reduceLT, Int.reduceLE, Int.reduceToNat, Nat.reduceLT, Nat.reduceEqDiff, Nat.reduceAdd, Nat.reduceLeDiff, Nat.reduceSub, Nat.reduceMul, ↓reduceIte, reduceCtorEq, wrap_id, w_ite_ne, w_ite_lt, Nat.sub_zero, Nat.sub_self, rds_length]
  refine (hc_number _ .nil [] f.s 1 (by simp) (by omega) (.inl ⟨rfl, rfl⟩)).mono ?_
  rintro _ τ1 ⟨X1, rfl, hR1, hK1⟩
  have a0 := hK1.2.1 0 (by simp only; omega) (fun _ _ _ _ hh => by cases hh)
  try simp (disch := omega) only [go_sem, Int.reduceEq, Int.reduceLT, Int.reduceLE, Int.reduceToNat, Nat.reduceLT, Nat.reduceEqDiff, Nat.reduceAdd, Nat.reduceLeDiff, Nat.reduceSub, Nat.reduceMul, ↓reduceIte, reduceCtorEq, wrap_id, w_ite_ne, w_ite_lt, Nat.sub_zero, Nat.sub_self, a0]
  refine (hc_number _ X1 _ f.n 4 (by simp [putB_length]) (by omega) hR1).mono ?_
  rintro _ τ2 ⟨X2, rfl, hR2, hK2⟩
  have hK2 := hK1.trans hK2
  have b0 := hK2.2.1 0 (by simp only; omega) (fun _ _ _ _ hh => by cases hh)
  try simp (disch := omega) only [go_sem, Int.reduceEq, Int.reduceLT, Int.reduceLE, Int.reduceToNat, Nat.reduceLT, Nat.reduceEqDiff, Nat.reduceAdd, Nat.reduceLeDiff, Nat.reduceSub, Nat.reduceMul, ↓reduceIte, reduceCtorEq, wrap_id, w_ite_ne, w_ite_lt, Nat.sub_zero, Nat.sub_self, a0, b0]
  refine (hc_number _ X2 _ f.l.length 1 (by simp [putB_length]) (by omega) hR2).mono ?_
  rintro _ τ3 ⟨X3, rfl, hR3, hK3⟩
  have hK3 := hK2.trans hK3
  have c0' := hK3.2.1 0 (by simp only; omega) (fun _ _ _ _ hh => by cases hh)
  have z3 := hK3.2.2 0 (by simp only; omega) (fun _ _ _ _ hh => by cases hh)
  have hn3 := hK3.1
  obtain ⟨ob3, n3, c3⟩ := τ3
  simp (maxSteps := 1000000) only [go_sem, Int.reduceEq, Int.reduceLT, Int.reduceLE, Int.reduceToNat, Nat.reduceLT, Nat.reduceEqDiff, Nat.reduceAdd, Nat.reduceLeDiff, Nat.reduceSub, Nat.reduceMul, ↓reduceIte, reduceCtorEq, w_app_nl] at c0' hn3
  try simp (disch := omega) only [go_sem, Int.reduceEq, Int.reduceLT, Int.reduceLE, Int.reduceToNat, Nat.reduceLT, Nat.reduceEqDiff, Nat.reduceAdd, Nat.reduceLeDiff, Nat.reduceSub, Nat.reduceMul, ↓reduceIte, reduceCtorEq, wrap_id, w_ite_ne, w_ite_lt, Nat.sub_zero, Nat.sub_self, c0', hR3.one, rds_length]
  have hfr0 : (f.l.take 0).flatMap rdB = [] := by simp
  have hlen : ∀ k, k ≤ f.l.length → (putB f.s 1 ++ putB f.n 4 ++ putB f.l.length 1 ++ (f.l.take k).flatMap rdB).length ≤ 1000 := fun k hk => by
    simp only [List.length_append, putB_length, rdsB_length, List.length_take]; omega
  refine awp_upG [6, 24, 25, 26, 27, 28, 29, 30, 31] (by kernel_rfl) f.l.length (fun k e τ => e 24 = .int .i64 k ∧ τ.ob 0 = some ⟨0, 3, 36, false, true, [.agg [.int .i64 f.s, .int .i64 f.n, .list 4 (rds f.l)]]⟩ ∧
    ∃ X, τ.ob n3 = some ⟨c3, 1, 75, false, true, [.agg [X]]⟩ ∧ WrR ty_by τ (putB f.s 1 ++ putB f.n 4 ++ putB f.l.length 1 ++ (f.l.take k).flatMap rdB) X ∧ n3 < τ.n ∧ Oth X n3 ∧ Oth X 0) ?_ ?_
  · refine ⟨(by first | ((try simp (maxSteps := 1000000) only [go_sem, Int.reduceEq, Int.reduceLT, Int.reduceLE, Int.reduceToNat, Nat.reduceLT, Nat.reduceEqDiff, Nat.reduceAdd, Nat.reduceLeDiff, Nat.reduceSub, Nat.reduceMul, ↓reduceIte, reduceCtorEq, w_app_nl]); done) | ((try simp (maxSteps := 1000000) only [go_sem, Int.reduceEq, Int.reduceLT, Int.reduceLE, Int.reduceToNat, Nat.reduceLT, Nat.reduceEqDiff, Nat.reduceAdd, Nat.reduceLeDiff, Nat.reduceSub, Nat.reduceMul, ↓reduceIte, reduceCtorEq, w_app_nl]); rfl) | ((try simp (maxSteps := 1000000) (disch := omega) only [go_sem, Int.reduceEq, Int.reduceLT, Int.reduceLE, Int.reduceToNat, Nat.reduceLT, Nat.reduceEqDiff, Nat.reduceAdd, Nat.reduceLeDiff, Nat.reduceSub, Nat.reduceMul, ↓reduceIte, reduceCtorEq, w_app_nl, wrap_id, w_ite_ne, w_ite_lt]); rfl) | (simp (maxSteps := 1000000) (disch := omega) only [go_sem, Int.reduceEq, Int.reduceLT, Int.reduceLE, Int.reduceToNat, Nat.reduceLT, Nat.reduceEqDiff, Nat.reduceAdd, Nat.reduceLeDiff, Nat.reduceSub, Nat.reduceMul, ↓reduceIte, reduceCtorEq, w_app_nl, wrap_id, w_ite_ne, w_ite_lt]; done)), ?_, X3, ?_, ?_, by simp only; omega, hR3.oth (by simp), z3⟩
    · try simp (disch := omega) only [go_sem, Int.reduceEq, Int.reduceLT, Int.reduceLE, Int.reduceToNat, Nat.reduceLT, Nat.reduceEqDiff, Nat.reduceAdd, Nat.reduceLeDiff, Nat.reduceSub, Nat.reduceMul, ↓reduceIte, reduceCtorEq, wrap_id, w_ite_ne, w_ite_lt, Nat.sub_zero, Nat.sub_self]; exact c0'
    · try simp (disch := omega) only [go_sem, Int.reduceEq, Int.reduceLT, Int.reduceLE, Int.reduceToNat, Nat.reduceLT, Nat.reduceEqDiff, Nat.reduceAdd, Nat.reduceLeDiff, Nat.reduceSub, Nat.reduceMul, ↓reduceIte, reduceCtorEq, wrap_id, w_ite_ne, w_ite_lt, Nat.sub_zero, Nat.sub_self]
    · rw [hfr0, List.append_nil]
      refine hR3.move (by simp only; omega) fun i hi => ?_
      simp only at hi
      try simp (disch := omega) only [go_sem, Int.reduceEq, Int.reduceLT, Int.reduceLE, Int.reduceToNat, Nat.reduceLT, Nat.reduceEqDiff, Nat.reduceAdd, Nat.reduceLeDiff, Nat.reduceSub, Nat.reduceMul, ↓reduceIte, reduceCtorEq, wrap_id, w_ite_ne, w_ite_lt, Nat.sub_zero, Nat.sub_self]
  · rintro k fe ob m c hk hm ⟨h24, hob0, X, hob, hR, hnm, hz, hz0⟩
    have hlk := hlen k hk
    simp (maxSteps := 1000000) only [go_sem, Int.reduceEq, Int.reduceLT, Int.reduceLE, Int.reduceToNat, Nat.reduceLT, Nat.reduceEqDiff, Nat.reduceAdd, Nat.reduceLeDiff, Nat.reduceSub, Nat.reduceMul, ↓reduceIte, reduceCtorEq, w_app_nl] at h24 hob0 hob hnm
    simp (maxSteps := 1000000) only [go_sem, Int.reduceEq, Int.reduceLT, Int.reduceLE, Int.reduceToNat, Nat.reduceLT, Nat.reduceEqDiff, Nat.reduceAdd, Nat.reduceLeDiff, Nat.reduceSub, Nat.reduceMul, ↓reduceIte, reduceCtorEq, w_app_nl, h24]
    refine cond_d (fun hlt => ?_) (fun hge => ?_)
    · have hkl : k < f.l.length := by omega
      have hk2 : f.l[k]? = some f.l[k] := List.getElem?_eq_getElem hkl
      have htk : f.l.take (k + 1) = f.l.take k ++ [f.l[k]] := by rw [List.take_add_one, hk2]; rfl
      generalize f.l[k] = x at *
      try simp (disch := omega) only [go_sem, Int.reduceEq, Int.reduceLT, Int.reduceLE, Int.reduceToNat, Nat.reduceLT, Nat.reduceEqDiff, Nat.reduceAdd, Nat.reduceLeDiff, Nat.reduceSub, Nat.reduceMul, ↓reduceIte, reduceCtorEq, wrap_id, w_ite_ne, w_ite_lt, Nat.sub_zero, Nat.sub_self, h24, rds_length, rds_get, hk2, rdv, hob, hob0]
      repeat (refine And.intro (by first | omega | (rw [mxL]; omega) | (simp [maxLen]; done) | (simp [maxLen]; omega)) ?_)
      have hR' := hR.move (τ := ⟨upd (upd ob m (some ⟨c, 4, 34, false, true, [.agg [.int .i64 0, .int .i64 0, .int .i64 0, .int .i64 0]]⟩)) m (some ⟨c, 4, 34, false, true, [.agg [.int .i64 x.g, .int .i64 x.t, .int .i64 x.v, .int .i64 x.f]]⟩), m + 1, c + 1⟩) (by simp only; omega) (fun i hi => by simp only at hi; try simp (disch := omega) only [go_sem, Int.reduceEq, Int.reduceLT, Int.reduceLE, Int.reduceToNat, Nat.reduceLT, Nat.reduceEqDiff, Nat.reduceAdd, Nat.reduceLeDiff, Nat.reduceSub, Nat.reduceMul, ↓reduceIte, reduceCtorEq, wrap_id, w_ite_ne, w_ite_lt, Nat.sub_zero, Nat.sub_self])
      refine (hc_reading _ X _ x (by omega) hR').mono ?_
      rintro _ τ ⟨X', rfl, hR2, hK2⟩
      have e3 := hK2.2.1 n3 (by simp only; omega) hz
      have e0 := hK2.2.1 0 (by simp only; omega) hz0
      have y3 := hK2.2.2 n3 (by simp only; omega) hz
      have y0 := hK2.2.2 0 (by simp only; omega) hz0
      have hnn := hK2.1
      obtain ⟨ob', m', c'⟩ := τ
      try simp (disch := omega) only [go_sem, Int.reduceEq, Int.reduceLT, Int.reduceLE, Int.reduceToNat, Nat.reduceLT, Nat.reduceEqDiff, Nat.reduceAdd, Nat.reduceLeDiff, Nat.reduceSub, Nat.reduceMul, ↓reduceIte, reduceCtorEq, wrap_id, w_ite_ne, w_ite_lt, Nat.sub_zero, Nat.sub_self, hob, hob0] at e3 e0
      simp only at hnn
      try simp (disch := omega) only [go_sem, Int.reduceEq, Int.reduceLT, Int.reduceLE, Int.reduceToNat, Nat.reduceLT, Nat.reduceEqDiff, Nat.reduceAdd, Nat.reduceLeDiff, Nat.reduceSub, Nat.reduceMul, ↓reduceIte, reduceCtorEq, wrap_id, w_ite_ne, w_ite_lt, Nat.sub_zero, Nat.sub_self, e3, e0, hR2.one, h24]
      refine up_nextG m' hkl (by omega) ⟨(by first | ((try simp (maxSteps := 1000000) only [go_sem, Int.reduceEq, Int.reduceLT, Int.reduceLE, Int.reduceToNat, Nat.reduceLT, Nat.reduceEqDiff, Nat.reduceAdd, Nat.reduceLeDiff, Nat.reduceSub, Nat.reduceMul, ↓reduceIte, reduceCtorEq, w_app_nl]); done) | ((try simp (maxSteps := 1000000) only [go_sem, Int.reduceEq, Int.reduceLT, Int.reduceLE, Int.reduceToNat, Nat.reduceLT, Nat.reduceEqDiff, Nat.reduceAdd, Nat.reduceLeDiff, Nat.reduceSub, Nat.reduceMul, ↓reduceIte, reduceCtorEq, w_app_nl]); rfl) | ((try simp (maxSteps := 1000000) (disch := omega) only [go_sem, Int.reduceEq, Int.reduceLT, Int.reduceLE, Int.reduceToNat, Nat.reduceLT, Nat.reduceEqDiff, Nat.reduceAdd, Nat.reduceLeDiff, Nat.reduceSub, Nat.reduceMul, ↓reduceIte, reduceCtorEq, w_app_nl, wrap_id, w_ite_ne, w_ite_lt]); rfl) | (simp (maxSteps := 1000000) (disch := omega) only [go_sem, Int.reduceEq, Int.reduceLT, Int.reduceLE, Int.reduceToNat, Nat.reduceLT, Nat.reduceEqDiff, Nat.reduceAdd, Nat.reduceLeDiff, Nat.reduceSub, Nat.reduceMul, ↓reduceIte, reduceCtorEq, w_app_nl, wrap_id, w_ite_ne, w_ite_lt]; done)), ?_, X', ?_, ?_, by (try simp (maxSteps := 1000000) only [go_sem, Int.reduceEq, Int.reduceLT, Int.reduceLE, Int.reduceToNat, Nat.reduceLT, Nat.reduceEqDiff, Nat.reduceAdd, Nat.reduceLeDiff, Nat.reduceSub, Nat.reduceMul, ↓reduceIte, reduceCtorEq, w_app_nl]); omega, y3, y0⟩
      · try simp (disch := omega) only [go_sem, Int.reduceEq, Int.reduceLT, Int.reduceLE, Int.reduceToNat, Nat.reduceLT, Nat.reduceEqDiff, Nat.reduceAdd, Nat.reduceLeDiff, Nat.reduceSub, Nat.reduceMul, ↓reduceIte, reduceCtorEq, wrap_id, w_ite_ne, w_ite_lt, Nat.sub_zero, Nat.sub_self]; exact e0
      · try simp (disch := omega) only [go_sem, Int.reduceEq, Int.reduceLT, Int.reduceLE, Int.reduceToNat, Nat.reduceLT, Nat.reduceEqDiff, Nat.reduceAdd, Nat.reduceLeDiff, Nat.reduceSub, Nat.reduceMul, ↓reduceIte, reduceCtorEq, wrap_id, w_ite_ne, w_ite_lt, Nat.sub_zero, Nat.sub_self]
      · rw [htk, List.flatMap_append, ← List.append_assoc]
        simp only [List.flatMap_cons, List.flatMap_nil, List.append_nil]
        rcases hR2 with h | ⟨q, g, rfl, hq, hqo⟩
        · exact .inl h
        · have hq2 : ¬ q = n3 := fun h => y3 _ _ _ _ (by rw [h])
          refine .inr ⟨q, g, rfl, hq, ?_⟩
          simp only at hq hqo
          try simp (disch := omega) only [go_sem, Int.reduceEq, Int.reduceLT, Int.reduceLE, Int.reduceToNat, Nat.reduceLT, Nat.reduceEqDiff, Nat.reduceAdd, Nat.reduceLeDiff, Nat.reduceSub, Nat.reduceMul, ↓reduceIte, reduceCtorEq, wrap_id, w_ite_ne, w_ite_lt, Nat.sub_zero, Nat.sub_self]; exact hqo
    · have hkl : k = f.l.length := by omega
      subst hkl
      rw [List.take_length] at hR hlk
      rw [← frB_parts f] at hR hlk
      rcases hR with ⟨_, h0⟩ | ⟨q, g, rfl, hq, hqo⟩
      · have := congrArg List.length h0
        simp [frB_parts, putB_length] at this
      have hq2 : ¬ q = n3 := fun h => hz _ _ _ _ (by rw [h])
      simp only at hq hqo
      have hby : ∀ L : List Int, bytesL (List.take L.length (u8s L)) = some (L.map fun n => UInt8.ofNat n.toNat) := fun L => by
        rw [List.take_of_length_le (by rw [u8s_length]; exact Nat.le_refl _), bytesL_u8]
      try simp (disch := omega) only [go_sem, Int.reduceEq, Int.reduceLT, Int.reduceLE, Int.reduceToNat, Nat.reduceLT, Nat.reduceEqDiff, Nat.reduceAdd, Nat.reduceLeDiff, Nat.reduceSub, Nat.reduceMul, ↓reduceIte, reduceCtorEq, wrap_id, w_ite_ne, w_ite_lt, Nat.sub_zero, Nat.sub_self, hob, hqo, u8s_length, hby, Option.some.injEq, exists_eq_left', Nat.le_refl]
      refine call_pc (ok_telemetry_Sum (bs (frB f)) (by rw [bs_size]; omega)) (by simp [go_sem]) ?_
      try simp (disch := omega) only [go_sem, Int.reduceEq, Int.reduceLT, Int.reduceLE, Int.reduceToNat, Nat.reduceLT, Nat.reduceEqDiff, Nat.reduceAdd, Nat.reduceLeDiff, Nat.reduceSub, Nat.reduceMul, ↓reduceIte, reduceCtorEq, wrap_id, w_ite_ne, w_ite_lt, Nat.sub_zero, Nat.sub_self]
      refine (hc_number _ (.sl q g 1 0 (frB f).length) (frB f) (sumS (bs (frB f))) 4 (by omega) (by omega) (.inr ⟨q, g, rfl, hq, hqo⟩)).mono ?_
      rintro _ τ ⟨X', rfl, hR2, hK2⟩
      rcases hR2 with ⟨_, h0⟩ | ⟨q2, g2, rfl, hq', hqo'⟩
      · have := congrArg List.length h0
        simp [frB_parts, putB_length] at this
      have e3 := hK2.2.1 n3 (by simp only; omega) hz
      obtain ⟨ob', m', c'⟩ := τ
      simp only at e3 hqo'
      try simp (disch := omega) only [go_sem, Int.reduceEq, Int.reduceLT, Int.reduceLE, Int.reduceToNat, Nat.reduceLT, Nat.reduceEqDiff, Nat.reduceAdd, Nat.reduceLeDiff, Nat.reduceSub, Nat.reduceMul, ↓reduceIte, reduceCtorEq, wrap_id, w_ite_ne, w_ite_lt, Nat.sub_zero, Nat.sub_self, e3, hqo', u8s_length, hby, Option.some.injEq, exists_eq_left', Nat.le_refl]
      refine Pub.of_eq ?_ (by simp [go_sem, AV.pur])
      have : encS f = bs (frB f ++ putB (sumS (bs (frB f))) 4) := by rw [bs_append]; rfl
      rw [this]; rfl
abbrev ty_el_int : TypeId := 3
theorem hcl_slices_Clone__int (σ : St) (L : List AV) (hl : L.length * 8 ≤ 140737488355328) : HC prog n_slices_Clone__int [.list 1 L] σ (NewO σ 1 ty_el_int L) := by
  refine HC_of_body b_slices_Clone__int (by simp) ?_
  obtain ⟨ob, n, c⟩ := σ
  simp only [c_slices_Clone__int, go_sem, Int.reduceEq, Int.reduceLT, Int.reduceLE, Int.reduceToNat, Nat.reduceLT, Nat.reduceEqDiff, Nat.reduceAdd, Nat.reduceLeDiff, Nat.reduceSub, Nat.reduceMul, ↓reduceIte, reduceCtorEq, w_app_nl]
  refine isnil_l (fun h => ?_) (fun h => ?_)
  · subst h
    refine ⟨?_, ?_⟩
    · try simp (disch := omega) only [go_sem, Int.reduceEq, Int.reduceLT, Int.reduceLE, Int.reduceToNat, Nat.reduceLT, Nat.reduceEqDiff, Nat.reduceAdd, Nat.reduceLeDiff, Nat.reduceSub, Nat.reduceMul, ↓reduceIte, reduceCtorEq, wrap_id, w_ite_ne, w_ite_lt, Nat.sub_zero, Nat.sub_self]
      refine ⟨_, _, rfl, Nat.le_succ _, Nat.lt_succ_self _, (by first | ((try simp (maxSteps := 1000000) only [go_sem, Int.reduceEq, Int.reduceLT, Int.reduceLE, Int.reduceToNat, Nat.reduceLT, Nat.reduceEqDiff, Nat.reduceAdd, Nat.reduceLeDiff, Nat.reduceSub, Nat.reduceMul, ↓reduceIte, reduceCtorEq, w_app_nl]); done) | ((try simp (maxSteps := 1000000) only [go_sem, Int.reduceEq, Int.reduceLT, Int.reduceLE, Int.reduceToNat, Nat.reduceLT, Nat.reduceEqDiff, Nat.reduceAdd, Nat.reduceLeDiff, Nat.reduceSub, Nat.reduceMul, ↓reduceIte, reduceCtorEq, w_app_nl]); rfl) | ((try simp (maxSteps := 1000000) (disch := omega) only [go_sem, Int.reduceEq, Int.reduceLT, Int.reduceLE, Int.reduceToNat, Nat.reduceLT, Nat.reduceEqDiff, Nat.reduceAdd, Nat.reduceLeDiff, Nat.reduceSub, Nat.reduceMul, ↓reduceIte, reduceCtorEq, w_app_nl, wrap_id, w_ite_ne, w_ite_lt]); rfl) | (simp (maxSteps := 1000000) (disch := omega) only [go_sem, Int.reduceEq, Int.reduceLT, Int.reduceLE, Int.reduceToNat, Nat.reduceLT, Nat.reduceEqDiff, Nat.reduceAdd, Nat.reduceLeDiff, Nat.reduceSub, Nat.reduceMul, ↓reduceIte, reduceCtorEq, w_app_nl, wrap_id, w_ite_ne, w_ite_lt]; done)), fun i hi => ?_⟩
      simp only at hi
      try simp (disch := omega) only [go_sem, Int.reduceEq, Int.reduceLT, Int.reduceLE, Int.reduceToNat, Nat.reduceLT, Nat.reduceEqDiff, Nat.reduceAdd, Nat.reduceLeDiff, Nat.reduceSub, Nat.reduceMul, ↓reduceIte, reduceCtorEq, wrap_id, w_ite_ne, w_ite_lt, Nat.sub_zero, Nat.sub_self]
    · try simp (disch := omega) only [go_sem, Int.reduceEq, Int.reduceLT, Int.reduceLE, Int.reduceToNat, Nat.reduceLT, Nat.reduceEqDiff, Nat.reduceAdd, Nat.reduceLeDiff, Nat.reduceSub, Nat.reduceMul, ↓reduceIte, reduceCtorEq, wrap_id, w_ite_ne, w_ite_lt, Nat.sub_zero, Nat.sub_self]
      repeat (refine And.intro (by first | omega | (rw [mxL]; omega) | (simp [maxLen]; done) | (simp [maxLen]; omega)) ?_)
      refine ⟨_, _, rfl, Nat.le_succ _, Nat.lt_succ_self _, (by first | ((try simp (maxSteps := 1000000) only [go_sem, Int.reduceEq, Int.reduceLT, Int.reduceLE, Int.reduceToNat, Nat.reduceLT, Nat.reduceEqDiff, Nat.reduceAdd, Nat.reduceLeDiff, Nat.reduceSub, Nat.reduceMul, ↓reduceIte, reduceCtorEq, w_app_nl]); done) | ((try simp (maxSteps := 1000000) only [go_sem, Int.reduceEq, Int.reduceLT, Int.reduceLE, Int.reduceToNat, Nat.reduceLT, Nat.reduceEqDiff, Nat.reduceAdd, Nat.reduceLeDiff, Nat.reduceSub, Nat.reduceMul, ↓reduceIte, reduceCtorEq, w_app_nl]); rfl) | ((try simp (maxSteps := 1000000) (disch := omega) only [go_sem, Int.reduceEq, Int.reduceLT, Int.reduceLE, Int.reduceToNat, Nat.reduceLT, Nat.reduceEqDiff, Nat.reduceAdd, Nat.reduceLeDiff, Nat.reduceSub, Nat.reduceMul, ↓reduceIte, reduceCtorEq, w_app_nl, wrap_id, w_ite_ne, w_ite_lt]); rfl) | (simp (maxSteps := 1000000) (disch := omega) only [go_sem, Int.reduceEq, Int.reduceLT, Int.reduceLE, Int.reduceToNat, Nat.reduceLT, Nat.reduceEqDiff, Nat.reduceAdd, Nat.reduceLeDiff, Nat.reduceSub, Nat.reduceMul, ↓reduceIte, reduceCtorEq, w_app_nl, wrap_id, w_ite_ne, w_ite_lt]; done)), fun i hi => ?_⟩
      simp only at hi
      try simp (disch := omega) only [go_sem, Int.reduceEq, Int.reduceLT, Int.reduceLE, Int.reduceToNat, Nat.reduceLT, Nat.reduceEqDiff, Nat.reduceAdd, Nat.reduceLeDiff, Nat.reduceSub, Nat.reduceMul, ↓reduceIte, reduceCtorEq, wrap_id, w_ite_ne, w_ite_lt, Nat.sub_zero, Nat.sub_self]
  · try simp (disch := omega) only [go_sem, Int.reduceEq, Int.reduceLT, Int.reduceLE, Int.reduceToNat, Nat.reduceLT, Nat.reduceEqDiff, Nat.reduceAdd, Nat.reduceLeDiff, Nat.reduceSub, Nat.reduceMul, ↓reduceIte, reduceCtorEq, wrap_id, w_ite_ne, w_ite_lt, Nat.sub_zero, Nat.sub_self]
    repeat (refine And.intro (by first | omega | (rw [mxL]; omega) | (simp [maxLen]; done) | (simp [maxLen]; omega)) ?_)
    refine ⟨_, _, rfl, Nat.le_succ _, Nat.lt_succ_self _, (by first | ((try simp (maxSteps := 1000000) only [go_sem, Int.reduceEq, Int.reduceLT, Int.reduceLE, Int.reduceToNat, Nat.reduceLT, Nat.reduceEqDiff, Nat.reduceAdd, Nat.reduceLeDiff, Nat.reduceSub, Nat.reduceMul, ↓reduceIte, reduceCtorEq, w_app_nl]); done) | ((try simp (maxSteps := 1000000) only [go_sem, Int.reduceEq, Int.reduceLT, Int.reduceLE, Int.reduceToNat, Nat.reduceLT, Nat.reduceEqDiff, Nat.reduceAdd, Nat.reduceLeDiff, Nat.reduceSub, Nat.reduceMul, ↓reduceIte, reduceCtorEq, w_app_nl]); rfl) | ((try simp (maxSteps := 1000000) (disch := omega) only [go_sem, Int.reduceEq, Int.reduceLT, Int.reduceLE, Int.reduceToNat, Nat.reduceLT, Nat.reduceEqDiff, Nat.reduceAdd, Nat.reduceLeDiff, Nat.reduceSub, Nat.reduceMul, ↓reduceIte, reduceCtorEq, w_app_nl, wrap_id, w_ite_ne, w_ite_lt]); rfl) | (simp (maxSteps := 1000000) (disch := omega) only [go_sem, Int.reduceEq, Int.reduceLT, Int.reduceLE, Int.reduceToNat, Nat.reduceLT, Nat.reduceEqDiff, Nat.reduceAdd, Nat.reduceLeDiff, Nat.reduceSub, Nat.reduceMul, ↓reduceIte, reduceCtorEq, w_app_nl, wrap_id, w_ite_ne, w_ite_lt]; done)), fun i hi => ?_⟩
    simp only at hi
    try simp (disch := omega) only [go_sem, Int.reduceEq, Int.reduceLT, Int.reduceLE, Int.reduceToNat, Nat.reduceLT, Nat.reduceEqDiff, Nat.reduceAdd, Nat.reduceLeDiff, Nat.reduceSub, Nat.reduceMul, ↓reduceIte, reduceCtorEq, wrap_id, w_ite_ne, w_ite_lt, Nat.sub_zero, Nat.sub_self]
/-- .. read only -/
theorem okl_slices_Clone__int (L : List AV) (hl : L.length * 8 ≤ 140737488355328) (hp : ∀ x ∈ L, x.pur = true) (hk : ∀ x ∈ L, okE 1 x) : PC prog n_slices_Clone__int [.list 1 L] (.list 1 L) :=
  PC_of_HC ((hcl_slices_Clone__int St.empty L hl).mono fun r τ ⟨id, g, h1, _, _, h2, _⟩ => by rw [h1]; exact Pub.of_sl h2 rfl hp hk)
theorem hc_slices_Delete__int (σ : St) (id g : Nat) (ty : TypeId) (L : List AV) (i j : Nat) (hob : σ.ob id = some ⟨g, 1, ty, false, true, L⟩) (hij : i ≤ j) (hj : j ≤ L.length) (hl : L.length ≤ 4611686018427387904) :
    HC prog n_slices_Delete__int [.sl id g 1 0 L.length, .int .i64 i, .int .i64 j] σ (fun r τ => r = .sl id g 1 0 (L.length - (j - i)) ∧ τ = ⟨upd σ.ob id (some ⟨g, 1, ty, false, true, L.take i ++ L.drop j⟩), σ.n, σ.c⟩) := by
  obtain ⟨ob0, n0, c0⟩ := σ
  simp only at hob
  by_cases h0 : i = j
  · subst h0
    refine HC_of_body b_slices_Delete__int (by simp) ?_
    simp only [c_slices_Delete__int, go_sem, Int.reduceEq, Int.reduceLT, Int.reduceLE, Int.reduceToNat, Nat.reduceLT, Nat.reduceEqDiff, Nat.reduceAdd, Nat.reduceLeDiff, Nat.reduceSub, Nat.reduceMul, ↓reduceIte, reduceCtorEq, w_app_nl]
    try simp (disch := omega) only [go_sem, Int.reduceEq, Int.reduceLT, Int.reduceLE, Int.reduceToNat, Nat.reduceLT, Nat.reduceEqDiff, Nat.reduceAdd, Nat.reduceLeDiff, Nat.reduceSub, Nat.reduceMul, ↓reduceIte, reduceCtorEq, wrap_id, w_ite_ne, w_ite_lt, Nat.sub_zero, Nat.sub_self]
    repeat (refine And.intro (by first | omega | (rw [mxL]; omega) | (simp [maxLen]; done) | (simp [maxLen]; omega)) ?_)
    rw [List.take_append_drop, upd_self _ _ _ hob]
  refine HC.clip (R := fun r τ => ∃ c, r = .slk id g 1 0 (L.length - (j - i)) c ∧ τ = ⟨upd ob0 id (some ⟨g, 1, ty, false, true, L.take i ++ L.drop j ++ List.replicate (j - i) (.int .i64 0)⟩), n0, c0⟩) (HC.slk hob rfl (by omega) rfl (fun c hc hcm => ?_) (by omega)) ?_
  · refine HC_of_body b_slices_Delete__int (by simp) ?_
    simp only [c_slices_Delete__int, go_sem, Int.reduceEq, Int.reduceLT, Int.reduceLE, Int.reduceToNat, Nat.reduceLT, Nat.reduceEqDiff, Nat.reduceAdd, Nat.reduceLeDiff, Nat.reduceSub, Nat.reduceMul, ↓reduceIte, reduceCtorEq, w_app_nl]
    have hne : ¬ ((i : Int) = (j : Int)) := by omega
    try simp (disch := omega) only [go_sem, Int.reduceEq, Int.reduceLT, Int.reduceLE, Int.reduceToNat, Nat.reduceLT, Nat.reduceEqDiff, Nat.reduceAdd, Nat.reduceLeDiff, Nat.reduceSub, Nat.reduceMul, ↓reduceIte, reduceCtorEq, wrap_id, w_ite_ne, w_ite_lt, Nat.sub_zero, Nat.sub_self, hne]
    repeat (refine And.intro (by first | omega | (rw [mxL]; omega) | (simp [maxLen]; done) | (simp [maxLen]; omega)) ?_)
    have h1 : (L.drop j).take (L.length - j) = L.drop j := List.take_of_length_le (by simp)
    have hl1 : (L.take i ++ L.drop j).length = L.length - (j - i) := by simp; omega
    refine ⟨fun hjc => ?_, fun hjc => ?_⟩
    · have hjl : j = L.length := by omega
      try simp (disch := omega) only [go_sem, Int.reduceEq, Int.reduceLT, Int.reduceLE, Int.reduceToNat, Nat.reduceLT, Nat.reduceEqDiff, Nat.reduceAdd, Nat.reduceLeDiff, Nat.reduceSub, Nat.reduceMul, ↓reduceIte, reduceCtorEq, wrap_id, w_ite_ne, w_ite_lt, Nat.sub_zero, Nat.sub_self]
      repeat (refine And.intro (by first | omega | (rw [mxL]; omega) | (simp [maxLen]; done) | (simp [maxLen]; omega)) ?_)
      refine fun _ => ?_
      try simp (disch := omega) only [go_sem, Int.reduceEq, Int.reduceLT, Int.reduceLE, Int.reduceToNat, Nat.reduceLT, Nat.reduceEqDiff, Nat.reduceAdd, Nat.reduceLeDiff, Nat.reduceSub, Nat.reduceMul, ↓reduceIte, reduceCtorEq, wrap_id, w_ite_ne, w_ite_lt, Nat.sub_zero, Nat.sub_self]
      repeat (refine And.intro (by first | omega | (rw [mxL]; omega) | (simp [maxLen]; done) | (simp [maxLen]; omega)) ?_)
      refine fun _ => ?_
      try simp (disch := omega) only [go_sem, Int.reduceEq, Int.reduceLT, Int.reduceLE, Int.reduceToNat, Nat.reduceLT, Nat.reduceEqDiff, Nat.reduceAdd, Nat.reduceLeDiff, Nat.reduceSub, Nat.reduceMul, ↓reduceIte, reduceCtorEq, wrap_id, w_ite_ne, w_ite_lt, Nat.sub_zero, Nat.sub_self, hob]
      repeat (refine And.intro (by first | omega | (rw [mxL]; omega) | (simp [maxLen]; done) | (simp [maxLen]; omega)) ?_)
      refine ⟨c, by rw [show L.length - (j - i) = i by omega], ?_⟩
      congr 4
      rw [hjl, List.drop_length, List.append_nil, show i + (L.length - i) = L.length by omega, List.drop_length, List.append_nil]
    · try simp (disch := omega) only [go_sem, Int.reduceEq, Int.reduceLT, Int.reduceLE, Int.reduceToNat, Nat.reduceLT, Nat.reduceEqDiff, Nat.reduceAdd, Nat.reduceLeDiff, Nat.reduceSub, Nat.reduceMul, ↓reduceIte, reduceCtorEq, wrap_id, w_ite_ne, w_ite_lt, Nat.sub_zero, Nat.sub_self]
      repeat (refine And.intro (by first | omega | (rw [mxL]; omega) | (simp [maxLen]; done) | (simp [maxLen]; omega)) ?_)
      refine fun _ => ?_
      try simp (disch := omega) only [go_sem, Int.reduceEq, Int.reduceLT, Int.reduceLE, Int.reduceToNat, Nat.reduceLT, Nat.reduceEqDiff, Nat.reduceAdd, Nat.reduceLeDiff, Nat.reduceSub, Nat.reduceMul, ↓reduceIte, reduceCtorEq, wrap_id, w_ite_ne, w_ite_lt, Nat.sub_zero, Nat.sub_self]
      refine app_kk ?_
      have h2 : (L.drop j).length = L.length - j := by simp
      try simp (disch := omega) only [go_sem, Int.reduceEq, Int.reduceLT, Int.reduceLE, Int.reduceToNat, Nat.reduceLT, Nat.reduceEqDiff, Nat.reduceAdd, Nat.reduceLeDiff, Nat.reduceSub, Nat.reduceMul, ↓reduceIte, reduceCtorEq, wrap_id, w_ite_ne, w_ite_lt, Nat.sub_zero, Nat.sub_self, hob, h1, h2]
      repeat (refine And.intro (by first | omega | (rw [mxL]; omega) | (simp [maxLen]; done) | (simp [maxLen]; omega)) ?_)
      refine fun _ => ?_
      have h3 : (L.take i ++ L.drop j ++ L.drop (i + (L.length - j))).length = L.length := by simp; omega
      try simp (disch := omega) only [go_sem, Int.reduceEq, Int.reduceLT, Int.reduceLE, Int.reduceToNat, Nat.reduceLT, Nat.reduceEqDiff, Nat.reduceAdd, Nat.reduceLeDiff, Nat.reduceSub, Nat.reduceMul, ↓reduceIte, reduceCtorEq, wrap_id, w_ite_ne, w_ite_lt, Nat.sub_zero, Nat.sub_self, h3]
      repeat (refine And.intro (by first | omega | (rw [mxL]; omega) | (simp [maxLen]; done) | (simp [maxLen]; omega)) ?_)
      refine ⟨c, by rw [show L.length - (j - i) = i + (L.length - j) by omega], ?_⟩
      simp only [St.mk.injEq, and_true]
      rw [upd_upd]
      congr 3
      have h4 : (L.take i ++ L.drop j ++ L.drop (i + (L.length - j))).take (i + (L.length - j)) = L.take i ++ L.drop j := by
        rw [List.take_append_of_le_length (by simp; omega), List.take_of_length_le (by simp; omega)]
      rw [h4, show L.length - (i + (L.length - j)) = j - i by omega]
      rw [List.drop_of_length_le (l := L.take i ++ L.drop j ++ _) (by rw [h3]; omega), List.append_nil]
  · rintro r τ ⟨c, rfl, rfl⟩
    refine ⟨.sl id g 1 0 (L.length - (j - i)), upd ob0 id (some ⟨g, 1, ty, false, true, L.take i ++ L.drop j⟩), .inr ⟨id, g, 1, 0, _, c, rfl, rfl⟩, fun q o hq => ?_, rfl, rfl⟩
    by_cases e : q = id
    · subst e
      rw [upd_same] at hq
      obtain rfl := Option.some.inj hq
      refine ⟨_, upd_same _ _ _, rfl, rfl, rfl, rfl, rfl, L.length - (j - i), ?_⟩
      exact ((List.take_append_of_le_length (by simp; omega)).trans (List.take_of_length_le (by simp; omega))).symm
    · rw [upd_ne _ _ _ _ e] at hq
      exact ⟨o, by simp only; rw [upd_ne _ _ _ _ e]; exact hq, rfl, rfl, rfl, rfl, rfl, o.l.length, by simp⟩
abbrev ty_el_Reading : TypeId := 34
theorem hcl_slices_Clone__Reading (σ : St) (L : List AV) (hl : L.length * 32 ≤ 140737488355328) : HC prog n_slices_Clone__Reading [.list 4 L] σ (NewO σ 4 ty_el_Reading L) := by
  refine HC_of_body b_slices_Clone__Reading (by simp) ?_
  obtain ⟨ob, n, c⟩ := σ
  simp only [c_slices_Clone__Reading, go_sem, Int.reduceEq, Int.reduceLT, Int.reduceLE, Int.reduceToNat, Nat.reduceLT, Nat.reduceEqDiff, Nat.reduceAdd, Nat.reduceLeDiff, Nat.reduceSub, Nat.reduceMul, ↓reduceIte, reduceCtorEq, w_app_nl]
  refine isnil_l (fun h => ?_) (fun h => ?_)
  · subst h
    refine ⟨?_, ?_⟩
    · try simp (disch := omega) only [go_sem, Int.reduceEq, Int.reduceLT, Int.reduceLE, Int.reduceToNat, Nat.reduceLT, Nat.reduceEqDiff, Nat.reduceAdd, Nat.reduceLeDiff, Nat.reduceSub, Nat.reduceMul, ↓reduceIte, reduceCtorEq, wrap_id, w_ite_ne, w_ite_lt, Nat.sub_zero, Nat.sub_self]
      refine ⟨_, _, rfl, Nat.le_succ _, Nat.lt_succ_self _, (by first | ((try simp (maxSteps := 1000000) only [go_sem, Int.reduceEq, Int.reduceLT, Int.reduceLE, Int.reduceToNat, Nat.reduceLT, Nat.reduceEqDiff, Nat.reduceAdd, Nat.reduceLeDiff, Nat.reduceSub, Nat.reduceMul, ↓reduceIte, reduceCtorEq, w_app_nl]); done) | ((try simp (maxSteps := 1000000) only [go_sem, Int.reduceEq, Int.reduceLT, Int.reduceLE, Int.reduceToNat, Nat.reduceLT, Nat.reduceEqDiff, Nat.reduceAdd, Nat.reduceLeDiff, Nat.reduceSub, Nat.reduceMul, ↓reduceIte, reduceCtorEq, w_app_nl]); rfl) | ((try simp (maxSteps := 1000000) (disch := omega) only [go_sem, Int.reduceEq, Int.reduceLT, Int.reduceLE, Int.reduceToNat, Nat.reduceLT, Nat.reduceEqDiff, Nat.reduceAdd, Nat.reduceLeDiff, Nat.reduceSub, Nat.reduceMul, ↓reduceIte, reduceCtorEq, w_app_nl, wrap_id, w_ite_ne, w_ite_lt]); rfl) | (simp (maxSteps := 1000000) (disch := omega) only [go_sem, Int.reduceEq, Int.reduceLT, Int.reduceLE, Int.reduceToNat, Nat.reduceLT, Nat.reduceEqDiff, Nat.reduceAdd, Nat.reduceLeDiff, Nat.reduceSub, Nat.reduceMul, ↓reduceIte, reduceCtorEq, w_app_nl, wrap_id, w_ite_ne, w_ite_lt]; done)), fun i hi => ?_⟩
      simp only at hi
      try simp (disch := omega) only [go_sem, Int.reduceEq, Int.reduceLT, Int.reduceLE, Int.reduceToNat, Nat.reduceLT, Nat.reduceEqDiff, Nat.reduceAdd, Nat.reduceLeDiff, Nat.reduceSub, Nat.reduceMul, ↓reduceIte, reduceCtorEq, wrap_id, w_ite_ne, w_ite_lt, Nat.sub_zero, Nat.sub_self]
    · try simp (disch := omega) only [go_sem, Int.reduceEq, Int.reduceLT, Int.reduceLE, Int.reduceToNat, Nat.reduceLT, Nat.reduceEqDiff, Nat.reduceAdd, Nat.reduceLeDiff, Nat.reduceSub, Nat.reduceMul, ↓reduceIte, reduceCtorEq, wrap_id, w_ite_ne, w_ite_lt, Nat.sub_zero, Nat.sub_self]
      repeat (refine And.intro (by first | omega | (rw [mxL]; omega) | (simp [maxLen]; done) | (simp [maxLen]; omega)) ?_)
      refine ⟨_, _, rfl, Nat.le_succ _, Nat.lt_succ_self _, (by first | ((try simp (maxSteps := 1000000) only [go_sem, Int.reduceEq, Int.reduceLT, Int.reduceLE, Int.reduceToNat, Nat.reduceLT, Nat.reduceEqDiff, Nat.reduceAdd, Nat.reduceLeDiff, Nat.reduceSub, Nat.reduceMul, ↓reduceIte, reduceCtorEq, w_app_nl]); done) | ((try simp (maxSteps := 1000000) only [go_sem, Int.reduceEq, Int.reduceLT, Int.reduceLE, Int.reduceToNat, Nat.reduceLT, Nat.reduceEqDiff, Nat.reduceAdd, Nat.reduceLeDiff, Nat.reduceSub, Nat.reduceMul, ↓reduceIte, reduceCtorEq, w_app_nl]); rfl) | ((try simp (maxSteps := 1000000) (disch := omega) only [go_sem, Int.reduceEq, Int.reduceLT, Int.reduceLE, Int.reduceToNat, Nat.reduceLT, Nat.reduceEqDiff, Nat.reduceAdd, Nat.reduceLeDiff, Nat.reduceSub, Nat.reduceMul, ↓reduceIte, reduceCtorEq, w_app_nl, wrap_id, w_ite_ne, w_ite_lt]); rfl) | (simp (maxSteps := 1000000) (disch := omega) only [go_sem, Int.reduceEq, Int.reduceLT, Int.reduceLE, Int.reduceToNat, Nat.reduceLT, Nat.reduceEqDiff, Nat.reduceAdd, Nat.reduceLeDiff, Nat.reduceSub, Nat.reduceMul, ↓reduceIte, reduceCtorEq, w_app_nl, wrap_id, w_ite_ne, w_ite_lt]; done)), fun i hi => ?_⟩
      simp only at hi
      try simp (disch := omega) only [go_sem, Int.reduceEq, Int.reduceLT, Int.reduceLE, Int.reduceToNat, Nat.reduceLT, Nat.reduceEqDiff, Nat.reduceAdd, Nat.reduceLeDiff, Nat.reduceSub, Nat.reduceMul, ↓reduceIte, reduceCtorEq, wrap_id, w_ite_ne, w_ite_lt, Nat.sub_zero, Nat.sub_self]
  · try simp (disch := omega) only [go_sem, Int.reduceEq, Int.reduceLT, Int.reduceLE, Int.reduceToNat, Nat.reduceLT, Nat.reduceEqDiff, Nat.reduceAdd, Nat.reduceLeDiff, Nat.reduceSub, Nat.reduceMul, ↓reduceIte, reduceCtorEq, wrap_id, w_ite_ne, w_ite_lt, Nat.sub_zero, Nat.sub_self]
    repeat (refine And.intro (by first | omega | (rw [mxL]; omega) | (simp [maxLen]; done) | (simp [maxLen]; omega)) ?_)
    refine ⟨_, _, rfl, Nat.le_succ _, Nat.lt_succ_self _, (by first | ((try simp (maxSteps := 1000000) only [go_sem, Int.reduceEq, Int.reduceLT, Int.reduceLE, Int.reduceToNat, Nat.reduceLT, Nat.reduceEqDiff, Nat.reduceAdd, Nat.reduceLeDiff, Nat.reduceSub, Nat.reduceMul, ↓reduceIte, reduceCtorEq, w_app_nl]); done) | ((try simp (maxSteps := 1000000) only [go_sem, Int.reduceEq, Int.reduceLT, Int.reduceLE, Int.reduceToNat, Nat.reduceLT, Nat.reduceEqDiff, Nat.reduceAdd, Nat.reduceLeDiff, Nat.reduceSub, Nat.reduceMul, ↓reduceIte, reduceCtorEq, w_app_nl]); rfl) | ((try simp (maxSteps := 1000000) (disch := omega) only [go_sem, Int.reduceEq, Int.reduceLT, Int.reduceLE, Int.reduceToNat, Nat.reduceLT, Nat.reduceEqDiff, Nat.reduceAdd, Nat.reduceLeDiff, Nat.reduceSub, Nat.reduceMul, ↓reduceIte, reduceCtorEq, w_app_nl, wrap_id, w_ite_ne, w_ite_lt]); rfl) | (simp (maxSteps := 1000000) (disch := omega) only [go_sem, Int.reduceEq, Int.reduceLT, Int.reduceLE, Int.reduceToNat, Nat.reduceLT, Nat.reduceEqDiff, Nat.reduceAdd, Nat.reduceLeDiff, Nat.reduceSub, Nat.reduceMul, ↓reduceIte, reduceCtorEq, w_app_nl, wrap_id, w_ite_ne, w_ite_lt]; done)), fun i hi => ?_⟩
    simp only at hi
    try simp (disch := omega) only [go_sem, Int.reduceEq, Int.reduceLT, Int.reduceLE, Int.reduceToNat, Nat.reduceLT, Nat.reduceEqDiff, Nat.reduceAdd, Nat.reduceLeDiff, Nat.reduceSub, Nat.reduceMul, ↓reduceIte, reduceCtorEq, wrap_id, w_ite_ne, w_ite_lt, Nat.sub_zero, Nat.sub_self]
/-- .. read only -/
theorem okl_slices_Clone__Reading (L : List AV) (hl : L.length * 32 ≤ 140737488355328) (hp : ∀ x ∈ L, x.pur = true) (hk : ∀ x ∈ L, okE 4 x) : PC prog n_slices_Clone__Reading [.list 4 L] (.list 4 L) :=
  PC_of_HC ((hcl_slices_Clone__Reading St.empty L hl).mono fun r τ ⟨id, g, h1, _, _, h2, _⟩ => by rw [h1]; exact Pub.of_sl h2 rfl hp hk)
/-- where a number stands, or belongs, in a list that ascends -/
def bsI (l : List Int) (x : Int) : Nat := l.findIdx fun y => decide (x ≤ y)
theorem bsI_le (l : List Int) (x : Int) : bsI l x ≤ l.length := List.findIdx_le_length
theorem bsI_eq (l : List Int) (x : Int) (i : Nat) (hi : i ≤ l.length) (h1 : ∀ k, k < i → ∀ y, l[k]? = some y → y < x) (h2 : ∀ k, i ≤ k → ∀ y, l[k]? = some y → x ≤ y) : bsI l x = i := by
  unfold bsI
  by_cases h : i < l.length
  · rw [List.findIdx_eq h]
    refine ⟨by simpa using h2 i (Nat.le_refl _) _ (List.getElem?_eq_getElem h), fun j hj => ?_⟩
    have := h1 j hj _ (List.getElem?_eq_getElem (by omega))
    simp; omega
  · have : i = l.length := by omega
    subst this
    rw [List.findIdx_eq_length]
    intro y hy
    obtain ⟨k, hk⟩ := List.getElem?_of_mem hy
    have := h1 k (List.getElem?_eq_some_iff.1 hk).1 y hk
    simp; omega
theorem bit_half (x : Int) (h0 : 0 ≤ x) (h1 : x ≤ 9223372036854775807) : bitD .shr .u64 x .u64 1 = some (.int .u64 (x / 2)) := by
  simp only [bitD, IntKind.bits]
  rw [if_pos (by omega)]
  have : (2 : Int) ^ min (1 : Int).toNat 64 = 2 := by decide
  rw [this, Int.fdiv_eq_ediv_of_nonneg _ (by omega)]
theorem wrap_u64 {n : Int} (h0 : 0 ≤ n) (h1 : n ≤ 18446744073709551615) : IntKind.u64.wrap n = n := by
  simp [IntKind.wrap, IntKind.bits, IntKind.signed]; omega
def Asc (l : List Int) : Prop := ∀ i j : Nat, i < j → ∀ x y, l[i]? = some x → l[j]? = some y → x ≤ y
theorem ok_cmp_isNaN__int (x : Int) : PC prog n_cmp_isNaN__int [.int .i64 x] (.bool false) := by
  refine PC_of_body b_cmp_isNaN__int (by simp) ?_
  simp only [c_cmp_isNaN__int, go_sem, Int.reduceEq, Int.reduceLT, Int.reduceLE, Int.reduceToNat, Nat.reduceLT, Nat.reduceEqDiff, Nat.reduceAdd, Nat.reduceLeDiff, Nat.reduceSub, Nat.reduceMul, ↓reduceIte, reduceCtorEq, w_app_nl]
  exact Pub.of_eq (by simp) rfl
theorem ok_slices_isNaN__int (x : Int) : PC prog n_slices_isNaN__int [.int .i64 x] (.bool false) := by
  refine PC_of_body b_slices_isNaN__int (by simp) ?_
  simp only [c_slices_isNaN__int, go_sem, Int.reduceEq, Int.reduceLT, Int.reduceLE, Int.reduceToNat, Nat.reduceLT, Nat.reduceEqDiff, Nat.reduceAdd, Nat.reduceLeDiff, Nat.reduceSub, Nat.reduceMul, ↓reduceIte, reduceCtorEq, w_app_nl]
  exact Pub.of_eq (by simp) rfl
theorem ok_cmp_Less__int (x y : Int) : PC prog n_cmp_Less__int [.int .i64 x, .int .i64 y] (.bool (decide (x < y))) := by
  refine PC_of_body b_cmp_Less__int (by simp) ?_
  simp only [c_cmp_Less__int, go_sem, Int.reduceEq, Int.reduceLT, Int.reduceLE, Int.reduceToNat, Nat.reduceLT, Nat.reduceEqDiff, Nat.reduceAdd, Nat.reduceLeDiff, Nat.reduceSub, Nat.reduceMul, ↓reduceIte, reduceCtorEq, w_app_nl]
  refine call_pc (ok_cmp_isNaN__int _) (by simp [go_sem]) ?_
  try simp (maxSteps := 1000000) only [go_sem, Int.reduceEq, Int.reduceLT, Int.reduceLE, Int.reduceToNat, Nat.reduceLT, Nat.reduceEqDiff, Nat.reduceAdd, Nat.reduceLeDiff, Nat.reduceSub, Nat.reduceMul, ↓reduceIte, reduceCtorEq, w_app_nl]
  exact Pub.of_eq (by simp) rfl
theorem ok_slices_BinarySearch__int (l : List Int) (x : Int) (hl : l.length ≤ 4611686018427387904) (hs : Asc l) :
    PC prog n_slices_BinarySearch__int [.list 1 (ints l), .int .i64 x] (.tuple [.int .i64 (bsI l x), .bool (decide (l[bsI l x]? = some x))]) := by
  refine PC_of_body b_slices_BinarySearch__int (by simp) ?_
  simp only [c_slices_BinarySearch__int, go_sem, Int.reduceEq, Int.reduceLT, Int.reduceLE, Int.reduceToNat, Nat.reduceLT, Nat.reduceEqDiff, Nat.reduceAdd, Nat.reduceLeDiff, Nat.reduceSub, Nat.reduceMul, ↓reduceIte, reduceCtorEq, w_app_nl, ints_length]
  refine awp_loopF [7, 8, 9, 13, 14, 15, 16, 17, 18, 19, 20, 21, 22, 23, 24, 25, 26, 27, 28, 29, 30] (by kernel_rfl) (fun k e _ => ∃ i j : Nat, e 7 = .int .i64 i ∧ e 8 = .int .i64 j ∧ i ≤ j ∧ j ≤ l.length ∧ k = j - i ∧ (∀ k, k < i → ∀ y, l[k]? = some y → y < x) ∧ (∀ k, j ≤ k → ∀ y, l[k]? = some y → x ≤ y)) l.length ?_ ?_
  · exact ⟨0, l.length, (by first | ((try simp (maxSteps := 1000000) only [go_sem, Int.reduceEq, Int.reduceLT, Int.reduceLE, Int.reduceToNat, Nat.reduceLT, Nat.reduceEqDiff, Nat.reduceAdd, Nat.reduceLeDiff, Nat.reduceSub, Nat.reduceMul, ↓reduceIte, reduceCtorEq, w_app_nl]); done) | ((try simp (maxSteps := 1000000) only [go_sem, Int.reduceEq, Int.reduceLT, Int.reduceLE, Int.reduceToNat, Nat.reduceLT, Nat.reduceEqDiff, Nat.reduceAdd, Nat.reduceLeDiff, Nat.reduceSub, Nat.reduceMul, ↓reduceIte, reduceCtorEq, w_app_nl]); rfl) | ((try simp (maxSteps := 1000000) (disch := omega) only [go_sem, Int.reduceEq, Int.reduceLT, Int.reduceLE, Int.reduceToNat, Nat.reduceLT, Nat.reduceEqDiff, Nat.reduceAdd, Nat.reduceLeDiff, Nat.reduceSub, Nat.reduceMul, ↓reduceIte, reduceCtorEq, w_app_nl, wrap_id, w_ite_ne, w_ite_lt]); rfl) | (simp (maxSteps := 1000000) (disch := omega) only [go_sem, Int.reduceEq, Int.reduceLT, Int.reduceLE, Int.reduceToNat, Nat.reduceLT, Nat.reduceEqDiff, Nat.reduceAdd, Nat.reduceLeDiff, Nat.reduceSub, Nat.reduceMul, ↓reduceIte, reduceCtorEq, w_app_nl, wrap_id, w_ite_ne, w_ite_lt]; done)), (by first | ((try simp (maxSteps := 1000000) only [go_sem, Int.reduceEq, Int.reduceLT, Int.reduceLE, Int.reduceToNat, Nat.reduceLT, Nat.reduceEqDiff, Nat.reduceAdd, Nat.reduceLeDiff, Nat.reduceSub, Nat.reduceMul, ↓reduceIte, reduceCtorEq, w_app_nl]); done) | ((try simp (maxSteps := 1000000) only [go_sem, Int.reduceEq, Int.reduceLT, Int.reduceLE, Int.reduceToNat, Nat.reduceLT, Nat.reduceEqDiff, Nat.reduceAdd, Nat.reduceLeDiff, Nat.reduceSub, Nat.reduceMul, ↓reduceIte, reduceCtorEq, w_app_nl]); rfl) | ((try simp (maxSteps := 1000000) (disch := omega) only [go_sem, Int.reduceEq, Int.reduceLT, Int.reduceLE, Int.reduceToNat, Nat.reduceLT, Nat.reduceEqDiff, Nat.reduceAdd, Nat.reduceLeDiff, Nat.reduceSub, Nat.reduceMul, ↓reduceIte, reduceCtorEq, w_app_nl, wrap_id, w_ite_ne, w_ite_lt]); rfl) | (simp (maxSteps := 1000000) (disch := omega) only [go_sem, Int.reduceEq, Int.reduceLT, Int.reduceLE, Int.reduceToNat, Nat.reduceLT, Nat.reduceEqDiff, Nat.reduceAdd, Nat.reduceLeDiff, Nat.reduceSub, Nat.reduceMul, ↓reduceIte, reduceCtorEq, w_app_nl, wrap_id, w_ite_ne, w_ite_lt]; done)), by omega, by omega, by omega, fun k hk => by omega, fun k hk y hy => by have := (List.getElem?_eq_some_iff.1 hy).1; omega⟩
  · rintro r fe ob c ⟨i, j, h7, h8, hij, hjl, rfl, hlo, hhi⟩
    simp (maxSteps := 1000000) only [go_sem, Int.reduceEq, Int.reduceLT, Int.reduceLE, Int.reduceToNat, Nat.reduceLT, Nat.reduceEqDiff, Nat.reduceAdd, Nat.reduceLeDiff, Nat.reduceSub, Nat.reduceMul, ↓reduceIte, reduceCtorEq, w_app_nl] at h7 h8
    try simp (disch := omega) only [go_sem, Int.reduceEq, Int.reduceLT, Int.reduceLE, Int.reduceToNat, Nat.reduceLT, Nat.reduceEqDiff, Nat.reduceAdd, Nat.reduceLeDiff, Nat.reduceSub, Nat.reduceMul, ↓reduceIte, reduceCtorEq, wrap_id, w_ite_ne, w_ite_lt, Nat.sub_zero, Nat.sub_self, h7, h8]
    refine cond_d (fun hlt => ?_) (fun hge => ?_)
    · have hij2 : i < j := by omega
      try simp (disch := omega) only [go_sem, Int.reduceEq, Int.reduceLT, Int.reduceLE, Int.reduceToNat, Nat.reduceLT, Nat.reduceEqDiff, Nat.reduceAdd, Nat.reduceLeDiff, Nat.reduceSub, Nat.reduceMul, ↓reduceIte, reduceCtorEq, wrap_id, w_ite_ne, w_ite_lt, Nat.sub_zero, Nat.sub_self, h7, h8, wrap_u64, bit_half, Option.some.injEq, exists_eq_left']
      generalize hm : (i + j) / 2 = m
      have hmi : ((i : Int) + j) / 2 = (m : Int) := by omega
      have hg : l[m]? = some l[m] := List.getElem?_eq_getElem (by omega)
      try simp (disch := omega) only [go_sem, Int.reduceEq, Int.reduceLT, Int.reduceLE, Int.reduceToNat, Nat.reduceLT, Nat.reduceEqDiff, Nat.reduceAdd, Nat.reduceLeDiff, Nat.reduceSub, Nat.reduceMul, ↓reduceIte, reduceCtorEq, wrap_id, w_ite_ne, w_ite_lt, Nat.sub_zero, Nat.sub_self, hmi, h7, h8, ints_get, ints_length, hg]
      repeat (refine And.intro (by first | omega | (rw [mxL]; omega) | (simp [maxLen]; done) | (simp [maxLen]; omega)) ?_)
      refine call_pc (ok_cmp_Less__int _ _) (by simp [go_sem]) ?_
      try simp (disch := omega) only [go_sem, Int.reduceEq, Int.reduceLT, Int.reduceLE, Int.reduceToNat, Nat.reduceLT, Nat.reduceEqDiff, Nat.reduceAdd, Nat.reduceLeDiff, Nat.reduceSub, Nat.reduceMul, ↓reduceIte, reduceCtorEq, wrap_id, w_ite_ne, w_ite_lt, Nat.sub_zero, Nat.sub_self, h7, h8]
      refine cond_d (fun hlt => ?_) (fun hge => ?_)
      · try simp (disch := omega) only [go_sem, Int.reduceEq, Int.reduceLT, Int.reduceLE, Int.reduceToNat, Nat.reduceLT, Nat.reduceEqDiff, Nat.reduceAdd, Nat.reduceLeDiff, Nat.reduceSub, Nat.reduceMul, ↓reduceIte, reduceCtorEq, wrap_id, w_ite_ne, w_ite_lt, Nat.sub_zero, Nat.sub_self, h7, h8]
        refine ⟨j - (m + 1), by omega, _, Nat.le_refl _, rfl, m + 1, j, (by first | ((try simp (maxSteps := 1000000) only [go_sem, Int.reduceEq, Int.reduceLT, Int.reduceLE, Int.reduceToNat, Nat.reduceLT, Nat.reduceEqDiff, Nat.reduceAdd, Nat.reduceLeDiff, Nat.reduceSub, Nat.reduceMul, ↓reduceIte, reduceCtorEq, w_app_nl]); done) | ((try simp (maxSteps := 1000000) only [go_sem, Int.reduceEq, Int.reduceLT, Int.reduceLE, Int.reduceToNat, Nat.reduceLT, Nat.reduceEqDiff, Nat.reduceAdd, Nat.reduceLeDiff, Nat.reduceSub, Nat.reduceMul, ↓reduceIte, reduceCtorEq, w_app_nl]); rfl) | ((try simp (maxSteps := 1000000) (disch := omega) only [go_sem, Int.reduceEq, Int.reduceLT, Int.reduceLE, Int.reduceToNat, Nat.reduceLT, Nat.reduceEqDiff, Nat.reduceAdd, Nat.reduceLeDiff, Nat.reduceSub, Nat.reduceMul, ↓reduceIte, reduceCtorEq, w_app_nl, wrap_id, w_ite_ne, w_ite_lt]); rfl) | (simp (maxSteps := 1000000) (disch := omega) only [go_sem, Int.reduceEq, Int.reduceLT, Int.reduceLE, Int.reduceToNat, Nat.reduceLT, Nat.reduceEqDiff, Nat.reduceAdd, Nat.reduceLeDiff, Nat.reduceSub, Nat.reduceMul, ↓reduceIte, reduceCtorEq, w_app_nl, wrap_id, w_ite_ne, w_ite_lt]; done)), (by first | ((try simp (maxSteps := 1000000) only [go_sem, Int.reduceEq, Int.reduceLT, Int.reduceLE, Int.reduceToNat, Nat.reduceLT, Nat.reduceEqDiff, Nat.reduceAdd, Nat.reduceLeDiff, Nat.reduceSub, Nat.reduceMul, ↓reduceIte, reduceCtorEq, w_app_nl]); done) | ((try simp (maxSteps := 1000000) only [go_sem, Int.reduceEq, Int.reduceLT, Int.reduceLE, Int.reduceToNat, Nat.reduceLT, Nat.reduceEqDiff, Nat.reduceAdd, Nat.reduceLeDiff, Nat.reduceSub, Nat.reduceMul, ↓reduceIte, reduceCtorEq, w_app_nl]); rfl) | ((try simp (maxSteps := 1000000) (disch := omega) only [go_sem, Int.reduceEq, Int.reduceLT, Int.reduceLE, Int.reduceToNat, Nat.reduceLT, Nat.reduceEqDiff, Nat.reduceAdd, Nat.reduceLeDiff, Nat.reduceSub, Nat.reduceMul, ↓reduceIte, reduceCtorEq, w_app_nl, wrap_id, w_ite_ne, w_ite_lt]); rfl) | (simp (maxSteps := 1000000) (disch := omega) only [go_sem, Int.reduceEq, Int.reduceLT, Int.reduceLE, Int.reduceToNat, Nat.reduceLT, Nat.reduceEqDiff, Nat.reduceAdd, Nat.reduceLeDiff, Nat.reduceSub, Nat.reduceMul, ↓reduceIte, reduceCtorEq, w_app_nl, wrap_id, w_ite_ne, w_ite_lt]; done)), by omega, by omega, by omega, fun k hk y hy => ?_, hhi⟩
        by_cases e : k = m
        · subst e; rw [hg] at hy; obtain rfl := Option.some.inj hy; exact hlt
        · have := hs k m (by omega) y _ hy hg; omega
      · try simp (disch := omega) only [go_sem, Int.reduceEq, Int.reduceLT, Int.reduceLE, Int.reduceToNat, Nat.reduceLT, Nat.reduceEqDiff, Nat.reduceAdd, Nat.reduceLeDiff, Nat.reduceSub, Nat.reduceMul, ↓reduceIte, reduceCtorEq, wrap_id, w_ite_ne, w_ite_lt, Nat.sub_zero, Nat.sub_self, h7, h8]
        refine ⟨m - i, by omega, _, Nat.le_refl _, rfl, i, m, (by first | ((try simp (maxSteps := 1000000) only [go_sem, Int.reduceEq, Int.reduceLT, Int.reduceLE, Int.reduceToNat, Nat.reduceLT, Nat.reduceEqDiff, Nat.reduceAdd, Nat.reduceLeDiff, Nat.reduceSub, Nat.reduceMul, ↓reduceIte, reduceCtorEq, w_app_nl]); done) | ((try simp (maxSteps := 1000000) only [go_sem, Int.reduceEq, Int.reduceLT, Int.reduceLE, Int.reduceToNat, Nat.reduceLT, Nat.reduceEqDiff, Nat.reduceAdd, Nat.reduceLeDiff, Nat.reduceSub, Nat.reduceMul, ↓reduceIte, reduceCtorEq, w_app_nl]); rfl) | ((try simp (maxSteps := 1000000) (disch := omega) only [go_sem, Int.reduceEq, Int.reduceLT, Int.reduceLE, Int.reduceToNat, Nat.reduceLT, Nat.reduceEqDiff, Nat.reduceAdd, Nat.reduceLeDiff, Nat.reduceSub, Nat.reduceMul, ↓reduceIte, reduceCtorEq, w_app_nl, wrap_id, w_ite_ne, w_ite_lt]); rfl) | (simp (maxSteps := 1000000) (disch := omega) only [go_sem, Int.reduceEq, Int.reduceLT, Int.reduceLE, Int.reduceToNat, Nat.reduceLT, Nat.reduceEqDiff, Nat.reduceAdd, Nat.reduceLeDiff, Nat.reduceSub, Nat.reduceMul, ↓reduceIte, reduceCtorEq, w_app_nl, wrap_id, w_ite_ne, w_ite_lt]; done)), (by first | ((try simp (maxSteps := 1000000) only [go_sem, Int.reduceEq, Int.reduceLT, Int.reduceLE, Int.reduceToNat, Nat.reduceLT, Nat.reduceEqDiff, Nat.reduceAdd, Nat.reduceLeDiff, Nat.reduceSub, Nat.reduceMul, ↓reduceIte, reduceCtorEq, w_app_nl]); done) | ((try simp (maxSteps := 1000000) only [go_sem, Int.reduceEq, Int.reduceLT, Int.reduceLE, Int.reduceToNat, Nat.reduceLT, Nat.reduceEqDiff, Nat.reduceAdd, Nat.reduceLeDiff, Nat.reduceSub, Nat.reduceMul, ↓reduceIte, reduceCtorEq, w_app_nl]); rfl) | ((try simp (maxSteps := 1000000) (disch := omega) only [go_sem, Int.reduceEq, Int.reduceLT, Int.reduceLE, Int.reduceToNat, Nat.reduceLT, Nat.reduceEqDiff, Nat.reduceAdd, Nat.reduceLeDiff, Nat.reduceSub, Nat.reduceMul, ↓reduceIte, reduceCtorEq, w_app_nl, wrap_id, w_ite_ne, w_ite_lt]); rfl) | (simp (maxSteps := 1000000) (disch := omega) only [go_sem, Int.reduceEq, Int.reduceLT, Int.reduceLE, Int.reduceToNat, Nat.reduceLT, Nat.reduceEqDiff, Nat.reduceAdd, Nat.reduceLeDiff, Nat.reduceSub, Nat.reduceMul, ↓reduceIte, reduceCtorEq, w_app_nl, wrap_id, w_ite_ne, w_ite_lt]; done)), by omega, by omega, by omega, hlo, fun k hk y hy => ?_⟩
        by_cases e : k = m
        · subst e; rw [hg] at hy; obtain rfl := Option.some.inj hy; omega
        · have := hs m k (by omega) _ y hg hy; omega
    · have hij2 : i = j := by omega
      subst hij2
      have hb := bsI_eq l x i hjl hlo hhi
      rw [hb]
      try simp (disch := omega) only [go_sem, Int.reduceEq, Int.reduceLT, Int.reduceLE, Int.reduceToNat, Nat.reduceLT, Nat.reduceEqDiff, Nat.reduceAdd, Nat.reduceLeDiff, Nat.reduceSub, Nat.reduceMul, ↓reduceIte, reduceCtorEq, wrap_id, w_ite_ne, w_ite_lt, Nat.sub_zero, Nat.sub_self, h7, h8]
      refine gd_td rfl (fun h => ?_) (fun h => ?_)
      · have hg : l[i]? = some l[i] := List.getElem?_eq_getElem (by omega)
        try simp (disch := omega) only [go_sem, Int.reduceEq, Int.reduceLT, Int.reduceLE, Int.reduceToNat, Nat.reduceLT, Nat.reduceEqDiff, Nat.reduceAdd, Nat.reduceLeDiff, Nat.reduceSub, Nat.reduceMul, ↓reduceIte, reduceCtorEq, wrap_id, w_ite_ne, w_ite_lt, Nat.sub_zero, Nat.sub_self, h7, h8, ints_get, ints_length, hg]
        repeat (refine And.intro (by first | omega | (rw [mxL]; omega) | (simp [maxLen]; done) | (simp [maxLen]; omega)) ?_)
        refine gd_fd rfl (fun h2 => ?_) (fun h2 => ?_)
        · try simp (disch := omega) only [go_sem, Int.reduceEq, Int.reduceLT, Int.reduceLE, Int.reduceToNat, Nat.reduceLT, Nat.reduceEqDiff, Nat.reduceAdd, Nat.reduceLeDiff, Nat.reduceSub, Nat.reduceMul, ↓reduceIte, reduceCtorEq, wrap_id, w_ite_ne, w_ite_lt, Nat.sub_zero, Nat.sub_self, h7, h8]
          exact Pub.of_eq (by rw [h2]; simp) rfl
        · try simp (disch := omega) only [go_sem, Int.reduceEq, Int.reduceLT, Int.reduceLE, Int.reduceToNat, Nat.reduceLT, Nat.reduceEqDiff, Nat.reduceAdd, Nat.reduceLeDiff, Nat.reduceSub, Nat.reduceMul, ↓reduceIte, reduceCtorEq, wrap_id, w_ite_ne, w_ite_lt, Nat.sub_zero, Nat.sub_self, h7, h8, ints_get, ints_length, hg]
          repeat (refine And.intro (by first | omega | (rw [mxL]; omega) | (simp [maxLen]; done) | (simp [maxLen]; omega)) ?_)
          refine call_pc (ok_slices_isNaN__int _) (by simp [go_sem]) ?_
          try simp (disch := omega) only [go_sem, Int.reduceEq, Int.reduceLT, Int.reduceLE, Int.reduceToNat, Nat.reduceLT, Nat.reduceEqDiff, Nat.reduceAdd, Nat.reduceLeDiff, Nat.reduceSub, Nat.reduceMul, ↓reduceIte, reduceCtorEq, wrap_id, w_ite_ne, w_ite_lt, Nat.sub_zero, Nat.sub_self, h7, h8]
          exact Pub.of_eq (by simp [h2]) rfl
      · try simp (disch := omega) only [go_sem, Int.reduceEq, Int.reduceLT, Int.reduceLE, Int.reduceToNat, Nat.reduceLT, Nat.reduceEqDiff, Nat.reduceAdd, Nat.reduceLeDiff, Nat.reduceSub, Nat.reduceMul, ↓reduceIte, reduceCtorEq, wrap_id, w_ite_ne, w_ite_lt, Nat.sub_zero, Nat.sub_self, h7, h8]
        exact Pub.of_eq (by rw [List.getElem?_eq_none (by omega)]; simp) rfl
/-- what has been received -/
structure Rc where
  s : Int
  n : Int
  m : List Int
  deriving DecidableEq
def rcv (r : Rc) : AV := .agg [.int .i64 r.s, .int .i64 r.n, .list 1 (ints r.m)]
def ascB (nx : Int) : Int → List Int → Bool
  | _, [] => true
  | last, n :: r => decide (last < n) && decide (n < nx) && ascB nx n r
def rcOk (r : Rc) : Bool := inB r.s 0 255 && inB r.n 1 1073741825 && decide (r.m.length ≤ 256) && ascB r.n 0 r.m
def rcE (r : Rc) : Int := if rcOk r then 0 else 50
theorem ascB_get (nx : Int) : ∀ (l : List Int) (last : Int), ascB nx last l = true ↔ (∀ i x, l[i]? = some x → (if i = 0 then last else (l[i - 1]?).getD 0) < x ∧ x < nx)
  | [], last => by simp [ascB]
  | n :: r, last => by
    simp only [ascB, Bool.and_eq_true, decide_eq_true_eq, ascB_get nx r n]
    constructor
    · rintro ⟨⟨h1, h2⟩, h3⟩ i x hx
      cases i with
      | zero => simp at hx; subst hx; simp [h1, h2]
      | succ i =>
        have := h3 i x (by simpa using hx)
        cases i with
        | zero => simpa using this
        | succ i => simpa using this
    · intro h
      refine ⟨by simpa using h 0 n rfl, fun i x hx => ?_⟩
      have := h (i + 1) x (by simpa using hx)
      cases i with
      | zero => simpa using this
      | succ i => simpa using this
theorem ascB_lt {nx : Int} : ∀ {l : List Int} {last : Int}, ascB nx last l = true → ∀ x ∈ l, last < x ∧ x < nx
  | [], last, _, x, hx => by simp at hx
  | n :: r, last, h, x, hx => by
    simp only [ascB, Bool.and_eq_true, decide_eq_true_eq] at h
    rcases List.mem_cons.1 hx with rfl | hx
    · exact h.1
    · have := ascB_lt h.2 x hx; omega
theorem ascB_asc {nx : Int} : ∀ {l : List Int} {last : Int}, ascB nx last l = true → ∀ i j : Nat, i < j → ∀ x y, l[i]? = some x → l[j]? = some y → x < y
  | [], last, _, i, j, _, x, y, hx, _ => by simp at hx
  | n :: r, last, h, i, j, hij, x, y, hx, hy => by
    simp only [ascB, Bool.and_eq_true, decide_eq_true_eq] at h
    cases j with
    | zero => omega
    | succ j =>
      simp only [List.getElem?_cons_succ] at hy
      cases i with
      | zero => simp at hx; subst hx; exact (ascB_lt h.2 y (List.mem_of_getElem? hy)).1
      | succ i => exact ascB_asc h.2 i j (by omega) x y (by simpa using hx) hy
theorem ascB_Asc {nx last : Int} {l : List Int} (h : ascB nx last l = true) : Asc l := fun i j hij x y hx hy => by
  have := ascB_asc h i j hij x y hx hy; omega
/-- one more -/
theorem ascB_step {nx : Int} {l : List Int} {k : Nat} (hk : k < l.length) (h : ascB nx 0 (l.take k) = true) : ascB nx 0 (l.take (k + 1)) = (decide ((if k = 0 then 0 else (l[k - 1]?).getD 0) < l[k]) && decide (l[k] < nx)) := by
  rw [Bool.eq_iff_iff, ascB_get]
  rw [ascB_get] at h
  simp only [Bool.and_eq_true, decide_eq_true_eq]
  have hget : ∀ i, i < k → (l.take k)[i]? = l[i]? := fun i hi => by rw [List.getElem?_take, if_pos hi]
  have hget2 : ∀ i, i < k + 1 → (l.take (k + 1))[i]? = l[i]? := fun i hi => by rw [List.getElem?_take, if_pos hi]
  constructor
  · intro h2
    have := h2 k l[k] (by rw [hget2 k (by omega)]; exact List.getElem?_eq_getElem hk)
    by_cases e : k = 0
    · simpa [e] using this
    · rw [if_neg e] at this ⊢
      rw [hget2 (k - 1) (by omega)] at this
      exact this
  · intro h2 i x hx
    have hik : i < k + 1 := by have := (List.getElem?_eq_some_iff.1 hx).1; simp at this; omega
    rw [hget2 i hik] at hx
    by_cases e : i = k
    · subst e
      rw [List.getElem?_eq_getElem hk] at hx
      obtain rfl := Option.some.inj hx
      by_cases e : i = 0
      · rw [if_pos e] at h2 ⊢; exact h2
      · rw [if_neg e] at h2 ⊢
        rw [hget2 (i - 1) (by omega)]
        exact h2
    · have := h i x (by rw [hget i (by omega)]; exact hx)
      by_cases e : i = 0
      · rw [if_pos e] at this ⊢; exact this
      · rw [if_neg e] at this ⊢
        rw [hget (i - 1) (by omega)] at this
        rw [hget2 (i - 1) (by omega)]
        exact this
theorem ascB_take {nx : Int} : ∀ {l : List Int} {last : Int} (k : Nat), ascB nx last l = true → ascB nx last (l.take k) = true
  | [], _, k, _ => by simp [ascB]
  | n :: r, last, 0, _ => by simp [ascB]
  | n :: r, last, k + 1, h => by
    simp only [ascB, Bool.and_eq_true, List.take_succ_cons] at h ⊢
    exact ⟨h.1, ascB_take k h.2⟩
theorem ok_telemetry_Check (r : Rc) (hl : r.m.length ≤ 9223372036854775807) : PC prog n_telemetry_Check [rcv r] (.int .i64 (rcE r)) := by
  refine PC_of_body b_telemetry_Check (by simp) ?_
  simp only [c_telemetry_Check, go_sem, Int.reduceEq, Int.reduceLT, Int.reduceLE, Int.reduceToNat, Nat.reduceLT, Nat.reduceEqDiff, Nat.reduceAdd, Nat.reduceLeDiff, Nat.reduceSub, Nat.reduceMul, ↓reduceIte, reduceCtorEq, w_app_nl, rcv]
  have no : ∀ {σ : St}, rcOk r = false → Pub σ (.int .i64 50) (.int .i64 (rcE r)) := fun h => Pub.of_eq (by simp [rcE, h]) rfl
  refine call_pc (ok_telemetry_within _ _ _) (by simp [go_sem]) ?_
  try simp (disch := omega) only [go_sem, Int.reduceEq, Int.reduceLT, Int.reduceLE, Int.reduceToNat, Nat.reduceLT, Nat.reduceEqDiff, Nat.reduceAdd, Nat.reduceLeDiff, Nat.reduceSub, Nat.reduceMul, ↓reduceIte, reduceCtorEq, wrap_id, w_ite_ne, w_ite_lt, Nat.sub_zero, Nat.sub_self]
  refine gd_f rfl (fun h1 => ?_) (fun h1 => ?_) <;> try simp (disch := omega) only [go_sem, Int.reduceEq, Int.reduceLT, Int.reduceLE, Int.reduceToNat, Nat.reduceLT, Nat.reduceEqDiff, Nat.reduceAdd, Nat.reduceLeDiff, Nat.reduceSub, Nat.reduceMul, ↓reduceIte, reduceCtorEq, wrap_id, w_ite_ne, w_ite_lt, Nat.sub_zero, Nat.sub_self]
  · exact no (by simp at h1; simp [rcOk, h1])
  refine call_pc (ok_telemetry_within _ _ _) (by simp [go_sem]) ?_
  try simp (disch := omega) only [go_sem, Int.reduceEq, Int.reduceLT, Int.reduceLE, Int.reduceToNat, Nat.reduceLT, Nat.reduceEqDiff, Nat.reduceAdd, Nat.reduceLeDiff, Nat.reduceSub, Nat.reduceMul, ↓reduceIte, reduceCtorEq, wrap_id, w_ite_ne, w_ite_lt, Nat.sub_zero, Nat.sub_self]
  refine gd_f rfl (fun h2 => ?_) (fun h2 => ?_) <;> try simp (disch := omega) only [go_sem, Int.reduceEq, Int.reduceLT, Int.reduceLE, Int.reduceToNat, Nat.reduceLT, Nat.reduceEqDiff, Nat.reduceAdd, Nat.reduceLeDiff, Nat.reduceSub, Nat.reduceMul, ↓reduceIte, reduceCtorEq, wrap_id, w_ite_ne, w_ite_lt, Nat.sub_zero, Nat.sub_self, ints_length]
  · exact no (by simp at h2; simp [rcOk, h2])
  simp at h1 h2
  refine cond_d (fun h3 => ?_) (fun h3 => ?_) <;> try simp (disch := omega) only [go_sem, Int.reduceEq, Int.reduceLT, Int.reduceLE, Int.reduceToNat, Nat.reduceLT, Nat.reduceEqDiff, Nat.reduceAdd, Nat.reduceLeDiff, Nat.reduceSub, Nat.reduceMul, ↓reduceIte, reduceCtorEq, wrap_id, w_ite_ne, w_ite_lt, Nat.sub_zero, Nat.sub_self, ints_length]
  · exact no (by simp [rcOk]; intros; omega)
  refine awp_upF [2, 3, 5, 25, 26, 27, 28, 29, 30, 31, 32, 33, 34, 35, 36, 37, 38, 39] (by kernel_rfl) r.m.length (fun k e σ => e 25 = .int .i64 k ∧ σ.ob 0 = some ⟨0, 3, 28, false, true, [rcv r]⟩ ∧ e 3 = .int .i64 (if k = 0 then 0 else (r.m[k - 1]?).getD 0) ∧ ascB r.n 0 (r.m.take k) = true) ?_ ?_
  · exact ⟨(by first | ((try simp (maxSteps := 1000000) only [go_sem, Int.reduceEq, Int.reduceLT, Int.reduceLE, Int.reduceToNat, Nat.reduceLT, Nat.reduceEqDiff, Nat.reduceAdd, Nat.reduceLeDiff, Nat.reduceSub, Nat.reduceMul, ↓reduceIte, reduceCtorEq, w_app_nl]); done) | ((try simp (maxSteps := 1000000) only [go_sem, Int.reduceEq, Int.reduceLT, Int.reduceLE, Int.reduceToNat, Nat.reduceLT, Nat.reduceEqDiff, Nat.reduceAdd, Nat.reduceLeDiff, Nat.reduceSub, Nat.reduceMul, ↓reduceIte, reduceCtorEq, w_app_nl]); rfl) | ((try simp (maxSteps := 1000000) (disch := omega) only [go_sem, Int.reduceEq, Int.reduceLT, Int.reduceLE, Int.reduceToNat, Nat.reduceLT, Nat.reduceEqDiff, Nat.reduceAdd, Nat.reduceLeDiff, Nat.reduceSub, Nat.reduceMul, ↓reduceIte, reduceCtorEq, w_app_nl, wrap_id, w_ite_ne, w_ite_lt]); rfl) | (simp (maxSteps := 1000000) (disch := omega) only [go_sem, Int.reduceEq, Int.reduceLT, Int.reduceLE, Int.reduceToNat, Nat.reduceLT, Nat.reduceEqDiff, Nat.reduceAdd, Nat.reduceLeDiff, Nat.reduceSub, Nat.reduceMul, ↓reduceIte, reduceCtorEq, w_app_nl, wrap_id, w_ite_ne, w_ite_lt]; done)), (by first | ((try simp (maxSteps := 1000000) only [go_sem, Int.reduceEq, Int.reduceLT, Int.reduceLE, Int.reduceToNat, Nat.reduceLT, Nat.reduceEqDiff, Nat.reduceAdd, Nat.reduceLeDiff, Nat.reduceSub, Nat.reduceMul, ↓reduceIte, reduceCtorEq, w_app_nl]); done) | ((try simp (maxSteps := 1000000) only [go_sem, Int.reduceEq, Int.reduceLT, Int.reduceLE, Int.reduceToNat, Nat.reduceLT, Nat.reduceEqDiff, Nat.reduceAdd, Nat.reduceLeDiff, Nat.reduceSub, Nat.reduceMul, ↓reduceIte, reduceCtorEq, w_app_nl]); rfl) | ((try simp (maxSteps := 1000000) (disch := omega) only [go_sem, Int.reduceEq, Int.reduceLT, Int.reduceLE, Int.reduceToNat, Nat.reduceLT, Nat.reduceEqDiff, Nat.reduceAdd, Nat.reduceLeDiff, Nat.reduceSub, Nat.reduceMul, ↓reduceIte, reduceCtorEq, w_app_nl, wrap_id, w_ite_ne, w_ite_lt]); rfl) | (simp (maxSteps := 1000000) (disch := omega) only [go_sem, Int.reduceEq, Int.reduceLT, Int.reduceLE, Int.reduceToNat, Nat.reduceLT, Nat.reduceEqDiff, Nat.reduceAdd, Nat.reduceLeDiff, Nat.reduceSub, Nat.reduceMul, ↓reduceIte, reduceCtorEq, w_app_nl, wrap_id, w_ite_ne, w_ite_lt]; done)), (by first | ((try simp (maxSteps := 1000000) only [go_sem, Int.reduceEq, Int.reduceLT, Int.reduceLE, Int.reduceToNat, Nat.reduceLT, Nat.reduceEqDiff, Nat.reduceAdd, Nat.reduceLeDiff, Nat.reduceSub, Nat.reduceMul, ↓reduceIte, reduceCtorEq, w_app_nl]); done) | ((try simp (maxSteps := 1000000) only [go_sem, Int.reduceEq, Int.reduceLT, Int.reduceLE, Int.reduceToNat, Nat.reduceLT, Nat.reduceEqDiff, Nat.reduceAdd, Nat.reduceLeDiff, Nat.reduceSub, Nat.reduceMul, ↓reduceIte, reduceCtorEq, w_app_nl]); rfl) | ((try simp (maxSteps := 1000000) (disch := omega) only [go_sem, Int.reduceEq, Int.reduceLT, Int.reduceLE, Int.reduceToNat, Nat.reduceLT, Nat.reduceEqDiff, Nat.reduceAdd, Nat.reduceLeDiff, Nat.reduceSub, Nat.reduceMul, ↓reduceIte, reduceCtorEq, w_app_nl, wrap_id, w_ite_ne, w_ite_lt]); rfl) | (simp (maxSteps := 1000000) (disch := omega) only [go_sem, Int.reduceEq, Int.reduceLT, Int.reduceLE, Int.reduceToNat, Nat.reduceLT, Nat.reduceEqDiff, Nat.reduceAdd, Nat.reduceLeDiff, Nat.reduceSub, Nat.reduceMul, ↓reduceIte, reduceCtorEq, w_app_nl, wrap_id, w_ite_ne, w_ite_lt]; done)), by simp [ascB]⟩
  · rintro k fe ob c hk ⟨h25, hob, h3', hj⟩
    simp (maxSteps := 1000000) only [go_sem, Int.reduceEq, Int.reduceLT, Int.reduceLE, Int.reduceToNat, Nat.reduceLT, Nat.reduceEqDiff, Nat.reduceAdd, Nat.reduceLeDiff, Nat.reduceSub, Nat.reduceMul, ↓reduceIte, reduceCtorEq, w_app_nl, rcv] at h25 h3' hob
    try simp (disch := omega) only [go_sem, Int.reduceEq, Int.reduceLT, Int.reduceLE, Int.reduceToNat, Nat.reduceLT, Nat.reduceEqDiff, Nat.reduceAdd, Nat.reduceLeDiff, Nat.reduceSub, Nat.reduceMul, ↓reduceIte, reduceCtorEq, wrap_id, w_ite_ne, w_ite_lt, Nat.sub_zero, Nat.sub_self, h25, ints_length]
    refine cond_d (fun hlt => ?_) (fun hge => ?_)
    · have hkl : k < r.m.length := by omega
      have hk2 : r.m[k]? = some r.m[k] := List.getElem?_eq_getElem hkl
      have hst := ascB_step hkl hj
      have hbad : ascB r.n 0 (r.m.take (k + 1)) = false → rcOk r = false := fun h => by
        have : ascB r.n 0 r.m = false := by
          cases h2 : ascB r.n 0 r.m with
          | false => rfl
          | true => rw [ascB_take (k + 1) h2] at h; cases h
        simp [rcOk, this]
      try simp (disch := omega) only [go_sem, Int.reduceEq, Int.reduceLT, Int.reduceLE, Int.reduceToNat, Nat.reduceLT, Nat.reduceEqDiff, Nat.reduceAdd, Nat.reduceLeDiff, Nat.reduceSub, Nat.reduceMul, ↓reduceIte, reduceCtorEq, wrap_id, w_ite_ne, w_ite_lt, Nat.sub_zero, Nat.sub_self, h25, h3', hob, ints_length, ints_get, hk2]
      repeat (refine And.intro (by first | omega | (rw [mxL]; omega) | (simp [maxLen]; done) | (simp [maxLen]; omega)) ?_)
      refine gd_fd rfl (fun g1 => ?_) (fun g1 => ?_) <;> try simp (disch := omega) only [go_sem, Int.reduceEq, Int.reduceLT, Int.reduceLE, Int.reduceToNat, Nat.reduceLT, Nat.reduceEqDiff, Nat.reduceAdd, Nat.reduceLeDiff, Nat.reduceSub, Nat.reduceMul, ↓reduceIte, reduceCtorEq, wrap_id, w_ite_ne, w_ite_lt, Nat.sub_zero, Nat.sub_self, h25, hob]
      · exact no (hbad (by rw [hst]; simp; omega))
      refine cond_d (fun g2 => ?_) (fun g2 => ?_) <;> try simp (disch := omega) only [go_sem, Int.reduceEq, Int.reduceLT, Int.reduceLE, Int.reduceToNat, Nat.reduceLT, Nat.reduceEqDiff, Nat.reduceAdd, Nat.reduceLeDiff, Nat.reduceSub, Nat.reduceMul, ↓reduceIte, reduceCtorEq, wrap_id, w_ite_ne, w_ite_lt, Nat.sub_zero, Nat.sub_self, h25, hob]
      · exact no (hbad (by rw [hst]; simp; omega))
      · refine up_next hkl ⟨(by first | ((try simp (maxSteps := 1000000) only [go_sem, Int.reduceEq, Int.reduceLT, Int.reduceLE, Int.reduceToNat, Nat.reduceLT, Nat.reduceEqDiff, Nat.reduceAdd, Nat.reduceLeDiff, Nat.reduceSub, Nat.reduceMul, ↓reduceIte, reduceCtorEq, w_app_nl]); done) | ((try simp (maxSteps := 1000000) only [go_sem, Int.reduceEq, Int.reduceLT, Int.reduceLE, Int.reduceToNat, Nat.reduceLT, Nat.reduceEqDiff, Nat.reduceAdd, Nat.reduceLeDiff, Nat.reduceSub, Nat.reduceMul, ↓reduceIte, reduceCtorEq, w_app_nl]); rfl) | ((try simp (maxSteps := 1000000) (disch := omega) only [go_sem, Int.reduceEq, Int.reduceLT, Int.reduceLE, Int.reduceToNat, Nat.reduceLT, Nat.reduceEqDiff, Nat.reduceAdd, Nat.reduceLeDiff, Nat.reduceSub, Nat.reduceMul, ↓reduceIte, reduceCtorEq, w_app_nl, wrap_id, w_ite_ne, w_ite_lt]); rfl) | (simp (maxSteps := 1000000) (disch := omega) only [go_sem, Int.reduceEq, Int.reduceLT, Int.reduceLE, Int.reduceToNat, Nat.reduceLT, Nat.reduceEqDiff, Nat.reduceAdd, Nat.reduceLeDiff, Nat.reduceSub, Nat.reduceMul, ↓reduceIte, reduceCtorEq, w_app_nl, wrap_id, w_ite_ne, w_ite_lt]; done)), by try simp (disch := omega) only [go_sem, Int.reduceEq, Int.reduceLT, Int.reduceLE, Int.reduceToNat, Nat.reduceLT, Nat.reduceEqDiff, Nat.reduceAdd, Nat.reduceLeDiff, Nat.reduceSub, Nat.reduceMul, ↓reduceIte, reduceCtorEq, wrap_id, w_ite_ne, w_ite_lt, Nat.sub_zero, Nat.sub_self]; exact hob, ?_, by rw [hst]; simp; omega⟩
        try simp (disch := omega) only [go_sem, Int.reduceEq, Int.reduceLT, Int.reduceLE, Int.reduceToNat, Nat.reduceLT, Nat.reduceEqDiff, Nat.reduceAdd, Nat.reduceLeDiff, Nat.reduceSub, Nat.reduceMul, ↓reduceIte, reduceCtorEq, wrap_id, w_ite_ne, w_ite_lt, Nat.sub_zero, Nat.sub_self]
        rw [Nat.add_sub_cancel, hk2]; rfl
    · try simp (disch := omega) only [go_sem, Int.reduceEq, Int.reduceLT, Int.reduceLE, Int.reduceToNat, Nat.reduceLT, Nat.reduceEqDiff, Nat.reduceAdd, Nat.reduceLeDiff, Nat.reduceSub, Nat.reduceMul, ↓reduceIte, reduceCtorEq, wrap_id, w_ite_ne, w_ite_lt, Nat.sub_zero, Nat.sub_self]
      have : k = r.m.length := by omega
      subst this
      rw [List.take_length] at hj
      exact Pub.of_eq (by simp [rcE, rcOk, hj, h1, h2]; omega) rfl
theorem ok_ref28_Check (r : Rc) (hl : r.m.length ≤ 9223372036854775807) : PC prog n_ref28_Check [rcv r] (.int .i64 (rcE r)) := by
  refine PC_of_body b_ref28_Check (by simp) ?_
  simp only [c_ref28_Check, go_sem, Int.reduceEq, Int.reduceLT, Int.reduceLE, Int.reduceToNat, Nat.reduceLT, Nat.reduceEqDiff, Nat.reduceAdd, Nat.reduceLeDiff, Nat.reduceSub, Nat.reduceMul, ↓reduceIte, reduceCtorEq, w_app_nl, rcv]
  have no : ∀ {σ : St}, rcOk r = false → Pub σ (.int .i64 50) (.int .i64 (rcE r)) := fun h => Pub.of_eq (by simp [rcE, h]) rfl
  refine call_pc (ok_ref28_in _ _ _) (by simp [go_sem]) ?_
  try simp (disch := omega) only [go_sem, Int.reduceEq, Int.reduceLT, Int.reduceLE, Int.reduceToNat, Nat.reduceLT, Nat.reduceEqDiff, Nat.reduceAdd, Nat.reduceLeDiff, Nat.reduceSub, Nat.reduceMul, ↓reduceIte, reduceCtorEq, wrap_id, w_ite_ne, w_ite_lt, Nat.sub_zero, Nat.sub_self]
  refine gd_f rfl (fun h1 => ?_) (fun h1 => ?_) <;> try simp (disch := omega) only [go_sem, Int.reduceEq, Int.reduceLT, Int.reduceLE, Int.reduceToNat, Nat.reduceLT, Nat.reduceEqDiff, Nat.reduceAdd, Nat.reduceLeDiff, Nat.reduceSub, Nat.reduceMul, ↓reduceIte, reduceCtorEq, wrap_id, w_ite_ne, w_ite_lt, Nat.sub_zero, Nat.sub_self]
  · exact no (by simp at h1; simp [rcOk, h1])
  refine call_pc (ok_ref28_in _ _ _) (by simp [go_sem]) ?_
  try simp (disch := omega) only [go_sem, Int.reduceEq, Int.reduceLT, Int.reduceLE, Int.reduceToNat, Nat.reduceLT, Nat.reduceEqDiff, Nat.reduceAdd, Nat.reduceLeDiff, Nat.reduceSub, Nat.reduceMul, ↓reduceIte, reduceCtorEq, wrap_id, w_ite_ne, w_ite_lt, Nat.sub_zero, Nat.sub_self]
  refine gd_f rfl (fun h2 => ?_) (fun h2 => ?_) <;> try simp (disch := omega) only [go_sem, Int.reduceEq, Int.reduceLT, Int.reduceLE, Int.reduceToNat, Nat.reduceLT, Nat.reduceEqDiff, Nat.reduceAdd, Nat.reduceLeDiff, Nat.reduceSub, Nat.reduceMul, ↓reduceIte, reduceCtorEq, wrap_id, w_ite_ne, w_ite_lt, Nat.sub_zero, Nat.sub_self, ints_length]
  · exact no (by simp at h2; simp [rcOk, h2])
  simp at h1 h2
  have hn : 1 ≤ r.n ∧ r.n ≤ 1073741825 := by simpa [inB] using h2
  refine cond_d (fun h3 => ?_) (fun h3 => ?_) <;> try simp (disch := omega) only [go_sem, Int.reduceEq, Int.reduceLT, Int.reduceLE, Int.reduceToNat, Nat.reduceLT, Nat.reduceEqDiff, Nat.reduceAdd, Nat.reduceLeDiff, Nat.reduceSub, Nat.reduceMul, ↓reduceIte, reduceCtorEq, wrap_id, w_ite_ne, w_ite_lt, Nat.sub_zero, Nat.sub_self, ints_length]
  · exact no (by simp [rcOk]; intros; omega)
  refine awp_upF [2, 3, 4, 24, 25, 26, 27, 28, 29, 30, 31, 32, 33, 34, 35, 36, 37, 38, 39, 40, 41, 42, 43, 44, 45, 46, 47, 48, 49] (by kernel_rfl) r.m.length (fun k e σ => e 24 = .int .i64 k ∧ σ.ob 0 = some ⟨0, 3, 28, false, true, [rcv r]⟩ ∧ ascB r.n 0 (r.m.take k) = true) ?_ ?_
  · exact ⟨(by first | ((try simp (maxSteps := 1000000) only [go_sem, Int.reduceEq, Int.reduceLT, Int.reduceLE, Int.reduceToNat, Nat.reduceLT, Nat.reduceEqDiff, Nat.reduceAdd, Nat.reduceLeDiff, Nat.reduceSub, Nat.reduceMul, ↓reduceIte, reduceCtorEq, w_app_nl]); done) | ((try simp (maxSteps := 1000000) only [go_sem, Int.reduceEq, Int.reduceLT, Int.reduceLE, Int.reduceToNat, Nat.reduceLT, Nat.reduceEqDiff, Nat.reduceAdd, Nat.reduceLeDiff, Nat.reduceSub, Nat.reduceMul, ↓reduceIte, reduceCtorEq, w_app_nl]); rfl) | ((try simp (maxSteps := 1000000) (disch := omega) only [go_sem, Int.reduceEq, Int.reduceLT, Int.reduceLE, Int.reduceToNat, Nat.reduceLT, Nat.reduceEqDiff, Nat.reduceAdd, Nat.reduceLeDiff, Nat.reduceSub, Nat.reduceMul, ↓reduceIte, reduceCtorEq, w_app_nl, wrap_id, w_ite_ne, w_ite_lt]); rfl) | (simp (maxSteps := 1000000) (disch := omega) only [go_sem, Int.reduceEq, Int.reduceLT, Int.reduceLE, Int.reduceToNat, Nat.reduceLT, Nat.reduceEqDiff, Nat.reduceAdd, Nat.reduceLeDiff, Nat.reduceSub, Nat.reduceMul, ↓reduceIte, reduceCtorEq, w_app_nl, wrap_id, w_ite_ne, w_ite_lt]; done)), (by first | ((try simp (maxSteps := 1000000) only [go_sem, Int.reduceEq, Int.reduceLT, Int.reduceLE, Int.reduceToNat, Nat.reduceLT, Nat.reduceEqDiff, Nat.reduceAdd, Nat.reduceLeDiff, Nat.reduceSub, Nat.reduceMul, ↓reduceIte, reduceCtorEq, w_app_nl]); done) | ((try simp (maxSteps := 1000000) only [go_sem, Int.reduceEq, Int.reduceLT, Int.reduceLE, Int.reduceToNat, Nat.reduceLT, Nat.reduceEqDiff, Nat.reduceAdd, Nat.reduceLeDiff, Nat.reduceSub, Nat.reduceMul, ↓reduceIte, reduceCtorEq, w_app_nl]); rfl) | ((try simp (maxSteps := 1000000) (disch := omega) only [go_sem, Int.reduceEq, Int.reduceLT, Int.reduceLE, Int.reduceToNat, Nat.reduceLT, Nat.reduceEqDiff, Nat.reduceAdd, Nat.reduceLeDiff, Nat.reduceSub, Nat.reduceMul, ↓reduceIte, reduceCtorEq, w_app_nl, wrap_id, w_ite_ne, w_ite_lt]); rfl) | (simp (maxSteps := 1000000) (disch := omega) only [go_sem, Int.reduceEq, Int.reduceLT, Int.reduceLE, Int.reduceToNat, Nat.reduceLT, Nat.reduceEqDiff, Nat.reduceAdd, Nat.reduceLeDiff, Nat.reduceSub, Nat.reduceMul, ↓reduceIte, reduceCtorEq, w_app_nl, wrap_id, w_ite_ne, w_ite_lt]; done)), by simp [ascB]⟩
  · rintro k fe ob c hk ⟨h24, hob, hj⟩
    simp (maxSteps := 1000000) only [go_sem, Int.reduceEq, Int.reduceLT, Int.reduceLE, Int.reduceToNat, Nat.reduceLT, Nat.reduceEqDiff, Nat.reduceAdd, Nat.reduceLeDiff, Nat.reduceSub, Nat.reduceMul, ↓reduceIte, reduceCtorEq, w_app_nl, rcv] at h24 hob
    try simp (disch := omega) only [go_sem, Int.reduceEq, Int.reduceLT, Int.reduceLE, Int.reduceToNat, Nat.reduceLT, Nat.reduceEqDiff, Nat.reduceAdd, Nat.reduceLeDiff, Nat.reduceSub, Nat.reduceMul, ↓reduceIte, reduceCtorEq, wrap_id, w_ite_ne, w_ite_lt, Nat.sub_zero, Nat.sub_self, h24, ints_length]
    refine cond_d (fun hlt => ?_) (fun hge => ?_)
    · have hkl : k < r.m.length := by omega
      have hk2 : r.m[k]? = some r.m[k] := List.getElem?_eq_getElem hkl
      have hst := ascB_step hkl hj
      have hbad : ascB r.n 0 (r.m.take (k + 1)) = false → rcOk r = false := fun h => by
        have : ascB r.n 0 r.m = false := by
          cases h2 : ascB r.n 0 r.m with
          | false => rfl
          | true => rw [ascB_take (k + 1) h2] at h; cases h
        simp [rcOk, this]
      have hlow : ∀ y, y ∈ r.m.take k → 0 < y := fun y hy => (ascB_lt hj y hy).1
      try simp (disch := omega) only [go_sem, Int.reduceEq, Int.reduceLT, Int.reduceLE, Int.reduceToNat, Nat.reduceLT, Nat.reduceEqDiff, Nat.reduceAdd, Nat.reduceLeDiff, Nat.reduceSub, Nat.reduceMul, ↓reduceIte, reduceCtorEq, wrap_id, w_ite_ne, w_ite_lt, Nat.sub_zero, Nat.sub_self, h24, hob, ints_length, ints_get, hk2]
      repeat (refine And.intro (by first | omega | (rw [mxL]; omega) | (simp [maxLen]; done) | (simp [maxLen]; omega)) ?_)
      refine call_pc (ok_ref28_in _ _ _) (by simp [go_sem]) ?_
      try simp (disch := omega) only [go_sem, Int.reduceEq, Int.reduceLT, Int.reduceLE, Int.reduceToNat, Nat.reduceLT, Nat.reduceEqDiff, Nat.reduceAdd, Nat.reduceLeDiff, Nat.reduceSub, Nat.reduceMul, ↓reduceIte, reduceCtorEq, wrap_id, w_ite_ne, w_ite_lt, Nat.sub_zero, Nat.sub_self, h24, hob]
      refine gd_f rfl (fun g1 => ?_) (fun g1 => ?_) <;> try simp (disch := omega) only [go_sem, Int.reduceEq, Int.reduceLT, Int.reduceLE, Int.reduceToNat, Nat.reduceLT, Nat.reduceEqDiff, Nat.reduceAdd, Nat.reduceLeDiff, Nat.reduceSub, Nat.reduceMul, ↓reduceIte, reduceCtorEq, wrap_id, w_ite_ne, w_ite_lt, Nat.sub_zero, Nat.sub_self, h24, hob]
      · refine no (hbad ?_)
        rw [hst]
        simp [inB] at g1 ⊢
        intro h
        by_cases e : k = 0
        · rw [if_pos e] at h; omega
        · rw [if_neg e] at h
          have : 0 < (r.m[k - 1]?).getD 0 := by
            have hk1 : k - 1 < r.m.length := by omega
            rw [List.getElem?_eq_getElem hk1, Option.getD_some]
            refine hlow _ ?_
            have : (r.m.take k)[k - 1]? = some r.m[k - 1] := by rw [List.getElem?_take, if_pos (by omega), List.getElem?_eq_getElem hk1]
            exact List.mem_of_getElem? this
          omega
      simp [inB] at g1
      refine gd_td rfl (fun g2 => ?_) (fun g2 => ?_) <;> try simp (disch := omega) only [go_sem, Int.reduceEq, Int.reduceLT, Int.reduceLE, Int.reduceToNat, Nat.reduceLT, Nat.reduceEqDiff, Nat.reduceAdd, Nat.reduceLeDiff, Nat.reduceSub, Nat.reduceMul, ↓reduceIte, reduceCtorEq, wrap_id, w_ite_ne, w_ite_lt, Nat.sub_zero, Nat.sub_self, h24, hob]
      · have hk1 : r.m[k - 1]? = some r.m[k - 1] := List.getElem?_eq_getElem (by omega)
        have e1 : ((k : Int) - 1).toNat = k - 1 := by omega
        try simp (disch := omega) only [go_sem, Int.reduceEq, Int.reduceLT, Int.reduceLE, Int.reduceToNat, Nat.reduceLT, Nat.reduceEqDiff, Nat.reduceAdd, Nat.reduceLeDiff, Nat.reduceSub, Nat.reduceMul, ↓reduceIte, reduceCtorEq, wrap_id, w_ite_ne, w_ite_lt, Nat.sub_zero, Nat.sub_self, h24, hob, ints_length, ints_get, e1, hk1]
        repeat (refine And.intro (by first | omega | (rw [mxL]; omega) | (simp [maxLen]; done) | (simp [maxLen]; omega)) ?_)
        have e2 : (r.m[k - 1]?).getD 0 = r.m[k - 1] := by rw [hk1]; rfl
        rw [if_neg (by omega), e2] at hst
        refine cond_d (fun g3 => ?_) (fun g3 => ?_) <;> try simp (disch := omega) only [go_sem, Int.reduceEq, Int.reduceLT, Int.reduceLE, Int.reduceToNat, Nat.reduceLT, Nat.reduceEqDiff, Nat.reduceAdd, Nat.reduceLeDiff, Nat.reduceSub, Nat.reduceMul, ↓reduceIte, reduceCtorEq, wrap_id, w_ite_ne, w_ite_lt, Nat.sub_zero, Nat.sub_self, h24, hob]
        · exact no (hbad (by rw [hst]; simp; omega))
        · exact up_next hkl ⟨(by first | ((try simp (maxSteps := 1000000) only [go_sem, Int.reduceEq, Int.reduceLT, Int.reduceLE, Int.reduceToNat, Nat.reduceLT, Nat.reduceEqDiff, Nat.reduceAdd, Nat.reduceLeDiff, Nat.reduceSub, Nat.reduceMul, ↓reduceIte, reduceCtorEq, w_app_nl]); done) | ((try simp (maxSteps := 1000000) only [go_sem, Int.reduceEq, Int.reduceLT, Int.reduceLE, Int.reduceToNat, Nat.reduceLT, Nat.reduceEqDiff, Nat.reduceAdd, Nat.reduceLeDiff, Nat.reduceSub, Nat.reduceMul, ↓reduceIte, reduceCtorEq, w_app_nl]); rfl) | ((try simp (maxSteps := 1000000) (disch := omega) only [go_sem, Int.reduceEq, Int.reduceLT, Int.reduceLE, Int.reduceToNat, Nat.reduceLT, Nat.reduceEqDiff, Nat.reduceAdd, Nat.reduceLeDiff, Nat.reduceSub, Nat.reduceMul, ↓reduceIte, reduceCtorEq, w_app_nl, wrap_id, w_ite_ne, w_ite_lt]); rfl) | (simp (maxSteps := 1000000) (disch := omega) only [go_sem, Int.reduceEq, Int.reduceLT, Int.reduceLE, Int.reduceToNat, Nat.reduceLT, Nat.reduceEqDiff, Nat.reduceAdd, Nat.reduceLeDiff, Nat.reduceSub, Nat.reduceMul, ↓reduceIte, reduceCtorEq, w_app_nl, wrap_id, w_ite_ne, w_ite_lt]; done)), by try simp (disch := omega) only [go_sem, Int.reduceEq, Int.reduceLT, Int.reduceLE, Int.reduceToNat, Nat.reduceLT, Nat.reduceEqDiff, Nat.reduceAdd, Nat.reduceLeDiff, Nat.reduceSub, Nat.reduceMul, ↓reduceIte, reduceCtorEq, wrap_id, w_ite_ne, w_ite_lt, Nat.sub_zero, Nat.sub_self]; exact hob, by rw [hst]; simp; omega⟩
      · rw [if_pos (by omega)] at hst
        exact up_next hkl ⟨(by first | ((try simp (maxSteps := 1000000) only [go_sem, Int.reduceEq, Int.reduceLT, Int.reduceLE, Int.reduceToNat, Nat.reduceLT, Nat.reduceEqDiff, Nat.reduceAdd, Nat.reduceLeDiff, Nat.reduceSub, Nat.reduceMul, ↓reduceIte, reduceCtorEq, w_app_nl]); done) | ((try simp (maxSteps := 1000000) only [go_sem, Int.reduceEq, Int.reduceLT, Int.reduceLE, Int.reduceToNat, Nat.reduceLT, Nat.reduceEqDiff, Nat.reduceAdd, Nat.reduceLeDiff, Nat.reduceSub, Nat.reduceMul, ↓reduceIte, reduceCtorEq, w_app_nl]); rfl) | ((try simp (maxSteps := 1000000) (disch := omega) only [go_sem, Int.reduceEq, Int.reduceLT, Int.reduceLE, Int.reduceToNat, Nat.reduceLT, Nat.reduceEqDiff, Nat.reduceAdd, Nat.reduceLeDiff, Nat.reduceSub, Nat.reduceMul, ↓reduceIte, reduceCtorEq, w_app_nl, wrap_id, w_ite_ne, w_ite_lt]); rfl) | (simp (maxSteps := 1000000) (disch := omega) only [go_sem, Int.reduceEq, Int.reduceLT, Int.reduceLE, Int.reduceToNat, Nat.reduceLT, Nat.reduceEqDiff, Nat.reduceAdd, Nat.reduceLeDiff, Nat.reduceSub, Nat.reduceMul, ↓reduceIte, reduceCtorEq, w_app_nl, wrap_id, w_ite_ne, w_ite_lt]; done)), by try simp (disch := omega) only [go_sem, Int.reduceEq, Int.reduceLT, Int.reduceLE, Int.reduceToNat, Nat.reduceLT, Nat.reduceEqDiff, Nat.reduceAdd, Nat.reduceLeDiff, Nat.reduceSub, Nat.reduceMul, ↓reduceIte, reduceCtorEq, wrap_id, w_ite_ne, w_ite_lt, Nat.sub_zero, Nat.sub_self]; exact hob, by rw [hst]; simp; omega⟩
    · try simp (disch := omega) only [go_sem, Int.reduceEq, Int.reduceLT, Int.reduceLE, Int.reduceToNat, Nat.reduceLT, Nat.reduceEqDiff, Nat.reduceAdd, Nat.reduceLeDiff, Nat.reduceSub, Nat.reduceMul, ↓reduceIte, reduceCtorEq, wrap_id, w_ite_ne, w_ite_lt, Nat.sub_zero, Nat.sub_self]
      have : k = r.m.length := by omega
      subst this
      rw [List.take_length] at hj
      exact Pub.of_eq (by simp [rcE, rcOk, hj, h1, h2]; omega) rfl
def askR (r : Rc) (most : Int) : List Int × Int := if rcOk r then (if most < 0 then ([], 1) else (r.m.take most.toNat, 0)) else ([], 50)
def giveR (r : Rc) (k : Int) : Rc × Int := if rcOk r then (⟨r.s, r.n, r.m.filter fun x => decide (k ≤ x)⟩, 0) else (⟨0, 0, []⟩, 50)
theorem drop_bs (l : List Int) (k : Int) (hs : Asc l) : l.drop (bsI l k) = l.filter fun x => decide (k ≤ x) := by
  have h1 : ∀ i : Nat, i < bsI l k → ∀ y, l[i]? = some y → y < k := fun i hi y hy => by
    have := List.not_of_lt_findIdx hi
    rw [List.getElem?_eq_some_iff] at hy
    obtain ⟨_, rfl⟩ := hy
    simpa using this
  have h2 : ∀ i : Nat, bsI l k ≤ i → ∀ y, l[i]? = some y → k ≤ y := fun i hi y hy => by
    have hlt : bsI l k < l.length := by have := (List.getElem?_eq_some_iff.1 hy).1; omega
    have h3 : k ≤ l[bsI l k] := of_decide_eq_true (List.findIdx_getElem (p := fun y => decide (k ≤ y)) (w := hlt))
    by_cases e : i = bsI l k
    · subst e; rw [List.getElem?_eq_getElem hlt] at hy; obtain rfl := Option.some.inj hy; exact h3
    · have := hs (bsI l k) i (by omega) _ y (List.getElem?_eq_getElem hlt) hy; omega
  have h3 : l.filter (fun x => decide (k ≤ x)) = (l.take (bsI l k)).filter (fun x => decide (k ≤ x)) ++ (l.drop (bsI l k)).filter (fun x => decide (k ≤ x)) := by rw [← List.filter_append, List.take_append_drop]
  rw [h3, List.filter_eq_nil_iff.2, List.nil_append, List.filter_eq_self.2]
  · intro x hx
    obtain ⟨i, hi⟩ := List.getElem?_of_mem hx
    rw [List.getElem?_drop] at hi
    simpa using h2 _ (by omega) x hi
  · intro x hx
    obtain ⟨i, hi⟩ := List.getElem?_of_mem hx
    have hlt := (List.getElem?_eq_some_iff.1 hi).1
    simp at hlt
    rw [List.getElem?_take, if_pos (by omega)] at hi
    have := h1 i (by omega) x hi
    simp; omega
theorem rcOk_parts {r : Rc} (h : rcOk r = true) : 0 ≤ r.s ∧ r.s ≤ 255 ∧ 1 ≤ r.n ∧ r.n ≤ 1073741825 ∧ r.m.length ≤ 256 ∧ ascB r.n 0 r.m = true := by
  simp only [rcOk, inB, Bool.and_eq_true, decide_eq_true_eq] at h
  obtain ⟨⟨⟨⟨a, b⟩, c, d⟩, e⟩, f⟩ := h
  exact ⟨a, b, c, d, e, f⟩
theorem ints_take (l : List Int) (k : Nat) : (ints l).take k = ints (l.take k) := by simp [ints]
theorem ints_drop (l : List Int) (k : Nat) : (ints l).drop k = ints (l.drop k) := by simp [ints]
theorem ok_telemetry_Ask (r : Rc) (most : Int) (hl : r.m.length ≤ 1000000) : PC prog n_telemetry_Ask [rcv r, .int .i64 most] (.tuple [.list 1 (ints (askR r most).1), .int .i64 (askR r most).2]) := by
  refine PC_of_body b_telemetry_Ask (by simp) ?_
  simp only [c_telemetry_Ask, go_sem, Int.reduceEq, Int.reduceLT, Int.reduceLE, Int.reduceToNat, Nat.reduceLT, Nat.reduceEqDiff, Nat.reduceAdd, Nat.reduceLeDiff, Nat.reduceSub, Nat.reduceMul, ↓reduceIte, reduceCtorEq, w_app_nl, rcv]
  refine call_pc (ok_telemetry_Check r (by omega)) (by simp [go_sem, rcv]) ?_
  try simp (disch := omega) only [go_sem, Int.reduceEq, Int.reduceLT, Int.reduceLE, Int.reduceToNat, Nat.reduceLT, Nat.reduceEqDiff, Nat.reduceAdd, Nat.reduceLeDiff, Nat.reduceSub, Nat.reduceMul, ↓reduceIte, reduceCtorEq, wrap_id, w_ite_ne, w_ite_lt, Nat.sub_zero, Nat.sub_self]
  by_cases hok : rcOk r = true
  · have he : rcE r = 0 := by simp [rcE, hok]
    try simp (disch := omega) only [go_sem, Int.reduceEq, Int.reduceLT, Int.reduceLE, Int.reduceToNat, Nat.reduceLT, Nat.reduceEqDiff, Nat.reduceAdd, Nat.reduceLeDiff, Nat.reduceSub, Nat.reduceMul, ↓reduceIte, reduceCtorEq, wrap_id, w_ite_ne, w_ite_lt, Nat.sub_zero, Nat.sub_self, he]
    refine cond_d (fun h => ?_) (fun h => ?_) <;> try simp (disch := omega) only [go_sem, Int.reduceEq, Int.reduceLT, Int.reduceLE, Int.reduceToNat, Nat.reduceLT, Nat.reduceEqDiff, Nat.reduceAdd, Nat.reduceLeDiff, Nat.reduceSub, Nat.reduceMul, ↓reduceIte, reduceCtorEq, wrap_id, w_ite_ne, w_ite_lt, Nat.sub_zero, Nat.sub_self, ints_length]
    · refine Pub.pair ?_ (Pub.of_eq (by simp [askR, hok, h]) rfl)
      rw [show askR r most = ([], 1) by simp [askR, hok, h]]; exact .nl 1
    · repeat (refine And.intro (by first | omega | (rw [mxL]; omega) | (simp [maxLen]; done) | (simp [maxLen]; omega)) ?_)
      rw [ints_take]
      refine call_pc (okl_slices_Clone__int _ (by rw [ints_length, List.length_take]; omega) (ints_pur _) (ints_ok _)) (by simp [go_sem]) ?_
      try simp (disch := omega) only [go_sem, Int.reduceEq, Int.reduceLT, Int.reduceLE, Int.reduceToNat, Nat.reduceLT, Nat.reduceEqDiff, Nat.reduceAdd, Nat.reduceLeDiff, Nat.reduceSub, Nat.reduceMul, ↓reduceIte, reduceCtorEq, wrap_id, w_ite_ne, w_ite_lt, Nat.sub_zero, Nat.sub_self]
      refine Pub.pair (Pub.of_eq ?_ rfl) (Pub.of_eq (by simp [askR, hok, h]) rfl)
      rw [show askR r most = (r.m.take most.toNat, 0) by simp [askR, hok, h]]
      congr 2
      rcases Int.le_total most r.m.length with h2 | h2
      · rw [Int.min_eq_left h2]
      · rw [Int.min_eq_right h2, List.take_of_length_le (by omega), List.take_of_length_le (by omega)]
  · have hok : rcOk r = false := by simpa using hok
    have he : rcE r = 50 := by simp [rcE, hok]
    try simp (disch := omega) only [go_sem, Int.reduceEq, Int.reduceLT, Int.reduceLE, Int.reduceToNat, Nat.reduceLT, Nat.reduceEqDiff, Nat.reduceAdd, Nat.reduceLeDiff, Nat.reduceSub, Nat.reduceMul, ↓reduceIte, reduceCtorEq, wrap_id, w_ite_ne, w_ite_lt, Nat.sub_zero, Nat.sub_self, he]
    have : askR r most = ([], 50) := by simp [askR, hok]
    rw [this]
    exact Pub.pair (.nl 1) (Pub.of_eq rfl rfl)
theorem ok_ref28_Ask (r : Rc) (most : Int) (hl : r.m.length ≤ 1000000) : PC prog n_ref28_Ask [rcv r, .int .i64 most] (.tuple [.list 1 (ints (askR r most).1), .int .i64 (askR r most).2]) := by
  refine PC_of_body b_ref28_Ask (by simp) ?_
  simp only [c_ref28_Ask, go_sem, Int.reduceEq, Int.reduceLT, Int.reduceLE, Int.reduceToNat, Nat.reduceLT, Nat.reduceEqDiff, Nat.reduceAdd, Nat.reduceLeDiff, Nat.reduceSub, Nat.reduceMul, ↓reduceIte, reduceCtorEq, w_app_nl, rcv]
  refine call_pc (ok_ref28_Check r (by omega)) (by simp [go_sem, rcv]) ?_
  try simp (disch := omega) only [go_sem, Int.reduceEq, Int.reduceLT, Int.reduceLE, Int.reduceToNat, Nat.reduceLT, Nat.reduceEqDiff, Nat.reduceAdd, Nat.reduceLeDiff, Nat.reduceSub, Nat.reduceMul, ↓reduceIte, reduceCtorEq, wrap_id, w_ite_ne, w_ite_lt, Nat.sub_zero, Nat.sub_self]
  by_cases hok : rcOk r = true
  · have he : rcE r = 0 := by simp [rcE, hok]
    try simp (disch := omega) only [go_sem, Int.reduceEq, Int.reduceLT, Int.reduceLE, Int.reduceToNat, Nat.reduceLT, Nat.reduceEqDiff, Nat.reduceAdd, Nat.reduceLeDiff, Nat.reduceSub, Nat.reduceMul, ↓reduceIte, reduceCtorEq, wrap_id, w_ite_ne, w_ite_lt, Nat.sub_zero, Nat.sub_self, he]
    refine cond_d (fun h => ?_) (fun h => ?_) <;> try simp (disch := omega) only [go_sem, Int.reduceEq, Int.reduceLT, Int.reduceLE, Int.reduceToNat, Nat.reduceLT, Nat.reduceEqDiff, Nat.reduceAdd, Nat.reduceLeDiff, Nat.reduceSub, Nat.reduceMul, ↓reduceIte, reduceCtorEq, wrap_id, w_ite_ne, w_ite_lt, Nat.sub_zero, Nat.sub_self, ints_length]
    · refine Pub.pair ?_ (Pub.of_eq (by simp [askR, hok, h]) rfl)
      rw [show askR r most = ([], 1) by simp [askR, hok, h]]; exact .nl 1
    · have hmt : r.m.take (min most r.m.length).toNat = r.m.take most.toNat := by
        rcases Int.le_total most r.m.length with h2 | h2
        · rw [Int.min_eq_left h2]
        · rw [Int.min_eq_right h2, List.take_of_length_le (by omega), List.take_of_length_le (by omega)]
      have hmt2 : (r.m.take most.toNat).length ≤ 1000000 := by rw [List.length_take]; omega
      have hres : askR r most = (r.m.take most.toNat, 0) := by simp [askR, hok, h]
      rw [hres]
      try simp (disch := omega) only [go_sem, Int.reduceEq, Int.reduceLT, Int.reduceLE, Int.reduceToNat, Nat.reduceLT, Nat.reduceEqDiff, Nat.reduceAdd, Nat.reduceLeDiff, Nat.reduceSub, Nat.reduceMul, ↓reduceIte, reduceCtorEq, wrap_id, w_ite_ne, w_ite_lt, Nat.sub_zero, Nat.sub_self, w_app_nl, ints_take, hmt, ints_length]
      repeat (refine And.intro (by first | omega | (rw [mxL]; omega) | (simp [maxLen]; done) | (simp [maxLen]; omega)) ?_)
      refine ⟨fun hn => ?_, fun hn => ?_⟩
      · try simp (disch := omega) only [go_sem, Int.reduceEq, Int.reduceLT, Int.reduceLE, Int.reduceToNat, Nat.reduceLT, Nat.reduceEqDiff, Nat.reduceAdd, Nat.reduceLeDiff, Nat.reduceSub, Nat.reduceMul, ↓reduceIte, reduceCtorEq, wrap_id, w_ite_ne, w_ite_lt, Nat.sub_zero, Nat.sub_self]
        refine Pub.pair ?_ (Pub.of_eq rfl rfl)
        rw [hn]; exact .nl 1
      · try simp (disch := omega) only [go_sem, Int.reduceEq, Int.reduceLT, Int.reduceLE, Int.reduceToNat, Nat.reduceLT, Nat.reduceEqDiff, Nat.reduceAdd, Nat.reduceLeDiff, Nat.reduceSub, Nat.reduceMul, ↓reduceIte, reduceCtorEq, wrap_id, w_ite_ne, w_ite_lt, Nat.sub_zero, Nat.sub_self]
        refine Pub.pair (Pub.of_sl (by first | ((try simp (maxSteps := 1000000) only [go_sem, Int.reduceEq, Int.reduceLT, Int.reduceLE, Int.reduceToNat, Nat.reduceLT, Nat.reduceEqDiff, Nat.reduceAdd, Nat.reduceLeDiff, Nat.reduceSub, Nat.reduceMul, ↓reduceIte, reduceCtorEq, w_app_nl]); done) | ((try simp (maxSteps := 1000000) only [go_sem, Int.reduceEq, Int.reduceLT, Int.reduceLE, Int.reduceToNat, Nat.reduceLT, Nat.reduceEqDiff, Nat.reduceAdd, Nat.reduceLeDiff, Nat.reduceSub, Nat.reduceMul, ↓reduceIte, reduceCtorEq, w_app_nl]); rfl) | ((try simp (maxSteps := 1000000) (disch := omega) only [go_sem, Int.reduceEq, Int.reduceLT, Int.reduceLE, Int.reduceToNat, Nat.reduceLT, Nat.reduceEqDiff, Nat.reduceAdd, Nat.reduceLeDiff, Nat.reduceSub, Nat.reduceMul, ↓reduceIte, reduceCtorEq, w_app_nl, wrap_id, w_ite_ne, w_ite_lt]); rfl) | (simp (maxSteps := 1000000) (disch := omega) only [go_sem, Int.reduceEq, Int.reduceLT, Int.reduceLE, Int.reduceToNat, Nat.reduceLT, Nat.reduceEqDiff, Nat.reduceAdd, Nat.reduceLeDiff, Nat.reduceSub, Nat.reduceMul, ↓reduceIte, reduceCtorEq, w_app_nl, wrap_id, w_ite_ne, w_ite_lt]; done)) (by simp [ints_length]) (ints_pur _) (ints_ok _)) (Pub.of_eq rfl rfl)
  · have hok : rcOk r = false := by simpa using hok
    have he : rcE r = 50 := by simp [rcE, hok]
    try simp (disch := omega) only [go_sem, Int.reduceEq, Int.reduceLT, Int.reduceLE, Int.reduceToNat, Nat.reduceLT, Nat.reduceEqDiff, Nat.reduceAdd, Nat.reduceLeDiff, Nat.reduceSub, Nat.reduceMul, ↓reduceIte, reduceCtorEq, wrap_id, w_ite_ne, w_ite_lt, Nat.sub_zero, Nat.sub_self, he]
    have : askR r most = ([], 50) := by simp [askR, hok]
    rw [this]
    exact Pub.pair (.nl 1) (Pub.of_eq rfl rfl)
theorem ok_telemetry_GiveUp (r : Rc) (k : Int) (hl : r.m.length ≤ 1000000) : PC prog n_telemetry_GiveUp [rcv r, .int .i64 k] (.tuple [rcv (giveR r k).1, .int .i64 (giveR r k).2]) := by
  refine PC_of_body b_telemetry_GiveUp (by simp) ?_
  simp only [c_telemetry_GiveUp, go_sem, Int.reduceEq, Int.reduceLT, Int.reduceLE, Int.reduceToNat, Nat.reduceLT, Nat.reduceEqDiff, Nat.reduceAdd, Nat.reduceLeDiff, Nat.reduceSub, Nat.reduceMul, ↓reduceIte, reduceCtorEq, w_app_nl, rcv]
  refine call_pc (ok_telemetry_Check r (by omega)) (by simp [go_sem, rcv]) ?_
  try simp (disch := omega) only [go_sem, Int.reduceEq, Int.reduceLT, Int.reduceLE, Int.reduceToNat, Nat.reduceLT, Nat.reduceEqDiff, Nat.reduceAdd, Nat.reduceLeDiff, Nat.reduceSub, Nat.reduceMul, ↓reduceIte, reduceCtorEq, wrap_id, w_ite_ne, w_ite_lt, Nat.sub_zero, Nat.sub_self]
  by_cases hok : rcOk r = true
  · have he : rcE r = 0 := by simp [rcE, hok]
    have ha := ascB_Asc (rcOk_parts hok).2.2.2.2.2
    try simp (disch := omega) only [go_sem, Int.reduceEq, Int.reduceLT, Int.reduceLE, Int.reduceToNat, Nat.reduceLT, Nat.reduceEqDiff, Nat.reduceAdd, Nat.reduceLeDiff, Nat.reduceSub, Nat.reduceMul, ↓reduceIte, reduceCtorEq, wrap_id, w_ite_ne, w_ite_lt, Nat.sub_zero, Nat.sub_self, he]
    refine call_pc (ok_slices_BinarySearch__int r.m k (by omega) ha) (by simp [go_sem]) ?_
    have hb := bsI_le r.m k
    try simp (disch := omega) only [go_sem, Int.reduceEq, Int.reduceLT, Int.reduceLE, Int.reduceToNat, Nat.reduceLT, Nat.reduceEqDiff, Nat.reduceAdd, Nat.reduceLeDiff, Nat.reduceSub, Nat.reduceMul, ↓reduceIte, reduceCtorEq, wrap_id, w_ite_ne, w_ite_lt, Nat.sub_zero, Nat.sub_self, ints_length]
    repeat (refine And.intro (by first | omega | (rw [mxL]; omega) | (simp [maxLen]; done) | (simp [maxLen]; omega)) ?_)
    rw [ints_drop]
    refine call_pc (okl_slices_Clone__int _ (by rw [ints_length, List.length_drop]; omega) (ints_pur _) (ints_ok _)) (by simp [go_sem]) ?_
    try simp (disch := omega) only [go_sem, Int.reduceEq, Int.reduceLT, Int.reduceLE, Int.reduceToNat, Nat.reduceLT, Nat.reduceEqDiff, Nat.reduceAdd, Nat.reduceLeDiff, Nat.reduceSub, Nat.reduceMul, ↓reduceIte, reduceCtorEq, wrap_id, w_ite_ne, w_ite_lt, Nat.sub_zero, Nat.sub_self]
    rw [drop_bs r.m k ha]
    exact Pub.of_eq (by simp [giveR, hok, rcv]) rfl
  · have hok : rcOk r = false := by simpa using hok
    have he : rcE r = 50 := by simp [rcE, hok]
    try simp (disch := omega) only [go_sem, Int.reduceEq, Int.reduceLT, Int.reduceLE, Int.reduceToNat, Nat.reduceLT, Nat.reduceEqDiff, Nat.reduceAdd, Nat.reduceLeDiff, Nat.reduceSub, Nat.reduceMul, ↓reduceIte, reduceCtorEq, wrap_id, w_ite_ne, w_ite_lt, Nat.sub_zero, Nat.sub_self, he]
    have : giveR r k = (⟨0, 0, []⟩, 50) := by simp [giveR, hok]
    rw [this]
    exact Pub.pair (Pub.agg3 (Pub.of_eq rfl rfl) (Pub.of_eq rfl rfl) (.nl 1)) (Pub.of_eq rfl rfl)
theorem ok_ref28_GiveUp (r : Rc) (k : Int) (hl : r.m.length ≤ 1000000) : PC prog n_ref28_GiveUp [rcv r, .int .i64 k] (.tuple [rcv (giveR r k).1, .int .i64 (giveR r k).2]) := by
  refine PC_of_body b_ref28_GiveUp (by simp) ?_
  simp only [c_ref28_GiveUp, go_sem, Int.reduceEq, Int.reduceLT, Int.reduceLE, Int.reduceToNat, Nat.reduceLT, Nat.reduceEqDiff, Nat.reduceAdd, Nat.reduceLeDiff, Nat.reduceSub, Nat.reduceMul, ↓reduceIte, reduceCtorEq, w_app_nl, rcv]
  refine call_pc (ok_ref28_Check r (by omega)) (by simp [go_sem, rcv]) ?_
  try simp (disch := omega) only [go_sem, Int.reduceEq, Int.reduceLT, Int.reduceLE, Int.reduceToNat, Nat.reduceLT, Nat.reduceEqDiff, Nat.reduceAdd, Nat.reduceLeDiff, Nat.reduceSub, Nat.reduceMul, ↓reduceIte, reduceCtorEq, wrap_id, w_ite_ne, w_ite_lt, Nat.sub_zero, Nat.sub_self]
  by_cases hok : rcOk r = true
  · have he : rcE r = 0 := by simp [rcE, hok]
    try simp (disch := omega) only [go_sem, Int.reduceEq, Int.reduceLT, Int.reduceLE, Int.reduceToNat, Nat.reduceLT, Nat.reduceEqDiff, Nat.reduceAdd, Nat.reduceLeDiff, Nat.reduceSub, Nat.reduceMul, ↓reduceIte, reduceCtorEq, wrap_id, w_ite_ne, w_ite_lt, Nat.sub_zero, Nat.sub_self, he, ints_length]
    refine awp_upG [8, 21, 22, 23, 24, 25, 26, 27, 28, 29, 30, 31, 32, 33, 34] (by kernel_rfl) r.m.length (fun i e σ => e 21 = .int .i64 i ∧ σ.ob 1 = some ⟨1, 3, 28, false, true, [.agg [.int .i64 0, .int .i64 0, .nil]]⟩ ∧
      ∃ X, σ.ob 2 = some ⟨2, 3, 28, false, true, [.agg [.int .i64 r.s, .int .i64 r.n, X]]⟩ ∧ SlR 1 3 σ (ints ((r.m.take i).filter fun x => decide (k ≤ x))) X ∧ Oth X 1 ∧ Oth X 2) ?_ ?_
    · exact ⟨(by first | ((try simp (maxSteps := 1000000) only [go_sem, Int.reduceEq, Int.reduceLT, Int.reduceLE, Int.reduceToNat, Nat.reduceLT, Nat.reduceEqDiff, Nat.reduceAdd, Nat.reduceLeDiff, Nat.reduceSub, Nat.reduceMul, ↓reduceIte, reduceCtorEq, w_app_nl]); done) | ((try simp (maxSteps := 1000000) only [go_sem, Int.reduceEq, Int.reduceLT, Int.reduceLE, Int.reduceToNat, Nat.reduceLT, Nat.reduceEqDiff, Nat.reduceAdd, Nat.reduceLeDiff, Nat.reduceSub, Nat.reduceMul, ↓reduceIte, reduceCtorEq, w_app_nl]); rfl) | ((try simp (maxSteps := 1000000) (disch := omega) only [go_sem, Int.reduceEq, Int.reduceLT, Int.reduceLE, Int.reduceToNat, Nat.reduceLT, Nat.reduceEqDiff, Nat.reduceAdd, Nat.reduceLeDiff, Nat.reduceSub, Nat.reduceMul, ↓reduceIte, reduceCtorEq, w_app_nl, wrap_id, w_ite_ne, w_ite_lt]); rfl) | (simp (maxSteps := 1000000) (disch := omega) only [go_sem, Int.reduceEq, Int.reduceLT, Int.reduceLE, Int.reduceToNat, Nat.reduceLT, Nat.reduceEqDiff, Nat.reduceAdd, Nat.reduceLeDiff, Nat.reduceSub, Nat.reduceMul, ↓reduceIte, reduceCtorEq, w_app_nl, wrap_id, w_ite_ne, w_ite_lt]; done)), (by first | ((try simp (maxSteps := 1000000) only [go_sem, Int.reduceEq, Int.reduceLT, Int.reduceLE, Int.reduceToNat, Nat.reduceLT, Nat.reduceEqDiff, Nat.reduceAdd, Nat.reduceLeDiff, Nat.reduceSub, Nat.reduceMul, ↓reduceIte, reduceCtorEq, w_app_nl]); done) | ((try simp (maxSteps := 1000000) only [go_sem, Int.reduceEq, Int.reduceLT, Int.reduceLE, Int.reduceToNat, Nat.reduceLT, Nat.reduceEqDiff, Nat.reduceAdd, Nat.reduceLeDiff, Nat.reduceSub, Nat.reduceMul, ↓reduceIte, reduceCtorEq, w_app_nl]); rfl) | ((try simp (maxSteps := 1000000) (disch := omega) only [go_sem, Int.reduceEq, Int.reduceLT, Int.reduceLE, Int.reduceToNat, Nat.reduceLT, Nat.reduceEqDiff, Nat.reduceAdd, Nat.reduceLeDiff, Nat.reduceSub, Nat.reduceMul, ↓reduceIte, reduceCtorEq, w_app_nl, wrap_id, w_ite_ne, w_ite_lt]); rfl) | (simp (maxSteps := 1000000) (disch := omega) only [go_sem, Int.reduceEq, Int.reduceLT, Int.reduceLE, Int.reduceToNat, Nat.reduceLT, Nat.reduceEqDiff, Nat.reduceAdd, Nat.reduceLeDiff, Nat.reduceSub, Nat.reduceMul, ↓reduceIte, reduceCtorEq, w_app_nl, wrap_id, w_ite_ne, w_ite_lt]; done)), .nil, (by first | ((try simp (maxSteps := 1000000) only [go_sem, Int.reduceEq, Int.reduceLT, Int.reduceLE, Int.reduceToNat, Nat.reduceLT, Nat.reduceEqDiff, Nat.reduceAdd, Nat.reduceLeDiff, Nat.reduceSub, Nat.reduceMul, ↓reduceIte, reduceCtorEq, w_app_nl]); done) | ((try simp (maxSteps := 1000000) only [go_sem, Int.reduceEq, Int.reduceLT, Int.reduceLE, Int.reduceToNat, Nat.reduceLT, Nat.reduceEqDiff, Nat.reduceAdd, Nat.reduceLeDiff, Nat.reduceSub, Nat.reduceMul, ↓reduceIte, reduceCtorEq, w_app_nl]); rfl) | ((try simp (maxSteps := 1000000) (disch := omega) only [go_sem, Int.reduceEq, Int.reduceLT, Int.reduceLE, Int.reduceToNat, Nat.reduceLT, Nat.reduceEqDiff, Nat.reduceAdd, Nat.reduceLeDiff, Nat.reduceSub, Nat.reduceMul, ↓reduceIte, reduceCtorEq, w_app_nl, wrap_id, w_ite_ne, w_ite_lt]); rfl) | (simp (maxSteps := 1000000) (disch := omega) only [go_sem, Int.reduceEq, Int.reduceLT, Int.reduceLE, Int.reduceToNat, Nat.reduceLT, Nat.reduceEqDiff, Nat.reduceAdd, Nat.reduceLeDiff, Nat.reduceSub, Nat.reduceMul, ↓reduceIte, reduceCtorEq, w_app_nl, wrap_id, w_ite_ne, w_ite_lt]; done)), .nil, Oth.nil _, Oth.nil _⟩
    · rintro i fe ob m c hi hm ⟨h21, hob1, X, hob, hR, o1, o2⟩
      have hm3 : 3 ≤ m := hm
      simp (maxSteps := 1000000) only [go_sem, Int.reduceEq, Int.reduceLT, Int.reduceLE, Int.reduceToNat, Nat.reduceLT, Nat.reduceEqDiff, Nat.reduceAdd, Nat.reduceLeDiff, Nat.reduceSub, Nat.reduceMul, ↓reduceIte, reduceCtorEq, w_app_nl] at h21 hob1 hob
      try simp (disch := omega) only [go_sem, Int.reduceEq, Int.reduceLT, Int.reduceLE, Int.reduceToNat, Nat.reduceLT, Nat.reduceEqDiff, Nat.reduceAdd, Nat.reduceLeDiff, Nat.reduceSub, Nat.reduceMul, ↓reduceIte, reduceCtorEq, wrap_id, w_ite_ne, w_ite_lt, Nat.sub_zero, Nat.sub_self, h21, ints_length]
      refine cond_d (fun hlt => ?_) (fun hge => ?_)
      · have hil : i < r.m.length := by omega
        have hi2 : r.m[i]? = some r.m[i] := List.getElem?_eq_getElem hil
        have htk : r.m.take (i + 1) = r.m.take i ++ [r.m[i]] := by rw [List.take_add_one, hi2]; rfl
        have hlen : ((r.m.take i).filter fun x => decide (k ≤ x)).length ≤ 1000000 := Nat.le_trans (List.length_filter_le _ _) (by rw [List.length_take]; omega)
        generalize r.m[i] = x at *
        try simp (disch := omega) only [go_sem, Int.reduceEq, Int.reduceLT, Int.reduceLE, Int.reduceToNat, Nat.reduceLT, Nat.reduceEqDiff, Nat.reduceAdd, Nat.reduceLeDiff, Nat.reduceSub, Nat.reduceMul, ↓reduceIte, reduceCtorEq, wrap_id, w_ite_ne, w_ite_lt, Nat.sub_zero, Nat.sub_self, h21, ints_length, ints_get, hi2]
        repeat (refine And.intro (by first | omega | (rw [mxL]; omega) | (simp [maxLen]; done) | (simp [maxLen]; omega)) ?_)
        refine cond_d (fun hkx => ?_) (fun hkx => ?_)
        · try simp (disch := omega) only [go_sem, Int.reduceEq, Int.reduceLT, Int.reduceLE, Int.reduceToNat, Nat.reduceLT, Nat.reduceEqDiff, Nat.reduceAdd, Nat.reduceLeDiff, Nat.reduceSub, Nat.reduceMul, ↓reduceIte, reduceCtorEq, wrap_id, w_ite_ne, w_ite_lt, Nat.sub_zero, Nat.sub_self, h21, hob]
          refine app_slr hR (by rw [ints_length]; omega) (by rw [ints_length]; omega) fun X' τ hR' hK => ?_
          obtain ⟨ob', m', c'⟩ := τ
          have e1 := hK.2.1 1 (by simp only; omega) o1
          have e2 := hK.2.1 2 (by simp only; omega) o2
          have y1 := hK.2.2 1 (by simp only; omega) o1
          have y2 := hK.2.2 2 (by simp only; omega) o2
          have hmm := hK.1
          simp only [hob1, hob] at e1 e2 hmm
          try simp (disch := omega) only [go_sem, Int.reduceEq, Int.reduceLT, Int.reduceLE, Int.reduceToNat, Nat.reduceLT, Nat.reduceEqDiff, Nat.reduceAdd, Nat.reduceLeDiff, Nat.reduceSub, Nat.reduceMul, ↓reduceIte, reduceCtorEq, wrap_id, w_ite_ne, w_ite_lt, Nat.sub_zero, Nat.sub_self, h21, e2, hR'.one, hR'.flat, hR'.cells]
          repeat (refine And.intro (by first | omega | (rw [mxL]; omega) | (simp [maxLen]; done) | (simp [maxLen]; omega)) ?_)
          refine up_nextG m' hil (by omega) ⟨(by first | ((try simp (maxSteps := 1000000) only [go_sem, Int.reduceEq, Int.reduceLT, Int.reduceLE, Int.reduceToNat, Nat.reduceLT, Nat.reduceEqDiff, Nat.reduceAdd, Nat.reduceLeDiff, Nat.reduceSub, Nat.reduceMul, ↓reduceIte, reduceCtorEq, w_app_nl]); done) | ((try simp (maxSteps := 1000000) only [go_sem, Int.reduceEq, Int.reduceLT, Int.reduceLE, Int.reduceToNat, Nat.reduceLT, Nat.reduceEqDiff, Nat.reduceAdd, Nat.reduceLeDiff, Nat.reduceSub, Nat.reduceMul, ↓reduceIte, reduceCtorEq, w_app_nl]); rfl) | ((try simp (maxSteps := 1000000) (disch := omega) only [go_sem, Int.reduceEq, Int.reduceLT, Int.reduceLE, Int.reduceToNat, Nat.reduceLT, Nat.reduceEqDiff, Nat.reduceAdd, Nat.reduceLeDiff, Nat.reduceSub, Nat.reduceMul, ↓reduceIte, reduceCtorEq, w_app_nl, wrap_id, w_ite_ne, w_ite_lt]); rfl) | (simp (maxSteps := 1000000) (disch := omega) only [go_sem, Int.reduceEq, Int.reduceLT, Int.reduceLE, Int.reduceToNat, Nat.reduceLT, Nat.reduceEqDiff, Nat.reduceAdd, Nat.reduceLeDiff, Nat.reduceSub, Nat.reduceMul, ↓reduceIte, reduceCtorEq, w_app_nl, wrap_id, w_ite_ne, w_ite_lt]; done)), ?_, X', (by first | ((try simp (maxSteps := 1000000) only [go_sem, Int.reduceEq, Int.reduceLT, Int.reduceLE, Int.reduceToNat, Nat.reduceLT, Nat.reduceEqDiff, Nat.reduceAdd, Nat.reduceLeDiff, Nat.reduceSub, Nat.reduceMul, ↓reduceIte, reduceCtorEq, w_app_nl]); done) | ((try simp (maxSteps := 1000000) only [go_sem, Int.reduceEq, Int.reduceLT, Int.reduceLE, Int.reduceToNat, Nat.reduceLT, Nat.reduceEqDiff, Nat.reduceAdd, Nat.reduceLeDiff, Nat.reduceSub, Nat.reduceMul, ↓reduceIte, reduceCtorEq, w_app_nl]); rfl) | ((try simp (maxSteps := 1000000) (disch := omega) only [go_sem, Int.reduceEq, Int.reduceLT, Int.reduceLE, Int.reduceToNat, Nat.reduceLT, Nat.reduceEqDiff, Nat.reduceAdd, Nat.reduceLeDiff, Nat.reduceSub, Nat.reduceMul, ↓reduceIte, reduceCtorEq, w_app_nl, wrap_id, w_ite_ne, w_ite_lt]); rfl) | (simp (maxSteps := 1000000) (disch := omega) only [go_sem, Int.reduceEq, Int.reduceLT, Int.reduceLE, Int.reduceToNat, Nat.reduceLT, Nat.reduceEqDiff, Nat.reduceAdd, Nat.reduceLeDiff, Nat.reduceSub, Nat.reduceMul, ↓reduceIte, reduceCtorEq, w_app_nl, wrap_id, w_ite_ne, w_ite_lt]; done)), ?_, y1, y2⟩
          · try simp (disch := omega) only [go_sem, Int.reduceEq, Int.reduceLT, Int.reduceLE, Int.reduceToNat, Nat.reduceLT, Nat.reduceEqDiff, Nat.reduceAdd, Nat.reduceLeDiff, Nat.reduceSub, Nat.reduceMul, ↓reduceIte, reduceCtorEq, wrap_id, w_ite_ne, w_ite_lt, Nat.sub_zero, Nat.sub_self]; exact e1
          · rw [htk, List.filter_append]
            simp only [List.filter_cons, List.filter_nil, hkx, decide_true, if_true]
            rw [← ints_append]
            refine hR'.move (by (try simp (maxSteps := 1000000) only [go_sem, Int.reduceEq, Int.reduceLT, Int.reduceLE, Int.reduceToNat, Nat.reduceLT, Nat.reduceEqDiff, Nat.reduceAdd, Nat.reduceLeDiff, Nat.reduceSub, Nat.reduceMul, ↓reduceIte, reduceCtorEq, w_app_nl]); omega) fun q hq hx => ?_
            have : ¬ q = 2 := fun e => hx (by rw [e]; exact y2)
            simp only at hq
            try simp (disch := omega) only [go_sem, Int.reduceEq, Int.reduceLT, Int.reduceLE, Int.reduceToNat, Nat.reduceLT, Nat.reduceEqDiff, Nat.reduceAdd, Nat.reduceLeDiff, Nat.reduceSub, Nat.reduceMul, ↓reduceIte, reduceCtorEq, wrap_id, w_ite_ne, w_ite_lt, Nat.sub_zero, Nat.sub_self]
        · try simp (disch := omega) only [go_sem, Int.reduceEq, Int.reduceLT, Int.reduceLE, Int.reduceToNat, Nat.reduceLT, Nat.reduceEqDiff, Nat.reduceAdd, Nat.reduceLeDiff, Nat.reduceSub, Nat.reduceMul, ↓reduceIte, reduceCtorEq, wrap_id, w_ite_ne, w_ite_lt, Nat.sub_zero, Nat.sub_self, h21]
          refine up_nextG m hil (by omega) ⟨(by first | ((try simp (maxSteps := 1000000) only [go_sem, Int.reduceEq, Int.reduceLT, Int.reduceLE, Int.reduceToNat, Nat.reduceLT, Nat.reduceEqDiff, Nat.reduceAdd, Nat.reduceLeDiff, Nat.reduceSub, Nat.reduceMul, ↓reduceIte, reduceCtorEq, w_app_nl]); done) | ((try simp (maxSteps := 1000000) only [go_sem, Int.reduceEq, Int.reduceLT, Int.reduceLE, Int.reduceToNat, Nat.reduceLT, Nat.reduceEqDiff, Nat.reduceAdd, Nat.reduceLeDiff, Nat.reduceSub, Nat.reduceMul, ↓reduceIte, reduceCtorEq, w_app_nl]); rfl) | ((try simp (maxSteps := 1000000) (disch := omega) only [go_sem, Int.reduceEq, Int.reduceLT, Int.reduceLE, Int.reduceToNat, Nat.reduceLT, Nat.reduceEqDiff, Nat.reduceAdd, Nat.reduceLeDiff, Nat.reduceSub, Nat.reduceMul, ↓reduceIte, reduceCtorEq, w_app_nl, wrap_id, w_ite_ne, w_ite_lt]); rfl) | (simp (maxSteps := 1000000) (disch := omega) only [go_sem, Int.reduceEq, Int.reduceLT, Int.reduceLE, Int.reduceToNat, Nat.reduceLT, Nat.reduceEqDiff, Nat.reduceAdd, Nat.reduceLeDiff, Nat.reduceSub, Nat.reduceMul, ↓reduceIte, reduceCtorEq, w_app_nl, wrap_id, w_ite_ne, w_ite_lt]; done)), ?_, X, ?_, ?_, o1, o2⟩
          · try simp (disch := omega) only [go_sem, Int.reduceEq, Int.reduceLT, Int.reduceLE, Int.reduceToNat, Nat.reduceLT, Nat.reduceEqDiff, Nat.reduceAdd, Nat.reduceLeDiff, Nat.reduceSub, Nat.reduceMul, ↓reduceIte, reduceCtorEq, wrap_id, w_ite_ne, w_ite_lt, Nat.sub_zero, Nat.sub_self]; exact hob1
          · try simp (disch := omega) only [go_sem, Int.reduceEq, Int.reduceLT, Int.reduceLE, Int.reduceToNat, Nat.reduceLT, Nat.reduceEqDiff, Nat.reduceAdd, Nat.reduceLeDiff, Nat.reduceSub, Nat.reduceMul, ↓reduceIte, reduceCtorEq, wrap_id, w_ite_ne, w_ite_lt, Nat.sub_zero, Nat.sub_self]; exact hob
          · rw [htk, List.filter_append]
            simp only [List.filter_cons, List.filter_nil, hkx, decide_false, Bool.false_eq_true, if_false, List.append_nil]
            refine hR.move (by (try simp (maxSteps := 1000000) only [go_sem, Int.reduceEq, Int.reduceLT, Int.reduceLE, Int.reduceToNat, Nat.reduceLT, Nat.reduceEqDiff, Nat.reduceAdd, Nat.reduceLeDiff, Nat.reduceSub, Nat.reduceMul, ↓reduceIte, reduceCtorEq, w_app_nl]); omega) fun q hq hx => ?_
            simp only at hq
            try simp (disch := omega) only [go_sem, Int.reduceEq, Int.reduceLT, Int.reduceLE, Int.reduceToNat, Nat.reduceLT, Nat.reduceEqDiff, Nat.reduceAdd, Nat.reduceLeDiff, Nat.reduceSub, Nat.reduceMul, ↓reduceIte, reduceCtorEq, wrap_id, w_ite_ne, w_ite_lt, Nat.sub_zero, Nat.sub_self]
      · have hil : i = r.m.length := by omega
        subst hil
        rw [List.take_length] at hR
        try simp (disch := omega) only [go_sem, Int.reduceEq, Int.reduceLT, Int.reduceLE, Int.reduceToNat, Nat.reduceLT, Nat.reduceEqDiff, Nat.reduceAdd, Nat.reduceLeDiff, Nat.reduceSub, Nat.reduceMul, ↓reduceIte, reduceCtorEq, wrap_id, w_ite_ne, w_ite_lt, Nat.sub_zero, Nat.sub_self, hob, hob1, hR.one, hR.flat, hR.cells]
        have hres : giveR r k = (⟨r.s, r.n, r.m.filter fun x => decide (k ≤ x)⟩, 0) := by simp [giveR, hok]
        rw [hres]
        refine Pub.pair (Pub.agg3 (Pub.of_eq rfl rfl) (Pub.of_eq rfl rfl) (hR.pub (fun q hq hx => ?_) (ints_pur _) (ints_ok _))) (Pub.of_eq rfl rfl)
        have : ¬ q = 1 := fun e => hx (by rw [e]; exact o1)
        simp only at hq
        try simp (disch := omega) only [go_sem, Int.reduceEq, Int.reduceLT, Int.reduceLE, Int.reduceToNat, Nat.reduceLT, Nat.reduceEqDiff, Nat.reduceAdd, Nat.reduceLeDiff, Nat.reduceSub, Nat.reduceMul, ↓reduceIte, reduceCtorEq, wrap_id, w_ite_ne, w_ite_lt, Nat.sub_zero, Nat.sub_self]
  · have hok : rcOk r = false := by simpa using hok
    have he : rcE r = 50 := by simp [rcE, hok]
    try simp (disch := omega) only [go_sem, Int.reduceEq, Int.reduceLT, Int.reduceLE, Int.reduceToNat, Nat.reduceLT, Nat.reduceEqDiff, Nat.reduceAdd, Nat.reduceLeDiff, Nat.reduceSub, Nat.reduceMul, ↓reduceIte, reduceCtorEq, wrap_id, w_ite_ne, w_ite_lt, Nat.sub_zero, Nat.sub_self, he]
    have : giveR r k = (⟨0, 0, []⟩, 50) := by simp [giveR, hok]
    rw [this]
    exact Pub.pair (Pub.agg3 (Pub.of_eq rfl rfl) (Pub.of_eq rfl rfl) (.nl 1)) (Pub.of_eq rfl rfl)
end Go.Proofs.Try
