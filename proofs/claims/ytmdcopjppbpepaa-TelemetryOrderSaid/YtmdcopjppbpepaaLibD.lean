/-
  OWN WORK, put together by tools/asm.py: what functions do.
-/
import Derived.Test.YtmdcopjppbpepaaLibC
set_option linter.unusedSimpArgs false
set_option linter.unusedVariables false
set_option maxRecDepth 100000
set_option maxHeartbeats 1000000
namespace Go.Proofs.Try
open Go.Ab Go
def NlX (r : Rc) (X : AV) : Prop := X = .list 1 (ints r.m) ∨ (X = .nil ∧ r.m = [])
theorem NlX.nl {r : Rc} {X : AV} (h : NlX r X) : NlR (.agg [.int .i64 r.s, .int .i64 r.n, X]) (rcv r) := by
  rcases h with rfl | ⟨rfl, h⟩
  · exact .rfl
  · unfold rcv; rw [h]; exact rcv_nl _ _
theorem NlX.one {r : Rc} {X : AV} (h : NlX r X) : X.one = true ∧ X.flat = true ∧ X.pur1 = true ∧ X.cells = [X] := by
  rcases h with rfl | ⟨rfl, h⟩ <;> exact ⟨rfl, rfl, rfl, rfl⟩
theorem NlX.len {r : Rc} {X : AV} (h : NlX r X) {σ : St} {K : AV → St → Prop} (k : K (.int .i64 r.m.length) σ) : lenC X σ K := by
  rcases h with rfl | ⟨rfl, h⟩
  · simpa [lenC, ints] using k
  · rw [h] at k; simpa [lenC] using k
theorem takeR_bd {r : Rc} {f : Fr} (h : (takeR r f).2.2 = 0) : (takeR r f).1.m.length ≤ 256 ∧ 1 ≤ (takeR r f).1.n ∧ (takeR r f).1.n ≤ 1073741825 := by
  unfold takeR at h ⊢
  split at h
  · rename_i h1
    rw [if_pos h1]
    obtain ⟨q1, q2, q3, q4, q5, q6⟩ := rcOk_parts h1
    split at h
    · rename_i h2
      rw [if_pos h2]
      obtain ⟨p1, p2, p3, p4, p5⟩ := frOk_parts h2
      split at h
      · rename_i h3
        rw [if_pos h3]
        split at h
        · rename_i h4
          rw [if_pos h4]
          split at h
          · rename_i h5
            rw [if_pos h5]
            exact ⟨Nat.le_trans (List.length_filter_le _ _) q5, q3, q4⟩
          · simp at h
        · rename_i h4
          rw [if_neg h4]
          split at h
          · simp at h
          · rename_i h5
            rw [if_neg h5]
            refine ⟨?_, by simp only; omega, by simp only; omega⟩
            have : (upto r.n f.n).length = (f.n - r.n).toNat := by simp [upto]
            simp only [List.length_append, this]
            omega
      · simp at h
    · simp at h
  · simp at h
theorem takeR_len (r : Rc) (f : Fr) (hr : r.m.length ≤ 1000) (hf : f.l.length ≤ 1000) : (takeR r f).1.m.length ≤ 1000000 ∧ (takeR r f).2.1.length ≤ 1000000 := by
  unfold takeR
  repeat' split
  all_goals (try simp only [List.length_nil])
  all_goals (try omega)
  · exact ⟨Nat.le_trans (List.length_filter_le _ _) (by omega), by omega⟩
  · have : (upto r.n f.n).length = (f.n - r.n).toNat := by simp [upto]
    rw [List.length_append, this]
    omega
theorem ok_law28_TelemetryTakes (t : List Int) (raw : Rc) (hraw : raw.m.length ≤ 9223372036854775807) (f : Fr) (hf : f.l.length ≤ 9223372036854775807) (most number : Int) :
    PC prog n_law28_TelemetryTakes [.list 1 (ints t), rcv raw, frv f, .int .i64 most, .int .i64 number] (.bool true) := by
  refine PC_of_body b_law28_TelemetryTakes (by simp) ?_
  simp only [c_law28_TelemetryTakes, go_sem, Int.reduceEq, Int.reduceLT, Int.reduceLE, Int.reduceToNat, Nat.reduceLT, Nat.reduceEqDiff, Nat.reduceAdd, Nat.reduceLeDiff, Nat.reduceSub, Nat.reduceMul, ↓reduceIte, reduceCtorEq, w_app_nl, frv, rcv]
  refine call_pc ok_law28_sane (by simp) ?_
  try simp (disch := omega) only [go_sem, Int.reduceEq, Int.reduceLT, Int.reduceLE, Int.reduceToNat, Nat.reduceLT, Nat.reduceEqDiff, Nat.reduceAdd, Nat.reduceLeDiff, Nat.reduceSub, Nat.reduceMul, ↓reduceIte, reduceCtorEq, wrap_id, w_ite_ne, w_ite_lt, Nat.sub_zero, Nat.sub_self]
  refine call_pc (ok_mk_Few t) (by simp [go_sem]) ?_
  try simp (disch := omega) only [go_sem, Int.reduceEq, Int.reduceLT, Int.reduceLE, Int.reduceToNat, Nat.reduceLT, Nat.reduceEqDiff, Nat.reduceAdd, Nat.reduceLeDiff, Nat.reduceSub, Nat.reduceMul, ↓reduceIte, reduceCtorEq, wrap_id, w_ite_ne, w_ite_lt, Nat.sub_zero, Nat.sub_self]
  cases hfew : fewB t
  · try simp (disch := omega) only [go_sem, Int.reduceEq, Int.reduceLT, Int.reduceLE, Int.reduceToNat, Nat.reduceLT, Nat.reduceEqDiff, Nat.reduceAdd, Nat.reduceLeDiff, Nat.reduceSub, Nat.reduceMul, ↓reduceIte, reduceCtorEq, wrap_id, w_ite_ne, w_ite_lt, Nat.sub_zero, Nat.sub_self]
    exact Pub.of_eq rfl rfl
  have hlt : t.length ≤ 9223372036854775807 := by simp [fewB] at hfew; omega
  try simp (disch := omega) only [go_sem, Int.reduceEq, Int.reduceLT, Int.reduceLE, Int.reduceToNat, Nat.reduceLT, Nat.reduceEqDiff, Nat.reduceAdd, Nat.reduceLeDiff, Nat.reduceSub, Nat.reduceMul, ↓reduceIte, reduceCtorEq, wrap_id, w_ite_ne, w_ite_lt, Nat.sub_zero, Nat.sub_self, ints_length]
  refine gd_fd rfl (fun h => ?_) (fun hr1 => ?_) <;> try simp (disch := omega) only [go_sem, Int.reduceEq, Int.reduceLT, Int.reduceLE, Int.reduceToNat, Nat.reduceLT, Nat.reduceEqDiff, Nat.reduceAdd, Nat.reduceLeDiff, Nat.reduceSub, Nat.reduceMul, ↓reduceIte, reduceCtorEq, wrap_id, w_ite_ne, w_ite_lt, Nat.sub_zero, Nat.sub_self, rds_length]
  · exact Pub.of_eq rfl rfl
  refine cond_d (fun h => ?_) (fun hf1 => ?_) <;> try simp (disch := omega) only [go_sem, Int.reduceEq, Int.reduceLT, Int.reduceLE, Int.reduceToNat, Nat.reduceLT, Nat.reduceEqDiff, Nat.reduceAdd, Nat.reduceLeDiff, Nat.reduceSub, Nat.reduceMul, ↓reduceIte, reduceCtorEq, wrap_id, w_ite_ne, w_ite_lt, Nat.sub_zero, Nat.sub_self]
  · exact Pub.of_eq rfl rfl
  refine call_hc (ok_mk_New _ t) ?_
  try simp (disch := omega) only [go_sem, Int.reduceEq, Int.reduceLT, Int.reduceLE, Int.reduceToNat, Nat.reduceLT, Nat.reduceEqDiff, Nat.reduceAdd, Nat.reduceLeDiff, Nat.reduceSub, Nat.reduceMul, ↓reduceIte, reduceCtorEq, wrap_id, w_ite_ne, w_ite_lt, Nat.sub_zero, Nat.sub_self]
  refine call_hc (ok_mk_Deck_Next _ 2 2 ty_Deck true t 0 3 (by first | rfl | simp (maxSteps := 1000000) only [go_sem, Int.reduceEq, Int.reduceLT, Int.reduceLE, Int.reduceToNat, Nat.reduceLT, Nat.reduceEqDiff, Nat.reduceAdd, Nat.reduceLeDiff, Nat.reduceSub, Nat.reduceMul, ↓reduceIte, reduceCtorEq, w_app_nl]) (by omega) hlt) ?_
  have hx1 := deckR_bd t 0 3
  generalize deckR t 0 3 = dr at *
  obtain ⟨st0, at1⟩ := dr
  simp only at hx1
  try simp (disch := omega) only [go_sem, Int.reduceEq, Int.reduceLT, Int.reduceLE, Int.reduceToNat, Nat.reduceLT, Nat.reduceEqDiff, Nat.reduceAdd, Nat.reduceLeDiff, Nat.reduceSub, Nat.reduceMul, ↓reduceIte, reduceCtorEq, wrap_id, w_ite_ne, w_ite_lt, Nat.sub_zero, Nat.sub_self]
  refine call_hc (ok_mk_Deck_Next _ 2 2 ty_Deck true t at1 9 (by first | rfl | simp (maxSteps := 1000000) only [go_sem, Int.reduceEq, Int.reduceLT, Int.reduceLE, Int.reduceToNat, Nat.reduceLT, Nat.reduceEqDiff, Nat.reduceAdd, Nat.reduceLeDiff, Nat.reduceSub, Nat.reduceMul, ↓reduceIte, reduceCtorEq, w_app_nl]) (by omega) hlt) ?_
  have hx2 := deckR_bd t at1 9
  generalize deckR t at1 9 = dr at *
  obtain ⟨kn, at2⟩ := dr
  simp only at hx2
  try simp (disch := omega) only [go_sem, Int.reduceEq, Int.reduceLT, Int.reduceLE, Int.reduceToNat, Nat.reduceLT, Nat.reduceEqDiff, Nat.reduceAdd, Nat.reduceLeDiff, Nat.reduceSub, Nat.reduceMul, ↓reduceIte, reduceCtorEq, wrap_id, w_ite_ne, w_ite_lt, Nat.sub_zero, Nat.sub_self]
  refine awp_upG [13, 14, 15, 16, 17, 64, 65, 66, 67, 68, 69, 70, 71, 72, 73, 74, 75, 76, 77, 78, 79, 80, 81, 82] (by kernel_rfl) kn.toNat (fun k e σ => e 13 = .int .i64 (kn - k) ∧ σ.ob 0 = some ⟨0, 3, 28, false, true, [rcv raw]⟩ ∧ σ.ob 1 = some ⟨1, 3, 36, false, true, [frv f]⟩ ∧
    (∃ at', σ.ob 2 = some ⟨2, 2, ty_Deck, false, true, [deckV t at']⟩) ∧ ∃ (r : Rc) (X : AV), σ.ob 3 = some ⟨3, 3, 28, false, true, [.agg [.int .i64 r.s, .int .i64 r.n, X]]⟩ ∧ NlX r X ∧ r.m.length ≤ 256 ∧ 1 ≤ r.n ∧ r.n ≤ 1073741825) ?_ ?_
  · refine ⟨by try simp (disch := omega) only [go_sem, Int.reduceEq, Int.reduceLT, Int.reduceLE, Int.reduceToNat, Nat.reduceLT, Nat.reduceEqDiff, Nat.reduceAdd, Nat.reduceLeDiff, Nat.reduceSub, Nat.reduceMul, ↓reduceIte, reduceCtorEq, wrap_id, w_ite_ne, w_ite_lt, Nat.sub_zero, Nat.sub_self]; simp, (by first | ((try simp (maxSteps := 1000000) only [go_sem, Int.reduceEq, Int.reduceLT, Int.reduceLE, Int.reduceToNat, Nat.reduceLT, Nat.reduceEqDiff, Nat.reduceAdd, Nat.reduceLeDiff, Nat.reduceSub, Nat.reduceMul, ↓reduceIte, reduceCtorEq, w_app_nl]); done) | ((try simp (maxSteps := 1000000) only [go_sem, Int.reduceEq, Int.reduceLT, Int.reduceLE, Int.reduceToNat, Nat.reduceLT, Nat.reduceEqDiff, Nat.reduceAdd, Nat.reduceLeDiff, Nat.reduceSub, Nat.reduceMul, ↓reduceIte, reduceCtorEq, w_app_nl]); rfl) | ((try simp (maxSteps := 1000000) (disch := omega) only [go_sem, Int.reduceEq, Int.reduceLT, Int.reduceLE, Int.reduceToNat, Nat.reduceLT, Nat.reduceEqDiff, Nat.reduceAdd, Nat.reduceLeDiff, Nat.reduceSub, Nat.reduceMul, ↓reduceIte, reduceCtorEq, w_app_nl, wrap_id, w_ite_ne, w_ite_lt]); rfl) | (simp (maxSteps := 1000000) (disch := omega) only [go_sem, Int.reduceEq, Int.reduceLT, Int.reduceLE, Int.reduceToNat, Nat.reduceLT, Nat.reduceEqDiff, Nat.reduceAdd, Nat.reduceLeDiff, Nat.reduceSub, Nat.reduceMul, ↓reduceIte, reduceCtorEq, w_app_nl, wrap_id, w_ite_ne, w_ite_lt]; done)), (by first | ((try simp (maxSteps := 1000000) only [go_sem, Int.reduceEq, Int.reduceLT, Int.reduceLE, Int.reduceToNat, Nat.reduceLT, Nat.reduceEqDiff, Nat.reduceAdd, Nat.reduceLeDiff, Nat.reduceSub, Nat.reduceMul, ↓reduceIte, reduceCtorEq, w_app_nl]); done) | ((try simp (maxSteps := 1000000) only [go_sem, Int.reduceEq, Int.reduceLT, Int.reduceLE, Int.reduceToNat, Nat.reduceLT, Nat.reduceEqDiff, Nat.reduceAdd, Nat.reduceLeDiff, Nat.reduceSub, Nat.reduceMul, ↓reduceIte, reduceCtorEq, w_app_nl]); rfl) | ((try simp (maxSteps := 1000000) (disch := omega) only [go_sem, Int.reduceEq, Int.reduceLT, Int.reduceLE, Int.reduceToNat, Nat.reduceLT, Nat.reduceEqDiff, Nat.reduceAdd, Nat.reduceLeDiff, Nat.reduceSub, Nat.reduceMul, ↓reduceIte, reduceCtorEq, w_app_nl, wrap_id, w_ite_ne, w_ite_lt]); rfl) | (simp (maxSteps := 1000000) (disch := omega) only [go_sem, Int.reduceEq, Int.reduceLT, Int.reduceLE, Int.reduceToNat, Nat.reduceLT, Nat.reduceEqDiff, Nat.reduceAdd, Nat.reduceLeDiff, Nat.reduceSub, Nat.reduceMul, ↓reduceIte, reduceCtorEq, w_app_nl, wrap_id, w_ite_ne, w_ite_lt]; done)), ⟨at2, (by first | ((try simp (maxSteps := 1000000) only [go_sem, Int.reduceEq, Int.reduceLT, Int.reduceLE, Int.reduceToNat, Nat.reduceLT, Nat.reduceEqDiff, Nat.reduceAdd, Nat.reduceLeDiff, Nat.reduceSub, Nat.reduceMul, ↓reduceIte, reduceCtorEq, w_app_nl]); done) | ((try simp (maxSteps := 1000000) only [go_sem, Int.reduceEq, Int.reduceLT, Int.reduceLE, Int.reduceToNat, Nat.reduceLT, Nat.reduceEqDiff, Nat.reduceAdd, Nat.reduceLeDiff, Nat.reduceSub, Nat.reduceMul, ↓reduceIte, reduceCtorEq, w_app_nl]); rfl) | ((try simp (maxSteps := 1000000) (disch := omega) only [go_sem, Int.reduceEq, Int.reduceLT, Int.reduceLE, Int.reduceToNat, Nat.reduceLT, Nat.reduceEqDiff, Nat.reduceAdd, Nat.reduceLeDiff, Nat.reduceSub, Nat.reduceMul, ↓reduceIte, reduceCtorEq, w_app_nl, wrap_id, w_ite_ne, w_ite_lt]); rfl) | (simp (maxSteps := 1000000) (disch := omega) only [go_sem, Int.reduceEq, Int.reduceLT, Int.reduceLE, Int.reduceToNat, Nat.reduceLT, Nat.reduceEqDiff, Nat.reduceAdd, Nat.reduceLeDiff, Nat.reduceSub, Nat.reduceMul, ↓reduceIte, reduceCtorEq, w_app_nl, wrap_id, w_ite_ne, w_ite_lt]; done))⟩, ⟨st0, 1, []⟩, .nil, (by first | ((try simp (maxSteps := 1000000) only [go_sem, Int.reduceEq, Int.reduceLT, Int.reduceLE, Int.reduceToNat, Nat.reduceLT, Nat.reduceEqDiff, Nat.reduceAdd, Nat.reduceLeDiff, Nat.reduceSub, Nat.reduceMul, ↓reduceIte, reduceCtorEq, w_app_nl]); done) | ((try simp (maxSteps := 1000000) only [go_sem, Int.reduceEq, Int.reduceLT, Int.reduceLE, Int.reduceToNat, Nat.reduceLT, Nat.reduceEqDiff, Nat.reduceAdd, Nat.reduceLeDiff, Nat.reduceSub, Nat.reduceMul, ↓reduceIte, reduceCtorEq, w_app_nl]); rfl) | ((try simp (maxSteps := 1000000) (disch := omega) only [go_sem, Int.reduceEq, Int.reduceLT, Int.reduceLE, Int.reduceToNat, Nat.reduceLT, Nat.reduceEqDiff, Nat.reduceAdd, Nat.reduceLeDiff, Nat.reduceSub, Nat.reduceMul, ↓reduceIte, reduceCtorEq, w_app_nl, wrap_id, w_ite_ne, w_ite_lt]); rfl) | (simp (maxSteps := 1000000) (disch := omega) only [go_sem, Int.reduceEq, Int.reduceLT, Int.reduceLE, Int.reduceToNat, Nat.reduceLT, Nat.reduceEqDiff, Nat.reduceAdd, Nat.reduceLeDiff, Nat.reduceSub, Nat.reduceMul, ↓reduceIte, reduceCtorEq, w_app_nl, wrap_id, w_ite_ne, w_ite_lt]; done)), .inr ⟨rfl, rfl⟩, by simp, by simp, by simp⟩
  · rintro k fe ob m c hk hm ⟨h13, q0, q1, ⟨at3, q2⟩, r, X, q3, hX, b1, b2, b3⟩
    have hm4 : 4 ≤ m := hm
    obtain ⟨hX1, hX2, hX3, hX4⟩ := hX.one
    simp (maxSteps := 1000000) only [go_sem, Int.reduceEq, Int.reduceLT, Int.reduceLE, Int.reduceToNat, Nat.reduceLT, Nat.reduceEqDiff, Nat.reduceAdd, Nat.reduceLeDiff, Nat.reduceSub, Nat.reduceMul, ↓reduceIte, reduceCtorEq, w_app_nl, rcv, frv] at h13 q0 q1 q2 q3
    try simp (disch := omega) only [go_sem, Int.reduceEq, Int.reduceLT, Int.reduceLE, Int.reduceToNat, Nat.reduceLT, Nat.reduceEqDiff, Nat.reduceAdd, Nat.reduceLeDiff, Nat.reduceSub, Nat.reduceMul, ↓reduceIte, reduceCtorEq, wrap_id, w_ite_ne, w_ite_lt, Nat.sub_zero, Nat.sub_self, h13]
    refine cond_d (fun hlt2 => ?_) (fun hge => ?_)
    · have hkn : k < kn.toNat := by omega
      try simp (disch := omega) only [go_sem, Int.reduceEq, Int.reduceLT, Int.reduceLE, Int.reduceToNat, Nat.reduceLT, Nat.reduceEqDiff, Nat.reduceAdd, Nat.reduceLeDiff, Nat.reduceSub, Nat.reduceMul, ↓reduceIte, reduceCtorEq, wrap_id, w_ite_ne, w_ite_lt, Nat.sub_zero, Nat.sub_self, h13]
      refine (hc_flow_Frame _ 2 2 t at3 hlt (by simp only; omega) (by (try simp (maxSteps := 1000000) only [go_sem, Int.reduceEq, Int.reduceLT, Int.reduceLE, Int.reduceToNat, Nat.reduceLT, Nat.reduceEqDiff, Nat.reduceAdd, Nat.reduceLeDiff, Nat.reduceSub, Nat.reduceMul, ↓reduceIte, reduceCtorEq, w_app_nl]); exact q2)).mono ?_
      rintro _ _ ⟨F, at4, c', rfl, hok, rfl⟩
      obtain ⟨p1, p2, p3, p4, p5⟩ := frOk_parts hok
      try simp (disch := omega) only [go_sem, Int.reduceEq, Int.reduceLT, Int.reduceLE, Int.reduceToNat, Nat.reduceLT, Nat.reduceEqDiff, Nat.reduceAdd, Nat.reduceLeDiff, Nat.reduceSub, Nat.reduceMul, ↓reduceIte, reduceCtorEq, wrap_id, w_ite_ne, w_ite_lt, Nat.sub_zero, Nat.sub_self, frv, q3, h13, hX1, hX2, hX3, hX4]
      refine call_pc (pc_nl (ok_ref28_Take r ⟨r.s, F.n, F.l⟩ (by omega) (by simp only; omega)) (.cons hX.nl (.cons .rfl .nil))) (by simp [go_sem, hX3]) ?_
      have htb := takeR_bd (r := r) (f := ⟨r.s, F.n, F.l⟩)
      generalize hT : takeR r ⟨r.s, F.n, F.l⟩ = T at *
      obtain ⟨T1, T2, T3⟩ := T
      simp only at htb
      try simp (disch := omega) only [go_sem, Int.reduceEq, Int.reduceLT, Int.reduceLE, Int.reduceToNat, Nat.reduceLT, Nat.reduceEqDiff, Nat.reduceAdd, Nat.reduceLeDiff, Nat.reduceSub, Nat.reduceMul, ↓reduceIte, reduceCtorEq, wrap_id, w_ite_ne, w_ite_lt, Nat.sub_zero, Nat.sub_self, rcv, h13]
      refine cond_d (fun h0 => ?_) (fun h0 => ?_)
      · obtain ⟨g1, g2, g3⟩ := htb h0
        try simp (disch := omega) only [go_sem, Int.reduceEq, Int.reduceLT, Int.reduceLE, Int.reduceToNat, Nat.reduceLT, Nat.reduceEqDiff, Nat.reduceAdd, Nat.reduceLeDiff, Nat.reduceSub, Nat.reduceMul, ↓reduceIte, reduceCtorEq, wrap_id, w_ite_ne, w_ite_lt, Nat.sub_zero, Nat.sub_self, q3, h13]
        refine up_nextG 4 hkn (by simp) ⟨by try simp (disch := omega) only [go_sem, Int.reduceEq, Int.reduceLT, Int.reduceLE, Int.reduceToNat, Nat.reduceLT, Nat.reduceEqDiff, Nat.reduceAdd, Nat.reduceLeDiff, Nat.reduceSub, Nat.reduceMul, ↓reduceIte, reduceCtorEq, wrap_id, w_ite_ne, w_ite_lt, Nat.sub_zero, Nat.sub_self]; congr 1; omega, ?_, ?_, ⟨at4, (by first | ((try simp (maxSteps := 1000000) only [go_sem, Int.reduceEq, Int.reduceLT, Int.reduceLE, Int.reduceToNat, Nat.reduceLT, Nat.reduceEqDiff, Nat.reduceAdd, Nat.reduceLeDiff, Nat.reduceSub, Nat.reduceMul, ↓reduceIte, reduceCtorEq, w_app_nl]); done) | ((try simp (maxSteps := 1000000) only [go_sem, Int.reduceEq, Int.reduceLT, Int.reduceLE, Int.reduceToNat, Nat.reduceLT, Nat.reduceEqDiff, Nat.reduceAdd, Nat.reduceLeDiff, Nat.reduceSub, Nat.reduceMul, ↓reduceIte, reduceCtorEq, w_app_nl]); rfl) | ((try simp (maxSteps := 1000000) (disch := omega) only [go_sem, Int.reduceEq, Int.reduceLT, Int.reduceLE, Int.reduceToNat, Nat.reduceLT, Nat.reduceEqDiff, Nat.reduceAdd, Nat.reduceLeDiff, Nat.reduceSub, Nat.reduceMul, ↓reduceIte, reduceCtorEq, w_app_nl, wrap_id, w_ite_ne, w_ite_lt]); rfl) | (simp (maxSteps := 1000000) (disch := omega) only [go_sem, Int.reduceEq, Int.reduceLT, Int.reduceLE, Int.reduceToNat, Nat.reduceLT, Nat.reduceEqDiff, Nat.reduceAdd, Nat.reduceLeDiff, Nat.reduceSub, Nat.reduceMul, ↓reduceIte, reduceCtorEq, w_app_nl, wrap_id, w_ite_ne, w_ite_lt]; done))⟩, T1, .list 1 (ints T1.m), (by first | ((try simp (maxSteps := 1000000) only [go_sem, Int.reduceEq, Int.reduceLT, Int.reduceLE, Int.reduceToNat, Nat.reduceLT, Nat.reduceEqDiff, Nat.reduceAdd, Nat.reduceLeDiff, Nat.reduceSub, Nat.reduceMul, ↓reduceIte, reduceCtorEq, w_app_nl]); done) | ((try simp (maxSteps := 1000000) only [go_sem, Int.reduceEq, Int.reduceLT, Int.reduceLE, Int.reduceToNat, Nat.reduceLT, Nat.reduceEqDiff, Nat.reduceAdd, Nat.reduceLeDiff, Nat.reduceSub, Nat.reduceMul, ↓reduceIte, reduceCtorEq, w_app_nl]); rfl) | ((try simp (maxSteps := 1000000) (disch := omega) only [go_sem, Int.reduceEq, Int.reduceLT, Int.reduceLE, Int.reduceToNat, Nat.reduceLT, Nat.reduceEqDiff, Nat.reduceAdd, Nat.reduceLeDiff, Nat.reduceSub, Nat.reduceMul, ↓reduceIte, reduceCtorEq, w_app_nl, wrap_id, w_ite_ne, w_ite_lt]); rfl) | (simp (maxSteps := 1000000) (disch := omega) only [go_sem, Int.reduceEq, Int.reduceLT, Int.reduceLE, Int.reduceToNat, Nat.reduceLT, Nat.reduceEqDiff, Nat.reduceAdd, Nat.reduceLeDiff, Nat.reduceSub, Nat.reduceMul, ↓reduceIte, reduceCtorEq, w_app_nl, wrap_id, w_ite_ne, w_ite_lt]; done)), .inl rfl, g1, g2, g3⟩
        · try simp (disch := omega) only [go_sem, Int.reduceEq, Int.reduceLT, Int.reduceLE, Int.reduceToNat, Nat.reduceLT, Nat.reduceEqDiff, Nat.reduceAdd, Nat.reduceLeDiff, Nat.reduceSub, Nat.reduceMul, ↓reduceIte, reduceCtorEq, wrap_id, w_ite_ne, w_ite_lt, Nat.sub_zero, Nat.sub_self]; exact q0
        · try simp (disch := omega) only [go_sem, Int.reduceEq, Int.reduceLT, Int.reduceLE, Int.reduceToNat, Nat.reduceLT, Nat.reduceEqDiff, Nat.reduceAdd, Nat.reduceLeDiff, Nat.reduceSub, Nat.reduceMul, ↓reduceIte, reduceCtorEq, wrap_id, w_ite_ne, w_ite_lt, Nat.sub_zero, Nat.sub_self]; exact q1
      · try simp (disch := omega) only [go_sem, Int.reduceEq, Int.reduceLT, Int.reduceLE, Int.reduceToNat, Nat.reduceLT, Nat.reduceEqDiff, Nat.reduceAdd, Nat.reduceLeDiff, Nat.reduceSub, Nat.reduceMul, ↓reduceIte, reduceCtorEq, wrap_id, w_ite_ne, w_ite_lt, Nat.sub_zero, Nat.sub_self, h13]
        refine up_nextG 4 hkn (by simp) ⟨by try simp (disch := omega) only [go_sem, Int.reduceEq, Int.reduceLT, Int.reduceLE, Int.reduceToNat, Nat.reduceLT, Nat.reduceEqDiff, Nat.reduceAdd, Nat.reduceLeDiff, Nat.reduceSub, Nat.reduceMul, ↓reduceIte, reduceCtorEq, wrap_id, w_ite_ne, w_ite_lt, Nat.sub_zero, Nat.sub_self]; congr 1; omega, ?_, ?_, ⟨at4, (by first | ((try simp (maxSteps := 1000000) only [go_sem, Int.reduceEq, Int.reduceLT, Int.reduceLE, Int.reduceToNat, Nat.reduceLT, Nat.reduceEqDiff, Nat.reduceAdd, Nat.reduceLeDiff, Nat.reduceSub, Nat.reduceMul, ↓reduceIte, reduceCtorEq, w_app_nl]); done) | ((try simp (maxSteps := 1000000) only [go_sem, Int.reduceEq, Int.reduceLT, Int.reduceLE, Int.reduceToNat, Nat.reduceLT, Nat.reduceEqDiff, Nat.reduceAdd, Nat.reduceLeDiff, Nat.reduceSub, Nat.reduceMul, ↓reduceIte, reduceCtorEq, w_app_nl]); rfl) | ((try simp (maxSteps := 1000000) (disch := omega) only [go_sem, Int.reduceEq, Int.reduceLT, Int.reduceLE, Int.reduceToNat, Nat.reduceLT, Nat.reduceEqDiff, Nat.reduceAdd, Nat.reduceLeDiff, Nat.reduceSub, Nat.reduceMul, ↓reduceIte, reduceCtorEq, w_app_nl, wrap_id, w_ite_ne, w_ite_lt]); rfl) | (simp (maxSteps := 1000000) (disch := omega) only [go_sem, Int.reduceEq, Int.reduceLT, Int.reduceLE, Int.reduceToNat, Nat.reduceLT, Nat.reduceEqDiff, Nat.reduceAdd, Nat.reduceLeDiff, Nat.reduceSub, Nat.reduceMul, ↓reduceIte, reduceCtorEq, w_app_nl, wrap_id, w_ite_ne, w_ite_lt]; done))⟩, r, X, ?_, hX, b1, b2, b3⟩
        · try simp (disch := omega) only [go_sem, Int.reduceEq, Int.reduceLT, Int.reduceLE, Int.reduceToNat, Nat.reduceLT, Nat.reduceEqDiff, Nat.reduceAdd, Nat.reduceLeDiff, Nat.reduceSub, Nat.reduceMul, ↓reduceIte, reduceCtorEq, wrap_id, w_ite_ne, w_ite_lt, Nat.sub_zero, Nat.sub_self]; exact q0
        · try simp (disch := omega) only [go_sem, Int.reduceEq, Int.reduceLT, Int.reduceLE, Int.reduceToNat, Nat.reduceLT, Nat.reduceEqDiff, Nat.reduceAdd, Nat.reduceLeDiff, Nat.reduceSub, Nat.reduceMul, ↓reduceIte, reduceCtorEq, wrap_id, w_ite_ne, w_ite_lt, Nat.sub_zero, Nat.sub_self]; exact q1
        · try simp (disch := omega) only [go_sem, Int.reduceEq, Int.reduceLT, Int.reduceLE, Int.reduceToNat, Nat.reduceLT, Nat.reduceEqDiff, Nat.reduceAdd, Nat.reduceLeDiff, Nat.reduceSub, Nat.reduceMul, ↓reduceIte, reduceCtorEq, wrap_id, w_ite_ne, w_ite_lt, Nat.sub_zero, Nat.sub_self]; exact q3
    · try simp (disch := omega) only [go_sem, Int.reduceEq, Int.reduceLT, Int.reduceLE, Int.reduceToNat, Nat.reduceLT, Nat.reduceEqDiff, Nat.reduceAdd, Nat.reduceLeDiff, Nat.reduceSub, Nat.reduceMul, ↓reduceIte, reduceCtorEq, wrap_id, w_ite_ne, w_ite_lt, Nat.sub_zero, Nat.sub_self]
      refine (hc_flow_Frame _ 2 2 t at3 hlt (by simp only; omega) (by (try simp (maxSteps := 1000000) only [go_sem, Int.reduceEq, Int.reduceLT, Int.reduceLE, Int.reduceToNat, Nat.reduceLT, Nat.reduceEqDiff, Nat.reduceAdd, Nat.reduceLeDiff, Nat.reduceSub, Nat.reduceMul, ↓reduceIte, reduceCtorEq, w_app_nl]); exact q2)).mono ?_
      rintro _ _ ⟨F, at4, c', rfl, hok, rfl⟩
      obtain ⟨p1, p2, p3, p4, p5⟩ := frOk_parts hok
      try simp (disch := omega) only [go_sem, Int.reduceEq, Int.reduceLT, Int.reduceLE, Int.reduceToNat, Nat.reduceLT, Nat.reduceEqDiff, Nat.reduceAdd, Nat.reduceLeDiff, Nat.reduceSub, Nat.reduceMul, ↓reduceIte, reduceCtorEq, wrap_id, w_ite_ne, w_ite_lt, Nat.sub_zero, Nat.sub_self, frv, q3, hX1, hX2, hX3, hX4]
      refine hX.len ?_
      try simp (disch := omega) only [go_sem, Int.reduceEq, Int.reduceLT, Int.reduceLE, Int.reduceToNat, Nat.reduceLT, Nat.reduceEqDiff, Nat.reduceAdd, Nat.reduceLeDiff, Nat.reduceSub, Nat.reduceMul, ↓reduceIte, reduceCtorEq, wrap_id, w_ite_ne, w_ite_lt, Nat.sub_zero, Nat.sub_self, q3, hX1, hX2, hX3, hX4]
      refine call_pc (ok_mk_Mod most 3 (by omega) (by omega)) (by simp [go_sem]) ?_
      have hm3 : 0 ≤ most % 3 ∧ most % 3 < 3 := by omega
      generalize most % 3 = mm at *
      try simp (disch := omega) only [go_sem, Int.reduceEq, Int.reduceLT, Int.reduceLE, Int.reduceToNat, Nat.reduceLT, Nat.reduceEqDiff, Nat.reduceAdd, Nat.reduceLeDiff, Nat.reduceSub, Nat.reduceMul, ↓reduceIte, reduceCtorEq, wrap_id, w_ite_ne, w_ite_lt, Nat.sub_zero, Nat.sub_self, q3, hX1, hX2, hX3, hX4, q0]
      repeat (refine And.intro (by first | omega | (rw [mxL]; omega) | (simp [maxLen]; done) | (simp [maxLen]; omega)) ?_)
      generalize hfar : r.n + 256 - (r.m.length : Int) + mm - 1 = fn at *
      have hXs : ∀ i : Nat, i < 2 → ∃ (y : Rc) (Y : AV), [AV.agg [.int .i64 raw.s, .int .i64 raw.n, .list 1 (ints raw.m)], AV.agg [.int .i64 r.s, .int .i64 r.n, X]][i]? = some (.agg [.int .i64 y.s, .int .i64 y.n, Y]) ∧ NlX y Y ∧ y.m.length ≤ 1000 := fun i hi => by
        rcases i with _ | _ | i
        · exact ⟨raw, _, rfl, .inl rfl, by omega⟩
        · exact ⟨r, _, rfl, hX, by omega⟩
        · omega
      have hLl : [AV.agg [.int .i64 raw.s, .int .i64 raw.n, .list 1 (ints raw.m)], AV.agg [.int .i64 r.s, .int .i64 r.n, X]].length = 2 := rfl
      generalize [AV.agg [.int .i64 raw.s, .int .i64 raw.n, .list 1 (ints raw.m)], AV.agg [.int .i64 r.s, .int .i64 r.n, X]] = L at *
      refine awp_upG [10, 21, 23, 24, 25, 26, 27, 28, 29, 31, 32, 33, 34, 35, 36, 37, 38, 39, 105, 106, 107, 108, 109, 110, 111, 112, 113, 114, 115, 116, 117, 118, 119, 120, 121, 122, 123, 124, 125, 126, 127, 128, 129, 130, 131, 132, 133, 134, 135, 136, 137, 138, 139, 140, 141, 142, 143, 144, 145, 146, 147, 148, 149, 150, 151, 152, 153, 154, 155, 156, 157, 158, 159, 160, 161, 162, 163, 164, 165, 166, 167, 168, 169, 170, 171, 172, 173, 174, 175, 176, 177, 178, 179, 180, 181, 182, 183, 184, 185, 186, 187, 188, 189, 190, 191, 192, 193, 194, 195, 196, 197, 198, 199, 200, 201, 202, 203, 204, 205, 206, 207, 208, 209] (by kernel_rfl) 2 (fun k e σ => e 105 = .int .i64 k ∧ σ.ob 1 = some ⟨1, 3, 36, false, true, [frv f]⟩ ∧
        σ.ob m = some ⟨c', 3, 36, false, true, [frv F]⟩ ∧ σ.ob (m + 1) = some ⟨c' + 1, 3, 36, false, true, [frv ⟨r.s, fn, F.l⟩]⟩) ?_ ?_
      · refine ⟨(by first | ((try simp (maxSteps := 1000000) only [go_sem, Int.reduceEq, Int.reduceLT, Int.reduceLE, Int.reduceToNat, Nat.reduceLT, Nat.reduceEqDiff, Nat.reduceAdd, Nat.reduceLeDiff, Nat.reduceSub, Nat.reduceMul, ↓reduceIte, reduceCtorEq, w_app_nl]); done) | ((try simp (maxSteps := 1000000) only [go_sem, Int.reduceEq, Int.reduceLT, Int.reduceLE, Int.reduceToNat, Nat.reduceLT, Nat.reduceEqDiff, Nat.reduceAdd, Nat.reduceLeDiff, Nat.reduceSub, Nat.reduceMul, ↓reduceIte, reduceCtorEq, w_app_nl]); rfl) | ((try simp (maxSteps := 1000000) (disch := omega) only [go_sem, Int.reduceEq, Int.reduceLT, Int.reduceLE, Int.reduceToNat, Nat.reduceLT, Nat.reduceEqDiff, Nat.reduceAdd, Nat.reduceLeDiff, Nat.reduceSub, Nat.reduceMul, ↓reduceIte, reduceCtorEq, w_app_nl, wrap_id, w_ite_ne, w_ite_lt]); rfl) | (simp (maxSteps := 1000000) (disch := omega) only [go_sem, Int.reduceEq, Int.reduceLT, Int.reduceLE, Int.reduceToNat, Nat.reduceLT, Nat.reduceEqDiff, Nat.reduceAdd, Nat.reduceLeDiff, Nat.reduceSub, Nat.reduceMul, ↓reduceIte, reduceCtorEq, w_app_nl, wrap_id, w_ite_ne, w_ite_lt]; done)), ?_, (by first | ((try simp (maxSteps := 1000000) only [go_sem, Int.reduceEq, Int.reduceLT, Int.reduceLE, Int.reduceToNat, Nat.reduceLT, Nat.reduceEqDiff, Nat.reduceAdd, Nat.reduceLeDiff, Nat.reduceSub, Nat.reduceMul, ↓reduceIte, reduceCtorEq, w_app_nl]); done) | ((try simp (maxSteps := 1000000) only [go_sem, Int.reduceEq, Int.reduceLT, Int.reduceLE, Int.reduceToNat, Nat.reduceLT, Nat.reduceEqDiff, Nat.reduceAdd, Nat.reduceLeDiff, Nat.reduceSub, Nat.reduceMul, ↓reduceIte, reduceCtorEq, w_app_nl]); rfl) | ((try simp (maxSteps := 1000000) (disch := omega) only [go_sem, Int.reduceEq, Int.reduceLT, Int.reduceLE, Int.reduceToNat, Nat.reduceLT, Nat.reduceEqDiff, Nat.reduceAdd, Nat.reduceLeDiff, Nat.reduceSub, Nat.reduceMul, ↓reduceIte, reduceCtorEq, w_app_nl, wrap_id, w_ite_ne, w_ite_lt]); rfl) | (simp (maxSteps := 1000000) (disch := omega) only [go_sem, Int.reduceEq, Int.reduceLT, Int.reduceLE, Int.reduceToNat, Nat.reduceLT, Nat.reduceEqDiff, Nat.reduceAdd, Nat.reduceLeDiff, Nat.reduceSub, Nat.reduceMul, ↓reduceIte, reduceCtorEq, w_app_nl, wrap_id, w_ite_ne, w_ite_lt]; done)), (by first | ((try simp (maxSteps := 1000000) only [go_sem, Int.reduceEq, Int.reduceLT, Int.reduceLE, Int.reduceToNat, Nat.reduceLT, Nat.reduceEqDiff, Nat.reduceAdd, Nat.reduceLeDiff, Nat.reduceSub, Nat.reduceMul, ↓reduceIte, reduceCtorEq, w_app_nl]); done) | ((try simp (maxSteps := 1000000) only [go_sem, Int.reduceEq, Int.reduceLT, Int.reduceLE, Int.reduceToNat, Nat.reduceLT, Nat.reduceEqDiff, Nat.reduceAdd, Nat.reduceLeDiff, Nat.reduceSub, Nat.reduceMul, ↓reduceIte, reduceCtorEq, w_app_nl]); rfl) | ((try simp (maxSteps := 1000000) (disch := omega) only [go_sem, Int.reduceEq, Int.reduceLT, Int.reduceLE, Int.reduceToNat, Nat.reduceLT, Nat.reduceEqDiff, Nat.reduceAdd, Nat.reduceLeDiff, Nat.reduceSub, Nat.reduceMul, ↓reduceIte, reduceCtorEq, w_app_nl, wrap_id, w_ite_ne, w_ite_lt]); rfl) | (simp (maxSteps := 1000000) (disch := omega) only [go_sem, Int.reduceEq, Int.reduceLT, Int.reduceLE, Int.reduceToNat, Nat.reduceLT, Nat.reduceEqDiff, Nat.reduceAdd, Nat.reduceLeDiff, Nat.reduceSub, Nat.reduceMul, ↓reduceIte, reduceCtorEq, w_app_nl, wrap_id, w_ite_ne, w_ite_lt]; done))⟩
        try simp (disch := omega) only [go_sem, Int.reduceEq, Int.reduceLT, Int.reduceLE, Int.reduceToNat, Nat.reduceLT, Nat.reduceEqDiff, Nat.reduceAdd, Nat.reduceLeDiff, Nat.reduceSub, Nat.reduceMul, ↓reduceIte, reduceCtorEq, wrap_id, w_ite_ne, w_ite_lt, Nat.sub_zero, Nat.sub_self]; exact q1
      · rintro k2 fe2 ob2 m2 c2 hk2 hm2 ⟨h105, w1, w2, w3⟩
        have hm2' : m + 2 ≤ m2 := hm2
        simp (maxSteps := 1000000) only [go_sem, Int.reduceEq, Int.reduceLT, Int.reduceLE, Int.reduceToNat, Nat.reduceLT, Nat.reduceEqDiff, Nat.reduceAdd, Nat.reduceLeDiff, Nat.reduceSub, Nat.reduceMul, ↓reduceIte, reduceCtorEq, w_app_nl, frv] at h105 w1 w2 w3
        try simp (disch := omega) only [go_sem, Int.reduceEq, Int.reduceLT, Int.reduceLE, Int.reduceToNat, Nat.reduceLT, Nat.reduceEqDiff, Nat.reduceAdd, Nat.reduceLeDiff, Nat.reduceSub, Nat.reduceMul, ↓reduceIte, reduceCtorEq, wrap_id, w_ite_ne, w_ite_lt, Nat.sub_zero, Nat.sub_self, h105]
        refine cond_d (fun hlt3 => ?_) (fun hge3 => ?_)
        · have hkk : k2 < 2 := by omega
          obtain ⟨y, Y, hY, hyY, hyl⟩ := hXs k2 hkk
          obtain ⟨hY1, hY2, hY3, hY4⟩ := hyY.one
          try simp (disch := omega) only [go_sem, Int.reduceEq, Int.reduceLT, Int.reduceLE, Int.reduceToNat, Nat.reduceLT, Nat.reduceEqDiff, Nat.reduceAdd, Nat.reduceLeDiff, Nat.reduceSub, Nat.reduceMul, ↓reduceIte, reduceCtorEq, wrap_id, w_ite_ne, w_ite_lt, Nat.sub_zero, Nat.sub_self, h105, hY, hY1, hY2, hY3, hY4, w1, w2, w3]
          refine ⟨by omega, by rw [hLl]; omega, ?_⟩
          have hGs : ∀ i : Nat, i < 3 → ∃ g : Fr, [AV.agg [.int .i64 f.s, .int .i64 f.n, .list 4 (rds f.l)], AV.agg [.int .i64 F.s, .int .i64 F.n, .list 4 (rds F.l)], AV.agg [.int .i64 r.s, .int .i64 fn, .list 4 (rds F.l)]][i]? = some (.agg [.int .i64 g.s, .int .i64 g.n, .list 4 (rds g.l)]) ∧ g.l.length ≤ 1000 := fun i hi => by
            rcases i with _ | _ | _ | i
            · exact ⟨f, rfl, by omega⟩
            · exact ⟨F, rfl, by omega⟩
            · exact ⟨⟨r.s, fn, F.l⟩, rfl, by simp only; omega⟩
            · omega
          have hMl : [AV.agg [.int .i64 f.s, .int .i64 f.n, .list 4 (rds f.l)], AV.agg [.int .i64 F.s, .int .i64 F.n, .list 4 (rds F.l)], AV.agg [.int .i64 r.s, .int .i64 fn, .list 4 (rds F.l)]].length = 3 := rfl
          generalize [AV.agg [.int .i64 f.s, .int .i64 f.n, .list 4 (rds f.l)], AV.agg [.int .i64 F.s, .int .i64 F.n, .list 4 (rds F.l)], AV.agg [.int .i64 r.s, .int .i64 fn, .list 4 (rds F.l)]] = M at *
          refine awp_upG [10, 23, 24, 25, 26, 27, 28, 29, 114, 115, 116, 117, 118, 119, 120, 121, 122, 123, 124, 125, 126, 127, 128, 129, 130, 131, 132, 133, 134, 135, 136, 137, 138, 139, 140, 141, 142, 143, 144, 145, 146, 147] (by kernel_rfl) 3 (fun k e σ => e 114 = .int .i64 k ∧ σ.ob 1 = some ⟨1, 3, 36, false, true, [frv f]⟩ ∧
            σ.ob m = some ⟨c', 3, 36, false, true, [frv F]⟩ ∧ σ.ob (m + 1) = some ⟨c' + 1, 3, 36, false, true, [frv ⟨r.s, fn, F.l⟩]⟩ ∧ σ.ob m2 = some ⟨c2, 3, 28, false, true, [.agg [.int .i64 y.s, .int .i64 y.n, Y]]⟩) ?_ ?_
          · refine ⟨(by first | ((try simp (maxSteps := 1000000) only [go_sem, Int.reduceEq, Int.reduceLT, Int.reduceLE, Int.reduceToNat, Nat.reduceLT, Nat.reduceEqDiff, Nat.reduceAdd, Nat.reduceLeDiff, Nat.reduceSub, Nat.reduceMul, ↓reduceIte, reduceCtorEq, w_app_nl]); done) | ((try simp (maxSteps := 1000000) only [go_sem, Int.reduceEq, Int.reduceLT, Int.reduceLE, Int.reduceToNat, Nat.reduceLT, Nat.reduceEqDiff, Nat.reduceAdd, Nat.reduceLeDiff, Nat.reduceSub, Nat.reduceMul, ↓reduceIte, reduceCtorEq, w_app_nl]); rfl) | ((try simp (maxSteps := 1000000) (disch := omega) only [go_sem, Int.reduceEq, Int.reduceLT, Int.reduceLE, Int.reduceToNat, Nat.reduceLT, Nat.reduceEqDiff, Nat.reduceAdd, Nat.reduceLeDiff, Nat.reduceSub, Nat.reduceMul, ↓reduceIte, reduceCtorEq, w_app_nl, wrap_id, w_ite_ne, w_ite_lt]); rfl) | (simp (maxSteps := 1000000) (disch := omega) only [go_sem, Int.reduceEq, Int.reduceLT, Int.reduceLE, Int.reduceToNat, Nat.reduceLT, Nat.reduceEqDiff, Nat.reduceAdd, Nat.reduceLeDiff, Nat.reduceSub, Nat.reduceMul, ↓reduceIte, reduceCtorEq, w_app_nl, wrap_id, w_ite_ne, w_ite_lt]; done)), ?_, ?_, ?_, (by first | ((try simp (maxSteps := 1000000) only [go_sem, Int.reduceEq, Int.reduceLT, Int.reduceLE, Int.reduceToNat, Nat.reduceLT, Nat.reduceEqDiff, Nat.reduceAdd, Nat.reduceLeDiff, Nat.reduceSub, Nat.reduceMul, ↓reduceIte, reduceCtorEq, w_app_nl]); done) | ((try simp (maxSteps := 1000000) only [go_sem, Int.reduceEq, Int.reduceLT, Int.reduceLE, Int.reduceToNat, Nat.reduceLT, Nat.reduceEqDiff, Nat.reduceAdd, Nat.reduceLeDiff, Nat.reduceSub, Nat.reduceMul, ↓reduceIte, reduceCtorEq, w_app_nl]); rfl) | ((try simp (maxSteps := 1000000) (disch := omega) only [go_sem, Int.reduceEq, Int.reduceLT, Int.reduceLE, Int.reduceToNat, Nat.reduceLT, Nat.reduceEqDiff, Nat.reduceAdd, Nat.reduceLeDiff, Nat.reduceSub, Nat.reduceMul, ↓reduceIte, reduceCtorEq, w_app_nl, wrap_id, w_ite_ne, w_ite_lt]); rfl) | (simp (maxSteps := 1000000) (disch := omega) only [go_sem, Int.reduceEq, Int.reduceLT, Int.reduceLE, Int.reduceToNat, Nat.reduceLT, Nat.reduceEqDiff, Nat.reduceAdd, Nat.reduceLeDiff, Nat.reduceSub, Nat.reduceMul, ↓reduceIte, reduceCtorEq, w_app_nl, wrap_id, w_ite_ne, w_ite_lt]; done))⟩
            · try simp (disch := omega) only [go_sem, Int.reduceEq, Int.reduceLT, Int.reduceLE, Int.reduceToNat, Nat.reduceLT, Nat.reduceEqDiff, Nat.reduceAdd, Nat.reduceLeDiff, Nat.reduceSub, Nat.reduceMul, ↓reduceIte, reduceCtorEq, wrap_id, w_ite_ne, w_ite_lt, Nat.sub_zero, Nat.sub_self]; exact w1
            · try simp (disch := omega) only [go_sem, Int.reduceEq, Int.reduceLT, Int.reduceLE, Int.reduceToNat, Nat.reduceLT, Nat.reduceEqDiff, Nat.reduceAdd, Nat.reduceLeDiff, Nat.reduceSub, Nat.reduceMul, ↓reduceIte, reduceCtorEq, wrap_id, w_ite_ne, w_ite_lt, Nat.sub_zero, Nat.sub_self]; exact w2
            · try simp (disch := omega) only [go_sem, Int.reduceEq, Int.reduceLT, Int.reduceLE, Int.reduceToNat, Nat.reduceLT, Nat.reduceEqDiff, Nat.reduceAdd, Nat.reduceLeDiff, Nat.reduceSub, Nat.reduceMul, ↓reduceIte, reduceCtorEq, wrap_id, w_ite_ne, w_ite_lt, Nat.sub_zero, Nat.sub_self]; exact w3
          · rintro k3 fe3 ob3 m3 c3 hk3 hm3' ⟨h114, v1, v2, v3, v4⟩
            have hm3 : m2 + 1 ≤ m3 := hm3'
            simp (maxSteps := 1000000) only [go_sem, Int.reduceEq, Int.reduceLT, Int.reduceLE, Int.reduceToNat, Nat.reduceLT, Nat.reduceEqDiff, Nat.reduceAdd, Nat.reduceLeDiff, Nat.reduceSub, Nat.reduceMul, ↓reduceIte, reduceCtorEq, w_app_nl, frv] at h114 v1 v2 v3 v4
            try simp (disch := omega) only [go_sem, Int.reduceEq, Int.reduceLT, Int.reduceLE, Int.reduceToNat, Nat.reduceLT, Nat.reduceEqDiff, Nat.reduceAdd, Nat.reduceLeDiff, Nat.reduceSub, Nat.reduceMul, ↓reduceIte, reduceCtorEq, wrap_id, w_ite_ne, w_ite_lt, Nat.sub_zero, Nat.sub_self, h114]
            refine cond_d (fun hlt4 => ?_) (fun hge4 => ?_)
            · have hk3' : k3 < 3 := by omega
              obtain ⟨g, hg, hgl⟩ := hGs k3 hk3'
              try simp (disch := omega) only [go_sem, Int.reduceEq, Int.reduceLT, Int.reduceLE, Int.reduceToNat, Nat.reduceLT, Nat.reduceEqDiff, Nat.reduceAdd, Nat.reduceLeDiff, Nat.reduceSub, Nat.reduceMul, ↓reduceIte, reduceCtorEq, wrap_id, w_ite_ne, w_ite_lt, Nat.sub_zero, Nat.sub_self, h114, hg, v1, v2, v3, v4, hY1, hY2, hY3, hY4]
              refine ⟨by omega, by rw [hMl]; omega, ?_⟩
              refine call_pc (pc_nl (ok_telemetry_Take y g (by omega) (by omega)) (.cons hyY.nl (.cons .rfl .nil))) (by simp [go_sem, hY3]) ?_
              try simp (disch := omega) only [go_sem, Int.reduceEq, Int.reduceLT, Int.reduceLE, Int.reduceToNat, Nat.reduceLT, Nat.reduceEqDiff, Nat.reduceAdd, Nat.reduceLeDiff, Nat.reduceSub, Nat.reduceMul, ↓reduceIte, reduceCtorEq, wrap_id, w_ite_ne, w_ite_lt, Nat.sub_zero, Nat.sub_self, rcv, v1, v2, v3, v4, hY1, hY2, hY3, hY4]
              refine call_pc (pc_nl (ok_ref28_Take y g (by omega) (by omega)) (.cons hyY.nl (.cons .rfl .nil))) (by simp [go_sem, hY3]) ?_
              obtain ⟨ht1, ht2⟩ := takeR_len y g hyl hgl
              generalize takeR y g = T at *
              obtain ⟨T1, T2, T3⟩ := T
              simp only at ht1 ht2
              try simp (disch := omega) only [go_sem, Int.reduceEq, Int.reduceLT, Int.reduceLE, Int.reduceToNat, Nat.reduceLT, Nat.reduceEqDiff, Nat.reduceAdd, Nat.reduceLeDiff, Nat.reduceSub, Nat.reduceMul, ↓reduceIte, reduceCtorEq, wrap_id, w_ite_ne, w_ite_lt, Nat.sub_zero, Nat.sub_self, rcv, v1, v2, v3, v4, hY1, hY2, hY3, hY4]
              refine call_pc (ok_ref28_SameReadings T2 T2 (by omega)) (by simp [go_sem]) ?_
              try simp (disch := omega) only [go_sem, Int.reduceEq, Int.reduceLT, Int.reduceLE, Int.reduceToNat, Nat.reduceLT, Nat.reduceEqDiff, Nat.reduceAdd, Nat.reduceLeDiff, Nat.reduceSub, Nat.reduceMul, ↓reduceIte, reduceCtorEq, wrap_id, w_ite_ne, w_ite_lt, Nat.sub_zero, Nat.sub_self, decide_true, rcv]
              refine call_pc (ok_ref28_Same T1 T1 (by omega)) (by simp [go_sem, rcv]) ?_
              try simp (disch := omega) only [go_sem, Int.reduceEq, Int.reduceLT, Int.reduceLE, Int.reduceToNat, Nat.reduceLT, Nat.reduceEqDiff, Nat.reduceAdd, Nat.reduceLeDiff, Nat.reduceSub, Nat.reduceMul, ↓reduceIte, reduceCtorEq, wrap_id, w_ite_ne, w_ite_lt, Nat.sub_zero, Nat.sub_self, decide_true, h114]
              refine up_nextG (m2 + 1) hk3' (by omega) ⟨by try simp (disch := omega) only [go_sem, Int.reduceEq, Int.reduceLT, Int.reduceLE, Int.reduceToNat, Nat.reduceLT, Nat.reduceEqDiff, Nat.reduceAdd, Nat.reduceLeDiff, Nat.reduceSub, Nat.reduceMul, ↓reduceIte, reduceCtorEq, wrap_id, w_ite_ne, w_ite_lt, Nat.sub_zero, Nat.sub_self]; rfl, ?_, ?_, ?_, ?_⟩
              · try simp (disch := omega) only [go_sem, Int.reduceEq, Int.reduceLT, Int.reduceLE, Int.reduceToNat, Nat.reduceLT, Nat.reduceEqDiff, Nat.reduceAdd, Nat.reduceLeDiff, Nat.reduceSub, Nat.reduceMul, ↓reduceIte, reduceCtorEq, wrap_id, w_ite_ne, w_ite_lt, Nat.sub_zero, Nat.sub_self]; exact v1
              · try simp (disch := omega) only [go_sem, Int.reduceEq, Int.reduceLT, Int.reduceLE, Int.reduceToNat, Nat.reduceLT, Nat.reduceEqDiff, Nat.reduceAdd, Nat.reduceLeDiff, Nat.reduceSub, Nat.reduceMul, ↓reduceIte, reduceCtorEq, wrap_id, w_ite_ne, w_ite_lt, Nat.sub_zero, Nat.sub_self]; exact v2
              · try simp (disch := omega) only [go_sem, Int.reduceEq, Int.reduceLT, Int.reduceLE, Int.reduceToNat, Nat.reduceLT, Nat.reduceEqDiff, Nat.reduceAdd, Nat.reduceLeDiff, Nat.reduceSub, Nat.reduceMul, ↓reduceIte, reduceCtorEq, wrap_id, w_ite_ne, w_ite_lt, Nat.sub_zero, Nat.sub_self]; exact v3
              · try simp (disch := omega) only [go_sem, Int.reduceEq, Int.reduceLT, Int.reduceLE, Int.reduceToNat, Nat.reduceLT, Nat.reduceEqDiff, Nat.reduceAdd, Nat.reduceLeDiff, Nat.reduceSub, Nat.reduceMul, ↓reduceIte, reduceCtorEq, wrap_id, w_ite_ne, w_ite_lt, Nat.sub_zero, Nat.sub_self]; exact v4
            · try simp (disch := omega) only [go_sem, Int.reduceEq, Int.reduceLT, Int.reduceLE, Int.reduceToNat, Nat.reduceLT, Nat.reduceEqDiff, Nat.reduceAdd, Nat.reduceLeDiff, Nat.reduceSub, Nat.reduceMul, ↓reduceIte, reduceCtorEq, wrap_id, w_ite_ne, w_ite_lt, Nat.sub_zero, Nat.sub_self, v4, hY1, hY2, hY3, hY4]
              refine call_pc (ok_mk_Mod most 5 (by omega) (by omega)) (by simp [go_sem]) ?_
              try simp (disch := omega) only [go_sem, Int.reduceEq, Int.reduceLT, Int.reduceLE, Int.reduceToNat, Nat.reduceLT, Nat.reduceEqDiff, Nat.reduceAdd, Nat.reduceLeDiff, Nat.reduceSub, Nat.reduceMul, ↓reduceIte, reduceCtorEq, wrap_id, w_ite_ne, w_ite_lt, Nat.sub_zero, Nat.sub_self]
              have hNs : ∀ i : Nat, i < 2 → ∃ x : Int, [AV.int .i64 most, AV.int .i64 (most % 5)][i]? = some (.int .i64 x) := fun i hi => by
                rcases i with _ | _ | i
                · exact ⟨_, rfl⟩
                · exact ⟨_, rfl⟩
                · omega
              have hNl : [AV.int .i64 most, AV.int .i64 (most % 5)].length = 2 := rfl
              generalize [AV.int .i64 most, AV.int .i64 (most % 5)] = N at *
              refine awp_upG [10, 31, 32, 33, 34, 35, 153, 154, 155, 156, 157, 158, 159, 160, 161, 162, 163, 164, 165, 166, 167, 168, 169, 170, 171, 172, 173, 174, 175, 176, 177, 178, 179, 180] (by kernel_rfl) 2 (fun k e σ => e 153 = .int .i64 k ∧ σ.ob 1 = some ⟨1, 3, 36, false, true, [frv f]⟩ ∧
                σ.ob m = some ⟨c', 3, 36, false, true, [frv F]⟩ ∧ σ.ob (m + 1) = some ⟨c' + 1, 3, 36, false, true, [frv ⟨r.s, fn, F.l⟩]⟩ ∧ σ.ob m2 = some ⟨c2, 3, 28, false, true, [.agg [.int .i64 y.s, .int .i64 y.n, Y]]⟩) ?_ ?_
              · refine ⟨(by first | ((try simp (maxSteps := 1000000) only [go_sem, Int.reduceEq, Int.reduceLT, Int.reduceLE, Int.reduceToNat, Nat.reduceLT, Nat.reduceEqDiff, Nat.reduceAdd, Nat.reduceLeDiff, Nat.reduceSub, Nat.reduceMul, ↓reduceIte, reduceCtorEq, w_app_nl]); done) | ((try simp (maxSteps := 1000000) only [go_sem, Int.reduceEq, Int.reduceLT, Int.reduceLE, Int.reduceToNat, Nat.reduceLT, Nat.reduceEqDiff, Nat.reduceAdd, Nat.reduceLeDiff, Nat.reduceSub, Nat.reduceMul, ↓reduceIte, reduceCtorEq, w_app_nl]); rfl) | ((try simp (maxSteps := 1000000) (disch := omega) only [go_sem, Int.reduceEq, Int.reduceLT, Int.reduceLE, Int.reduceToNat, Nat.reduceLT, Nat.reduceEqDiff, Nat.reduceAdd, Nat.reduceLeDiff, Nat.reduceSub, Nat.reduceMul, ↓reduceIte, reduceCtorEq, w_app_nl, wrap_id, w_ite_ne, w_ite_lt]); rfl) | (simp (maxSteps := 1000000) (disch := omega) only [go_sem, Int.reduceEq, Int.reduceLT, Int.reduceLE, Int.reduceToNat, Nat.reduceLT, Nat.reduceEqDiff, Nat.reduceAdd, Nat.reduceLeDiff, Nat.reduceSub, Nat.reduceMul, ↓reduceIte, reduceCtorEq, w_app_nl, wrap_id, w_ite_ne, w_ite_lt]; done)), ?_, ?_, ?_, ?_⟩
                · try simp (disch := omega) only [go_sem, Int.reduceEq, Int.reduceLT, Int.reduceLE, Int.reduceToNat, Nat.reduceLT, Nat.reduceEqDiff, Nat.reduceAdd, Nat.reduceLeDiff, Nat.reduceSub, Nat.reduceMul, ↓reduceIte, reduceCtorEq, wrap_id, w_ite_ne, w_ite_lt, Nat.sub_zero, Nat.sub_self]; exact v1
                · try simp (disch := omega) only [go_sem, Int.reduceEq, Int.reduceLT, Int.reduceLE, Int.reduceToNat, Nat.reduceLT, Nat.reduceEqDiff, Nat.reduceAdd, Nat.reduceLeDiff, Nat.reduceSub, Nat.reduceMul, ↓reduceIte, reduceCtorEq, wrap_id, w_ite_ne, w_ite_lt, Nat.sub_zero, Nat.sub_self]; exact v2
                · try simp (disch := omega) only [go_sem, Int.reduceEq, Int.reduceLT, Int.reduceLE, Int.reduceToNat, Nat.reduceLT, Nat.reduceEqDiff, Nat.reduceAdd, Nat.reduceLeDiff, Nat.reduceSub, Nat.reduceMul, ↓reduceIte, reduceCtorEq, wrap_id, w_ite_ne, w_ite_lt, Nat.sub_zero, Nat.sub_self]; exact v3
                · try simp (disch := omega) only [go_sem, Int.reduceEq, Int.reduceLT, Int.reduceLE, Int.reduceToNat, Nat.reduceLT, Nat.reduceEqDiff, Nat.reduceAdd, Nat.reduceLeDiff, Nat.reduceSub, Nat.reduceMul, ↓reduceIte, reduceCtorEq, wrap_id, w_ite_ne, w_ite_lt, Nat.sub_zero, Nat.sub_self]; exact v4
              · clear v1 v2 v3 v4
                rintro k4 fe4 ob4 m4 c4 hk4 hm4' ⟨h153, v1, v2, v3, v4⟩
                have hm44 : m3 ≤ m4 := hm4'
                simp (maxSteps := 1000000) only [go_sem, Int.reduceEq, Int.reduceLT, Int.reduceLE, Int.reduceToNat, Nat.reduceLT, Nat.reduceEqDiff, Nat.reduceAdd, Nat.reduceLeDiff, Nat.reduceSub, Nat.reduceMul, ↓reduceIte, reduceCtorEq, w_app_nl, frv] at h153 v1 v2 v3 v4
                try simp (disch := omega) only [go_sem, Int.reduceEq, Int.reduceLT, Int.reduceLE, Int.reduceToNat, Nat.reduceLT, Nat.reduceEqDiff, Nat.reduceAdd, Nat.reduceLeDiff, Nat.reduceSub, Nat.reduceMul, ↓reduceIte, reduceCtorEq, wrap_id, w_ite_ne, w_ite_lt, Nat.sub_zero, Nat.sub_self, h153]
                refine cond_d (fun hlt5 => ?_) (fun hge5 => ?_)
                · have hk4' : k4 < 2 := by omega
                  obtain ⟨x, hx⟩ := hNs k4 hk4'
                  try simp (disch := omega) only [go_sem, Int.reduceEq, Int.reduceLT, Int.reduceLE, Int.reduceToNat, Nat.reduceLT, Nat.reduceEqDiff, Nat.reduceAdd, Nat.reduceLeDiff, Nat.reduceSub, Nat.reduceMul, ↓reduceIte, reduceCtorEq, wrap_id, w_ite_ne, w_ite_lt, Nat.sub_zero, Nat.sub_self, h153, hx, v1, v2, v3, v4, hY1, hY2, hY3, hY4]
                  refine ⟨by omega, by rw [hNl]; omega, ?_⟩
                  refine call_pc (pc_nl (ok_telemetry_Ask y x (by omega)) (.cons hyY.nl (.cons .rfl .nil))) (by simp [go_sem, hY3]) ?_
                  try simp (disch := omega) only [go_sem, Int.reduceEq, Int.reduceLT, Int.reduceLE, Int.reduceToNat, Nat.reduceLT, Nat.reduceEqDiff, Nat.reduceAdd, Nat.reduceLeDiff, Nat.reduceSub, Nat.reduceMul, ↓reduceIte, reduceCtorEq, wrap_id, w_ite_ne, w_ite_lt, Nat.sub_zero, Nat.sub_self, v1, v2, v3, v4, hY1, hY2, hY3, hY4]
                  refine call_pc (pc_nl (ok_ref28_Ask y x (by omega)) (.cons hyY.nl (.cons .rfl .nil))) (by simp [go_sem, hY3]) ?_
                  have hal : (askR y x).1.length ≤ 1000 := by
                    unfold askR
                    repeat' split
                    all_goals simp
                    omega
                  generalize askR y x = T at *
                  obtain ⟨T1, T2⟩ := T
                  simp only at hal
                  try simp (disch := omega) only [go_sem, Int.reduceEq, Int.reduceLT, Int.reduceLE, Int.reduceToNat, Nat.reduceLT, Nat.reduceEqDiff, Nat.reduceAdd, Nat.reduceLeDiff, Nat.reduceSub, Nat.reduceMul, ↓reduceIte, reduceCtorEq, wrap_id, w_ite_ne, w_ite_lt, Nat.sub_zero, Nat.sub_self, rcv, v1, v2, v3, v4, hY1, hY2, hY3, hY4]
                  refine call_pc (ok_ref28_Same ⟨0, 0, T1⟩ ⟨0, 0, T1⟩ (by simp only; omega)) (by simp [go_sem, rcv]) ?_
                  try simp (disch := omega) only [go_sem, Int.reduceEq, Int.reduceLT, Int.reduceLE, Int.reduceToNat, Nat.reduceLT, Nat.reduceEqDiff, Nat.reduceAdd, Nat.reduceLeDiff, Nat.reduceSub, Nat.reduceMul, ↓reduceIte, reduceCtorEq, wrap_id, w_ite_ne, w_ite_lt, Nat.sub_zero, Nat.sub_self, decide_true, h153]
                  refine up_nextG m3 hk4' (by omega) ⟨by try simp (disch := omega) only [go_sem, Int.reduceEq, Int.reduceLT, Int.reduceLE, Int.reduceToNat, Nat.reduceLT, Nat.reduceEqDiff, Nat.reduceAdd, Nat.reduceLeDiff, Nat.reduceSub, Nat.reduceMul, ↓reduceIte, reduceCtorEq, wrap_id, w_ite_ne, w_ite_lt, Nat.sub_zero, Nat.sub_self]; rfl, ?_, ?_, ?_, ?_⟩
                  · try simp (disch := omega) only [go_sem, Int.reduceEq, Int.reduceLT, Int.reduceLE, Int.reduceToNat, Nat.reduceLT, Nat.reduceEqDiff, Nat.reduceAdd, Nat.reduceLeDiff, Nat.reduceSub, Nat.reduceMul, ↓reduceIte, reduceCtorEq, wrap_id, w_ite_ne, w_ite_lt, Nat.sub_zero, Nat.sub_self]; exact v1
                  · try simp (disch := omega) only [go_sem, Int.reduceEq, Int.reduceLT, Int.reduceLE, Int.reduceToNat, Nat.reduceLT, Nat.reduceEqDiff, Nat.reduceAdd, Nat.reduceLeDiff, Nat.reduceSub, Nat.reduceMul, ↓reduceIte, reduceCtorEq, wrap_id, w_ite_ne, w_ite_lt, Nat.sub_zero, Nat.sub_self]; exact v2
                  · try simp (disch := omega) only [go_sem, Int.reduceEq, Int.reduceLT, Int.reduceLE, Int.reduceToNat, Nat.reduceLT, Nat.reduceEqDiff, Nat.reduceAdd, Nat.reduceLeDiff, Nat.reduceSub, Nat.reduceMul, ↓reduceIte, reduceCtorEq, wrap_id, w_ite_ne, w_ite_lt, Nat.sub_zero, Nat.sub_self]; exact v3
                  · try simp (disch := omega) only [go_sem, Int.reduceEq, Int.reduceLT, Int.reduceLE, Int.reduceToNat, Nat.reduceLT, Nat.reduceEqDiff, Nat.reduceAdd, Nat.reduceLeDiff, Nat.reduceSub, Nat.reduceMul, ↓reduceIte, reduceCtorEq, wrap_id, w_ite_ne, w_ite_lt, Nat.sub_zero, Nat.sub_self]; exact v4
                · try simp (disch := omega) only [go_sem, Int.reduceEq, Int.reduceLT, Int.reduceLE, Int.reduceToNat, Nat.reduceLT, Nat.reduceEqDiff, Nat.reduceAdd, Nat.reduceLeDiff, Nat.reduceSub, Nat.reduceMul, ↓reduceIte, reduceCtorEq, wrap_id, w_ite_ne, w_ite_lt, Nat.sub_zero, Nat.sub_self, v4, hY1, hY2, hY3, hY4]
                  refine call_pc (pc_nl (ok_telemetry_GiveUp y number (by omega)) (.cons hyY.nl (.cons .rfl .nil))) (by simp [go_sem, hY3]) ?_
                  try simp (disch := omega) only [go_sem, Int.reduceEq, Int.reduceLT, Int.reduceLE, Int.reduceToNat, Nat.reduceLT, Nat.reduceEqDiff, Nat.reduceAdd, Nat.reduceLeDiff, Nat.reduceSub, Nat.reduceMul, ↓reduceIte, reduceCtorEq, wrap_id, w_ite_ne, w_ite_lt, Nat.sub_zero, Nat.sub_self, rcv, v1, v2, v3, v4, hY1, hY2, hY3, hY4]
                  refine call_pc (pc_nl (ok_ref28_GiveUp y number (by omega)) (.cons hyY.nl (.cons .rfl .nil))) (by simp [go_sem, hY3]) ?_
                  have hal : (giveR y number).1.m.length ≤ 1000 := by
                    unfold giveR
                    split
                    · exact Nat.le_trans (List.length_filter_le _ _) (by omega)
                    · simp
                  generalize giveR y number = T at *
                  obtain ⟨T1, T2⟩ := T
                  simp only at hal
                  try simp (disch := omega) only [go_sem, Int.reduceEq, Int.reduceLT, Int.reduceLE, Int.reduceToNat, Nat.reduceLT, Nat.reduceEqDiff, Nat.reduceAdd, Nat.reduceLeDiff, Nat.reduceSub, Nat.reduceMul, ↓reduceIte, reduceCtorEq, wrap_id, w_ite_ne, w_ite_lt, Nat.sub_zero, Nat.sub_self, rcv, v1, v2, v3, v4, hY1, hY2, hY3, hY4]
                  refine call_pc (ok_ref28_Same T1 T1 (by omega)) (by simp [go_sem, rcv]) ?_
                  try simp (disch := omega) only [go_sem, Int.reduceEq, Int.reduceLT, Int.reduceLE, Int.reduceToNat, Nat.reduceLT, Nat.reduceEqDiff, Nat.reduceAdd, Nat.reduceLeDiff, Nat.reduceSub, Nat.reduceMul, ↓reduceIte, reduceCtorEq, wrap_id, w_ite_ne, w_ite_lt, Nat.sub_zero, Nat.sub_self, decide_true, v1, v2, v3, v4, hY1, hY2, hY3, hY4]
                  refine call_pc (pc_nl (ok_telemetry_Check y (by omega)) (.cons hyY.nl .nil)) (by simp [go_sem, hY3]) ?_
                  try simp (disch := omega) only [go_sem, Int.reduceEq, Int.reduceLT, Int.reduceLE, Int.reduceToNat, Nat.reduceLT, Nat.reduceEqDiff, Nat.reduceAdd, Nat.reduceLeDiff, Nat.reduceSub, Nat.reduceMul, ↓reduceIte, reduceCtorEq, wrap_id, w_ite_ne, w_ite_lt, Nat.sub_zero, Nat.sub_self, decide_true, v1, v2, v3, v4, hY1, hY2, hY3, hY4]
                  refine call_pc (pc_nl (ok_ref28_Check y (by omega)) (.cons hyY.nl .nil)) (by simp [go_sem, hY3]) ?_
                  try simp (disch := omega) only [go_sem, Int.reduceEq, Int.reduceLT, Int.reduceLE, Int.reduceToNat, Nat.reduceLT, Nat.reduceEqDiff, Nat.reduceAdd, Nat.reduceLeDiff, Nat.reduceSub, Nat.reduceMul, ↓reduceIte, reduceCtorEq, wrap_id, w_ite_ne, w_ite_lt, Nat.sub_zero, Nat.sub_self, decide_true, h105]
                  refine up_nextG (m + 2) hkk (by omega) ⟨by try simp (disch := omega) only [go_sem, Int.reduceEq, Int.reduceLT, Int.reduceLE, Int.reduceToNat, Nat.reduceLT, Nat.reduceEqDiff, Nat.reduceAdd, Nat.reduceLeDiff, Nat.reduceSub, Nat.reduceMul, ↓reduceIte, reduceCtorEq, wrap_id, w_ite_ne, w_ite_lt, Nat.sub_zero, Nat.sub_self]; rfl, ?_, ?_, ?_⟩
                  · try simp (disch := omega) only [go_sem, Int.reduceEq, Int.reduceLT, Int.reduceLE, Int.reduceToNat, Nat.reduceLT, Nat.reduceEqDiff, Nat.reduceAdd, Nat.reduceLeDiff, Nat.reduceSub, Nat.reduceMul, ↓reduceIte, reduceCtorEq, wrap_id, w_ite_ne, w_ite_lt, Nat.sub_zero, Nat.sub_self]; exact v1
                  · try simp (disch := omega) only [go_sem, Int.reduceEq, Int.reduceLT, Int.reduceLE, Int.reduceToNat, Nat.reduceLT, Nat.reduceEqDiff, Nat.reduceAdd, Nat.reduceLeDiff, Nat.reduceSub, Nat.reduceMul, ↓reduceIte, reduceCtorEq, wrap_id, w_ite_ne, w_ite_lt, Nat.sub_zero, Nat.sub_self]; exact v2
                  · try simp (disch := omega) only [go_sem, Int.reduceEq, Int.reduceLT, Int.reduceLE, Int.reduceToNat, Nat.reduceLT, Nat.reduceEqDiff, Nat.reduceAdd, Nat.reduceLeDiff, Nat.reduceSub, Nat.reduceMul, ↓reduceIte, reduceCtorEq, wrap_id, w_ite_ne, w_ite_lt, Nat.sub_zero, Nat.sub_self]; exact v3
        · try simp (disch := omega) only [go_sem, Int.reduceEq, Int.reduceLT, Int.reduceLE, Int.reduceToNat, Nat.reduceLT, Nat.reduceEqDiff, Nat.reduceAdd, Nat.reduceLeDiff, Nat.reduceSub, Nat.reduceMul, ↓reduceIte, reduceCtorEq, wrap_id, w_ite_ne, w_ite_lt, Nat.sub_zero, Nat.sub_self]
          exact Pub.of_eq rfl rfl
theorem law_law28_TelemetryTakes {c0 c1 c2 c3 c4 : List AV} (s0 : (Sh.slice 1 (.int .i64)).R c0) (s1 : shRc.R c1) (s2 : shFr.R c2) (s3 : (Sh.int .i64).R c3) (s4 : (Sh.int .i64).R c4) :
    PC prog n_law28_TelemetryTakes [(Sh.slice 1 (.int .i64)).mk1 c0, shRc.mk1 c1, shFr.mk1 c2, (Sh.int .i64).mk1 c3, (Sh.int .i64).mk1 c4] (.bool true) := by
  obtain ⟨l0, rfl, _, _⟩ := shInts s0
  obtain ⟨r, hr, hrl⟩ := shRcs s1
  obtain ⟨F, hF, hl⟩ := shFrs s2
  obtain ⟨a3, rfl, w3⟩ := s3
  obtain ⟨a4, rfl, w4⟩ := s4
  rw [hr, hF]
  exact ok_law28_TelemetryTakes l0 r hrl F hl a3 a4
/-- the numbers below nx that were not yet taken -/
def tkd (p : Nat → Bool) (nx : Nat) : List Int := ((List.range nx).filter fun j => decide (1 ≤ j) && !p j).map fun j : Nat => (j : Int)
def tkn (p : Nat → Bool) (i : Nat) : Nat → Bool := fun j => p j || decide (j = i)
theorem mem_tkd {p : Nat → Bool} {nx i : Nat} : (i : Int) ∈ tkd p nx ↔ i < nx ∧ 1 ≤ i ∧ p i = false := by
  unfold tkd
  simp only [List.mem_map, List.mem_filter, List.mem_range, Bool.and_eq_true, decide_eq_true_eq, Bool.not_eq_true']
  constructor
  · rintro ⟨j, ⟨h1, h2, h3⟩, h4⟩
    have : j = i := by omega
    subst this; exact ⟨h1, h2, h3⟩
  · rintro ⟨h1, h2, h3⟩
    exact ⟨i, ⟨h1, h2, h3⟩, rfl⟩
theorem tkd_length (p : Nat → Bool) (nx : Nat) : (tkd p nx).length ≤ nx := by
  unfold tkd
  rw [List.length_map]
  exact Nat.le_trans (List.length_filter_le _ _) (by simp)
theorem ascB_nat (nx : Int) : ∀ (l : List Nat) (last : Int), l.Pairwise (· < ·) → (∀ x ∈ l, last < (x : Int) ∧ (x : Int) < nx) → ascB nx last (l.map fun j : Nat => (j : Int)) = true
  | [], _, _, _ => rfl
  | x :: l, last, hs, h => by
    rw [List.pairwise_cons] at hs
    have hx := h x (by simp)
    simp only [List.map_cons, ascB, Bool.and_eq_true, decide_eq_true_eq]
    refine ⟨hx, ascB_nat nx l x hs.2 fun y hy => ⟨by have := hs.1 y hy; omega, (h y (by simp [hy])).2⟩⟩
theorem tkd_asc (p : Nat → Bool) (nx : Nat) : ascB nx 0 (tkd p nx) = true := by
  refine ascB_nat _ _ _ (List.Pairwise.filter _ List.pairwise_lt_range) fun x hx => ?_
  simp only [List.mem_filter, List.mem_range, Bool.and_eq_true, decide_eq_true_eq] at hx
  omega
theorem tkd_del (p : Nat → Bool) (nx i : Nat) : (tkd p nx).filter (fun x => !decide (x = (i : Int))) = tkd (tkn p i) nx := by
  unfold tkd
  rw [List.filter_map, List.filter_filter]
  congr 1
  refine List.filter_congr fun j _ => ?_
  simp only [Function.comp, tkn]
  by_cases e : j = i
  · simp [e]
  · have : ¬ (j : Int) = i := by omega
    simp [e, this]
theorem tkd_up {p : Nat → Bool} {nx i : Nat} (hp : ∀ j, p j = true → j < nx) (h1 : 1 ≤ nx) (hi : nx ≤ i) : tkd p nx ++ upto nx i = tkd (tkn p i) (i + 1) := by
  obtain ⟨d, rfl⟩ : ∃ d, i = nx + d := ⟨i - nx, by omega⟩
  unfold tkd upto
  rw [List.range_succ, List.filter_append, List.range_add, List.filter_append, List.map_append, List.map_append]
  have e1 : (List.range nx).filter (fun j => decide (1 ≤ j) && !tkn p (nx + d) j) = (List.range nx).filter (fun j => decide (1 ≤ j) && !p j) := by
    refine List.filter_congr fun j hj => ?_
    rw [List.mem_range] at hj
    have : ¬ j = nx + d := by omega
    simp [tkn, this]
  have e2 : ((List.range d).map (nx + ·)).filter (fun j => decide (1 ≤ j) && !tkn p (nx + d) j) = (List.range d).map (nx + ·) := by
    refine List.filter_eq_self.2 fun j hj => ?_
    obtain ⟨x, hx, rfl⟩ := List.mem_map.1 hj
    rw [List.mem_range] at hx
    have h2 : p (nx + x) = false := by
      cases h3 : p (nx + x)
      · rfl
      · have := hp _ h3; omega
    have h4 : ¬ x = d := by omega
    simp [tkn, h2, h4]; omega
  have e3 : [nx + d].filter (fun j => decide (1 ≤ j) && !tkn p (nx + d) j) = [] := by simp [tkn]
  rw [e1, e2, e3, show ((((nx + d : Nat) : Int) - (nx : Int)).toNat) = d by omega]
  simp
theorem ord_take {p : Nat → Bool} {nx i : Nat} (hnx : nx ≤ 13) (hp : ∀ j, p j = true → 1 ≤ j ∧ j < nx) (h1 : 1 ≤ nx) (hi : 1 ≤ i) (hi2 : i ≤ 12) :
    takeR ⟨0, nx, tkd p nx⟩ ⟨0, i, [⟨0, 0, i, 0⟩]⟩ = if p i then (⟨0, 0, []⟩, [], 46) else (⟨0, (max nx (i + 1) : Nat), tkd (tkn p i) (max nx (i + 1))⟩, [⟨0, 0, i, 0⟩], 0) := by
  have hl := tkd_length p nx
  have ok1 : rcOk ⟨0, nx, tkd p nx⟩ = true := by
    simp only [rcOk, inB, Bool.and_eq_true, decide_eq_true_eq, tkd_asc]
    refine ⟨⟨⟨⟨by omega, by omega⟩, by omega, by omega⟩, by omega⟩, trivial⟩
  have ok2 : frOk ⟨0, i, [⟨0, 0, i, 0⟩]⟩ = true := by
    simp only [frOk, rdOk, inB, List.all_cons, List.all_nil, Bool.and_eq_true, decide_eq_true_eq, List.length_cons, List.length_nil]
    refine ⟨⟨⟨⟨by omega, by omega⟩, by omega, by omega⟩, by omega⟩, ⟨⟨⟨⟨by omega, by omega⟩, by omega, by omega⟩, by omega, by omega⟩, by omega, by omega⟩, trivial⟩
  unfold takeR
  rw [if_pos ok1, if_pos ok2, if_pos rfl]
  by_cases hlt : i < nx
  · rw [if_pos (by simp only; omega)]
    cases hpi : p i
    · rw [if_pos (mem_tkd.2 ⟨hlt, hi, hpi⟩), show max nx (i + 1) = nx by omega]
      simp only [tkd_del]
      rfl
    · rw [if_neg (fun h => by have := (mem_tkd.1 h).2.2; rw [hpi] at this; cases this)]
      rfl
  · have hpi : p i = false := by
      cases h3 : p i
      · rfl
      · have := (hp _ h3).2; omega
    rw [if_neg (by simp only; omega), if_neg (by simp only; omega), hpi, show max nx (i + 1) = i + 1 by omega]
    simp only [tkd_up (fun j hj => (hp j hj).2) h1 (by omega : nx ≤ i)]
    simp
theorem in_take {i : Nat} (hi : 1 ≤ i) (hi2 : i ≤ 12) : takeR ⟨0, i, []⟩ ⟨0, i, [⟨0, 0, i, 0⟩]⟩ = (⟨0, (i + 1 : Nat), []⟩, [⟨0, 0, i, 0⟩], 0) := by
  have ok1 : rcOk ⟨0, i, []⟩ = true := by
    simp only [rcOk, inB, Bool.and_eq_true, decide_eq_true_eq, ascB, List.length_nil]
    refine ⟨⟨⟨⟨by omega, by omega⟩, by omega, by omega⟩, by omega⟩, trivial⟩
  have ok2 : frOk ⟨0, i, [⟨0, 0, i, 0⟩]⟩ = true := by
    simp only [frOk, rdOk, inB, List.all_cons, List.all_nil, Bool.and_eq_true, decide_eq_true_eq, List.length_cons, List.length_nil]
    refine ⟨⟨⟨⟨by omega, by omega⟩, by omega, by omega⟩, by omega⟩, ⟨⟨⟨⟨by omega, by omega⟩, by omega, by omega⟩, by omega, by omega⟩, by omega, by omega⟩, trivial⟩
  unfold takeR
  rw [if_pos ok1, if_pos ok2, if_pos rfl, if_neg (by simp only; omega), if_neg (by simp only [List.length_nil]; omega)]
  simp [upto]
/-- how often each was got -/
def gotL (p : Nat → Bool) (n : Nat) : List AV := (List.range (n + 1)).map fun j => .int .i64 (if p j then 1 else 0)
theorem gotL_length (p : Nat → Bool) (n : Nat) : (gotL p n).length = n + 1 := by simp [gotL]
theorem gotL_get (p : Nat → Bool) (n i : Nat) (h : i ≤ n) : (gotL p n)[i]? = some (.int .i64 (if p i then 1 else 0)) := by
  simp [gotL, List.getElem?_range, Nat.lt_succ_of_le h]
theorem gotL_set (p : Nat → Bool) (n i : Nat) : (gotL p n).set i (.int .i64 1) = gotL (tkn p i) n := by
  refine List.ext_getElem (by simp [gotL]) fun j h1 h2 => ?_
  rw [List.getElem_set]
  by_cases e : i = j
  · subst e; simp [gotL, tkn]
  · have : ¬ j = i := fun h => e h.symm
    simp [gotL, tkn, e, this]
theorem gotL_zero (n : Nat) : List.replicate (n + 1) (AV.int .i64 0) = gotL (fun _ => false) n := by
  refine List.ext_getElem (by simp [gotL]) fun j h1 h2 => ?_
  simp [gotL]
theorem ok_law28_TelemetryOrder (t : List Int) (many : Int) (hm0 : 0 ≤ many ∧ many ≤ 255) :
    PC prog n_law28_TelemetryOrder [.list 1 (ints t), .int .u8 many] (.bool true) := by
  refine PC_of_body b_law28_TelemetryOrder (by simp) ?_
  simp only [c_law28_TelemetryOrder, go_sem, Int.reduceEq, Int.reduceLT, Int.reduceLE, Int.reduceToNat, Nat.reduceLT, Nat.reduceEqDiff, Nat.reduceAdd, Nat.reduceLeDiff, Nat.reduceSub, Nat.reduceMul, ↓reduceIte, reduceCtorEq, w_app_nl]
  refine call_pc ok_law28_sane (by simp) ?_
  try simp (disch := omega) only [go_sem, Int.reduceEq, Int.reduceLT, Int.reduceLE, Int.reduceToNat, Nat.reduceLT, Nat.reduceEqDiff, Nat.reduceAdd, Nat.reduceLeDiff, Nat.reduceSub, Nat.reduceMul, ↓reduceIte, reduceCtorEq, wrap_id, w_ite_ne, w_ite_lt, Nat.sub_zero, Nat.sub_self]
  refine call_pc (ok_mk_Few t) (by simp [go_sem]) ?_
  try simp (disch := omega) only [go_sem, Int.reduceEq, Int.reduceLT, Int.reduceLE, Int.reduceToNat, Nat.reduceLT, Nat.reduceEqDiff, Nat.reduceAdd, Nat.reduceLeDiff, Nat.reduceSub, Nat.reduceMul, ↓reduceIte, reduceCtorEq, wrap_id, w_ite_ne, w_ite_lt, Nat.sub_zero, Nat.sub_self]
  cases hfew : fewB t
  · try simp (disch := omega) only [go_sem, Int.reduceEq, Int.reduceLT, Int.reduceLE, Int.reduceToNat, Nat.reduceLT, Nat.reduceEqDiff, Nat.reduceAdd, Nat.reduceLeDiff, Nat.reduceSub, Nat.reduceMul, ↓reduceIte, reduceCtorEq, wrap_id, w_ite_ne, w_ite_lt, Nat.sub_zero, Nat.sub_self]
    exact Pub.of_eq rfl rfl
  have hlt : t.length ≤ 9223372036854775807 := by simp [fewB] at hfew; omega
  try simp (disch := omega) only [go_sem, Int.reduceEq, Int.reduceLT, Int.reduceLE, Int.reduceToNat, Nat.reduceLT, Nat.reduceEqDiff, Nat.reduceAdd, Nat.reduceLeDiff, Nat.reduceSub, Nat.reduceMul, ↓reduceIte, reduceCtorEq, wrap_id, w_ite_ne, w_ite_lt, Nat.sub_zero, Nat.sub_self]
  refine call_hc (ok_mk_New _ t) ?_
  obtain ⟨n, hq, hn1, hn2⟩ : ∃ n : Nat, many.tmod 12 = (n : Int) - 1 ∧ 1 ≤ n ∧ n ≤ 12 := by
    have q1 := Int.tmod_eq_emod_of_nonneg (b := 12) hm0.1
    exact ⟨(many % 12).toNat + 1, by rw [q1]; omega, by omega, by omega⟩
  have hq2 : 1 + ((n : Int) - 1) = n := by omega
  try simp (disch := omega) only [go_sem, Int.reduceEq, Int.reduceLT, Int.reduceLE, Int.reduceToNat, Nat.reduceLT, Nat.reduceEqDiff, Nat.reduceAdd, Nat.reduceLeDiff, Nat.reduceSub, Nat.reduceMul, ↓reduceIte, reduceCtorEq, wrap_id, w_ite_ne, w_ite_lt, Nat.sub_zero, Nat.sub_self, hq, hq2]
  refine awp_upG [4, 8, 9, 10, 11, 33, 34, 35, 36, 37, 38, 39, 40, 41, 42, 43, 44, 45, 46, 47, 48, 49, 50, 51, 52, 53, 54, 55, 56] (by kernel_rfl) n (fun k e σ => e 8 = .int .i64 ((k : Int) + 1) ∧ σ.ob 0 = some ⟨0, 2, ty_Deck, false, true, [deckV t 0]⟩ ∧
    ∃ X, NlX ⟨0, (k : Int) + 1, []⟩ X ∧ σ.ob 1 = some ⟨1, 3, 28, false, true, [.agg [.int .i64 0, .int .i64 ((k : Int) + 1), X]]⟩) ?_ ?_
  · exact ⟨(by first | ((try simp (maxSteps := 1000000) only [go_sem, Int.reduceEq, Int.reduceLT, Int.reduceLE, Int.reduceToNat, Nat.reduceLT, Nat.reduceEqDiff, Nat.reduceAdd, Nat.reduceLeDiff, Nat.reduceSub, Nat.reduceMul, ↓reduceIte, reduceCtorEq, w_app_nl]); done) | ((try simp (maxSteps := 1000000) only [go_sem, Int.reduceEq, Int.reduceLT, Int.reduceLE, Int.reduceToNat, Nat.reduceLT, Nat.reduceEqDiff, Nat.reduceAdd, Nat.reduceLeDiff, Nat.reduceSub, Nat.reduceMul, ↓reduceIte, reduceCtorEq, w_app_nl]); rfl) | ((try simp (maxSteps := 1000000) (disch := omega) only [go_sem, Int.reduceEq, Int.reduceLT, Int.reduceLE, Int.reduceToNat, Nat.reduceLT, Nat.reduceEqDiff, Nat.reduceAdd, Nat.reduceLeDiff, Nat.reduceSub, Nat.reduceMul, ↓reduceIte, reduceCtorEq, w_app_nl, wrap_id, w_ite_ne, w_ite_lt]); rfl) | (simp (maxSteps := 1000000) (disch := omega) only [go_sem, Int.reduceEq, Int.reduceLT, Int.reduceLE, Int.reduceToNat, Nat.reduceLT, Nat.reduceEqDiff, Nat.reduceAdd, Nat.reduceLeDiff, Nat.reduceSub, Nat.reduceMul, ↓reduceIte, reduceCtorEq, w_app_nl, wrap_id, w_ite_ne, w_ite_lt]; done)), (by first | ((try simp (maxSteps := 1000000) only [go_sem, Int.reduceEq, Int.reduceLT, Int.reduceLE, Int.reduceToNat, Nat.reduceLT, Nat.reduceEqDiff, Nat.reduceAdd, Nat.reduceLeDiff, Nat.reduceSub, Nat.reduceMul, ↓reduceIte, reduceCtorEq, w_app_nl]); done) | ((try simp (maxSteps := 1000000) only [go_sem, Int.reduceEq, Int.reduceLT, Int.reduceLE, Int.reduceToNat, Nat.reduceLT, Nat.reduceEqDiff, Nat.reduceAdd, Nat.reduceLeDiff, Nat.reduceSub, Nat.reduceMul, ↓reduceIte, reduceCtorEq, w_app_nl]); rfl) | ((try simp (maxSteps := 1000000) (disch := omega) only [go_sem, Int.reduceEq, Int.reduceLT, Int.reduceLE, Int.reduceToNat, Nat.reduceLT, Nat.reduceEqDiff, Nat.reduceAdd, Nat.reduceLeDiff, Nat.reduceSub, Nat.reduceMul, ↓reduceIte, reduceCtorEq, w_app_nl, wrap_id, w_ite_ne, w_ite_lt]); rfl) | (simp (maxSteps := 1000000) (disch := omega) only [go_sem, Int.reduceEq, Int.reduceLT, Int.reduceLE, Int.reduceToNat, Nat.reduceLT, Nat.reduceEqDiff, Nat.reduceAdd, Nat.reduceLeDiff, Nat.reduceSub, Nat.reduceMul, ↓reduceIte, reduceCtorEq, w_app_nl, wrap_id, w_ite_ne, w_ite_lt]; done)), .nil, .inr ⟨rfl, rfl⟩, (by first | ((try simp (maxSteps := 1000000) only [go_sem, Int.reduceEq, Int.reduceLT, Int.reduceLE, Int.reduceToNat, Nat.reduceLT, Nat.reduceEqDiff, Nat.reduceAdd, Nat.reduceLeDiff, Nat.reduceSub, Nat.reduceMul, ↓reduceIte, reduceCtorEq, w_app_nl]); done) | ((try simp (maxSteps := 1000000) only [go_sem, Int.reduceEq, Int.reduceLT, Int.reduceLE, Int.reduceToNat, Nat.reduceLT, Nat.reduceEqDiff, Nat.reduceAdd, Nat.reduceLeDiff, Nat.reduceSub, Nat.reduceMul, ↓reduceIte, reduceCtorEq, w_app_nl]); rfl) | ((try simp (maxSteps := 1000000) (disch := omega) only [go_sem, Int.reduceEq, Int.reduceLT, Int.reduceLE, Int.reduceToNat, Nat.reduceLT, Nat.reduceEqDiff, Nat.reduceAdd, Nat.reduceLeDiff, Nat.reduceSub, Nat.reduceMul, ↓reduceIte, reduceCtorEq, w_app_nl, wrap_id, w_ite_ne, w_ite_lt]); rfl) | (simp (maxSteps := 1000000) (disch := omega) only [go_sem, Int.reduceEq, Int.reduceLT, Int.reduceLE, Int.reduceToNat, Nat.reduceLT, Nat.reduceEqDiff, Nat.reduceAdd, Nat.reduceLeDiff, Nat.reduceSub, Nat.reduceMul, ↓reduceIte, reduceCtorEq, w_app_nl, wrap_id, w_ite_ne, w_ite_lt]; done))⟩
  · rintro k fe ob m c hk hm ⟨h8, q0, X, hX, q1⟩
    have hm2 : 2 ≤ m := hm
    obtain ⟨hX1, hX2, hX3, hX4⟩ := hX.one
    simp (maxSteps := 1000000) only [go_sem, Int.reduceEq, Int.reduceLT, Int.reduceLE, Int.reduceToNat, Nat.reduceLT, Nat.reduceEqDiff, Nat.reduceAdd, Nat.reduceLeDiff, Nat.reduceSub, Nat.reduceMul, ↓reduceIte, reduceCtorEq, w_app_nl] at h8 q0 q1
    try simp (disch := omega) only [go_sem, Int.reduceEq, Int.reduceLT, Int.reduceLE, Int.reduceToNat, Nat.reduceLT, Nat.reduceEqDiff, Nat.reduceAdd, Nat.reduceLeDiff, Nat.reduceSub, Nat.reduceMul, ↓reduceIte, reduceCtorEq, wrap_id, w_ite_ne, w_ite_lt, Nat.sub_zero, Nat.sub_self, h8]
    refine cond_d (fun hle => ?_) (fun hgt => ?_)
    · have hkn : k < n := by omega
      try simp (disch := omega) only [go_sem, Int.reduceEq, Int.reduceLT, Int.reduceLE, Int.reduceToNat, Nat.reduceLT, Nat.reduceEqDiff, Nat.reduceAdd, Nat.reduceLeDiff, Nat.reduceSub, Nat.reduceMul, ↓reduceIte, reduceCtorEq, wrap_id, w_ite_ne, w_ite_lt, Nat.sub_zero, Nat.sub_self, h8, q1, hX1, hX2, hX3, hX4]
      refine call_pc (pc_nl (ok_telemetry_Take ⟨0, (k : Int) + 1, []⟩ ⟨0, (k : Int) + 1, [⟨0, 0, (k : Int) + 1, 0⟩]⟩ (by simp) (by simp)) (.cons hX.nl (.cons .rfl .nil))) (by simp [go_sem, hX3, frv, rds, rdv]) ?_
      have hit : takeR ⟨0, (k : Int) + 1, []⟩ ⟨0, (k : Int) + 1, [⟨0, 0, (k : Int) + 1, 0⟩]⟩ = (⟨0, (k : Int) + 1 + 1, []⟩, [⟨0, 0, (k : Int) + 1, 0⟩], 0) := in_take (show 1 ≤ k + 1 by omega) (show k + 1 ≤ 12 by omega)
      try simp (disch := omega) only [go_sem, Int.reduceEq, Int.reduceLT, Int.reduceLE, Int.reduceToNat, Nat.reduceLT, Nat.reduceEqDiff, Nat.reduceAdd, Nat.reduceLeDiff, Nat.reduceSub, Nat.reduceMul, ↓reduceIte, reduceCtorEq, wrap_id, w_ite_ne, w_ite_lt, Nat.sub_zero, Nat.sub_self, hit, rcv, h8, q1, rds, rdv, List.map_cons, List.map_nil, List.length_cons, List.length_nil, hX1, hX2, hX3, hX4]
      refine up_nextG 2 hkn (by simp) ⟨?_, ?_, .list 1 (ints []), .inl rfl, ?_⟩
      · try simp (disch := omega) only [go_sem, Int.reduceEq, Int.reduceLT, Int.reduceLE, Int.reduceToNat, Nat.reduceLT, Nat.reduceEqDiff, Nat.reduceAdd, Nat.reduceLeDiff, Nat.reduceSub, Nat.reduceMul, ↓reduceIte, reduceCtorEq, wrap_id, w_ite_ne, w_ite_lt, Nat.sub_zero, Nat.sub_self]; congr 1
      · try simp (disch := omega) only [go_sem, Int.reduceEq, Int.reduceLT, Int.reduceLE, Int.reduceToNat, Nat.reduceLT, Nat.reduceEqDiff, Nat.reduceAdd, Nat.reduceLeDiff, Nat.reduceSub, Nat.reduceMul, ↓reduceIte, reduceCtorEq, wrap_id, w_ite_ne, w_ite_lt, Nat.sub_zero, Nat.sub_self]; exact q0
      · try simp (disch := omega) only [go_sem, Int.reduceEq, Int.reduceLT, Int.reduceLE, Int.reduceToNat, Nat.reduceLT, Nat.reduceEqDiff, Nat.reduceAdd, Nat.reduceLeDiff, Nat.reduceSub, Nat.reduceMul, ↓reduceIte, reduceCtorEq, wrap_id, w_ite_ne, w_ite_lt, Nat.sub_zero, Nat.sub_self]; rfl
    · have hkn : n = k := by omega
      subst hkn
      clear h8
      have htn : ((n : Int) + 1).toNat = n + 1 := by omega
      try simp (disch := omega) only [go_sem, Int.reduceEq, Int.reduceLT, Int.reduceLE, Int.reduceToNat, Nat.reduceLT, Nat.reduceEqDiff, Nat.reduceAdd, Nat.reduceLeDiff, Nat.reduceSub, Nat.reduceMul, ↓reduceIte, reduceCtorEq, wrap_id, w_ite_ne, w_ite_lt, Nat.sub_zero, Nat.sub_self, htn, gotL_zero]
      refine ⟨by omega, by omega, by omega, ?_⟩
      refine awp_upG [4, 14, 15, 16, 17, 18, 61, 62, 63, 64, 65, 66, 67, 68, 69, 70, 71, 72, 73, 74, 75, 76, 77, 78, 79, 80, 81, 82, 83, 84, 85, 86, 87, 88, 89, 90, 91, 92, 93, 94, 95, 96, 97, 98, 99, 100, 101, 102, 103, 104, 105, 106, 107, 108, 109, 110, 111, 112, 113, 114, 115, 116, 117, 118, 119] (by kernel_rfl) (3 * n) (fun k e σ => e 14 = .int .i64 k ∧ (∃ at', σ.ob 0 = some ⟨0, 2, ty_Deck, false, true, [deckV t at']⟩) ∧
        σ.ob 1 = some ⟨1, 3, 28, false, true, [.agg [.int .i64 0, .int .i64 ((n : Int) + 1), X]]⟩ ∧
        ∃ (p : Nat → Bool) (nx : Nat) (Y : AV), NlX ⟨0, nx, tkd p nx⟩ Y ∧ σ.ob m = some ⟨c, 3, 28, false, true, [.agg [.int .i64 0, .int .i64 nx, Y]]⟩ ∧
          σ.ob (m + 1) = some ⟨c + 1, 1, 3, false, true, gotL p n⟩ ∧ (∀ j, p j = true → 1 ≤ j ∧ j < nx) ∧ 1 ≤ nx ∧ nx ≤ n + 1 ∧ ∀ j, 1 ≤ j → j + 2 * n ≤ k → p j = true) ?_ ?_
      · refine ⟨(by first | ((try simp (maxSteps := 1000000) only [go_sem, Int.reduceEq, Int.reduceLT, Int.reduceLE, Int.reduceToNat, Nat.reduceLT, Nat.reduceEqDiff, Nat.reduceAdd, Nat.reduceLeDiff, Nat.reduceSub, Nat.reduceMul, ↓reduceIte, reduceCtorEq, w_app_nl]); done) | ((try simp (maxSteps := 1000000) only [go_sem, Int.reduceEq, Int.reduceLT, Int.reduceLE, Int.reduceToNat, Nat.reduceLT, Nat.reduceEqDiff, Nat.reduceAdd, Nat.reduceLeDiff, Nat.reduceSub, Nat.reduceMul, ↓reduceIte, reduceCtorEq, w_app_nl]); rfl) | ((try simp (maxSteps := 1000000) (disch := omega) only [go_sem, Int.reduceEq, Int.reduceLT, Int.reduceLE, Int.reduceToNat, Nat.reduceLT, Nat.reduceEqDiff, Nat.reduceAdd, Nat.reduceLeDiff, Nat.reduceSub, Nat.reduceMul, ↓reduceIte, reduceCtorEq, w_app_nl, wrap_id, w_ite_ne, w_ite_lt]); rfl) | (simp (maxSteps := 1000000) (disch := omega) only [go_sem, Int.reduceEq, Int.reduceLT, Int.reduceLE, Int.reduceToNat, Nat.reduceLT, Nat.reduceEqDiff, Nat.reduceAdd, Nat.reduceLeDiff, Nat.reduceSub, Nat.reduceMul, ↓reduceIte, reduceCtorEq, w_app_nl, wrap_id, w_ite_ne, w_ite_lt]; done)), ⟨0, ?_⟩, ?_, fun _ => false, 1, .nil, .inr ⟨rfl, rfl⟩, ?_, ?_, by simp, by omega, by omega, fun j h1 h2 => by omega⟩
        · try simp (disch := omega) only [go_sem, Int.reduceEq, Int.reduceLT, Int.reduceLE, Int.reduceToNat, Nat.reduceLT, Nat.reduceEqDiff, Nat.reduceAdd, Nat.reduceLeDiff, Nat.reduceSub, Nat.reduceMul, ↓reduceIte, reduceCtorEq, wrap_id, w_ite_ne, w_ite_lt, Nat.sub_zero, Nat.sub_self]; exact q0
        · try simp (disch := omega) only [go_sem, Int.reduceEq, Int.reduceLT, Int.reduceLE, Int.reduceToNat, Nat.reduceLT, Nat.reduceEqDiff, Nat.reduceAdd, Nat.reduceLeDiff, Nat.reduceSub, Nat.reduceMul, ↓reduceIte, reduceCtorEq, wrap_id, w_ite_ne, w_ite_lt, Nat.sub_zero, Nat.sub_self]; exact q1
        · show _ = some (AObj.mk c 3 28 false true [.agg [.int .i64 0, .int .i64 1, .nil]])
          exact (by first | ((try simp (maxSteps := 1000000) only [go_sem, Int.reduceEq, Int.reduceLT, Int.reduceLE, Int.reduceToNat, Nat.reduceLT, Nat.reduceEqDiff, Nat.reduceAdd, Nat.reduceLeDiff, Nat.reduceSub, Nat.reduceMul, ↓reduceIte, reduceCtorEq, w_app_nl]); done) | ((try simp (maxSteps := 1000000) only [go_sem, Int.reduceEq, Int.reduceLT, Int.reduceLE, Int.reduceToNat, Nat.reduceLT, Nat.reduceEqDiff, Nat.reduceAdd, Nat.reduceLeDiff, Nat.reduceSub, Nat.reduceMul, ↓reduceIte, reduceCtorEq, w_app_nl]); rfl) | ((try simp (maxSteps := 1000000) (disch := omega) only [go_sem, Int.reduceEq, Int.reduceLT, Int.reduceLE, Int.reduceToNat, Nat.reduceLT, Nat.reduceEqDiff, Nat.reduceAdd, Nat.reduceLeDiff, Nat.reduceSub, Nat.reduceMul, ↓reduceIte, reduceCtorEq, w_app_nl, wrap_id, w_ite_ne, w_ite_lt]); rfl) | (simp (maxSteps := 1000000) (disch := omega) only [go_sem, Int.reduceEq, Int.reduceLT, Int.reduceLE, Int.reduceToNat, Nat.reduceLT, Nat.reduceEqDiff, Nat.reduceAdd, Nat.reduceLeDiff, Nat.reduceSub, Nat.reduceMul, ↓reduceIte, reduceCtorEq, w_app_nl, wrap_id, w_ite_ne, w_ite_lt]; done))
        · exact (by first | ((try simp (maxSteps := 1000000) only [go_sem, Int.reduceEq, Int.reduceLT, Int.reduceLE, Int.reduceToNat, Nat.reduceLT, Nat.reduceEqDiff, Nat.reduceAdd, Nat.reduceLeDiff, Nat.reduceSub, Nat.reduceMul, ↓reduceIte, reduceCtorEq, w_app_nl]); done) | ((try simp (maxSteps := 1000000) only [go_sem, Int.reduceEq, Int.reduceLT, Int.reduceLE, Int.reduceToNat, Nat.reduceLT, Nat.reduceEqDiff, Nat.reduceAdd, Nat.reduceLeDiff, Nat.reduceSub, Nat.reduceMul, ↓reduceIte, reduceCtorEq, w_app_nl]); rfl) | ((try simp (maxSteps := 1000000) (disch := omega) only [go_sem, Int.reduceEq, Int.reduceLT, Int.reduceLE, Int.reduceToNat, Nat.reduceLT, Nat.reduceEqDiff, Nat.reduceAdd, Nat.reduceLeDiff, Nat.reduceSub, Nat.reduceMul, ↓reduceIte, reduceCtorEq, w_app_nl, wrap_id, w_ite_ne, w_ite_lt]); rfl) | (simp (maxSteps := 1000000) (disch := omega) only [go_sem, Int.reduceEq, Int.reduceLT, Int.reduceLE, Int.reduceToNat, Nat.reduceLT, Nat.reduceEqDiff, Nat.reduceAdd, Nat.reduceLeDiff, Nat.reduceSub, Nat.reduceMul, ↓reduceIte, reduceCtorEq, w_app_nl, wrap_id, w_ite_ne, w_ite_lt]; done))
      · clear q0 q1
        rintro k fe2 ob2 m2 c2 hk2 hm2' ⟨h14, ⟨at1, w0⟩, w1, p, nx, Y, hY, wb, wg, hp1, hp2, hp3, hp4⟩
        have hm22 : m + 2 ≤ m2 := hm2'
        obtain ⟨hY1, hY2, hY3, hY4⟩ := hY.one
        simp (maxSteps := 1000000) only [go_sem, Int.reduceEq, Int.reduceLT, Int.reduceLE, Int.reduceToNat, Nat.reduceLT, Nat.reduceEqDiff, Nat.reduceAdd, Nat.reduceLeDiff, Nat.reduceSub, Nat.reduceMul, ↓reduceIte, reduceCtorEq, w_app_nl] at h14 wb wg w0
        try simp (disch := omega) only [go_sem, Int.reduceEq, Int.reduceLT, Int.reduceLE, Int.reduceToNat, Nat.reduceLT, Nat.reduceEqDiff, Nat.reduceAdd, Nat.reduceLeDiff, Nat.reduceSub, Nat.reduceMul, ↓reduceIte, reduceCtorEq, wrap_id, w_ite_ne, w_ite_lt, Nat.sub_zero, Nat.sub_self, h14]
        refine cond_d (fun hlt3 => ?_) (fun hge3 => ?_)
        · have hk3 : k < 3 * n := by omega
          try simp (disch := omega) only [go_sem, Int.reduceEq, Int.reduceLT, Int.reduceLE, Int.reduceToNat, Nat.reduceLT, Nat.reduceEqDiff, Nat.reduceAdd, Nat.reduceLeDiff, Nat.reduceSub, Nat.reduceMul, ↓reduceIte, reduceCtorEq, wrap_id, w_ite_ne, w_ite_lt, Nat.sub_zero, Nat.sub_self, h14]
          refine call_hc (ok_mk_Deck_Next _ 0 0 ty_Deck true t at1 n (by (try simp (maxSteps := 1000000) only [go_sem, Int.reduceEq, Int.reduceLT, Int.reduceLE, Int.reduceToNat, Nat.reduceLT, Nat.reduceEqDiff, Nat.reduceAdd, Nat.reduceLeDiff, Nat.reduceSub, Nat.reduceMul, ↓reduceIte, reduceCtorEq, w_app_nl]); exact w0) (by omega) hlt) ?_
          have hx1 := deckR_bd t at1 n
          generalize deckR t at1 n = dr at *
          obtain ⟨st0, at2⟩ := dr
          simp only at hx1
          try simp (disch := omega) only [go_sem, Int.reduceEq, Int.reduceLT, Int.reduceLE, Int.reduceToNat, Nat.reduceLT, Nat.reduceEqDiff, Nat.reduceAdd, Nat.reduceLeDiff, Nat.reduceSub, Nat.reduceMul, ↓reduceIte, reduceCtorEq, wrap_id, w_ite_ne, w_ite_lt, Nat.sub_zero, Nat.sub_self, h14]
          obtain ⟨i, hi1, hi2, hiA, hiB, hi3⟩ : ∃ i : Nat, 1 ≤ i ∧ i ≤ n ∧ (2 * (n : Int) ≤ k → 1 + (k : Int) - 2 * n = i) ∧ (¬ 2 * (n : Int) ≤ k → 1 + st0 = i) ∧ (2 * n ≤ k → i = k + 1 - 2 * n) := by
            by_cases hc : 2 * n ≤ k
            · exact ⟨k + 1 - 2 * n, by omega, by omega, by omega, by omega, by omega⟩
            · exact ⟨(1 + st0).toNat, by omega, by omega, by omega, by omega, by omega⟩
          have ht := ord_take (p := p) (nx := nx) (i := i) (by omega) hp1 hp2 hi1 (by omega)
          obtain ⟨nx', hnx⟩ : ∃ nx', nx' = max nx (i + 1) := ⟨_, rfl⟩
          rw [← hnx] at ht
          have hgi := gotL_get p n i hi2
          refine cond_d (fun hc => ?_) (fun hc => ?_)
          all_goals (
            first | have hi := hiA hc | have hi := hiB hc
            try simp (disch := omega) only [go_sem, Int.reduceEq, Int.reduceLT, Int.reduceLE, Int.reduceToNat, Nat.reduceLT, Nat.reduceEqDiff, Nat.reduceAdd, Nat.reduceLeDiff, Nat.reduceSub, Nat.reduceMul, ↓reduceIte, reduceCtorEq, wrap_id, w_ite_ne, w_ite_lt, Nat.sub_zero, Nat.sub_self, h14, hi, wb, hY1, hY2, hY3, hY4]
            refine call_pc (pc_nl (ok_telemetry_Take ⟨0, nx, tkd p nx⟩ ⟨0, i, [⟨0, 0, i, 0⟩]⟩ (by have := tkd_length p nx; simp only; omega) (by simp)) (.cons hY.nl (.cons .rfl .nil))) (by simp [go_sem, hY3, frv, rds, rdv]) ?_
            cases hpi : p i
            · rw [hpi] at ht hgi
              simp only [Bool.false_eq_true, if_false] at ht hgi
              try simp (disch := omega) only [go_sem, Int.reduceEq, Int.reduceLT, Int.reduceLE, Int.reduceToNat, Nat.reduceLT, Nat.reduceEqDiff, Nat.reduceAdd, Nat.reduceLeDiff, Nat.reduceSub, Nat.reduceMul, ↓reduceIte, reduceCtorEq, wrap_id, w_ite_ne, w_ite_lt, Nat.sub_zero, Nat.sub_self, ht, rcv, h14, hgi, wg, wb, rds, rdv, hY1, hY2, hY3, hY4, List.map_cons, List.map_nil]
              refine ⟨by omega, by omega, by omega, by omega, ?_⟩
              refine up_nextG (m + 2) hk3 (by omega) ⟨by try simp (disch := omega) only [go_sem, Int.reduceEq, Int.reduceLT, Int.reduceLE, Int.reduceToNat, Nat.reduceLT, Nat.reduceEqDiff, Nat.reduceAdd, Nat.reduceLeDiff, Nat.reduceSub, Nat.reduceMul, ↓reduceIte, reduceCtorEq, wrap_id, w_ite_ne, w_ite_lt, Nat.sub_zero, Nat.sub_self]; rfl, ⟨at2, (by first | ((try simp (maxSteps := 1000000) only [go_sem, Int.reduceEq, Int.reduceLT, Int.reduceLE, Int.reduceToNat, Nat.reduceLT, Nat.reduceEqDiff, Nat.reduceAdd, Nat.reduceLeDiff, Nat.reduceSub, Nat.reduceMul, ↓reduceIte, reduceCtorEq, w_app_nl]); done) | ((try simp (maxSteps := 1000000) only [go_sem, Int.reduceEq, Int.reduceLT, Int.reduceLE, Int.reduceToNat, Nat.reduceLT, Nat.reduceEqDiff, Nat.reduceAdd, Nat.reduceLeDiff, Nat.reduceSub, Nat.reduceMul, ↓reduceIte, reduceCtorEq, w_app_nl]); rfl) | ((try simp (maxSteps := 1000000) (disch := omega) only [go_sem, Int.reduceEq, Int.reduceLT, Int.reduceLE, Int.reduceToNat, Nat.reduceLT, Nat.reduceEqDiff, Nat.reduceAdd, Nat.reduceLeDiff, Nat.reduceSub, Nat.reduceMul, ↓reduceIte, reduceCtorEq, w_app_nl, wrap_id, w_ite_ne, w_ite_lt]); rfl) | (simp (maxSteps := 1000000) (disch := omega) only [go_sem, Int.reduceEq, Int.reduceLT, Int.reduceLE, Int.reduceToNat, Nat.reduceLT, Nat.reduceEqDiff, Nat.reduceAdd, Nat.reduceLeDiff, Nat.reduceSub, Nat.reduceMul, ↓reduceIte, reduceCtorEq, w_app_nl, wrap_id, w_ite_ne, w_ite_lt]; done))⟩, ?_, tkn p i, nx', .list 1 (ints (tkd (tkn p i) nx')), .inl rfl, ?_, ?_, fun j hj => ?_, by omega, by omega, fun j h1 h2 => ?_⟩
              · try simp (disch := omega) only [go_sem, Int.reduceEq, Int.reduceLT, Int.reduceLE, Int.reduceToNat, Nat.reduceLT, Nat.reduceEqDiff, Nat.reduceAdd, Nat.reduceLeDiff, Nat.reduceSub, Nat.reduceMul, ↓reduceIte, reduceCtorEq, wrap_id, w_ite_ne, w_ite_lt, Nat.sub_zero, Nat.sub_self]; exact w1
              · try simp (disch := omega) only [go_sem, Int.reduceEq, Int.reduceLT, Int.reduceLE, Int.reduceToNat, Nat.reduceLT, Nat.reduceEqDiff, Nat.reduceAdd, Nat.reduceLeDiff, Nat.reduceSub, Nat.reduceMul, ↓reduceIte, reduceCtorEq, wrap_id, w_ite_ne, w_ite_lt, Nat.sub_zero, Nat.sub_self]
              · try simp (disch := omega) only [go_sem, Int.reduceEq, Int.reduceLT, Int.reduceLE, Int.reduceToNat, Nat.reduceLT, Nat.reduceEqDiff, Nat.reduceAdd, Nat.reduceLeDiff, Nat.reduceSub, Nat.reduceMul, ↓reduceIte, reduceCtorEq, wrap_id, w_ite_ne, w_ite_lt, Nat.sub_zero, Nat.sub_self]; rw [← gotL_set]; rfl
              · simp only [tkn, Bool.or_eq_true, decide_eq_true_eq] at hj
                rcases hj with hj | rfl
                · have := hp1 j hj; omega
                · omega
              · simp only [tkn, Bool.or_eq_true, decide_eq_true_eq]
                by_cases e : j + 2 * n ≤ k
                · exact .inl (hp4 j h1 e)
                · exact .inr (by omega)
            · rw [hpi] at ht hgi
              simp only [if_true] at ht hgi
              try simp (disch := omega) only [go_sem, Int.reduceEq, Int.reduceLT, Int.reduceLE, Int.reduceToNat, Nat.reduceLT, Nat.reduceEqDiff, Nat.reduceAdd, Nat.reduceLeDiff, Nat.reduceSub, Nat.reduceMul, ↓reduceIte, reduceCtorEq, wrap_id, w_ite_ne, w_ite_lt, Nat.sub_zero, Nat.sub_self, ht, rcv, h14, hgi, wg, gotL_length]
              refine ⟨by omega, by omega, ?_⟩
              refine up_nextG (m + 2) hk3 (by omega) ⟨by try simp (disch := omega) only [go_sem, Int.reduceEq, Int.reduceLT, Int.reduceLE, Int.reduceToNat, Nat.reduceLT, Nat.reduceEqDiff, Nat.reduceAdd, Nat.reduceLeDiff, Nat.reduceSub, Nat.reduceMul, ↓reduceIte, reduceCtorEq, wrap_id, w_ite_ne, w_ite_lt, Nat.sub_zero, Nat.sub_self]; rfl, ⟨at2, (by first | ((try simp (maxSteps := 1000000) only [go_sem, Int.reduceEq, Int.reduceLT, Int.reduceLE, Int.reduceToNat, Nat.reduceLT, Nat.reduceEqDiff, Nat.reduceAdd, Nat.reduceLeDiff, Nat.reduceSub, Nat.reduceMul, ↓reduceIte, reduceCtorEq, w_app_nl]); done) | ((try simp (maxSteps := 1000000) only [go_sem, Int.reduceEq, Int.reduceLT, Int.reduceLE, Int.reduceToNat, Nat.reduceLT, Nat.reduceEqDiff, Nat.reduceAdd, Nat.reduceLeDiff, Nat.reduceSub, Nat.reduceMul, ↓reduceIte, reduceCtorEq, w_app_nl]); rfl) | ((try simp (maxSteps := 1000000) (disch := omega) only [go_sem, Int.reduceEq, Int.reduceLT, Int.reduceLE, Int.reduceToNat, Nat.reduceLT, Nat.reduceEqDiff, Nat.reduceAdd, Nat.reduceLeDiff, Nat.reduceSub, Nat.reduceMul, ↓reduceIte, reduceCtorEq, w_app_nl, wrap_id, w_ite_ne, w_ite_lt]); rfl) | (simp (maxSteps := 1000000) (disch := omega) only [go_sem, Int.reduceEq, Int.reduceLT, Int.reduceLE, Int.reduceToNat, Nat.reduceLT, Nat.reduceEqDiff, Nat.reduceAdd, Nat.reduceLeDiff, Nat.reduceSub, Nat.reduceMul, ↓reduceIte, reduceCtorEq, w_app_nl, wrap_id, w_ite_ne, w_ite_lt]; done))⟩, ?_, p, nx, Y, hY, ?_, ?_, hp1, hp2, hp3, fun j h1 h2 => ?_⟩
              · try simp (disch := omega) only [go_sem, Int.reduceEq, Int.reduceLT, Int.reduceLE, Int.reduceToNat, Nat.reduceLT, Nat.reduceEqDiff, Nat.reduceAdd, Nat.reduceLeDiff, Nat.reduceSub, Nat.reduceMul, ↓reduceIte, reduceCtorEq, wrap_id, w_ite_ne, w_ite_lt, Nat.sub_zero, Nat.sub_self]; exact w1
              · try simp (disch := omega) only [go_sem, Int.reduceEq, Int.reduceLT, Int.reduceLE, Int.reduceToNat, Nat.reduceLT, Nat.reduceEqDiff, Nat.reduceAdd, Nat.reduceLeDiff, Nat.reduceSub, Nat.reduceMul, ↓reduceIte, reduceCtorEq, wrap_id, w_ite_ne, w_ite_lt, Nat.sub_zero, Nat.sub_self]; exact wb
              · try simp (disch := omega) only [go_sem, Int.reduceEq, Int.reduceLT, Int.reduceLE, Int.reduceToNat, Nat.reduceLT, Nat.reduceEqDiff, Nat.reduceAdd, Nat.reduceLeDiff, Nat.reduceSub, Nat.reduceMul, ↓reduceIte, reduceCtorEq, wrap_id, w_ite_ne, w_ite_lt, Nat.sub_zero, Nat.sub_self]; exact wg
              · by_cases e : j + 2 * n ≤ k
                · exact hp4 j h1 e
                · rw [show j = i by omega]; exact hpi)
        · have hk3 : k = 3 * n := by omega
          subst hk3
          try simp (disch := omega) only [go_sem, Int.reduceEq, Int.reduceLT, Int.reduceLE, Int.reduceToNat, Nat.reduceLT, Nat.reduceEqDiff, Nat.reduceAdd, Nat.reduceLeDiff, Nat.reduceSub, Nat.reduceMul, ↓reduceIte, reduceCtorEq, wrap_id, w_ite_ne, w_ite_lt, Nat.sub_zero, Nat.sub_self, gotL_length]
          refine ⟨⟨_, wg, rfl⟩, by omega, fun h => by omega, fun _ => ?_⟩
          refine awp_upG [4, 20, 123, 124, 125, 126, 127, 128, 129] (by kernel_rfl) n (fun k e σ => e 123 = .int .i64 k ∧ 
            σ.ob 1 = some ⟨1, 3, 28, false, true, [.agg [.int .i64 0, .int .i64 ((n : Int) + 1), X]]⟩ ∧ σ.ob m = some ⟨c, 3, 28, false, true, [.agg [.int .i64 0, .int .i64 nx, Y]]⟩ ∧
            σ.ob (m + 1) = some ⟨c + 1, 1, 3, false, true, gotL p n⟩) ?_ ?_
          · refine ⟨(by first | ((try simp (maxSteps := 1000000) only [go_sem, Int.reduceEq, Int.reduceLT, Int.reduceLE, Int.reduceToNat, Nat.reduceLT, Nat.reduceEqDiff, Nat.reduceAdd, Nat.reduceLeDiff, Nat.reduceSub, Nat.reduceMul, ↓reduceIte, reduceCtorEq, w_app_nl]); done) | ((try simp (maxSteps := 1000000) only [go_sem, Int.reduceEq, Int.reduceLT, Int.reduceLE, Int.reduceToNat, Nat.reduceLT, Nat.reduceEqDiff, Nat.reduceAdd, Nat.reduceLeDiff, Nat.reduceSub, Nat.reduceMul, ↓reduceIte, reduceCtorEq, w_app_nl]); rfl) | ((try simp (maxSteps := 1000000) (disch := omega) only [go_sem, Int.reduceEq, Int.reduceLT, Int.reduceLE, Int.reduceToNat, Nat.reduceLT, Nat.reduceEqDiff, Nat.reduceAdd, Nat.reduceLeDiff, Nat.reduceSub, Nat.reduceMul, ↓reduceIte, reduceCtorEq, w_app_nl, wrap_id, w_ite_ne, w_ite_lt]); rfl) | (simp (maxSteps := 1000000) (disch := omega) only [go_sem, Int.reduceEq, Int.reduceLT, Int.reduceLE, Int.reduceToNat, Nat.reduceLT, Nat.reduceEqDiff, Nat.reduceAdd, Nat.reduceLeDiff, Nat.reduceSub, Nat.reduceMul, ↓reduceIte, reduceCtorEq, w_app_nl, wrap_id, w_ite_ne, w_ite_lt]; done)), ?_, ?_, ?_⟩
            · try simp (disch := omega) only [go_sem, Int.reduceEq, Int.reduceLT, Int.reduceLE, Int.reduceToNat, Nat.reduceLT, Nat.reduceEqDiff, Nat.reduceAdd, Nat.reduceLeDiff, Nat.reduceSub, Nat.reduceMul, ↓reduceIte, reduceCtorEq, wrap_id, w_ite_ne, w_ite_lt, Nat.sub_zero, Nat.sub_self]; exact w1
            · try simp (disch := omega) only [go_sem, Int.reduceEq, Int.reduceLT, Int.reduceLE, Int.reduceToNat, Nat.reduceLT, Nat.reduceEqDiff, Nat.reduceAdd, Nat.reduceLeDiff, Nat.reduceSub, Nat.reduceMul, ↓reduceIte, reduceCtorEq, wrap_id, w_ite_ne, w_ite_lt, Nat.sub_zero, Nat.sub_self]; exact wb
            · try simp (disch := omega) only [go_sem, Int.reduceEq, Int.reduceLT, Int.reduceLE, Int.reduceToNat, Nat.reduceLT, Nat.reduceEqDiff, Nat.reduceAdd, Nat.reduceLeDiff, Nat.reduceSub, Nat.reduceMul, ↓reduceIte, reduceCtorEq, wrap_id, w_ite_ne, w_ite_lt, Nat.sub_zero, Nat.sub_self]; exact wg
          · clear w1 wb wg w0
            rintro k fe3 ob3 m3 c3 hk3 hm3' ⟨h123, w1, wb, wg⟩
            have hm33 : m2 ≤ m3 := hm3'
            simp (maxSteps := 1000000) only [go_sem, Int.reduceEq, Int.reduceLT, Int.reduceLE, Int.reduceToNat, Nat.reduceLT, Nat.reduceEqDiff, Nat.reduceAdd, Nat.reduceLeDiff, Nat.reduceSub, Nat.reduceMul, ↓reduceIte, reduceCtorEq, w_app_nl] at h123 w1 wb wg
            try simp (disch := omega) only [go_sem, Int.reduceEq, Int.reduceLT, Int.reduceLE, Int.reduceToNat, Nat.reduceLT, Nat.reduceEqDiff, Nat.reduceAdd, Nat.reduceLeDiff, Nat.reduceSub, Nat.reduceMul, ↓reduceIte, reduceCtorEq, wrap_id, w_ite_ne, w_ite_lt, Nat.sub_zero, Nat.sub_self, h123]
            refine cond_d (fun hlt4 => ?_) (fun hge4 => ?_)
            · have hgi := gotL_get p n (1 + k) (by omega)
              rw [hp4 (1 + k) (by omega) (by omega)] at hgi
              simp only [if_true] at hgi
              try simp (disch := omega) only [go_sem, Int.reduceEq, Int.reduceLT, Int.reduceLE, Int.reduceToNat, Nat.reduceLT, Nat.reduceEqDiff, Nat.reduceAdd, Nat.reduceLeDiff, Nat.reduceSub, Nat.reduceMul, ↓reduceIte, reduceCtorEq, wrap_id, w_ite_ne, w_ite_lt, Nat.sub_zero, Nat.sub_self, h123, wg, hgi, gotL_length]
              refine ⟨by omega, by omega, ?_⟩
              refine up_nextG m2 (by omega) (by omega) ⟨by try simp (disch := omega) only [go_sem, Int.reduceEq, Int.reduceLT, Int.reduceLE, Int.reduceToNat, Nat.reduceLT, Nat.reduceEqDiff, Nat.reduceAdd, Nat.reduceLeDiff, Nat.reduceSub, Nat.reduceMul, ↓reduceIte, reduceCtorEq, wrap_id, w_ite_ne, w_ite_lt, Nat.sub_zero, Nat.sub_self]; rfl, ?_, ?_, ?_⟩
              · try simp (disch := omega) only [go_sem, Int.reduceEq, Int.reduceLT, Int.reduceLE, Int.reduceToNat, Nat.reduceLT, Nat.reduceEqDiff, Nat.reduceAdd, Nat.reduceLeDiff, Nat.reduceSub, Nat.reduceMul, ↓reduceIte, reduceCtorEq, wrap_id, w_ite_ne, w_ite_lt, Nat.sub_zero, Nat.sub_self]; exact w1
              · try simp (disch := omega) only [go_sem, Int.reduceEq, Int.reduceLT, Int.reduceLE, Int.reduceToNat, Nat.reduceLT, Nat.reduceEqDiff, Nat.reduceAdd, Nat.reduceLeDiff, Nat.reduceSub, Nat.reduceMul, ↓reduceIte, reduceCtorEq, wrap_id, w_ite_ne, w_ite_lt, Nat.sub_zero, Nat.sub_self]; exact wb
              · try simp (disch := omega) only [go_sem, Int.reduceEq, Int.reduceLT, Int.reduceLE, Int.reduceToNat, Nat.reduceLT, Nat.reduceEqDiff, Nat.reduceAdd, Nat.reduceLeDiff, Nat.reduceSub, Nat.reduceMul, ↓reduceIte, reduceCtorEq, wrap_id, w_ite_ne, w_ite_lt, Nat.sub_zero, Nat.sub_self]; exact wg
            · have hnx : nx = n + 1 := by
                have := (hp1 n (hp4 n hn1 (by omega))).2
                omega
              subst hnx
              have htk : tkd p (n + 1) = [] := by
                refine List.eq_nil_iff_forall_not_mem.2 fun x hx => ?_
                obtain ⟨j, hj1, hj2⟩ : ∃ j : Nat, (j : Int) = x ∧ True := by
                  unfold tkd at hx
                  obtain ⟨j, _, hj⟩ := List.mem_map.1 hx
                  exact ⟨j, hj, trivial⟩
                subst hj1
                obtain ⟨h1, h2, h3⟩ := mem_tkd.1 hx
                rw [hp4 j h2 (by omega)] at h3
                cases h3
              rw [htk] at hY
              obtain ⟨hX1, hX2, hX3, hX4⟩ := hX.one
              try simp (disch := omega) only [go_sem, Int.reduceEq, Int.reduceLT, Int.reduceLE, Int.reduceToNat, Nat.reduceLT, Nat.reduceEqDiff, Nat.reduceAdd, Nat.reduceLeDiff, Nat.reduceSub, Nat.reduceMul, ↓reduceIte, reduceCtorEq, wrap_id, w_ite_ne, w_ite_lt, Nat.sub_zero, Nat.sub_self, w1, wb, wg, hX1, hX2, hX3, hX4, hY1, hY2, hY3, hY4]
              refine call_pc (pc_nl (ok_ref28_Same ⟨0, (n : Int) + 1, []⟩ ⟨0, (n + 1 : Nat), []⟩ (by simp)) (.cons hX.nl (.cons hY.nl .nil))) (by simp [go_sem, hX3, hY3]) ?_
              have hse : decide ((⟨0, (n : Int) + 1, []⟩ : Rc) = ⟨0, (n + 1 : Nat), []⟩) = true := decide_eq_true rfl
              try simp (disch := omega) only [go_sem, Int.reduceEq, Int.reduceLT, Int.reduceLE, Int.reduceToNat, Nat.reduceLT, Nat.reduceEqDiff, Nat.reduceAdd, Nat.reduceLeDiff, Nat.reduceSub, Nat.reduceMul, ↓reduceIte, reduceCtorEq, wrap_id, w_ite_ne, w_ite_lt, Nat.sub_zero, Nat.sub_self, hse, w1, wb, wg, hX1, hX2, hX3, hX4, hY1, hY2, hY3, hY4]
              refine hY.len ?_
              try simp (disch := omega) only [go_sem, Int.reduceEq, Int.reduceLT, Int.reduceLE, Int.reduceToNat, Nat.reduceLT, Nat.reduceEqDiff, Nat.reduceAdd, Nat.reduceLeDiff, Nat.reduceSub, Nat.reduceMul, ↓reduceIte, reduceCtorEq, wrap_id, w_ite_ne, w_ite_lt, Nat.sub_zero, Nat.sub_self]
              exact Pub.of_eq rfl rfl
theorem law_law28_TelemetryOrder {c0 c1 : List AV} (s0 : (Sh.slice 1 (.int .i64)).R c0) (s1 : (Sh.int .u8).R c1) :
    PC prog n_law28_TelemetryOrder [(Sh.slice 1 (.int .i64)).mk1 c0, (Sh.int .u8).mk1 c1] (.bool true) := by
  obtain ⟨l0, rfl, _, _⟩ := shInts s0
  obtain ⟨a1, rfl, w1⟩ := s1
  exact ok_law28_TelemetryOrder l0 a1 (wf_u8 w1)
end Go.Proofs.Try
