/-
  OWN WORK, put together by tools/asm.py: what functions do.
-/
import Derived.Test.YtkjjlopkooiljaaLibB
set_option linter.unusedSimpArgs false
set_option linter.unusedVariables false
set_option maxRecDepth 100000
set_option maxHeartbeats 1000000
namespace Go.Proofs.Try
open Go.Ab Go
theorem ok_orders_Confirm_1 (o : Od) (n : Int) : PC prog n_orders_Confirm_1 [odv o, .rptr 1 [.int .i64 n] 0 0] (.bool (decide (o.n ≤ n))) := by
  refine PC_of_body b_orders_Confirm_1 (by simp) ?_
  simp only [c_orders_Confirm_1, go_sem, Int.reduceEq, Int.reduceLT, Int.reduceLE, Int.reduceToNat, Nat.reduceLT, Nat.reduceEqDiff, Nat.reduceAdd, Nat.reduceLeDiff, Nat.reduceSub, Nat.reduceMul, ↓reduceIte, reduceCtorEq, w_app_nl, odv]
  try simp (maxSteps := 500000) (disch := omega) only [go_sem, Int.reduceEq, Int.reduceLT, Int.reduceLE, Int.reduceToNat, Nat.reduceLT, Nat.reduceEqDiff, Nat.reduceAdd, Nat.reduceLeDiff, Nat.reduceSub, Nat.reduceMul, ↓reduceIte, reduceCtorEq, wrap_id, w_ite_ne, w_ite_lt, Nat.sub_zero, Nat.sub_self]
  exact Pub.of_eq rfl rfl
theorem ok_orders_Confirm (s : Sd) (n : Int) (hl : s.l.length ≤ 9223372036854775807) : PC prog n_orders_Confirm [sdv s, .int .i64 n] (.tuple [sdv (cnfS s n).1, .int .i64 (cnfS s n).2]) := by
  have no : ∀ {σ : St} (e : Int), cnfS s n = (⟨0, []⟩, e) → Pub σ (.tuple [.agg [.int .i64 0, .nil], .int .i64 e]) (.tuple [sdv (cnfS s n).1, .int .i64 (cnfS s n).2]) := by
    intro σ e h
    rw [h]
    exact Pub.pair (Pub.ag (.cons (.pure rfl) (.cons (.nl 4) .nil))) (.pure rfl)
  refine PC_of_body b_orders_Confirm (by simp) ?_
  simp only [c_orders_Confirm, go_sem, Int.reduceEq, Int.reduceLT, Int.reduceLE, Int.reduceToNat, Nat.reduceLT, Nat.reduceEqDiff, Nat.reduceAdd, Nat.reduceLeDiff, Nat.reduceSub, Nat.reduceMul, ↓reduceIte, reduceCtorEq, w_app_nl, sdv]
  refine call_pc (ok_orders_Valid s hl) (by simp [go_sem, sdv, ods_pur]) ?_
  cases hok : sdOk s <;> try simp (maxSteps := 500000) (disch := omega) only [go_sem, Int.reduceEq, Int.reduceLT, Int.reduceLE, Int.reduceToNat, Nat.reduceLT, Nat.reduceEqDiff, Nat.reduceAdd, Nat.reduceLeDiff, Nat.reduceSub, Nat.reduceMul, ↓reduceIte, reduceCtorEq, wrap_id, w_ite_ne, w_ite_lt, Nat.sub_zero, Nat.sub_self]
  · exact no 50 (by simp [cnfS, hok])
  have hb := sdOk_l hok
  have fin : n < 0 ∨ s.n ≤ n → cnfS s n = (⟨0, []⟩, 1) := fun h => by simp only [cnfS, hok, if_true, if_pos h]
  refine gd_fd rfl (fun g1 => ?_) (fun g1 => ?_) <;> try simp (maxSteps := 500000) (disch := omega) only [go_sem, Int.reduceEq, Int.reduceLT, Int.reduceLE, Int.reduceToNat, Nat.reduceLT, Nat.reduceEqDiff, Nat.reduceAdd, Nat.reduceLeDiff, Nat.reduceSub, Nat.reduceMul, ↓reduceIte, reduceCtorEq, wrap_id, w_ite_ne, w_ite_lt, Nat.sub_zero, Nat.sub_self]
  · exact no 1 (fin (.inl (by omega)))
  refine cond_d (fun g2 => ?_) (fun g2 => ?_) <;> try simp (maxSteps := 500000) (disch := omega) only [go_sem, Int.reduceEq, Int.reduceLT, Int.reduceLE, Int.reduceToNat, Nat.reduceLT, Nat.reduceEqDiff, Nat.reduceAdd, Nat.reduceLeDiff, Nat.reduceSub, Nat.reduceMul, ↓reduceIte, reduceCtorEq, wrap_id, w_ite_ne, w_ite_lt, Nat.sub_zero, Nat.sub_self]
  · exact no 1 (fin (.inr g2))
  have hr : cnfS s n = (⟨s.n, s.l.filter fun o => !decide (o.n ≤ n)⟩, 0) := by simp only [cnfS, hok, if_true]; rw [if_neg (by omega)]
  rw [hr]
  refine (hcl_slices_Clone__Order _ (ods s.l) (by rw [ods_length]; omega)).mono ?_
  rintro _ τ ⟨id, g, rfl, q1, q2, q3, q4⟩
  obtain ⟨ob, m, c⟩ := τ
  have p0 := q4 0 (by simp [go_sem])
  have p1 := q4 1 (by simp [go_sem])
  have p2 := q4 2 (by simp [go_sem])
  simp (maxSteps := 1000000) only [go_sem, Int.reduceEq, Int.reduceLT, Int.reduceLE, Int.reduceToNat, Nat.reduceLT, Nat.reduceEqDiff, Nat.reduceAdd, Nat.reduceLeDiff, Nat.reduceSub, Nat.reduceMul, ↓reduceIte, reduceCtorEq, w_app_nl] at q1 q2 q3 p0 p1 p2
  try simp (maxSteps := 500000) (disch := omega) only [go_sem, Int.reduceEq, Int.reduceLT, Int.reduceLE, Int.reduceToNat, Nat.reduceLT, Nat.reduceEqDiff, Nat.reduceAdd, Nat.reduceLeDiff, Nat.reduceSub, Nat.reduceMul, ↓reduceIte, reduceCtorEq, wrap_id, w_ite_ne, w_ite_lt, Nat.sub_zero, Nat.sub_self, ods_length, q3, p1, p2, p0]
  have hD := hc_slices_DeleteFunc__Order ⟨ob, m, c⟩ id g ty_el_Order s.l n_orders_Confirm_1 [.ptr 1 1 1 0 0] [.rptr 1 [.int .i64 n] 0 0] (fun o => decide (o.n ≤ n)) q3 q2 (by simp [go_sem]) (by omega)
    (fun τ hτ => by
      have h1 : τ.ob 1 = _ := (hτ 1 (by simp only; omega) (by omega)).trans p1
      refine .cons (.ptr h1 rfl rfl rfl (by simp) (fun i a b ha hb => ?_) (by simp [okE, go_sem])) .nil
      rw [ha] at hb
      obtain rfl := Option.some.inj hb
      cases i with
      | zero => simp at ha; subst ha; exact .pure rfl
      | succ i => simp at ha)
    (fun o _ => ok_orders_Confirm_1 o n)
  refine hD.mono ?_
  intro r τ hR
  obtain ⟨o1, o2, o3⟩ := hR.one
  obtain ⟨ob2, m2, c2⟩ := τ
  have r0 := hR.2.2.2 0 (by simp only; omega) (by omega)
  have r1 := hR.2.2.2 1 (by simp only; omega) (by omega)
  have r2 := hR.2.2.2 2 (by simp only; omega) (by omega)
  simp only [p0, p1, p2] at r0 r1 r2
  try simp (maxSteps := 500000) (disch := omega) only [go_sem, Int.reduceEq, Int.reduceLT, Int.reduceLE, Int.reduceToNat, Nat.reduceLT, Nat.reduceEqDiff, Nat.reduceAdd, Nat.reduceLeDiff, Nat.reduceSub, Nat.reduceMul, ↓reduceIte, reduceCtorEq, wrap_id, w_ite_ne, w_ite_lt, Nat.sub_zero, Nat.sub_self, r0, r1, r2, p0, p1, p2, o1, o2, o3]
  refine Pub.pair (Pub.ag (.cons ?_ (.cons ?_ .nil))) ?_
  · exact .pure rfl
  rotate_left
  · exact .pure rfl
  refine hR.pub ?_ (ods_pur _) (ods_ok _)
  have h2 : ¬ id = 2 := by omega
  simp [h2, go_sem]
theorem ok_ref27_Confirm (s : Sd) (n : Int) (hl : s.l.length ≤ 9223372036854775807) : PC prog n_ref27_Confirm [sdv s, .int .i64 n] (.tuple [sdv (cnfS s n).1, .int .i64 (cnfS s n).2]) := by
  have no : ∀ {σ : St} (e : Int), cnfS s n = (⟨0, []⟩, e) → Pub σ (.tuple [.agg [.int .i64 0, .nil], .int .i64 e]) (.tuple [sdv (cnfS s n).1, .int .i64 (cnfS s n).2]) := by
    intro σ e h
    rw [h]
    exact Pub.pair (Pub.ag (.cons (.pure rfl) (.cons (.nl 4) .nil))) (.pure rfl)
  refine PC_of_body b_ref27_Confirm (by simp) ?_
  simp only [c_ref27_Confirm, go_sem, Int.reduceEq, Int.reduceLT, Int.reduceLE, Int.reduceToNat, Nat.reduceLT, Nat.reduceEqDiff, Nat.reduceAdd, Nat.reduceLeDiff, Nat.reduceSub, Nat.reduceMul, ↓reduceIte, reduceCtorEq, w_app_nl, sdv]
  refine call_pc (ok_ref27_Valid s hl) (by simp [go_sem, sdv, ods_pur]) ?_
  cases hok : sdOk s <;> try simp (maxSteps := 500000) (disch := omega) only [go_sem, Int.reduceEq, Int.reduceLT, Int.reduceLE, Int.reduceToNat, Nat.reduceLT, Nat.reduceEqDiff, Nat.reduceAdd, Nat.reduceLeDiff, Nat.reduceSub, Nat.reduceMul, ↓reduceIte, reduceCtorEq, wrap_id, w_ite_ne, w_ite_lt, Nat.sub_zero, Nat.sub_self]
  · exact no 50 (by simp [cnfS, hok])
  have hb := sdOk_l hok
  have fin : n < 0 ∨ s.n ≤ n → cnfS s n = (⟨0, []⟩, 1) := fun h => by simp only [cnfS, hok, if_true, if_pos h]
  refine gd_fd rfl (fun g1 => ?_) (fun g1 => ?_) <;> try simp (maxSteps := 500000) (disch := omega) only [go_sem, Int.reduceEq, Int.reduceLT, Int.reduceLE, Int.reduceToNat, Nat.reduceLT, Nat.reduceEqDiff, Nat.reduceAdd, Nat.reduceLeDiff, Nat.reduceSub, Nat.reduceMul, ↓reduceIte, reduceCtorEq, wrap_id, w_ite_ne, w_ite_lt, Nat.sub_zero, Nat.sub_self]
  · exact no 1 (fin (.inl (by omega)))
  refine cond_d (fun g2 => ?_) (fun g2 => ?_) <;> try simp (maxSteps := 500000) (disch := omega) only [go_sem, Int.reduceEq, Int.reduceLT, Int.reduceLE, Int.reduceToNat, Nat.reduceLT, Nat.reduceEqDiff, Nat.reduceAdd, Nat.reduceLeDiff, Nat.reduceSub, Nat.reduceMul, ↓reduceIte, reduceCtorEq, wrap_id, w_ite_ne, w_ite_lt, Nat.sub_zero, Nat.sub_self]
  · exact no 1 (fin (.inr g2))
  have hr : cnfS s n = (⟨s.n, s.l.filter fun o => !decide (o.n ≤ n)⟩, 0) := by simp only [cnfS, hok, if_true]; rw [if_neg (by omega)]
  rw [hr]
  try simp (maxSteps := 500000) (disch := omega) only [go_sem, Int.reduceEq, Int.reduceLT, Int.reduceLE, Int.reduceToNat, Nat.reduceLT, Nat.reduceEqDiff, Nat.reduceAdd, Nat.reduceLeDiff, Nat.reduceSub, Nat.reduceMul, ↓reduceIte, reduceCtorEq, wrap_id, w_ite_ne, w_ite_lt, Nat.sub_zero, Nat.sub_self, ods_length]
  refine awp_upG [8, 28, 29, 30, 31, 32, 33, 34, 35, 36, 37, 38, 39, 40, 41, 42] (by kernel_rfl) s.l.length (fun k e σ => e 28 = .int .i64 k ∧ ∃ X, σ.ob 2 = some ⟨2, 2, 29, false, true, [.agg [.int .i64 s.n, X]]⟩ ∧ SlR 4 36 σ (ods ((s.l.take k).filter fun o => !decide (o.n ≤ n))) X ∧ Oth X 2 ∧ Oth X 1 ∧ σ.ob 1 = some ⟨1, 2, 29, false, true, [.agg [.int .i64 0, .nil]]⟩) ?_ ?_
  · exact ⟨(by first | ((try simp (maxSteps := 1000000) only [go_sem, Int.reduceEq, Int.reduceLT, Int.reduceLE, Int.reduceToNat, Nat.reduceLT, Nat.reduceEqDiff, Nat.reduceAdd, Nat.reduceLeDiff, Nat.reduceSub, Nat.reduceMul, ↓reduceIte, reduceCtorEq, w_app_nl]); done) | ((try simp (maxSteps := 1000000) only [go_sem, Int.reduceEq, Int.reduceLT, Int.reduceLE, Int.reduceToNat, Nat.reduceLT, Nat.reduceEqDiff, Nat.reduceAdd, Nat.reduceLeDiff, Nat.reduceSub, Nat.reduceMul, ↓reduceIte, reduceCtorEq, w_app_nl]); rfl) | ((try simp (maxSteps := 1000000) (disch := omega) only [go_sem, Int.reduceEq, Int.reduceLT, Int.reduceLE, Int.reduceToNat, Nat.reduceLT, Nat.reduceEqDiff, Nat.reduceAdd, Nat.reduceLeDiff, Nat.reduceSub, Nat.reduceMul, ↓reduceIte, reduceCtorEq, w_app_nl, wrap_id, w_ite_ne, w_ite_lt]); rfl) | (simp (maxSteps := 1000000) (disch := omega) only [go_sem, Int.reduceEq, Int.reduceLT, Int.reduceLE, Int.reduceToNat, Nat.reduceLT, Nat.reduceEqDiff, Nat.reduceAdd, Nat.reduceLeDiff, Nat.reduceSub, Nat.reduceMul, ↓reduceIte, reduceCtorEq, w_app_nl, wrap_id, w_ite_ne, w_ite_lt]; done)), .nil, (by first | ((try simp (maxSteps := 1000000) only [go_sem, Int.reduceEq, Int.reduceLT, Int.reduceLE, Int.reduceToNat, Nat.reduceLT, Nat.reduceEqDiff, Nat.reduceAdd, Nat.reduceLeDiff, Nat.reduceSub, Nat.reduceMul, ↓reduceIte, reduceCtorEq, w_app_nl]); done) | ((try simp (maxSteps := 1000000) only [go_sem, Int.reduceEq, Int.reduceLT, Int.reduceLE, Int.reduceToNat, Nat.reduceLT, Nat.reduceEqDiff, Nat.reduceAdd, Nat.reduceLeDiff, Nat.reduceSub, Nat.reduceMul, ↓reduceIte, reduceCtorEq, w_app_nl]); rfl) | ((try simp (maxSteps := 1000000) (disch := omega) only [go_sem, Int.reduceEq, Int.reduceLT, Int.reduceLE, Int.reduceToNat, Nat.reduceLT, Nat.reduceEqDiff, Nat.reduceAdd, Nat.reduceLeDiff, Nat.reduceSub, Nat.reduceMul, ↓reduceIte, reduceCtorEq, w_app_nl, wrap_id, w_ite_ne, w_ite_lt]); rfl) | (simp (maxSteps := 1000000) (disch := omega) only [go_sem, Int.reduceEq, Int.reduceLT, Int.reduceLE, Int.reduceToNat, Nat.reduceLT, Nat.reduceEqDiff, Nat.reduceAdd, Nat.reduceLeDiff, Nat.reduceSub, Nat.reduceMul, ↓reduceIte, reduceCtorEq, w_app_nl, wrap_id, w_ite_ne, w_ite_lt]; done)), .nil, Oth.nil _, Oth.nil _, (by first | ((try simp (maxSteps := 1000000) only [go_sem, Int.reduceEq, Int.reduceLT, Int.reduceLE, Int.reduceToNat, Nat.reduceLT, Nat.reduceEqDiff, Nat.reduceAdd, Nat.reduceLeDiff, Nat.reduceSub, Nat.reduceMul, ↓reduceIte, reduceCtorEq, w_app_nl]); done) | ((try simp (maxSteps := 1000000) only [go_sem, Int.reduceEq, Int.reduceLT, Int.reduceLE, Int.reduceToNat, Nat.reduceLT, Nat.reduceEqDiff, Nat.reduceAdd, Nat.reduceLeDiff, Nat.reduceSub, Nat.reduceMul, ↓reduceIte, reduceCtorEq, w_app_nl]); rfl) | ((try simp (maxSteps := 1000000) (disch := omega) only [go_sem, Int.reduceEq, Int.reduceLT, Int.reduceLE, Int.reduceToNat, Nat.reduceLT, Nat.reduceEqDiff, Nat.reduceAdd, Nat.reduceLeDiff, Nat.reduceSub, Nat.reduceMul, ↓reduceIte, reduceCtorEq, w_app_nl, wrap_id, w_ite_ne, w_ite_lt]); rfl) | (simp (maxSteps := 1000000) (disch := omega) only [go_sem, Int.reduceEq, Int.reduceLT, Int.reduceLE, Int.reduceToNat, Nat.reduceLT, Nat.reduceEqDiff, Nat.reduceAdd, Nat.reduceLeDiff, Nat.reduceSub, Nat.reduceMul, ↓reduceIte, reduceCtorEq, w_app_nl, wrap_id, w_ite_ne, w_ite_lt]; done))⟩
  · rintro k fe ob m c hk hm ⟨h28, X, h2, hR, ho2, ho1, h1⟩
    simp (maxSteps := 1000000) only [go_sem, Int.reduceEq, Int.reduceLT, Int.reduceLE, Int.reduceToNat, Nat.reduceLT, Nat.reduceEqDiff, Nat.reduceAdd, Nat.reduceLeDiff, Nat.reduceSub, Nat.reduceMul, ↓reduceIte, reduceCtorEq, w_app_nl] at h28 h2 h1 hR hm
    have hfl : ((s.l.take k).filter fun o => !decide (o.n ≤ n)).length ≤ 64 := Nat.le_trans (List.length_filter_le _ _) (by simp; omega)
    try simp (maxSteps := 500000) (disch := omega) only [go_sem, Int.reduceEq, Int.reduceLT, Int.reduceLE, Int.reduceToNat, Nat.reduceLT, Nat.reduceEqDiff, Nat.reduceAdd, Nat.reduceLeDiff, Nat.reduceSub, Nat.reduceMul, ↓reduceIte, reduceCtorEq, wrap_id, w_ite_ne, w_ite_lt, Nat.sub_zero, Nat.sub_self, h28, ods_length]
    refine cond_d (fun hlt => ?_) (fun hge => ?_)
    · have hkl : k < s.l.length := by omega
      have hk2 : s.l[k]? = some s.l[k] := List.getElem?_eq_getElem hkl
      have hft := filter_take_succ s.l (fun o => !decide (o.n ≤ n)) k _ hk2
      generalize s.l[k] = o at *
      try simp (maxSteps := 500000) (disch := omega) only [go_sem, Int.reduceEq, Int.reduceLT, Int.reduceLE, Int.reduceToNat, Nat.reduceLT, Nat.reduceEqDiff, Nat.reduceAdd, Nat.reduceLeDiff, Nat.reduceSub, Nat.reduceMul, ↓reduceIte, reduceCtorEq, wrap_id, w_ite_ne, w_ite_lt, Nat.sub_zero, Nat.sub_self, h28, ods_length, ods_get, hk2, odv, Option.map_some]
      refine ⟨by omega, by omega, ?_⟩
      refine cond_d (fun g => ?_) (fun g => ?_)
      · have hm1 : ¬ m = 1 := by omega
        have hm2 : ¬ m = 2 := by omega
        try simp (maxSteps := 500000) (disch := omega) only [go_sem, Int.reduceEq, Int.reduceLT, Int.reduceLE, Int.reduceToNat, Nat.reduceLT, Nat.reduceEqDiff, Nat.reduceAdd, Nat.reduceLeDiff, Nat.reduceSub, Nat.reduceMul, ↓reduceIte, reduceCtorEq, wrap_id, w_ite_ne, w_ite_lt, Nat.sub_zero, Nat.sub_self, h28, h2, hm2]
        refine app_slr (hR.move (Nat.le_succ _) fun i hi _ => (by simp only at hi; try simp (maxSteps := 500000) (disch := omega) only [go_sem, Int.reduceEq, Int.reduceLT, Int.reduceLE, Int.reduceToNat, Nat.reduceLT, Nat.reduceEqDiff, Nat.reduceAdd, Nat.reduceLeDiff, Nat.reduceSub, Nat.reduceMul, ↓reduceIte, reduceCtorEq, wrap_id, w_ite_ne, w_ite_lt, Nat.sub_zero, Nat.sub_self])) (by rw [ods_length]; omega) (by rw [ods_length]; omega) fun X2 τ2 hR2 hK2 => ?_
        have hn2 := hK2.1
        have r2 := hK2.2.1 2 (by simp only; omega) ho2
        have r1 := hK2.2.1 1 (by simp only; omega) ho1
        have o2 := hK2.2.2 2 (by simp only; omega) ho2
        have o1 := hK2.2.2 1 (by simp only; omega) ho1
        obtain ⟨ob2, m2, c2⟩ := τ2
        simp only at r1 r2 hn2
        try simp (maxSteps := 500000) (disch := omega) only [go_sem, Int.reduceEq, Int.reduceLT, Int.reduceLE, Int.reduceToNat, Nat.reduceLT, Nat.reduceEqDiff, Nat.reduceAdd, Nat.reduceLeDiff, Nat.reduceSub, Nat.reduceMul, ↓reduceIte, reduceCtorEq, wrap_id, w_ite_ne, w_ite_lt, Nat.sub_zero, Nat.sub_self, hm1, hm2, h2, h1] at r1 r2
        try simp (maxSteps := 500000) (disch := omega) only [go_sem, Int.reduceEq, Int.reduceLT, Int.reduceLE, Int.reduceToNat, Nat.reduceLT, Nat.reduceEqDiff, Nat.reduceAdd, Nat.reduceLeDiff, Nat.reduceSub, Nat.reduceMul, ↓reduceIte, reduceCtorEq, wrap_id, w_ite_ne, w_ite_lt, Nat.sub_zero, Nat.sub_self, h28, r2, hR2.one, hR2.flat, hR2.cells]
        have hft1 := hft.trans (by rw [show (!decide (o.n ≤ n)) = true by simp; omega, if_pos rfl])
        refine up_nextG m2 hkl (by omega) ⟨(by first | ((try simp (maxSteps := 1000000) only [go_sem, Int.reduceEq, Int.reduceLT, Int.reduceLE, Int.reduceToNat, Nat.reduceLT, Nat.reduceEqDiff, Nat.reduceAdd, Nat.reduceLeDiff, Nat.reduceSub, Nat.reduceMul, ↓reduceIte, reduceCtorEq, w_app_nl]); done) | ((try simp (maxSteps := 1000000) only [go_sem, Int.reduceEq, Int.reduceLT, Int.reduceLE, Int.reduceToNat, Nat.reduceLT, Nat.reduceEqDiff, Nat.reduceAdd, Nat.reduceLeDiff, Nat.reduceSub, Nat.reduceMul, ↓reduceIte, reduceCtorEq, w_app_nl]); rfl) | ((try simp (maxSteps := 1000000) (disch := omega) only [go_sem, Int.reduceEq, Int.reduceLT, Int.reduceLE, Int.reduceToNat, Nat.reduceLT, Nat.reduceEqDiff, Nat.reduceAdd, Nat.reduceLeDiff, Nat.reduceSub, Nat.reduceMul, ↓reduceIte, reduceCtorEq, w_app_nl, wrap_id, w_ite_ne, w_ite_lt]); rfl) | (simp (maxSteps := 1000000) (disch := omega) only [go_sem, Int.reduceEq, Int.reduceLT, Int.reduceLE, Int.reduceToNat, Nat.reduceLT, Nat.reduceEqDiff, Nat.reduceAdd, Nat.reduceLeDiff, Nat.reduceSub, Nat.reduceMul, ↓reduceIte, reduceCtorEq, w_app_nl, wrap_id, w_ite_ne, w_ite_lt]; done)), X2, (by first | ((try simp (maxSteps := 1000000) only [go_sem, Int.reduceEq, Int.reduceLT, Int.reduceLE, Int.reduceToNat, Nat.reduceLT, Nat.reduceEqDiff, Nat.reduceAdd, Nat.reduceLeDiff, Nat.reduceSub, Nat.reduceMul, ↓reduceIte, reduceCtorEq, w_app_nl]); done) | ((try simp (maxSteps := 1000000) only [go_sem, Int.reduceEq, Int.reduceLT, Int.reduceLE, Int.reduceToNat, Nat.reduceLT, Nat.reduceEqDiff, Nat.reduceAdd, Nat.reduceLeDiff, Nat.reduceSub, Nat.reduceMul, ↓reduceIte, reduceCtorEq, w_app_nl]); rfl) | ((try simp (maxSteps := 1000000) (disch := omega) only [go_sem, Int.reduceEq, Int.reduceLT, Int.reduceLE, Int.reduceToNat, Nat.reduceLT, Nat.reduceEqDiff, Nat.reduceAdd, Nat.reduceLeDiff, Nat.reduceSub, Nat.reduceMul, ↓reduceIte, reduceCtorEq, w_app_nl, wrap_id, w_ite_ne, w_ite_lt]); rfl) | (simp (maxSteps := 1000000) (disch := omega) only [go_sem, Int.reduceEq, Int.reduceLT, Int.reduceLE, Int.reduceToNat, Nat.reduceLT, Nat.reduceEqDiff, Nat.reduceAdd, Nat.reduceLeDiff, Nat.reduceSub, Nat.reduceMul, ↓reduceIte, reduceCtorEq, w_app_nl, wrap_id, w_ite_ne, w_ite_lt]; done)), ?_, o2, o1, by try simp (maxSteps := 500000) (disch := omega) only [go_sem, Int.reduceEq, Int.reduceLT, Int.reduceLE, Int.reduceToNat, Nat.reduceLT, Nat.reduceEqDiff, Nat.reduceAdd, Nat.reduceLeDiff, Nat.reduceSub, Nat.reduceMul, ↓reduceIte, reduceCtorEq, wrap_id, w_ite_ne, w_ite_lt, Nat.sub_zero, Nat.sub_self]; exact r1⟩
        rw [hft1, show ∀ L : List Od, ods (L ++ [o]) = ods L ++ [AV.agg [.int .i64 o.n, .int .i64 o.k, .int .i64 o.i, .int .i64 o.v]] from fun L => by simp [ods, odv]]
        refine hR2.move (Nat.le_refl _) fun i hi hi2 => ?_
        have : ¬ i = 2 := fun e => hi2 (by subst e; exact o2)
        simp only at hi
        try simp (maxSteps := 500000) (disch := omega) only [go_sem, Int.reduceEq, Int.reduceLT, Int.reduceLE, Int.reduceToNat, Nat.reduceLT, Nat.reduceEqDiff, Nat.reduceAdd, Nat.reduceLeDiff, Nat.reduceSub, Nat.reduceMul, ↓reduceIte, reduceCtorEq, wrap_id, w_ite_ne, w_ite_lt, Nat.sub_zero, Nat.sub_self, this]
      · try simp (maxSteps := 500000) (disch := omega) only [go_sem, Int.reduceEq, Int.reduceLT, Int.reduceLE, Int.reduceToNat, Nat.reduceLT, Nat.reduceEqDiff, Nat.reduceAdd, Nat.reduceLeDiff, Nat.reduceSub, Nat.reduceMul, ↓reduceIte, reduceCtorEq, wrap_id, w_ite_ne, w_ite_lt, Nat.sub_zero, Nat.sub_self, h28]
        have hft1 := hft.trans (by rw [show (!decide (o.n ≤ n)) = false by simp; omega, if_neg (by simp), List.append_nil])
        have hm1 : ¬ m = 1 := by omega
        have hm2 : ¬ m = 2 := by omega
        refine up_nextG m hkl hm ⟨(by first | ((try simp (maxSteps := 1000000) only [go_sem, Int.reduceEq, Int.reduceLT, Int.reduceLE, Int.reduceToNat, Nat.reduceLT, Nat.reduceEqDiff, Nat.reduceAdd, Nat.reduceLeDiff, Nat.reduceSub, Nat.reduceMul, ↓reduceIte, reduceCtorEq, w_app_nl]); done) | ((try simp (maxSteps := 1000000) only [go_sem, Int.reduceEq, Int.reduceLT, Int.reduceLE, Int.reduceToNat, Nat.reduceLT, Nat.reduceEqDiff, Nat.reduceAdd, Nat.reduceLeDiff, Nat.reduceSub, Nat.reduceMul, ↓reduceIte, reduceCtorEq, w_app_nl]); rfl) | ((try simp (maxSteps := 1000000) (disch := omega) only [go_sem, Int.reduceEq, Int.reduceLT, Int.reduceLE, Int.reduceToNat, Nat.reduceLT, Nat.reduceEqDiff, Nat.reduceAdd, Nat.reduceLeDiff, Nat.reduceSub, Nat.reduceMul, ↓reduceIte, reduceCtorEq, w_app_nl, wrap_id, w_ite_ne, w_ite_lt]); rfl) | (simp (maxSteps := 1000000) (disch := omega) only [go_sem, Int.reduceEq, Int.reduceLT, Int.reduceLE, Int.reduceToNat, Nat.reduceLT, Nat.reduceEqDiff, Nat.reduceAdd, Nat.reduceLeDiff, Nat.reduceSub, Nat.reduceMul, ↓reduceIte, reduceCtorEq, w_app_nl, wrap_id, w_ite_ne, w_ite_lt]; done)), X, ?_, ?_, ho2, ho1, ?_⟩
        · try simp (maxSteps := 500000) (disch := omega) only [go_sem, Int.reduceEq, Int.reduceLT, Int.reduceLE, Int.reduceToNat, Nat.reduceLT, Nat.reduceEqDiff, Nat.reduceAdd, Nat.reduceLeDiff, Nat.reduceSub, Nat.reduceMul, ↓reduceIte, reduceCtorEq, wrap_id, w_ite_ne, w_ite_lt, Nat.sub_zero, Nat.sub_self, hm2]; exact h2
        · rw [hft1]
          refine hR.move (Nat.le_refl _) fun i hi _ => ?_
          simp only at hi
          try simp (maxSteps := 500000) (disch := omega) only [go_sem, Int.reduceEq, Int.reduceLT, Int.reduceLE, Int.reduceToNat, Nat.reduceLT, Nat.reduceEqDiff, Nat.reduceAdd, Nat.reduceLeDiff, Nat.reduceSub, Nat.reduceMul, ↓reduceIte, reduceCtorEq, wrap_id, w_ite_ne, w_ite_lt, Nat.sub_zero, Nat.sub_self]
        · try simp (maxSteps := 500000) (disch := omega) only [go_sem, Int.reduceEq, Int.reduceLT, Int.reduceLE, Int.reduceToNat, Nat.reduceLT, Nat.reduceEqDiff, Nat.reduceAdd, Nat.reduceLeDiff, Nat.reduceSub, Nat.reduceMul, ↓reduceIte, reduceCtorEq, wrap_id, w_ite_ne, w_ite_lt, Nat.sub_zero, Nat.sub_self, hm1]; exact h1
    · have hkl : k = s.l.length := by omega
      subst hkl
      rw [List.take_length] at hR
      try simp (maxSteps := 500000) (disch := omega) only [go_sem, Int.reduceEq, Int.reduceLT, Int.reduceLE, Int.reduceToNat, Nat.reduceLT, Nat.reduceEqDiff, Nat.reduceAdd, Nat.reduceLeDiff, Nat.reduceSub, Nat.reduceMul, ↓reduceIte, reduceCtorEq, wrap_id, w_ite_ne, w_ite_lt, Nat.sub_zero, Nat.sub_self, h2, h1, hR.one]
      refine Pub.pair (Pub.ag (.cons ?_ (.cons ?_ .nil))) ?_
      · exact .pure rfl
      rotate_left
      · exact .pure rfl
      refine hR.pub (fun i hi hi2 => ?_) (ods_pur _) (ods_ok _)
      have : ¬ i = 1 := fun e => hi2 (by subst e; exact ho1)
      simp [this, go_sem]
/-- What is left of the early orders: nothing, or the rest of an object. -/
def EaR (σ : St) (L : List AV) (k id g : Nat) (E : AV) : Prop := (k = L.length ∧ (E = .nil ∨ E = .list 4 [])) ∨ (E = .sl id g 4 k (L.length - k) ∧ σ.ob id = some ⟨g, 4, ty_el_Order, false, true, L⟩)
theorem ok_orders_Take (t : Sn) (o : Od) (hl : t.l.length ≤ 9223372036854775807) : PC prog n_orders_Take [snv t, odv o] (.tuple [snv (takT t o).1, .list 4 (ods (takT t o).2.1), .int .i64 (takT t o).2.2.1, .int .i64 (takT t o).2.2.2]) := by
  have no : ∀ {σ : St} (e : Int), takT t o = (⟨0, []⟩, [], 0, e) → Pub σ (.tuple [.agg [.int .i64 0, .nil], .nil, .int .i64 0, .int .i64 e]) (.tuple [snv (takT t o).1, .list 4 (ods (takT t o).2.1), .int .i64 (takT t o).2.2.1, .int .i64 (takT t o).2.2.2]) := by
    intro σ e h
    rw [h]
    exact Pub.tu (.cons (Pub.ag (.cons (.pure rfl) (.cons (.nl 4) .nil))) (.cons (.nl 4) (.cons (.pure rfl) (.cons (.pure rfl) .nil))))
  refine PC_of_body b_orders_Take (by simp) ?_
  simp only [c_orders_Take, go_sem, Int.reduceEq, Int.reduceLT, Int.reduceLE, Int.reduceToNat, Nat.reduceLT, Nat.reduceEqDiff, Nat.reduceAdd, Nat.reduceLeDiff, Nat.reduceSub, Nat.reduceMul, ↓reduceIte, reduceCtorEq, w_app_nl, snv, odv]
  refine call_pc (ok_orders_Right t hl) (by simp [go_sem, snv, ods_pur]) ?_
  cases hok : snOk t <;> try simp (maxSteps := 500000) (disch := omega) only [go_sem, Int.reduceEq, Int.reduceLT, Int.reduceLE, Int.reduceToNat, Nat.reduceLT, Nat.reduceEqDiff, Nat.reduceAdd, Nat.reduceLeDiff, Nat.reduceSub, Nat.reduceMul, ↓reduceIte, reduceCtorEq, wrap_id, w_ite_ne, w_ite_lt, Nat.sub_zero, Nat.sub_self]
  · exact no 50 (by simp [takT, hok])
  have hb := snOk_l hok
  refine call_pc (ok_orders_proper o) (by simp [go_sem, odv]) ?_
  cases hoo : odOk o <;> try simp (maxSteps := 500000) (disch := omega) only [go_sem, Int.reduceEq, Int.reduceLT, Int.reduceLE, Int.reduceToNat, Nat.reduceLT, Nat.reduceEqDiff, Nat.reduceAdd, Nat.reduceLeDiff, Nat.reduceSub, Nat.reduceMul, ↓reduceIte, reduceCtorEq, wrap_id, w_ite_ne, w_ite_lt, Nat.sub_zero, Nat.sub_self]
  · exact no 3 (by simp [takT, hok, hoo])
  have ho := odOk_n hoo
  refine (hcl_slices_Clone__Order _ (ods t.l) (by rw [ods_length]; omega)).mono ?_
  rintro _ τ ⟨id, g, rfl, q1, q2, q3, q4⟩
  obtain ⟨ob, m, c⟩ := τ
  have p0 := q4 0 (by simp [go_sem])
  have p1 := q4 1 (by simp [go_sem])
  have p2 := q4 2 (by simp [go_sem])
  clear q4
  simp (maxSteps := 1000000) only [go_sem, Int.reduceEq, Int.reduceLT, Int.reduceLE, Int.reduceToNat, Nat.reduceLT, Nat.reduceEqDiff, Nat.reduceAdd, Nat.reduceLeDiff, Nat.reduceSub, Nat.reduceMul, ↓reduceIte, reduceCtorEq, w_app_nl] at q1 q2 q3 p0 p1 p2
  have m0 : ¬ m = 0 := by omega
  have m1 : ¬ m = 1 := by omega
  have m2 : ¬ m = 2 := by omega
  have im : ¬ id = m := by omega
  try simp (maxSteps := 500000) (disch := omega) only [go_sem, Int.reduceEq, Int.reduceLT, Int.reduceLE, Int.reduceToNat, Nat.reduceLT, Nat.reduceEqDiff, Nat.reduceAdd, Nat.reduceLeDiff, Nat.reduceSub, Nat.reduceMul, ↓reduceIte, reduceCtorEq, wrap_id, w_ite_ne, w_ite_lt, Nat.sub_zero, Nat.sub_self, ods_length, q3, p1, p2, p0, m0, m1, m2]
  obtain ⟨ob1, hob1⟩ : ∃ f, f = upd (upd ob m (some ⟨c, 2, 31, false, true, [AV.agg [.int .i64 0, .nil]]⟩)) m (some ⟨c, 2, 31, false, true, [AV.agg [.int .i64 t.d, .sl id g 4 0 t.l.length]]⟩) := ⟨_, rfl⟩
  rw [← hob1]
  have e0 : ob1 0 = some ⟨0, 2, 31, false, true, [AV.agg [.int .i64 t.d, .list 4 (ods t.l)]]⟩ := by rw [hob1, upd_ne _ _ _ _ (by omega), upd_ne _ _ _ _ (by omega)]; exact p0
  have e1 : ob1 1 = some ⟨1, 4, ty_el_Order, false, true, [AV.agg [.int .i64 o.n, .int .i64 o.k, .int .i64 o.i, .int .i64 o.v]]⟩ := by rw [hob1, upd_ne _ _ _ _ (by omega), upd_ne _ _ _ _ (by omega)]; exact p1
  have e2 : ob1 2 = some ⟨2, 2, 31, false, true, [AV.agg [.int .i64 0, .nil]]⟩ := by rw [hob1, upd_ne _ _ _ _ (by omega), upd_ne _ _ _ _ (by omega)]; exact p2
  have em : ob1 m = some ⟨c, 2, 31, false, true, [AV.agg [.int .i64 t.d, .sl id g 4 0 t.l.length]]⟩ := by rw [hob1, upd_same]
  have ei : ob1 id = some ⟨g, 4, ty_el_Order, false, true, ods t.l⟩ := by rw [hob1, upd_ne _ _ _ _ im, upd_ne _ _ _ _ im]; exact q3
  clear hob1 p0 p1 p2 q3
  have i2 : ¬ id = 2 := by omega
  have okd : ∀ {σ : St} (L : List Od) (d : Int), takT t o = (⟨d, L⟩, [], d, 0) → ∀ X, Pub σ X (.list 4 (ods L)) → Pub σ (.tuple [.agg [.int .i64 d, X], .nil, .int .i64 d, .int .i64 0]) (.tuple [.agg [.int .i64 (takT t o).1.d, .list 4 (ods (takT t o).1.l)], .list 4 (ods (takT t o).2.1), .int .i64 (takT t o).2.2.1, .int .i64 (takT t o).2.2.2]) := by
    intro σ L d h X hX
    rw [h]
    exact Pub.tu (.cons (Pub.ag (.cons (.pure rfl) (.cons hX .nil))) (.cons (.nl 4) (.cons (.pure rfl) (.cons (.pure rfl) .nil))))
  refine cond_d (fun g1 => ?_) (fun g1 => ?_)
  · try simp (maxSteps := 500000) (disch := omega) only [go_sem, Int.reduceEq, Int.reduceLT, Int.reduceLE, Int.reduceToNat, Nat.reduceLT, Nat.reduceEqDiff, Nat.reduceAdd, Nat.reduceLeDiff, Nat.reduceSub, Nat.reduceMul, ↓reduceIte, reduceCtorEq, wrap_id, w_ite_ne, w_ite_lt, Nat.sub_zero, Nat.sub_self, e2, em, m2]
    refine okd t.l t.d (by simp only [takT, hok, hoo, if_true, if_pos g1]) _ (Pub.of_sl (ty := ty_el_Order) (ro := false) (ap := true) ?_ (by rw [ods_length]) (ods_pur _) (ods_ok _))
    simp [i2, ei, go_sem]
  try simp (maxSteps := 500000) (disch := omega) only [go_sem, Int.reduceEq, Int.reduceLT, Int.reduceLE, Int.reduceToNat, Nat.reduceLT, Nat.reduceEqDiff, Nat.reduceAdd, Nat.reduceLeDiff, Nat.reduceSub, Nat.reduceMul, ↓reduceIte, reduceCtorEq, wrap_id, w_ite_ne, w_ite_lt, Nat.sub_zero, Nat.sub_self, e0, e1]
  refine cond_d (fun g2 => ?_) (fun g2 => ?_)
  · try simp (maxSteps := 500000) (disch := omega) only [go_sem, Int.reduceEq, Int.reduceLT, Int.reduceLE, Int.reduceToNat, Nat.reduceLT, Nat.reduceEqDiff, Nat.reduceAdd, Nat.reduceLeDiff, Nat.reduceSub, Nat.reduceMul, ↓reduceIte, reduceCtorEq, wrap_id, w_ite_ne, w_ite_lt, Nat.sub_zero, Nat.sub_self, em, e1]
    obtain ⟨N, hN⟩ : ∃ N, N = t.l.map Od.n := ⟨_, rfl⟩
    have hP := ok_orders_place__Order t.l o (t.d + 1) hb.2.2.1 hb.2.2.2 hoo
    have hin := bsI_le N o.n
    have htk : takT t o = if N[bsI N o.n]? = some o.n then (t, [], t.d, 0) else if t.l.length = 64 then (⟨0, []⟩, [], 0, 10) else (⟨t.d, t.l.take (bsI N o.n) ++ o :: t.l.drop (bsI N o.n)⟩, [], t.d, 0) := by
      simp only [takT, hok, hoo, if_true, ← hN]; rw [if_neg (by omega), if_neg (by omega)]
    rw [← hN] at hP
    have hNl : N.length = t.l.length := by simp [hN]
    rw [hNl] at hin
    clear hN
    generalize bsI N o.n = i at *
    refine call_lent hP (.cons (Pub.of_sl ei (by rw [ods_length]) (ods_pur _) (ods_ok _)) (.cons (.pure (by simp [go_sem, odv])) (.cons (.pure rfl) .nil))) rfl ?_
    try simp (maxSteps := 500000) (disch := omega) only [go_sem, Int.reduceEq, Int.reduceLT, Int.reduceLE, Int.reduceToNat, Nat.reduceLT, Nat.reduceEqDiff, Nat.reduceAdd, Nat.reduceLeDiff, Nat.reduceSub, Nat.reduceMul, ↓reduceIte, reduceCtorEq, wrap_id, w_ite_ne, w_ite_lt, Nat.sub_zero, Nat.sub_self]
    by_cases hat : N[i]? = some o.n
    · rw [if_pos hat] at htk
      try simp (maxSteps := 500000) (disch := omega) only [go_sem, Int.reduceEq, Int.reduceLT, Int.reduceLE, Int.reduceToNat, Nat.reduceLT, Nat.reduceEqDiff, Nat.reduceAdd, Nat.reduceLeDiff, Nat.reduceSub, Nat.reduceMul, ↓reduceIte, reduceCtorEq, wrap_id, w_ite_ne, w_ite_lt, Nat.sub_zero, Nat.sub_self, hat, decide_true, e2, em, m2]
      refine okd t.l t.d htk _ (Pub.of_sl (ty := ty_el_Order) (ro := false) (ap := true) ?_ (by rw [ods_length]) (ods_pur _) (ods_ok _))
      simp [i2, ei, go_sem]
    · rw [decide_eq_false hat]
      rw [if_neg hat] at htk
      try simp (maxSteps := 500000) (disch := omega) only [go_sem, Int.reduceEq, Int.reduceLT, Int.reduceLE, Int.reduceToNat, Nat.reduceLT, Nat.reduceEqDiff, Nat.reduceAdd, Nat.reduceLeDiff, Nat.reduceSub, Nat.reduceMul, ↓reduceIte, reduceCtorEq, wrap_id, w_ite_ne, w_ite_lt, Nat.sub_zero, Nat.sub_self, em]
      refine cond_d (fun g3 => ?_) (fun g3 => ?_)
      · try simp (maxSteps := 500000) (disch := omega) only [go_sem, Int.reduceEq, Int.reduceLT, Int.reduceLE, Int.reduceToNat, Nat.reduceLT, Nat.reduceEqDiff, Nat.reduceAdd, Nat.reduceLeDiff, Nat.reduceSub, Nat.reduceMul, ↓reduceIte, reduceCtorEq, wrap_id, w_ite_ne, w_ite_lt, Nat.sub_zero, Nat.sub_self, e2]
        exact no 10 (by rw [htk, if_pos (by omega)])
      rw [if_neg (by omega)] at htk
      try simp (maxSteps := 500000) (disch := omega) only [go_sem, Int.reduceEq, Int.reduceLT, Int.reduceLE, Int.reduceToNat, Nat.reduceLT, Nat.reduceEqDiff, Nat.reduceAdd, Nat.reduceLeDiff, Nat.reduceSub, Nat.reduceMul, ↓reduceIte, reduceCtorEq, wrap_id, w_ite_ne, w_ite_lt, Nat.sub_zero, Nat.sub_self, e1, em]
      have hI := hc_slices_Insert__Order ⟨upd ob1 (m + 1) (some ⟨c + 1, 4, ty_el_Order, false, true, [.agg [.int .i64 o.n, .int .i64 o.k, .int .i64 o.i, .int .i64 o.v]]⟩), m + 2, c + 2⟩ id g (m + 1) (c + 1) ty_el_Order (ods t.l) (.agg [.int .i64 o.n, .int .i64 o.k, .int .i64 o.i, .int .i64 o.v]) i
        (by simp only; rw [upd_ne _ _ _ _ (by omega)]; exact ei) (upd_same _ _ _) (by omega) (by simp only; omega) (by simp only; omega) (by rw [ods_length]; omega) (by rw [ods_length]; omega)
      rw [ods_length, show (ods t.l).take i ++ AV.agg [.int .i64 o.n, .int .i64 o.k, .int .i64 o.i, .int .i64 o.v] :: (ods t.l).drop i = ods (t.l.take i ++ o :: t.l.drop i) by simp [ods, odv]] at hI
      refine hI.mono ?_
      rintro _ τ ⟨id', g', rfl, hid', _, _, h1, hk⟩
      obtain ⟨ob2, m2', c2'⟩ := τ
      have k2 := hk 2 (by simp only; omega) (by omega)
      have km := hk m (by simp only; omega) (by omega)
      simp only at k2 km h1 hid'
      rw [upd_ne _ _ _ _ (by omega), e2] at k2
      rw [upd_ne _ _ _ _ (by omega), em] at km
      try simp (maxSteps := 500000) (disch := omega) only [go_sem, Int.reduceEq, Int.reduceLT, Int.reduceLE, Int.reduceToNat, Nat.reduceLT, Nat.reduceEqDiff, Nat.reduceAdd, Nat.reduceLeDiff, Nat.reduceSub, Nat.reduceMul, ↓reduceIte, reduceCtorEq, wrap_id, w_ite_ne, w_ite_lt, Nat.sub_zero, Nat.sub_self, km, k2, m2]
      refine okd _ t.d htk _ (Pub.of_sl (n := (ods (t.l.take i ++ o :: t.l.drop i)).length) (ty := ty_el_Order) (ro := false) (ap := true) ?_ rfl (ods_pur _) (ods_ok _))
      have j2 : ¬ id' = 2 := by omega
      have jm : ¬ id' = m := by omega
      simp [j2, jm, h1, go_sem]
  · have htk : takT t o = (⟨t.d + 1 + runLen o.n t.l, t.l.drop (runLen o.n t.l)⟩, o :: t.l.take (runLen o.n t.l), t.d + 1 + runLen o.n t.l, 0) := by
      simp only [takT, hok, hoo, if_true]; rw [if_neg (by omega), if_pos (by omega)]
    have hRl := runLen_le t.l o.n
    try simp (maxSteps := 500000) (disch := omega) only [go_sem, Int.reduceEq, Int.reduceLT, Int.reduceLE, Int.reduceToNat, Nat.reduceLT, Nat.reduceEqDiff, Nat.reduceAdd, Nat.reduceLeDiff, Nat.reduceSub, Nat.reduceMul, ↓reduceIte, reduceCtorEq, wrap_id, w_ite_ne, w_ite_lt, Nat.sub_zero, Nat.sub_self, e1]
    refine loop_cut [11, 68, 69, 70, 71, 72, 73, 74, 75, 76, 77, 78, 79, 80, 81, 82, 83, 84, 85, 86, 87, 88, 89, 90, 91, 92, 93, 94, 95, 96, 97, 98] (by kernel_rfl) (fun e σ => ∃ E, σ.ob m = some ⟨c, 2, 31, false, true, [.agg [.int .i64 t.d, E]]⟩ ∧ σ.ob 2 = some ⟨2, 2, 31, false, true, [AV.agg [.int .i64 0, .nil]]⟩ ∧
      EaR σ (ods t.l) (runLen o.n t.l) id g E ∧ SlR 4 ty_el_Order σ (ods (o :: t.l.take (runLen o.n t.l))) (e 11) ∧ Oth (e 11) m ∧ Oth (e 11) 2 ∧ Oth (e 11) id ∧ m + 2 ≤ σ.n) ?_ ?_
    · refine awp_upG [11, 68, 69, 70, 71, 72, 73, 74, 75, 76, 77, 78, 79, 80, 81, 82, 83, 84, 85, 86, 87, 88, 89, 90, 91, 92, 93, 94, 95, 96, 97, 98] (by kernel_rfl) (runLen o.n t.l) (fun k e σ => ∃ E, σ.ob m = some ⟨c, 2, 31, false, true, [.agg [.int .i64 t.d, E]]⟩ ∧ σ.ob 2 = some ⟨2, 2, 31, false, true, [AV.agg [.int .i64 0, .nil]]⟩ ∧
        EaR σ (ods t.l) k id g E ∧ SlR 4 ty_el_Order σ (ods (o :: t.l.take k)) (e 11) ∧ Oth (e 11) m ∧ Oth (e 11) 2 ∧ Oth (e 11) id) ?_ ?_
      · refine ⟨.sl id g 4 0 t.l.length, ?_⟩
        try simp (maxSteps := 500000) (disch := omega) only [go_sem, Int.reduceEq, Int.reduceLT, Int.reduceLE, Int.reduceToNat, Nat.reduceLT, Nat.reduceEqDiff, Nat.reduceAdd, Nat.reduceLeDiff, Nat.reduceSub, Nat.reduceMul, ↓reduceIte, reduceCtorEq, wrap_id, w_ite_ne, w_ite_lt, Nat.sub_zero, Nat.sub_self, em, e2]
        exact ⟨.inr ⟨by simp [ods], by try simp (maxSteps := 500000) (disch := omega) only [go_sem, Int.reduceEq, Int.reduceLT, Int.reduceLE, Int.reduceToNat, Nat.reduceLT, Nat.reduceEqDiff, Nat.reduceAdd, Nat.reduceLeDiff, Nat.reduceSub, Nat.reduceMul, ↓reduceIte, reduceCtorEq, wrap_id, w_ite_ne, w_ite_lt, Nat.sub_zero, Nat.sub_self]; exact ei⟩, .inr ⟨m + 1, c + 1, rfl, by simp [go_sem], by try simp (maxSteps := 500000) (disch := omega) only [go_sem, Int.reduceEq, Int.reduceLT, Int.reduceLE, Int.reduceToNat, Nat.reduceLT, Nat.reduceEqDiff, Nat.reduceAdd, Nat.reduceLeDiff, Nat.reduceSub, Nat.reduceMul, ↓reduceIte, reduceCtorEq, wrap_id, w_ite_ne, w_ite_lt, Nat.sub_zero, Nat.sub_self]; simp [ods, odv]⟩, Oth.sl (by omega), Oth.sl (by omega), Oth.sl (by omega)⟩
      · rintro k fe ob m' c' hk hm ⟨E, hm1, h2, hE, hX, xm, x2, xi⟩
        obtain ⟨X, h11⟩ : ∃ X, fe 11 = X := ⟨_, rfl⟩
        simp (maxSteps := 1000000) only [go_sem, Int.reduceEq, Int.reduceLT, Int.reduceLE, Int.reduceToNat, Nat.reduceLT, Nat.reduceEqDiff, Nat.reduceAdd, Nat.reduceLeDiff, Nat.reduceSub, Nat.reduceMul, ↓reduceIte, reduceCtorEq, w_app_nl] at hm1 h2 hX hE hm xm x2 xi
        rw [h11] at hX xm x2 xi
        rcases hX with ⟨_, h⟩ | ⟨id2, g2, hXX, hx1, hx2⟩
        · simp [ods] at h
        have hxl : (ods (o :: t.l.take k)).length = k + 1 := by simp [ods]; omega
        rw [hxl] at hXX
        subst hXX
        obtain ⟨q, hq1, hq2⟩ := run_last hk
        have hq : (ods (o :: t.l.take k))[k]? = some (odv q) := by rw [ods_get, hq1]; rfl
        have hkn : (((k + 1 : Nat) : Int) - 1).toNat = k := by omega
        have i2m : ¬ id2 = m := xm.ne
        have i22 : ¬ id2 = 2 := x2.ne
        have i2i : ¬ id2 = id := xi.ne
        by_cases hkR : k < runLen o.n t.l
        · have hkl : k < t.l.length := by omega
          rcases hE with ⟨h, _⟩ | ⟨rfl, hob⟩
          · rw [ods_length] at h; omega
          simp only at hx1 hx2 hob
          have hg : t.l[k]? = some t.l[k] := List.getElem?_eq_getElem hkl
          have hgn := runLen_all hkR hg
          have hst : ods (o :: t.l.take k) ++ [odv t.l[k]] = ods (o :: t.l.take (k + 1)) := by rw [List.take_add_one, hg]; simp only [ods, List.map_cons, List.map_append, Option.toList_some, List.map_nil, List.cons_append]
          generalize t.l[k] = y at *
          have hgy : (ods t.l)[k]? = some (odv y) := by rw [ods_get, hg]; rfl
          try simp (maxSteps := 500000) (disch := omega) only [go_sem, Int.reduceEq, Int.reduceLT, Int.reduceLE, Int.reduceToNat, Nat.reduceLT, Nat.reduceEqDiff, Nat.reduceAdd, Nat.reduceLeDiff, Nat.reduceSub, Nat.reduceMul, ↓reduceIte, reduceCtorEq, wrap_id, w_ite_ne, w_ite_lt, Nat.sub_zero, Nat.sub_self, h11, hm1, ods_length]
          refine gd_td rfl (fun hpos => ?_) (fun h => absurd h (by omega))
          try simp (maxSteps := 500000) (disch := omega) only [go_sem, Int.reduceEq, Int.reduceLT, Int.reduceLE, Int.reduceToNat, Nat.reduceLT, Nat.reduceEqDiff, Nat.reduceAdd, Nat.reduceLeDiff, Nat.reduceSub, Nat.reduceMul, ↓reduceIte, reduceCtorEq, wrap_id, w_ite_ne, w_ite_lt, Nat.sub_zero, Nat.sub_self, h11, hm1, hkn, hx2, hob, hq, hgy, ods_length, hxl, odv]
          refine ⟨by omega, by omega, by omega, ?_⟩
          refine cond_d (fun _ => ?_) (fun h => absurd (show y.n = q.n + 1 by omega) h)
          try simp (maxSteps := 500000) (disch := omega) only [go_sem, Int.reduceEq, Int.reduceLT, Int.reduceLE, Int.reduceToNat, Nat.reduceLT, Nat.reduceEqDiff, Nat.reduceAdd, Nat.reduceLeDiff, Nat.reduceSub, Nat.reduceMul, ↓reduceIte, reduceCtorEq, wrap_id, w_ite_ne, w_ite_lt, Nat.sub_zero, Nat.sub_self, h11, hm1, hob, hgy, hx2, hxl, odv, ods_length, i2m]
          have hmx : k + 1 + 1 ≤ maxLen := by rw [mxL]; omega
          have hl2 : (ods (o :: t.l.take (k + 1))).length = k + 1 + 1 := by simp [ods]; omega
          have hidm : id < m' := by omega
          have h2m : 2 < m' := by omega
          have hmm : m < m' := by omega
          refine ⟨by omega, fun he => ⟨by omega, hmx, by omega, up_nextG m' hkR hm ?_⟩, fun he => ⟨by omega, hmx, by omega, up_nextG m' hkR hm ?_⟩⟩
          · refine ⟨.list 4 [], ?_⟩
            try simp (maxSteps := 500000) (disch := omega) only [go_sem, Int.reduceEq, Int.reduceLT, Int.reduceLE, Int.reduceToNat, Nat.reduceLT, Nat.reduceEqDiff, Nat.reduceAdd, Nat.reduceLeDiff, Nat.reduceSub, Nat.reduceMul, ↓reduceIte, reduceCtorEq, wrap_id, w_ite_ne, w_ite_lt, Nat.sub_zero, Nat.sub_self, h2, hmm]
            exact ⟨.inl ⟨by rw [ods_length]; omega, .inr rfl⟩, .inr ⟨id2, c', by rw [hl2], hx1, by try simp (maxSteps := 500000) (disch := omega) only [go_sem, Int.reduceEq, Int.reduceLT, Int.reduceLE, Int.reduceToNat, Nat.reduceLT, Nat.reduceEqDiff, Nat.reduceAdd, Nat.reduceLeDiff, Nat.reduceSub, Nat.reduceMul, ↓reduceIte, reduceCtorEq, wrap_id, w_ite_ne, w_ite_lt, Nat.sub_zero, Nat.sub_self]; rw [← hst]; rfl⟩, Oth.sl i2m, Oth.sl i22, Oth.sl i2i⟩
          · refine ⟨.sl id g 4 (k + 1) (t.l.length - (k + 1)), ?_⟩
            try simp (maxSteps := 500000) (disch := omega) only [go_sem, Int.reduceEq, Int.reduceLT, Int.reduceLE, Int.reduceToNat, Nat.reduceLT, Nat.reduceEqDiff, Nat.reduceAdd, Nat.reduceLeDiff, Nat.reduceSub, Nat.reduceMul, ↓reduceIte, reduceCtorEq, wrap_id, w_ite_ne, w_ite_lt, Nat.sub_zero, Nat.sub_self, h2, hmm, Nat.sub_sub]
            exact ⟨.inr ⟨by rw [ods_length], by try simp (maxSteps := 500000) (disch := omega) only [go_sem, Int.reduceEq, Int.reduceLT, Int.reduceLE, Int.reduceToNat, Nat.reduceLT, Nat.reduceEqDiff, Nat.reduceAdd, Nat.reduceLeDiff, Nat.reduceSub, Nat.reduceMul, ↓reduceIte, reduceCtorEq, wrap_id, w_ite_ne, w_ite_lt, Nat.sub_zero, Nat.sub_self]; exact hob⟩, .inr ⟨id2, c', by rw [hl2], hx1, by try simp (maxSteps := 500000) (disch := omega) only [go_sem, Int.reduceEq, Int.reduceLT, Int.reduceLE, Int.reduceToNat, Nat.reduceLT, Nat.reduceEqDiff, Nat.reduceAdd, Nat.reduceLeDiff, Nat.reduceSub, Nat.reduceMul, ↓reduceIte, reduceCtorEq, wrap_id, w_ite_ne, w_ite_lt, Nat.sub_zero, Nat.sub_self]; rw [← hst]; rfl⟩, Oth.sl i2m, Oth.sl i22, Oth.sl i2i⟩
        · have hkR2 : k = runLen o.n t.l := by omega
          subst hkR2
          have hn' : m + 2 ≤ m' := hm
          have key : ∃ E, ob m = some ⟨c, 2, 31, false, true, [.agg [.int .i64 t.d, E]]⟩ ∧ ob 2 = some ⟨2, 2, 31, false, true, [AV.agg [.int .i64 0, .nil]]⟩ ∧
              EaR ⟨ob, m', c'⟩ (ods t.l) (runLen o.n t.l) id g E ∧ SlR 4 ty_el_Order ⟨ob, m', c'⟩ (ods (o :: t.l.take (runLen o.n t.l))) (.sl id2 g2 4 0 (runLen o.n t.l + 1)) ∧ Oth (.sl id2 g2 4 0 (runLen o.n t.l + 1)) m ∧ Oth (.sl id2 g2 4 0 (runLen o.n t.l + 1)) 2 ∧ Oth (.sl id2 g2 4 0 (runLen o.n t.l + 1)) id ∧ m + 2 ≤ m' :=
            ⟨E, hm1, h2, hE, .inr ⟨id2, g2, by rw [hxl], hx1, hx2⟩, xm, x2, xi, hn'⟩
          have hrg : ∀ y, t.l[runLen o.n t.l]? = some y → ¬ y.n = q.n + 1 := fun y hy => by
            have := runLen_get t.l o.n (runLen o.n t.l) y (Nat.le_refl _) hy
            omega
          generalize runLen o.n t.l = R at *
          rcases hE with ⟨h, rfl | rfl⟩ | ⟨rfl, hob⟩
          · try simp (maxSteps := 500000) (disch := omega) only [go_sem, Int.reduceEq, Int.reduceLT, Int.reduceLE, Int.reduceToNat, Nat.reduceLT, Nat.reduceEqDiff, Nat.reduceAdd, Nat.reduceLeDiff, Nat.reduceSub, Nat.reduceMul, ↓reduceIte, reduceCtorEq, wrap_id, w_ite_ne, w_ite_lt, Nat.sub_zero, Nat.sub_self, h11, hm1]
            have := key
            simp only [hm1, go_sem, Int.reduceEq, Int.reduceLT, Int.reduceLE, Int.reduceToNat, Nat.reduceLT, Nat.reduceEqDiff, Nat.reduceAdd, Nat.reduceLeDiff, Nat.reduceSub, Nat.reduceMul, ↓reduceIte, reduceCtorEq, w_app_nl] at this ⊢
            exact this
          · try simp (maxSteps := 500000) (disch := omega) only [go_sem, Int.reduceEq, Int.reduceLT, Int.reduceLE, Int.reduceToNat, Nat.reduceLT, Nat.reduceEqDiff, Nat.reduceAdd, Nat.reduceLeDiff, Nat.reduceSub, Nat.reduceMul, ↓reduceIte, reduceCtorEq, wrap_id, w_ite_ne, w_ite_lt, Nat.sub_zero, Nat.sub_self, h11, hm1]
            have := key
            simp only [hm1, go_sem, Int.reduceEq, Int.reduceLT, Int.reduceLE, Int.reduceToNat, Nat.reduceLT, Nat.reduceEqDiff, Nat.reduceAdd, Nat.reduceLeDiff, Nat.reduceSub, Nat.reduceMul, ↓reduceIte, reduceCtorEq, w_app_nl] at this ⊢
            exact this
          · try simp (maxSteps := 500000) (disch := omega) only [go_sem, Int.reduceEq, Int.reduceLT, Int.reduceLE, Int.reduceToNat, Nat.reduceLT, Nat.reduceEqDiff, Nat.reduceAdd, Nat.reduceLeDiff, Nat.reduceSub, Nat.reduceMul, ↓reduceIte, reduceCtorEq, wrap_id, w_ite_ne, w_ite_lt, Nat.sub_zero, Nat.sub_self, h11, hm1, ods_length]
            refine gd_td rfl (fun hpos => ?_) (fun h => ?_)
            · have hkl : R < t.l.length := by omega
              have hg : t.l[R]? = some t.l[R] := List.getElem?_eq_getElem hkl
              have hgn := hrg _ hg
              generalize t.l[R] = y at *
              have hgy : (ods t.l)[R]? = some (odv y) := by rw [ods_get, hg]; rfl
              simp only at hob hx2
              try simp (maxSteps := 500000) (disch := omega) only [go_sem, Int.reduceEq, Int.reduceLT, Int.reduceLE, Int.reduceToNat, Nat.reduceLT, Nat.reduceEqDiff, Nat.reduceAdd, Nat.reduceLeDiff, Nat.reduceSub, Nat.reduceMul, ↓reduceIte, reduceCtorEq, wrap_id, w_ite_ne, w_ite_lt, Nat.sub_zero, Nat.sub_self, h11, hm1, hkn, hx2, hob, hq, hgy, ods_length, hxl, odv]
              refine ⟨by omega, by omega, by omega, ?_⟩
              refine cond_d (fun h => absurd h hgn) (fun _ => ?_)
              try simp (maxSteps := 500000) (disch := omega) only [go_sem, Int.reduceEq, Int.reduceLT, Int.reduceLE, Int.reduceToNat, Nat.reduceLT, Nat.reduceEqDiff, Nat.reduceAdd, Nat.reduceLeDiff, Nat.reduceSub, Nat.reduceMul, ↓reduceIte, reduceCtorEq, wrap_id, w_ite_ne, w_ite_lt, Nat.sub_zero, Nat.sub_self]
              exact key
            · try simp (maxSteps := 500000) (disch := omega) only [go_sem, Int.reduceEq, Int.reduceLT, Int.reduceLE, Int.reduceToNat, Nat.reduceLT, Nat.reduceEqDiff, Nat.reduceAdd, Nat.reduceLeDiff, Nat.reduceSub, Nat.reduceMul, ↓reduceIte, reduceCtorEq, wrap_id, w_ite_ne, w_ite_lt, Nat.sub_zero, Nat.sub_self]
              exact key
    · rintro fe σ1 ⟨E, hm1, h2, hE, hX, xm, x2, xi, hn⟩
      obtain ⟨ob, m', c'⟩ := σ1
      obtain ⟨X, h11⟩ : ∃ X, fe 11 = X := ⟨_, rfl⟩
      simp (maxSteps := 1000000) only [go_sem, Int.reduceEq, Int.reduceLT, Int.reduceLE, Int.reduceToNat, Nat.reduceLT, Nat.reduceEqDiff, Nat.reduceAdd, Nat.reduceLeDiff, Nat.reduceSub, Nat.reduceMul, ↓reduceIte, reduceCtorEq, w_app_nl] at hm1 h2 hX hE hn xm x2 xi
      rw [h11] at hX xm x2 xi
      rcases hX with ⟨_, h⟩ | ⟨id2, g2, rfl, hx1, hx2⟩
      · simp [ods] at h
      have hxl : (ods (o :: t.l.take (runLen o.n t.l))).length = runLen o.n t.l + 1 := by simp [ods]; omega
      obtain ⟨q, hq1, hq2⟩ := run_last (Nat.le_refl (runLen o.n t.l))
      have hq : (ods (o :: t.l.take (runLen o.n t.l)))[runLen o.n t.l]? = some (odv q) := by rw [ods_get, hq1]; rfl
      have hkn : (((runLen o.n t.l + 1 : Nat) : Int) - 1).toNat = runLen o.n t.l := by omega
      have hod : (ods t.l).drop (runLen o.n t.l) = ods (t.l.drop (runLen o.n t.l)) := by simp [ods]
      rw [htk]
      generalize runLen o.n t.l = R at *
      rw [hxl] at h11 xm x2 xi
      have i2m : ¬ id2 = m := xm.ne
      have i22 : ¬ id2 = 2 := x2.ne
      have i2i : ¬ id2 = id := xi.ne
      simp only at hx1 hx2
      try simp (maxSteps := 500000) (disch := omega) only [go_sem, Int.reduceEq, Int.reduceLT, Int.reduceLE, Int.reduceToNat, Nat.reduceLT, Nat.reduceEqDiff, Nat.reduceAdd, Nat.reduceLeDiff, Nat.reduceSub, Nat.reduceMul, ↓reduceIte, reduceCtorEq, wrap_id, w_ite_ne, w_ite_lt, Nat.sub_zero, Nat.sub_self, h11, hm1, hkn, hx2, hq, hxl, odv]
      refine ⟨by omega, by omega, ?_⟩
      refine call_ro (fun i => decide (¬ i = id)) (okl_slices_Clone__Order (ods (t.l.drop R)) (by rw [ods_length, List.length_drop]; omega) (ods_pur _) (ods_ok _)) (.cons ?_ .nil) (by simp [go_sem]) ?_
      · rw [← hod]
        rcases hE with ⟨h, rfl | rfl⟩ | ⟨rfl, hob⟩
        · rw [h, List.drop_length]; exact .nl 4
        · rw [h, List.drop_length]; exact .pure rfl
        · refine .sl (o := ⟨g, 4, ty_el_Order, false, true, ods t.l⟩) ?_ rfl rfl (by simp only [ods_length]; omega) (by simp) (fun i x y hx hy => ?_) (fun x hx => ods_ok _ x (List.mem_of_mem_drop hx))
          · simp only at hob
            simp [hob]
          · have : ((ods t.l).drop R).take ((ods t.l).length - R) = (ods t.l).drop R := List.take_of_length_le (by simp)
            simp only [] at hx
            rw [this, hy] at hx
            obtain rfl := Option.some.inj hx
            exact .pure (ods_pur t.l _ (List.mem_of_mem_drop (List.mem_of_getElem? hy)))
      have d1 : decide (¬ id2 = id) = true := by simp [i2i]
      have d2 : decide (¬ 2 = id) = true := by simp; omega
      have dm : decide (¬ m = id) = true := by simp; omega
      try simp (maxSteps := 500000) (disch := omega) only [go_sem, Int.reduceEq, Int.reduceLT, Int.reduceLE, Int.reduceToNat, Nat.reduceLT, Nat.reduceEqDiff, Nat.reduceAdd, Nat.reduceLeDiff, Nat.reduceSub, Nat.reduceMul, ↓reduceIte, reduceCtorEq, wrap_id, w_ite_ne, w_ite_lt, Nat.sub_zero, Nat.sub_self, h11, hm1, h2, i2m, i22, m2, d1, d2, dm]
      rw [show q.n = t.d + 1 + (R : Int) by omega]
      refine Pub.tu (.cons (Pub.ag (.cons (.pure rfl) (.cons (.pure rfl) .nil))) (.cons ?_ (.cons (.pure rfl) (.cons (.pure rfl) .nil))))
      refine Pub.of_sl (n := R + 1) (g := g2) (ty := ty_el_Order) (ro := false) (ap := true) ?_ hxl.symm (ods_pur _) (ods_ok _)
      simp [i2m, i22, i2i, go_sem, hx2]
theorem ok_ref27_Take (t : Sn) (o : Od) (hl : t.l.length ≤ 9223372036854775807) : PC prog n_ref27_Take [snv t, odv o] (.tuple [snv (takT t o).1, .list 4 (ods (takT t o).2.1), .int .i64 (takT t o).2.2.1, .int .i64 (takT t o).2.2.2]) := by
  have no : ∀ {σ : St} (e : Int), takT t o = (⟨0, []⟩, [], 0, e) → Pub σ (.tuple [.agg [.int .i64 0, .nil], .nil, .int .i64 0, .int .i64 e]) (.tuple [snv (takT t o).1, .list 4 (ods (takT t o).2.1), .int .i64 (takT t o).2.2.1, .int .i64 (takT t o).2.2.2]) := by
    intro σ e h
    rw [h]
    exact Pub.tu (.cons (Pub.ag (.cons (.pure rfl) (.cons (.nl 4) .nil))) (.cons (.nl 4) (.cons (.pure rfl) (.cons (.pure rfl) .nil))))
  refine PC_of_body b_ref27_Take (by simp) ?_
  simp only [c_ref27_Take, go_sem, Int.reduceEq, Int.reduceLT, Int.reduceLE, Int.reduceToNat, Nat.reduceLT, Nat.reduceEqDiff, Nat.reduceAdd, Nat.reduceLeDiff, Nat.reduceSub, Nat.reduceMul, ↓reduceIte, reduceCtorEq, w_app_nl, snv, odv]
  refine call_pc (ok_ref27_Right t hl) (by simp [go_sem, snv, ods_pur]) ?_
  cases hok : snOk t <;> try simp (maxSteps := 500000) (disch := omega) only [go_sem, Int.reduceEq, Int.reduceLT, Int.reduceLE, Int.reduceToNat, Nat.reduceLT, Nat.reduceEqDiff, Nat.reduceAdd, Nat.reduceLeDiff, Nat.reduceSub, Nat.reduceMul, ↓reduceIte, reduceCtorEq, wrap_id, w_ite_ne, w_ite_lt, Nat.sub_zero, Nat.sub_self]
  · exact no 50 (by simp [takT, hok])
  have hb := snOk_l hok
  refine call_pc (ok_ref27_order o) (by simp [go_sem, odv]) ?_
  cases hoo : odOk o <;> try simp (maxSteps := 500000) (disch := omega) only [go_sem, Int.reduceEq, Int.reduceLT, Int.reduceLE, Int.reduceToNat, Nat.reduceLT, Nat.reduceEqDiff, Nat.reduceAdd, Nat.reduceLeDiff, Nat.reduceSub, Nat.reduceMul, ↓reduceIte, reduceCtorEq, wrap_id, w_ite_ne, w_ite_lt, Nat.sub_zero, Nat.sub_self]
  · exact no 3 (by simp [takT, hok, hoo])
  have ho := odOk_n hoo
  refine app_slrs (es := 4) (b := 32) (L := []) (M := ods t.l) .nil (by simp [ods_length]; omega) (by simp [ods_length]; omega) fun X τ hX hK => ?_
  rw [List.nil_append] at hX
  have e0 := hK.2.1 0 (by simp [go_sem]) (Oth.nil 0)
  have e1 := hK.2.1 1 (by simp [go_sem]) (Oth.nil 1)
  have e2 := hK.2.1 2 (by simp [go_sem]) (Oth.nil 2)
  have o0 := hK.2.2 0 (by simp [go_sem]) (Oth.nil 0)
  have o1 := hK.2.2 1 (by simp [go_sem]) (Oth.nil 1)
  have o2 := hK.2.2 2 (by simp [go_sem]) (Oth.nil 2)
  have hn := hK.1
  clear hK
  obtain ⟨ob, m, c⟩ := τ
  simp (maxSteps := 1000000) only [go_sem, Int.reduceEq, Int.reduceLT, Int.reduceLE, Int.reduceToNat, Nat.reduceLT, Nat.reduceEqDiff, Nat.reduceAdd, Nat.reduceLeDiff, Nat.reduceSub, Nat.reduceMul, ↓reduceIte, reduceCtorEq, w_app_nl] at e0 e1 e2 hn
  have okd : ∀ {σ : St} (L : List Od) (d : Int), takT t o = (⟨d, L⟩, [], d, 0) → ∀ X, Pub σ X (.list 4 (ods L)) → Pub σ (.tuple [.agg [.int .i64 d, X], .nil, .int .i64 d, .int .i64 0]) (.tuple [.agg [.int .i64 (takT t o).1.d, .list 4 (ods (takT t o).1.l)], .list 4 (ods (takT t o).2.1), .int .i64 (takT t o).2.2.1, .int .i64 (takT t o).2.2.2]) := by
    intro σ L d h X hX
    rw [h]
    exact Pub.tu (.cons (Pub.ag (.cons (.pure rfl) (.cons hX .nil))) (.cons (.nl 4) (.cons (.pure rfl) (.cons (.pure rfl) .nil))))
  have n2 : ∀ i, ¬ Oth X i → ¬ i = 2 := fun i h e => h (by subst e; exact o2)
  try simp (maxSteps := 500000) (disch := omega) only [go_sem, Int.reduceEq, Int.reduceLT, Int.reduceLE, Int.reduceToNat, Nat.reduceLT, Nat.reduceEqDiff, Nat.reduceAdd, Nat.reduceLeDiff, Nat.reduceSub, Nat.reduceMul, ↓reduceIte, reduceCtorEq, wrap_id, w_ite_ne, w_ite_lt, Nat.sub_zero, Nat.sub_self, e0, e1]
  refine cond_d (fun g1 => ?_) (fun g1 => ?_)
  · try simp (maxSteps := 500000) (disch := omega) only [go_sem, Int.reduceEq, Int.reduceLT, Int.reduceLE, Int.reduceToNat, Nat.reduceLT, Nat.reduceEqDiff, Nat.reduceAdd, Nat.reduceLeDiff, Nat.reduceSub, Nat.reduceMul, ↓reduceIte, reduceCtorEq, wrap_id, w_ite_ne, w_ite_lt, Nat.sub_zero, Nat.sub_self, e0, e2, hX.one, hX.flat, hX.cells]
    refine okd t.l t.d (by simp only [takT, hok, hoo, if_true, if_pos g1]) _ (hX.pub (fun i hi h => ?_) (ods_pur _) (ods_ok _))
    have := n2 i h
    simp [this, go_sem]
  try simp (maxSteps := 500000) (disch := omega) only [go_sem, Int.reduceEq, Int.reduceLT, Int.reduceLE, Int.reduceToNat, Nat.reduceLT, Nat.reduceEqDiff, Nat.reduceAdd, Nat.reduceLeDiff, Nat.reduceSub, Nat.reduceMul, ↓reduceIte, reduceCtorEq, wrap_id, w_ite_ne, w_ite_lt, Nat.sub_zero, Nat.sub_self, e0, e1]
  refine cond_d (fun g2 => ?_) (fun g2 => ?_)
  · have htk : takT t o = (⟨t.d + 1 + runLen o.n t.l, t.l.drop (runLen o.n t.l)⟩, o :: t.l.take (runLen o.n t.l), t.d + 1 + runLen o.n t.l, 0) := by
      simp only [takT, hok, hoo, if_true]; rw [if_neg (by omega), if_pos (by omega)]
    have hRl := runLen_le t.l o.n
    obtain ⟨id, g, hE, hid, hid2⟩ : ∃ id g, EaR ⟨ob, m, c⟩ (ods t.l) 0 id g X ∧ id < m ∧ ¬ id = 2 := by
      rcases hX with ⟨rfl, h⟩ | ⟨id, g, rfl, h1, h2⟩
      · exact ⟨1, 0, .inl ⟨by rw [h]; rfl, .inl rfl⟩, by omega, by omega⟩
      · exact ⟨id, g, .inr ⟨rfl, h2⟩, h1, o2.ne⟩
    try simp (maxSteps := 500000) (disch := omega) only [go_sem, Int.reduceEq, Int.reduceLT, Int.reduceLE, Int.reduceToNat, Nat.reduceLT, Nat.reduceEqDiff, Nat.reduceAdd, Nat.reduceLeDiff, Nat.reduceSub, Nat.reduceMul, ↓reduceIte, reduceCtorEq, wrap_id, w_ite_ne, w_ite_lt, Nat.sub_zero, Nat.sub_self, e0, e1]
    refine loop_cut [8, 9, 10, 46, 47, 48, 49, 50, 51, 52, 53, 54, 55, 56, 57, 58, 59, 60, 61, 62, 63, 64, 65, 66, 67] (by kernel_rfl) (fun e σ => σ.ob 2 = some ⟨2, 2, 31, false, true, [AV.agg [.int .i64 0, .nil]]⟩ ∧ e 10 = .int .i64 (t.d + 1 + runLen o.n t.l) ∧
      EaR σ (ods t.l) (runLen o.n t.l) id g (e 8) ∧ SlR 4 ty_el_Order σ (ods (o :: t.l.take (runLen o.n t.l))) (e 9) ∧ Oth (e 9) 2 ∧ Oth (e 9) id ∧ m + 1 ≤ σ.n) ?_ ?_
    · refine awp_upG [8, 9, 10, 46, 47, 48, 49, 50, 51, 52, 53, 54, 55, 56, 57, 58, 59, 60, 61, 62, 63, 64, 65, 66, 67] (by kernel_rfl) (runLen o.n t.l) (fun k e σ => σ.ob 2 = some ⟨2, 2, 31, false, true, [AV.agg [.int .i64 0, .nil]]⟩ ∧ e 10 = .int .i64 (t.d + 1 + k) ∧
        EaR σ (ods t.l) k id g (e 8) ∧ SlR 4 ty_el_Order σ (ods (o :: t.l.take k)) (e 9) ∧ Oth (e 9) 2 ∧ Oth (e 9) id) ?_ ?_
      · try simp (maxSteps := 500000) (disch := omega) only [go_sem, Int.reduceEq, Int.reduceLT, Int.reduceLE, Int.reduceToNat, Nat.reduceLT, Nat.reduceEqDiff, Nat.reduceAdd, Nat.reduceLeDiff, Nat.reduceSub, Nat.reduceMul, ↓reduceIte, reduceCtorEq, wrap_id, w_ite_ne, w_ite_lt, Nat.sub_zero, Nat.sub_self]
        refine ⟨e2, by simp, ?_, .inr ⟨m, c, rfl, by simp [go_sem], by try simp (maxSteps := 500000) (disch := omega) only [go_sem, Int.reduceEq, Int.reduceLT, Int.reduceLE, Int.reduceToNat, Nat.reduceLT, Nat.reduceEqDiff, Nat.reduceAdd, Nat.reduceLeDiff, Nat.reduceSub, Nat.reduceMul, ↓reduceIte, reduceCtorEq, wrap_id, w_ite_ne, w_ite_lt, Nat.sub_zero, Nat.sub_self]; simp [ods, odv]⟩, Oth.sl (by omega), Oth.sl (by omega)⟩
        rcases hE with h | ⟨h1, h2⟩
        · exact .inl h
        · exact .inr ⟨h1, by try simp (maxSteps := 500000) (disch := omega) only [go_sem, Int.reduceEq, Int.reduceLT, Int.reduceLE, Int.reduceToNat, Nat.reduceLT, Nat.reduceEqDiff, Nat.reduceAdd, Nat.reduceLeDiff, Nat.reduceSub, Nat.reduceMul, ↓reduceIte, reduceCtorEq, wrap_id, w_ite_ne, w_ite_lt, Nat.sub_zero, Nat.sub_self]; exact h2⟩
      · rintro k fe ob m' c' hk hm ⟨h2, h10, hE, hX, x2, xi⟩
        have hm' : m + 1 ≤ m' := hm
        obtain ⟨Y, h9⟩ : ∃ Y, fe 9 = Y := ⟨_, rfl⟩
        obtain ⟨E, h8⟩ : ∃ E, fe 8 = E := ⟨_, rfl⟩
        simp (maxSteps := 1000000) only [go_sem, Int.reduceEq, Int.reduceLT, Int.reduceLE, Int.reduceToNat, Nat.reduceLT, Nat.reduceEqDiff, Nat.reduceAdd, Nat.reduceLeDiff, Nat.reduceSub, Nat.reduceMul, ↓reduceIte, reduceCtorEq, w_app_nl] at h2 h10 hX hE x2 xi
        rw [h9] at hX x2 xi
        rw [h8] at hE
        rcases hX with ⟨_, h⟩ | ⟨id2, g2, hXX, hx1, hx2⟩
        · simp [ods] at h
        have hxl : (ods (o :: t.l.take k)).length = k + 1 := by simp [ods]; omega
        rw [hxl] at hXX
        subst hXX
        have i22 : ¬ id2 = 2 := x2.ne
        have i2i : ¬ id2 = id := xi.ne
        by_cases hkR : k < runLen o.n t.l
        · have hkl : k < t.l.length := by omega
          rcases hE with ⟨h, _⟩ | ⟨rfl, hob⟩
          · rw [ods_length] at h; omega
          simp only at hx1 hx2 hob
          have hg : t.l[k]? = some t.l[k] := List.getElem?_eq_getElem hkl
          have hgn := runLen_all hkR hg
          have hst : ods (o :: t.l.take k) ++ [odv t.l[k]] = ods (o :: t.l.take (k + 1)) := by rw [List.take_add_one, hg]; simp only [ods, List.map_cons, List.map_append, Option.toList_some, List.map_nil, List.cons_append]
          generalize t.l[k] = y at *
          have hgy : (ods t.l)[k]? = some (odv y) := by rw [ods_get, hg]; rfl
          try simp (maxSteps := 500000) (disch := omega) only [go_sem, Int.reduceEq, Int.reduceLT, Int.reduceLE, Int.reduceToNat, Nat.reduceLT, Nat.reduceEqDiff, Nat.reduceAdd, Nat.reduceLeDiff, Nat.reduceSub, Nat.reduceMul, ↓reduceIte, reduceCtorEq, wrap_id, w_ite_ne, w_ite_lt, Nat.sub_zero, Nat.sub_self, h8, h9, h10, ods_length]
          refine gd_td rfl (fun hpos => ?_) (fun h => absurd h (by omega))
          try simp (maxSteps := 500000) (disch := omega) only [go_sem, Int.reduceEq, Int.reduceLT, Int.reduceLE, Int.reduceToNat, Nat.reduceLT, Nat.reduceEqDiff, Nat.reduceAdd, Nat.reduceLeDiff, Nat.reduceSub, Nat.reduceMul, ↓reduceIte, reduceCtorEq, wrap_id, w_ite_ne, w_ite_lt, Nat.sub_zero, Nat.sub_self, h8, h9, h10, hob, hgy, ods_length, odv]
          refine ⟨by omega, ?_⟩
          refine cond_d (fun _ => ?_) (fun h => absurd (show y.n = t.d + 1 + k + 1 by omega) h)
          have hmx : k + 1 + 1 ≤ maxLen := by rw [mxL]; omega
          have hl2 : (ods (o :: t.l.take (k + 1))).length = k + 1 + 1 := by simp [ods]; omega
          have h2m : 2 < m' := by omega
          have hidm : id < m' := by omega
          try simp (maxSteps := 500000) (disch := omega) only [go_sem, Int.reduceEq, Int.reduceLT, Int.reduceLE, Int.reduceToNat, Nat.reduceLT, Nat.reduceEqDiff, Nat.reduceAdd, Nat.reduceLeDiff, Nat.reduceSub, Nat.reduceMul, ↓reduceIte, reduceCtorEq, wrap_id, w_ite_ne, w_ite_lt, Nat.sub_zero, Nat.sub_self, h8, h9, h10, hob, hgy, hx2, hxl, odv, ods_length, Nat.sub_sub]
          refine ⟨by omega, fun he => ⟨by omega, hmx, by omega, up_nextG m' hkR hm ?_⟩, fun he => ⟨by omega, hmx, by omega, up_nextG m' hkR hm ?_⟩⟩
          · try simp (maxSteps := 500000) (disch := omega) only [go_sem, Int.reduceEq, Int.reduceLT, Int.reduceLE, Int.reduceToNat, Nat.reduceLT, Nat.reduceEqDiff, Nat.reduceAdd, Nat.reduceLeDiff, Nat.reduceSub, Nat.reduceMul, ↓reduceIte, reduceCtorEq, wrap_id, w_ite_ne, w_ite_lt, Nat.sub_zero, Nat.sub_self, h2]
            exact ⟨by congr 1; omega, .inl ⟨by rw [ods_length]; omega, .inr rfl⟩, .inr ⟨id2, c', by rw [hl2], hx1, by try simp (maxSteps := 500000) (disch := omega) only [go_sem, Int.reduceEq, Int.reduceLT, Int.reduceLE, Int.reduceToNat, Nat.reduceLT, Nat.reduceEqDiff, Nat.reduceAdd, Nat.reduceLeDiff, Nat.reduceSub, Nat.reduceMul, ↓reduceIte, reduceCtorEq, wrap_id, w_ite_ne, w_ite_lt, Nat.sub_zero, Nat.sub_self]; rw [← hst]; rfl⟩, Oth.sl i22, Oth.sl i2i⟩
          · try simp (maxSteps := 500000) (disch := omega) only [go_sem, Int.reduceEq, Int.reduceLT, Int.reduceLE, Int.reduceToNat, Nat.reduceLT, Nat.reduceEqDiff, Nat.reduceAdd, Nat.reduceLeDiff, Nat.reduceSub, Nat.reduceMul, ↓reduceIte, reduceCtorEq, wrap_id, w_ite_ne, w_ite_lt, Nat.sub_zero, Nat.sub_self, h2]
            exact ⟨by congr 1; omega, .inr ⟨by rw [ods_length], by try simp (maxSteps := 500000) (disch := omega) only [go_sem, Int.reduceEq, Int.reduceLT, Int.reduceLE, Int.reduceToNat, Nat.reduceLT, Nat.reduceEqDiff, Nat.reduceAdd, Nat.reduceLeDiff, Nat.reduceSub, Nat.reduceMul, ↓reduceIte, reduceCtorEq, wrap_id, w_ite_ne, w_ite_lt, Nat.sub_zero, Nat.sub_self]; exact hob⟩, .inr ⟨id2, c', by rw [hl2], hx1, by try simp (maxSteps := 500000) (disch := omega) only [go_sem, Int.reduceEq, Int.reduceLT, Int.reduceLE, Int.reduceToNat, Nat.reduceLT, Nat.reduceEqDiff, Nat.reduceAdd, Nat.reduceLeDiff, Nat.reduceSub, Nat.reduceMul, ↓reduceIte, reduceCtorEq, wrap_id, w_ite_ne, w_ite_lt, Nat.sub_zero, Nat.sub_self]; rw [← hst]; rfl⟩, Oth.sl i22, Oth.sl i2i⟩
        · have hkR2 : k = runLen o.n t.l := by omega
          subst hkR2
          have hrg : ∀ y, t.l[runLen o.n t.l]? = some y → ¬ y.n = t.d + 1 + runLen o.n t.l + 1 := fun y hy => by
            have := runLen_get t.l o.n (runLen o.n t.l) y (Nat.le_refl _) hy
            omega
          have key : ob 2 = some ⟨2, 2, 31, false, true, [AV.agg [.int .i64 0, .nil]]⟩ ∧
              EaR ⟨ob, m', c'⟩ (ods t.l) (runLen o.n t.l) id g E ∧ SlR 4 ty_el_Order ⟨ob, m', c'⟩ (ods (o :: t.l.take (runLen o.n t.l))) (.sl id2 g2 4 0 (runLen o.n t.l + 1)) ∧ Oth (.sl id2 g2 4 0 (runLen o.n t.l + 1)) 2 ∧ Oth (.sl id2 g2 4 0 (runLen o.n t.l + 1)) id ∧ m + 1 ≤ m' :=
            ⟨h2, hE, .inr ⟨id2, g2, by rw [hxl], hx1, hx2⟩, x2, xi, hm'⟩
          generalize runLen o.n t.l = R at *
          rcases hE with ⟨h, rfl | rfl⟩ | ⟨rfl, hob⟩
          · try simp (maxSteps := 500000) (disch := omega) only [go_sem, Int.reduceEq, Int.reduceLT, Int.reduceLE, Int.reduceToNat, Nat.reduceLT, Nat.reduceEqDiff, Nat.reduceAdd, Nat.reduceLeDiff, Nat.reduceSub, Nat.reduceMul, ↓reduceIte, reduceCtorEq, wrap_id, w_ite_ne, w_ite_lt, Nat.sub_zero, Nat.sub_self, h8, h9, h10]
            exact key
          · try simp (maxSteps := 500000) (disch := omega) only [go_sem, Int.reduceEq, Int.reduceLT, Int.reduceLE, Int.reduceToNat, Nat.reduceLT, Nat.reduceEqDiff, Nat.reduceAdd, Nat.reduceLeDiff, Nat.reduceSub, Nat.reduceMul, ↓reduceIte, reduceCtorEq, wrap_id, w_ite_ne, w_ite_lt, Nat.sub_zero, Nat.sub_self, h8, h9, h10]
            exact key
          · try simp (maxSteps := 500000) (disch := omega) only [go_sem, Int.reduceEq, Int.reduceLT, Int.reduceLE, Int.reduceToNat, Nat.reduceLT, Nat.reduceEqDiff, Nat.reduceAdd, Nat.reduceLeDiff, Nat.reduceSub, Nat.reduceMul, ↓reduceIte, reduceCtorEq, wrap_id, w_ite_ne, w_ite_lt, Nat.sub_zero, Nat.sub_self, h8, h9, h10, ods_length]
            refine gd_td rfl (fun hpos => ?_) (fun h => ?_)
            · have hkl : R < t.l.length := by omega
              have hg : t.l[R]? = some t.l[R] := List.getElem?_eq_getElem hkl
              have hgn := hrg _ hg
              generalize t.l[R] = y at *
              have hgy : (ods t.l)[R]? = some (odv y) := by rw [ods_get, hg]; rfl
              simp only at hob hx2
              try simp (maxSteps := 500000) (disch := omega) only [go_sem, Int.reduceEq, Int.reduceLT, Int.reduceLE, Int.reduceToNat, Nat.reduceLT, Nat.reduceEqDiff, Nat.reduceAdd, Nat.reduceLeDiff, Nat.reduceSub, Nat.reduceMul, ↓reduceIte, reduceCtorEq, wrap_id, w_ite_ne, w_ite_lt, Nat.sub_zero, Nat.sub_self, h8, h9, h10, hob, hgy, ods_length, odv]
              refine ⟨by omega, ?_⟩
              refine cond_d (fun h => absurd h hgn) (fun _ => ?_)
              try simp (maxSteps := 500000) (disch := omega) only [go_sem, Int.reduceEq, Int.reduceLT, Int.reduceLE, Int.reduceToNat, Nat.reduceLT, Nat.reduceEqDiff, Nat.reduceAdd, Nat.reduceLeDiff, Nat.reduceSub, Nat.reduceMul, ↓reduceIte, reduceCtorEq, wrap_id, w_ite_ne, w_ite_lt, Nat.sub_zero, Nat.sub_self, h8, h9, h10]
              rw [ods_length] at key
              exact key
            · try simp (maxSteps := 500000) (disch := omega) only [go_sem, Int.reduceEq, Int.reduceLT, Int.reduceLE, Int.reduceToNat, Nat.reduceLT, Nat.reduceEqDiff, Nat.reduceAdd, Nat.reduceLeDiff, Nat.reduceSub, Nat.reduceMul, ↓reduceIte, reduceCtorEq, wrap_id, w_ite_ne, w_ite_lt, Nat.sub_zero, Nat.sub_self, h8, h9, h10]
              rw [ods_length] at key
              exact key
    · rintro fe σ1 ⟨h2, h10, hE, hX, x2, xi, hn⟩
      obtain ⟨ob, m', c'⟩ := σ1
      obtain ⟨Y, h9⟩ : ∃ Y, fe 9 = Y := ⟨_, rfl⟩
      obtain ⟨E, h8⟩ : ∃ E, fe 8 = E := ⟨_, rfl⟩
      simp (maxSteps := 1000000) only [go_sem, Int.reduceEq, Int.reduceLT, Int.reduceLE, Int.reduceToNat, Nat.reduceLT, Nat.reduceEqDiff, Nat.reduceAdd, Nat.reduceLeDiff, Nat.reduceSub, Nat.reduceMul, ↓reduceIte, reduceCtorEq, w_app_nl] at h2 h10 hX hE hn x2 xi
      rw [h9] at hX x2 xi
      rw [h8] at hE
      have hod : (ods t.l).drop (runLen o.n t.l) = ods (t.l.drop (runLen o.n t.l)) := by simp [ods]
      rw [htk]
      generalize runLen o.n t.l = R at *
      have hEo : E.one = true := by rcases hE with ⟨_, rfl | rfl⟩ | ⟨rfl, _⟩ <;> rfl
      have hEf : E.flat = true := by rcases hE with ⟨_, rfl | rfl⟩ | ⟨rfl, _⟩ <;> rfl
      have hEc : E.cells = [E] := by rcases hE with ⟨_, rfl | rfl⟩ | ⟨rfl, _⟩ <;> rfl
      try simp (maxSteps := 500000) (disch := omega) only [go_sem, Int.reduceEq, Int.reduceLT, Int.reduceLE, Int.reduceToNat, Nat.reduceLT, Nat.reduceEqDiff, Nat.reduceAdd, Nat.reduceLeDiff, Nat.reduceSub, Nat.reduceMul, ↓reduceIte, reduceCtorEq, wrap_id, w_ite_ne, w_ite_lt, Nat.sub_zero, Nat.sub_self, h8, h9, h10, h2, hEo, hEf, hEc]
      refine Pub.tu (.cons (Pub.ag (.cons (.pure rfl) (.cons ?_ .nil))) (.cons ?_ (.cons (.pure rfl) (.cons (.pure rfl) .nil))))
      · rw [← hod]
        rcases hE with ⟨h, rfl | rfl⟩ | ⟨rfl, hob⟩
        · rw [h, List.drop_length]; exact .nl 4
        · rw [h, List.drop_length]; exact .pure rfl
        · refine .sl (o := ⟨g, 4, ty_el_Order, false, true, ods t.l⟩) ?_ rfl rfl (by simp only [ods_length]; omega) (by simp) (fun i x y hx hy => ?_) (fun x hx => ods_ok _ x (List.mem_of_mem_drop hx))
          · simp only at hob
            simp [hob, hid2, go_sem]
          · have : ((ods t.l).drop R).take ((ods t.l).length - R) = (ods t.l).drop R := List.take_of_length_le (by simp)
            simp only [] at hx
            rw [this, hy] at hx
            obtain rfl := Option.some.inj hx
            exact .pure (ods_pur t.l _ (List.mem_of_mem_drop (List.mem_of_getElem? hy)))
      · refine hX.pub (fun i hi h => ?_) (ods_pur _) (ods_ok _)
        have : ¬ i = 2 := fun e => h (by subst e; exact x2)
        simp [this, go_sem]
  · obtain ⟨N, hN⟩ : ∃ N, N = t.l.map Od.n := ⟨_, rfl⟩
    have hin := bsI_le N o.n
    have htk : takT t o = if N[bsI N o.n]? = some o.n then (t, [], t.d, 0) else if t.l.length = 64 then (⟨0, []⟩, [], 0, 10) else (⟨t.d, t.l.take (bsI N o.n) ++ o :: t.l.drop (bsI N o.n)⟩, [], t.d, 0) := by
      simp only [takT, hok, hoo, if_true, ← hN]; rw [if_neg (by omega), if_neg (by omega)]
    have hNl : N.length = t.l.length := by simp [hN]
    have hNg : ∀ (k : Nat) y, t.l[k]? = some y → N[k]? = some y.n := fun k y h => by rw [hN, List.getElem?_map, h]; rfl
    rw [hNl] at hin
    clear hN
    have hE := ER.of_slr hX
    have X1 := hX.one
    have X2 := hX.flat
    have X3 := hX.cells
    try simp (maxSteps := 500000) (disch := omega) only [go_sem, Int.reduceEq, Int.reduceLT, Int.reduceLE, Int.reduceToNat, Nat.reduceLT, Nat.reduceEqDiff, Nat.reduceAdd, Nat.reduceLeDiff, Nat.reduceSub, Nat.reduceMul, ↓reduceIte, reduceCtorEq, wrap_id, w_ite_ne, w_ite_lt, Nat.sub_zero, Nat.sub_self]
    refine loop_cut [11, 73, 74, 75, 76, 77, 78, 79, 80, 81, 82, 83, 84, 85, 86, 87, 88] (by kernel_rfl) (fun e σ => e 11 = .int .i64 (bsI N o.n) ∧ (∀ i, i < m → σ.ob i = ob i) ∧ σ.n = m) ?_ ?_
    · refine awp_upF [11, 73, 74, 75, 76, 77, 78, 79, 80, 81, 82, 83, 84, 85, 86, 87, 88] (by kernel_rfl) t.l.length (fun k e σ => e 11 = .int .i64 k ∧ k ≤ bsI N o.n ∧ ∀ i, i < m → σ.ob i = ob i) ?_ ?_
      · exact ⟨(by first | ((try simp (maxSteps := 1000000) only [go_sem, Int.reduceEq, Int.reduceLT, Int.reduceLE, Int.reduceToNat, Nat.reduceLT, Nat.reduceEqDiff, Nat.reduceAdd, Nat.reduceLeDiff, Nat.reduceSub, Nat.reduceMul, ↓reduceIte, reduceCtorEq, w_app_nl]); done) | ((try simp (maxSteps := 1000000) only [go_sem, Int.reduceEq, Int.reduceLT, Int.reduceLE, Int.reduceToNat, Nat.reduceLT, Nat.reduceEqDiff, Nat.reduceAdd, Nat.reduceLeDiff, Nat.reduceSub, Nat.reduceMul, ↓reduceIte, reduceCtorEq, w_app_nl]); rfl) | ((try simp (maxSteps := 1000000) (disch := omega) only [go_sem, Int.reduceEq, Int.reduceLT, Int.reduceLE, Int.reduceToNat, Nat.reduceLT, Nat.reduceEqDiff, Nat.reduceAdd, Nat.reduceLeDiff, Nat.reduceSub, Nat.reduceMul, ↓reduceIte, reduceCtorEq, w_app_nl, wrap_id, w_ite_ne, w_ite_lt]); rfl) | (simp (maxSteps := 1000000) (disch := omega) only [go_sem, Int.reduceEq, Int.reduceLT, Int.reduceLE, Int.reduceToNat, Nat.reduceLT, Nat.reduceEqDiff, Nat.reduceAdd, Nat.reduceLeDiff, Nat.reduceSub, Nat.reduceMul, ↓reduceIte, reduceCtorEq, w_app_nl, wrap_id, w_ite_ne, w_ite_lt]; done)), Nat.zero_le _, fun _ _ => rfl⟩
      · rintro k fe ob' c' hk ⟨h11, hj, hf⟩
        simp (maxSteps := 1000000) only [go_sem, Int.reduceEq, Int.reduceLT, Int.reduceLE, Int.reduceToNat, Nat.reduceLT, Nat.reduceEqDiff, Nat.reduceAdd, Nat.reduceLeDiff, Nat.reduceSub, Nat.reduceMul, ↓reduceIte, reduceCtorEq, w_app_nl] at h11 hf
        have hE' : ER 4 ⟨ob', m, c'⟩ (ods t.l) X := hE.keep (Nat.le_refl _) fun i hi _ => hf i hi
        try simp (maxSteps := 500000) (disch := omega) only [go_sem, Int.reduceEq, Int.reduceLT, Int.reduceLE, Int.reduceToNat, Nat.reduceLT, Nat.reduceEqDiff, Nat.reduceAdd, Nat.reduceLeDiff, Nat.reduceSub, Nat.reduceMul, ↓reduceIte, reduceCtorEq, wrap_id, w_ite_ne, w_ite_lt, Nat.sub_zero, Nat.sub_self, h11]
        refine hE'.len ?_
        try simp (maxSteps := 500000) (disch := omega) only [go_sem, Int.reduceEq, Int.reduceLT, Int.reduceLE, Int.reduceToNat, Nat.reduceLT, Nat.reduceEqDiff, Nat.reduceAdd, Nat.reduceLeDiff, Nat.reduceSub, Nat.reduceMul, ↓reduceIte, reduceCtorEq, wrap_id, w_ite_ne, w_ite_lt, Nat.sub_zero, Nat.sub_self, h11, ods_length]
        refine gd_td rfl (fun g5 => ?_) (fun g5 => ?_)
        · have hkl : k < t.l.length := by omega
          have hk2 : t.l[k]? = some t.l[k] := List.getElem?_eq_getElem hkl
          have hkm := hNg k _ hk2
          generalize t.l[k] = y at *
          have hgy : (ods t.l)[k]? = some (odv y) := by rw [ods_get, hk2]; rfl
          rcases hX with ⟨rfl, h⟩ | ⟨id, g, rfl, h1, h2⟩
          · have : t.l = [] := by simpa [ods] using h
            rw [this] at hkl; simp at hkl
          simp only at h2 h1
          have f1 := hf 1 (by omega)
          rw [e1] at f1
          have f2 := hf id h1
          rw [h2] at f2
          try simp (maxSteps := 500000) (disch := omega) only [go_sem, Int.reduceEq, Int.reduceLT, Int.reduceLE, Int.reduceToNat, Nat.reduceLT, Nat.reduceEqDiff, Nat.reduceAdd, Nat.reduceLeDiff, Nat.reduceSub, Nat.reduceMul, ↓reduceIte, reduceCtorEq, wrap_id, w_ite_ne, w_ite_lt, Nat.sub_zero, Nat.sub_self, h11, f2, hgy, ods_length, f1, odv]
          refine ⟨by omega, by omega, ?_⟩
          refine cond_d (fun g6 => ?_) (fun g6 => ?_) <;> try simp (maxSteps := 500000) (disch := omega) only [go_sem, Int.reduceEq, Int.reduceLT, Int.reduceLE, Int.reduceToNat, Nat.reduceLT, Nat.reduceEqDiff, Nat.reduceAdd, Nat.reduceLeDiff, Nat.reduceSub, Nat.reduceMul, ↓reduceIte, reduceCtorEq, wrap_id, w_ite_ne, w_ite_lt, Nat.sub_zero, Nat.sub_self, h11]
          · refine up_next hkl ⟨(by first | ((try simp (maxSteps := 1000000) only [go_sem, Int.reduceEq, Int.reduceLT, Int.reduceLE, Int.reduceToNat, Nat.reduceLT, Nat.reduceEqDiff, Nat.reduceAdd, Nat.reduceLeDiff, Nat.reduceSub, Nat.reduceMul, ↓reduceIte, reduceCtorEq, w_app_nl]); done) | ((try simp (maxSteps := 1000000) only [go_sem, Int.reduceEq, Int.reduceLT, Int.reduceLE, Int.reduceToNat, Nat.reduceLT, Nat.reduceEqDiff, Nat.reduceAdd, Nat.reduceLeDiff, Nat.reduceSub, Nat.reduceMul, ↓reduceIte, reduceCtorEq, w_app_nl]); rfl) | ((try simp (maxSteps := 1000000) (disch := omega) only [go_sem, Int.reduceEq, Int.reduceLT, Int.reduceLE, Int.reduceToNat, Nat.reduceLT, Nat.reduceEqDiff, Nat.reduceAdd, Nat.reduceLeDiff, Nat.reduceSub, Nat.reduceMul, ↓reduceIte, reduceCtorEq, w_app_nl, wrap_id, w_ite_ne, w_ite_lt]); rfl) | (simp (maxSteps := 1000000) (disch := omega) only [go_sem, Int.reduceEq, Int.reduceLT, Int.reduceLE, Int.reduceToNat, Nat.reduceLT, Nat.reduceEqDiff, Nat.reduceAdd, Nat.reduceLeDiff, Nat.reduceSub, Nat.reduceMul, ↓reduceIte, reduceCtorEq, w_app_nl, wrap_id, w_ite_ne, w_ite_lt]; done)), ?_, fun i hi => ?_⟩
            · rcases Nat.lt_or_ge k (bsI N o.n) with h1 | h1
              · exact h1
              · have h2 : k = bsI N o.n := by omega
                rw [h2] at hkm
                have := bsI_at hkm
                omega
            · try simp (maxSteps := 500000) (disch := omega) only [go_sem, Int.reduceEq, Int.reduceLT, Int.reduceLE, Int.reduceToNat, Nat.reduceLT, Nat.reduceEqDiff, Nat.reduceAdd, Nat.reduceLeDiff, Nat.reduceSub, Nat.reduceMul, ↓reduceIte, reduceCtorEq, wrap_id, w_ite_ne, w_ite_lt, Nat.sub_zero, Nat.sub_self]
              exact hf i hi
          · exact ⟨by rw [Nat.le_antisymm (bsI_le_of hkm (by omega)) hj], hf⟩
        · try simp (maxSteps := 500000) (disch := omega) only [go_sem, Int.reduceEq, Int.reduceLT, Int.reduceLE, Int.reduceToNat, Nat.reduceLT, Nat.reduceEqDiff, Nat.reduceAdd, Nat.reduceLeDiff, Nat.reduceSub, Nat.reduceMul, ↓reduceIte, reduceCtorEq, wrap_id, w_ite_ne, w_ite_lt, Nat.sub_zero, Nat.sub_self, h11]
          exact ⟨by rw [show bsI N o.n = k by omega], hf⟩
    · rintro fe ⟨ob', m', c'⟩ ⟨h11, hf, hm'⟩
      simp only at hm' hf
      subst hm'
      have hE' : ER 4 ⟨ob', m', c'⟩ (ods t.l) X := hE.keep (Nat.le_refl _) fun i hi _ => hf i hi
      simp (maxSteps := 1000000) only [go_sem, Int.reduceEq, Int.reduceLT, Int.reduceLE, Int.reduceToNat, Nat.reduceLT, Nat.reduceEqDiff, Nat.reduceAdd, Nat.reduceLeDiff, Nat.reduceSub, Nat.reduceMul, ↓reduceIte, reduceCtorEq, w_app_nl] at h11
      generalize bsI N o.n = i at *
      have f0 := hf 0 (by omega)
      have f1 := hf 1 (by omega)
      have f2 := hf 2 (by omega)
      rw [e0] at f0
      rw [e1] at f1
      rw [e2] at f2
      try simp (maxSteps := 500000) (disch := omega) only [go_sem, Int.reduceEq, Int.reduceLT, Int.reduceLE, Int.reduceToNat, Nat.reduceLT, Nat.reduceEqDiff, Nat.reduceAdd, Nat.reduceLeDiff, Nat.reduceSub, Nat.reduceMul, ↓reduceIte, reduceCtorEq, wrap_id, w_ite_ne, w_ite_lt, Nat.sub_zero, Nat.sub_self, h11]
      refine hE'.len ?_
      try simp (maxSteps := 500000) (disch := omega) only [go_sem, Int.reduceEq, Int.reduceLT, Int.reduceLE, Int.reduceToNat, Nat.reduceLT, Nat.reduceEqDiff, Nat.reduceAdd, Nat.reduceLeDiff, Nat.reduceSub, Nat.reduceMul, ↓reduceIte, reduceCtorEq, wrap_id, w_ite_ne, w_ite_lt, Nat.sub_zero, Nat.sub_self, h11, ods_length]
      have there : N[i]? = some o.n → Pub ⟨upd ob' 2 (some ⟨2, 2, 31, false, true, [AV.agg [.int .i64 t.d, X]]⟩), m', c'⟩ (.tuple [.agg [.int .i64 t.d, X], .nil, .int .i64 t.d, .int .i64 0]) (.tuple [.agg [.int .i64 (takT t o).1.d, .list 4 (ods (takT t o).1.l)], .list 4 (ods (takT t o).2.1), .int .i64 (takT t o).2.2.1, .int .i64 (takT t o).2.2.2]) := fun h => by
        rw [if_pos h] at htk
        refine okd t.l t.d htk _ (hE'.pub (ods_pur _) (ods_ok _) fun j hj h o h2 => ⟨o.ro, ?_⟩)
        have := n2 j h
        simp only at h2
        simp [this, go_sem, h2]
      refine gd_td rfl (fun g5 => ?_) (fun g5 => ?_)
      · have hil : i < t.l.length := by omega
        have hk2 : t.l[i]? = some t.l[i] := List.getElem?_eq_getElem hil
        have hkm := hNg i _ hk2
        generalize t.l[i] = y at *
        have hgy : (ods t.l)[i]? = some (odv y) := by rw [ods_get, hk2]; rfl
        rcases hX with ⟨_, h⟩ | ⟨id, g, hXe, h1, h2⟩
        · have : t.l = [] := by simpa [ods] using h
          rw [this] at hil; simp at hil
        simp only at h2 h1
        have fi := hf id h1
        rw [h2] at fi
        rw [ods_length] at hXe
        rw [hXe]
        try simp (maxSteps := 500000) (disch := omega) only [go_sem, Int.reduceEq, Int.reduceLT, Int.reduceLE, Int.reduceToNat, Nat.reduceLT, Nat.reduceEqDiff, Nat.reduceAdd, Nat.reduceLeDiff, Nat.reduceSub, Nat.reduceMul, ↓reduceIte, reduceCtorEq, wrap_id, w_ite_ne, w_ite_lt, Nat.sub_zero, Nat.sub_self, h11, fi, hgy, ods_length, f1, odv]
        rw [← hXe]
        refine ⟨by omega, by omega, ?_⟩
        refine cond_d (fun g6 => ?_) (fun g6 => ?_)
        · try simp (maxSteps := 500000) (disch := omega) only [go_sem, Int.reduceEq, Int.reduceLT, Int.reduceLE, Int.reduceToNat, Nat.reduceLT, Nat.reduceEqDiff, Nat.reduceAdd, Nat.reduceLeDiff, Nat.reduceSub, Nat.reduceMul, ↓reduceIte, reduceCtorEq, wrap_id, w_ite_ne, w_ite_lt, Nat.sub_zero, Nat.sub_self, f0, f2, X1, X2, X3]
          exact there (by rw [hkm, g6])
        have hat : ¬ N[i]? = some o.n := by rw [hkm]; intro h; exact g6 (Option.some.inj h)
        rw [if_neg hat] at htk
        try simp (maxSteps := 500000) (disch := omega) only [go_sem, Int.reduceEq, Int.reduceLT, Int.reduceLE, Int.reduceToNat, Nat.reduceLT, Nat.reduceEqDiff, Nat.reduceAdd, Nat.reduceLeDiff, Nat.reduceSub, Nat.reduceMul, ↓reduceIte, reduceCtorEq, wrap_id, w_ite_ne, w_ite_lt, Nat.sub_zero, Nat.sub_self, h11]
        refine hE'.len ?_
        try simp (maxSteps := 500000) (disch := omega) only [go_sem, Int.reduceEq, Int.reduceLT, Int.reduceLE, Int.reduceToNat, Nat.reduceLT, Nat.reduceEqDiff, Nat.reduceAdd, Nat.reduceLeDiff, Nat.reduceSub, Nat.reduceMul, ↓reduceIte, reduceCtorEq, wrap_id, w_ite_ne, w_ite_lt, Nat.sub_zero, Nat.sub_self, h11, ods_length]
        refine cond_d (fun g3 => ?_) (fun g3 => ?_)
        · try simp (maxSteps := 500000) (disch := omega) only [go_sem, Int.reduceEq, Int.reduceLT, Int.reduceLE, Int.reduceToNat, Nat.reduceLT, Nat.reduceEqDiff, Nat.reduceAdd, Nat.reduceLeDiff, Nat.reduceSub, Nat.reduceMul, ↓reduceIte, reduceCtorEq, wrap_id, w_ite_ne, w_ite_lt, Nat.sub_zero, Nat.sub_self, f2]
          exact no 10 (by rw [htk, if_pos (by omega)])
        rw [if_neg (by omega)] at htk
        try simp (maxSteps := 500000) (disch := omega) only [go_sem, Int.reduceEq, Int.reduceLT, Int.reduceLE, Int.reduceToNat, Nat.reduceLT, Nat.reduceEqDiff, Nat.reduceAdd, Nat.reduceLeDiff, Nat.reduceSub, Nat.reduceMul, ↓reduceIte, reduceCtorEq, wrap_id, w_ite_ne, w_ite_lt, Nat.sub_zero, Nat.sub_self, h11, f1]
        refine hE'.drop rfl (by rw [ods_length]; omega) fun D hD hoD => ?_
        try simp (maxSteps := 500000) (disch := omega) only [go_sem, Int.reduceEq, Int.reduceLT, Int.reduceLE, Int.reduceToNat, Nat.reduceLT, Nat.reduceEqDiff, Nat.reduceAdd, Nat.reduceLeDiff, Nat.reduceSub, Nat.reduceMul, ↓reduceIte, reduceCtorEq, wrap_id, w_ite_ne, w_ite_lt, Nat.sub_zero, Nat.sub_self, h11, f1]
        refine hE'.take rfl (by rw [ods_length]; omega) fun T hT hoT => ?_
        try simp (maxSteps := 500000) (disch := omega) only [go_sem, Int.reduceEq, Int.reduceLT, Int.reduceLE, Int.reduceToNat, Nat.reduceLT, Nat.reduceEqDiff, Nat.reduceAdd, Nat.reduceLeDiff, Nat.reduceSub, Nat.reduceMul, ↓reduceIte, reduceCtorEq, wrap_id, w_ite_ne, w_ite_lt, Nat.sub_zero, Nat.sub_self, h11, f1]
        refine app_er hT (app_slrs .nil (by simp [ods_length]; omega) (by simp [ods_length]; omega) fun Y1 τ1 hR1 hK1 => ?_)
        have k1 := hK1.2.1 1 (by simp only; omega) (Oth.nil 1)
        simp only [f1] at k1
        try simp (maxSteps := 500000) (disch := omega) only [go_sem, Int.reduceEq, Int.reduceLT, Int.reduceLE, Int.reduceToNat, Nat.reduceLT, Nat.reduceEqDiff, Nat.reduceAdd, Nat.reduceLeDiff, Nat.reduceSub, Nat.reduceMul, ↓reduceIte, reduceCtorEq, wrap_id, w_ite_ne, w_ite_lt, Nat.sub_zero, Nat.sub_self, k1, f1]
        have hRX : ∀ x ∈ tagR 10 X.oid ++ [(5, 1)] ++ tagR 3 X.oid, x.2 < m' := app_lt (app_lt (tagR_lt hE'.oid) (by simp; omega)) (tagR_lt hE'.oid)
        refine ⟨hkeep_lt hRX fun j hj => hK1.2.1 j hj (Oth.nil j), ?_⟩
        refine app_slr hR1 (by simp [ods_length]; omega) (by simp [ods_length]; omega) fun Y2 τ2 hR2 hK2 => ?_
        try simp (maxSteps := 500000) (disch := omega) only [go_sem, Int.reduceEq, Int.reduceLT, Int.reduceLE, Int.reduceToNat, Nat.reduceLT, Nat.reduceEqDiff, Nat.reduceAdd, Nat.reduceLeDiff, Nat.reduceSub, Nat.reduceMul, ↓reduceIte, reduceCtorEq, wrap_id, w_ite_ne, w_ite_lt, Nat.sub_zero, Nat.sub_self]
        refine ⟨hkeep_lt hRX fun j hj => hK2.2.1 j (Nat.lt_of_lt_of_le hj hK1.1) (hK1.2.2 j hj (Oth.nil j)), ?_⟩
        refine app_er (hD.keep (hK1.trans hK2).1 fun j hj h => (hK1.trans hK2).2.1 j hj (Oth.nil j)) (app_slrs hR2 (by simp [ods_length]; omega) (by simp [ods_length]; omega) fun Y3 τ3 hR3 hK3 => ?_)
        have hK := (hK1.trans hK2).trans hK3
        have k0 := hK.2.1 0 (by simp only; omega) (Oth.nil 0)
        have k2 := hK.2.1 2 (by simp only; omega) (Oth.nil 2)
        have oy := hK.2.2 2 (by simp only; omega) (Oth.nil 2)
        simp only [f0, f2] at k0 k2
        obtain ⟨ob3, m3, c3⟩ := τ3
        simp only at k0 k2
        try simp (maxSteps := 500000) (disch := omega) only [go_sem, Int.reduceEq, Int.reduceLT, Int.reduceLE, Int.reduceToNat, Nat.reduceLT, Nat.reduceEqDiff, Nat.reduceAdd, Nat.reduceLeDiff, Nat.reduceSub, Nat.reduceMul, ↓reduceIte, reduceCtorEq, wrap_id, w_ite_ne, w_ite_lt, Nat.sub_zero, Nat.sub_self, h11, k0, k2, hR3.one, hR3.flat, hR3.cells]
        rw [show [] ++ (ods t.l).take i ++ [AV.agg [.int .i64 o.n, .int .i64 o.k, .int .i64 o.i, .int .i64 o.v]] ++ (ods t.l).drop i = ods (t.l.take i ++ o :: t.l.drop i) by simp [ods, odv]] at hR3
        have hK12 := hK1.trans hK2
        refine ⟨hkeep_lt hRX fun j hj => hK3.2.1 j (Nat.lt_of_lt_of_le hj hK12.1) (hK12.2.2 j hj (Oth.nil j)), ?_⟩
        refine okd _ t.d htk _ (hR3.pub (fun j hj h => ?_) (ods_pur _) (ods_ok _))
        have : ¬ j = 2 := fun e => h (by subst e; exact oy)
        simp [this, go_sem]
      · have hat : ¬ N[i]? = some o.n := by rw [List.getElem?_eq_none (by omega)]; simp
        rw [if_neg hat] at htk
        try simp (maxSteps := 500000) (disch := omega) only [go_sem, Int.reduceEq, Int.reduceLT, Int.reduceLE, Int.reduceToNat, Nat.reduceLT, Nat.reduceEqDiff, Nat.reduceAdd, Nat.reduceLeDiff, Nat.reduceSub, Nat.reduceMul, ↓reduceIte, reduceCtorEq, wrap_id, w_ite_ne, w_ite_lt, Nat.sub_zero, Nat.sub_self, h11]
        refine hE'.len ?_
        try simp (maxSteps := 500000) (disch := omega) only [go_sem, Int.reduceEq, Int.reduceLT, Int.reduceLE, Int.reduceToNat, Nat.reduceLT, Nat.reduceEqDiff, Nat.reduceAdd, Nat.reduceLeDiff, Nat.reduceSub, Nat.reduceMul, ↓reduceIte, reduceCtorEq, wrap_id, w_ite_ne, w_ite_lt, Nat.sub_zero, Nat.sub_self, h11, ods_length]
        refine cond_d (fun g3 => ?_) (fun g3 => ?_)
        · try simp (maxSteps := 500000) (disch := omega) only [go_sem, Int.reduceEq, Int.reduceLT, Int.reduceLE, Int.reduceToNat, Nat.reduceLT, Nat.reduceEqDiff, Nat.reduceAdd, Nat.reduceLeDiff, Nat.reduceSub, Nat.reduceMul, ↓reduceIte, reduceCtorEq, wrap_id, w_ite_ne, w_ite_lt, Nat.sub_zero, Nat.sub_self, f2]
          exact no 10 (by rw [htk, if_pos (by omega)])
        rw [if_neg (by omega)] at htk
        try simp (maxSteps := 500000) (disch := omega) only [go_sem, Int.reduceEq, Int.reduceLT, Int.reduceLE, Int.reduceToNat, Nat.reduceLT, Nat.reduceEqDiff, Nat.reduceAdd, Nat.reduceLeDiff, Nat.reduceSub, Nat.reduceMul, ↓reduceIte, reduceCtorEq, wrap_id, w_ite_ne, w_ite_lt, Nat.sub_zero, Nat.sub_self, h11, f1]
        refine hE'.drop rfl (by rw [ods_length]; omega) fun D hD hoD => ?_
        try simp (maxSteps := 500000) (disch := omega) only [go_sem, Int.reduceEq, Int.reduceLT, Int.reduceLE, Int.reduceToNat, Nat.reduceLT, Nat.reduceEqDiff, Nat.reduceAdd, Nat.reduceLeDiff, Nat.reduceSub, Nat.reduceMul, ↓reduceIte, reduceCtorEq, wrap_id, w_ite_ne, w_ite_lt, Nat.sub_zero, Nat.sub_self, h11, f1]
        refine hE'.take rfl (by rw [ods_length]; omega) fun T hT hoT => ?_
        try simp (maxSteps := 500000) (disch := omega) only [go_sem, Int.reduceEq, Int.reduceLT, Int.reduceLE, Int.reduceToNat, Nat.reduceLT, Nat.reduceEqDiff, Nat.reduceAdd, Nat.reduceLeDiff, Nat.reduceSub, Nat.reduceMul, ↓reduceIte, reduceCtorEq, wrap_id, w_ite_ne, w_ite_lt, Nat.sub_zero, Nat.sub_self, h11, f1]
        refine app_er hT (app_slrs .nil (by simp [ods_length]; omega) (by simp [ods_length]; omega) fun Y1 τ1 hR1 hK1 => ?_)
        have k1 := hK1.2.1 1 (by simp only; omega) (Oth.nil 1)
        simp only [f1] at k1
        try simp (maxSteps := 500000) (disch := omega) only [go_sem, Int.reduceEq, Int.reduceLT, Int.reduceLE, Int.reduceToNat, Nat.reduceLT, Nat.reduceEqDiff, Nat.reduceAdd, Nat.reduceLeDiff, Nat.reduceSub, Nat.reduceMul, ↓reduceIte, reduceCtorEq, wrap_id, w_ite_ne, w_ite_lt, Nat.sub_zero, Nat.sub_self, k1, f1]
        have hRX : ∀ x ∈ tagR 10 X.oid ++ [(5, 1)] ++ tagR 3 X.oid, x.2 < m' := app_lt (app_lt (tagR_lt hE'.oid) (by simp; omega)) (tagR_lt hE'.oid)
        refine ⟨hkeep_lt hRX fun j hj => hK1.2.1 j hj (Oth.nil j), ?_⟩
        refine app_slr hR1 (by simp [ods_length]; omega) (by simp [ods_length]; omega) fun Y2 τ2 hR2 hK2 => ?_
        try simp (maxSteps := 500000) (disch := omega) only [go_sem, Int.reduceEq, Int.reduceLT, Int.reduceLE, Int.reduceToNat, Nat.reduceLT, Nat.reduceEqDiff, Nat.reduceAdd, Nat.reduceLeDiff, Nat.reduceSub, Nat.reduceMul, ↓reduceIte, reduceCtorEq, wrap_id, w_ite_ne, w_ite_lt, Nat.sub_zero, Nat.sub_self]
        refine ⟨hkeep_lt hRX fun j hj => hK2.2.1 j (Nat.lt_of_lt_of_le hj hK1.1) (hK1.2.2 j hj (Oth.nil j)), ?_⟩
        refine app_er (hD.keep (hK1.trans hK2).1 fun j hj h => (hK1.trans hK2).2.1 j hj (Oth.nil j)) (app_slrs hR2 (by simp [ods_length]; omega) (by simp [ods_length]; omega) fun Y3 τ3 hR3 hK3 => ?_)
        have hK := (hK1.trans hK2).trans hK3
        have k0 := hK.2.1 0 (by simp only; omega) (Oth.nil 0)
        have k2 := hK.2.1 2 (by simp only; omega) (Oth.nil 2)
        have oy := hK.2.2 2 (by simp only; omega) (Oth.nil 2)
        simp only [f0, f2] at k0 k2
        obtain ⟨ob3, m3, c3⟩ := τ3
        simp only at k0 k2
        try simp (maxSteps := 500000) (disch := omega) only [go_sem, Int.reduceEq, Int.reduceLT, Int.reduceLE, Int.reduceToNat, Nat.reduceLT, Nat.reduceEqDiff, Nat.reduceAdd, Nat.reduceLeDiff, Nat.reduceSub, Nat.reduceMul, ↓reduceIte, reduceCtorEq, wrap_id, w_ite_ne, w_ite_lt, Nat.sub_zero, Nat.sub_self, h11, k0, k2, hR3.one, hR3.flat, hR3.cells]
        rw [show [] ++ (ods t.l).take i ++ [AV.agg [.int .i64 o.n, .int .i64 o.k, .int .i64 o.i, .int .i64 o.v]] ++ (ods t.l).drop i = ods (t.l.take i ++ o :: t.l.drop i) by simp [ods, odv]] at hR3
        have hK12 := hK1.trans hK2
        refine ⟨hkeep_lt hRX fun j hj => hK3.2.1 j (Nat.lt_of_lt_of_le hj hK12.1) (hK12.2.2 j hj (Oth.nil j)), ?_⟩
        refine okd _ t.d htk _ (hR3.pub (fun j hj h => ?_) (ods_pur _) (ods_ok _))
        have : ¬ j = 2 := fun e => h (by subst e; exact oy)
        simp [this, go_sem]
end Go.Proofs.Try
