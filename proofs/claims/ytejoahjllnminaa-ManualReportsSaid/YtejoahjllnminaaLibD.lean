/-
  OWN WORK, put together by tools/asm.py: what functions do.
-/
import Derived.Test.YtejoahjllnminaaLibC
set_option linter.unusedSimpArgs false
set_option linter.unusedVariables false
set_option maxRecDepth 100000
set_option maxHeartbeats 1000000
namespace Go.Proofs.Try
open Go.Ab Go
theorem ok_law38_sane : PC prog n_law38_sane [] (.bool true) := by
  refine PC_of_body b_law38_sane (by simp) ?_
  simp only [c_law38_sane, go_sem, Int.reduceEq, Int.reduceLT, Int.reduceLE, Int.reduceToNat, Nat.reduceLT, Nat.reduceEqDiff, Nat.reduceAdd, Nat.reduceLeDiff, Nat.reduceSub, Nat.reduceMul, ↓reduceIte, reduceCtorEq, w_app_nl]
  have t1 : repR 3 1 2 7 [5, 9] 6 = ([⟨3, 1, 2, 7, 0, 11⟩, ⟨4, 1, 2, 8, 3, 15⟩], 0) := by decide +kernel
  have t2 : takeH [] 2 10 = ([⟨2, 10⟩], 0) := by decide +kernel
  have t3 : backH [⟨2, 10⟩] 2 12 = ([], 10, 0) := by decide +kernel
  have t4 : byB [] 2 = false := by decide +kernel
  refine call_pc (ok_manual_Reports 3 1 2 7 [5, 9] 6 (by simp)) (by simp [go_sem]) ?_
  try simp (disch := omega) only [go_sem, Int.reduceEq, Int.reduceLT, Int.reduceLE, Int.reduceToNat, Nat.reduceLT, Nat.reduceEqDiff, Nat.reduceAdd, Nat.reduceLeDiff, Nat.reduceSub, Nat.reduceMul, ↓reduceIte, reduceCtorEq, wrap_id, w_ite_ne, w_ite_lt, Nat.sub_zero, Nat.sub_self, t1]
  refine call_pc (pc_nl (ok_manual_Take [] 2 10 (by simp)) (.cons (.nil 2) (.cons .rfl (.cons .rfl .nil)))) (by simp [go_sem]) ?_
  try simp (disch := omega) only [go_sem, Int.reduceEq, Int.reduceLT, Int.reduceLE, Int.reduceToNat, Nat.reduceLT, Nat.reduceEqDiff, Nat.reduceAdd, Nat.reduceLeDiff, Nat.reduceSub, Nat.reduceMul, ↓reduceIte, reduceCtorEq, wrap_id, w_ite_ne, w_ite_lt, Nat.sub_zero, Nat.sub_self, t2]
  refine call_pc (ok_manual_Back [⟨2, 10⟩] 2 12 (by simp)) (by simp [go_sem, hds, hdv]) ?_
  try simp (disch := omega) only [go_sem, Int.reduceEq, Int.reduceLT, Int.reduceLE, Int.reduceToNat, Nat.reduceLT, Nat.reduceEqDiff, Nat.reduceAdd, Nat.reduceLeDiff, Nat.reduceSub, Nat.reduceMul, ↓reduceIte, reduceCtorEq, wrap_id, w_ite_ne, w_ite_lt, Nat.sub_zero, Nat.sub_self, t3, rps, rpv, hds, List.map_cons, List.map_nil]
  refine call_pc (ok_manual_By [] 2 (by simp)) (by simp [go_sem, hds]) ?_
  try simp (disch := omega) only [go_sem, Int.reduceEq, Int.reduceLT, Int.reduceLE, Int.reduceToNat, Nat.reduceLT, Nat.reduceEqDiff, Nat.reduceAdd, Nat.reduceLeDiff, Nat.reduceSub, Nat.reduceMul, ↓reduceIte, reduceCtorEq, wrap_id, w_ite_ne, w_ite_lt, Nat.sub_zero, Nat.sub_self, t4]
  exact Pub.of_eq rfl rfl
theorem ok_law38_ManualDoes (t : List Int) (raw : List Hd) (hraw : raw.length ≤ 9223372036854775807) (site time : Int) :
    PC prog n_law38_ManualDoes [.list 1 (ints t), .list 2 (hds raw), .int .i64 site, .int .i64 time] (.bool true) := by
  refine PC_of_body b_law38_ManualDoes (by simp) ?_
  simp only [c_law38_ManualDoes, go_sem, Int.reduceEq, Int.reduceLT, Int.reduceLE, Int.reduceToNat, Nat.reduceLT, Nat.reduceEqDiff, Nat.reduceAdd, Nat.reduceLeDiff, Nat.reduceSub, Nat.reduceMul, ↓reduceIte, reduceCtorEq, w_app_nl]
  refine call_pc ok_law38_sane (by simp) ?_
  try simp (disch := omega) only [go_sem, Int.reduceEq, Int.reduceLT, Int.reduceLE, Int.reduceToNat, Nat.reduceLT, Nat.reduceEqDiff, Nat.reduceAdd, Nat.reduceLeDiff, Nat.reduceSub, Nat.reduceMul, ↓reduceIte, reduceCtorEq, wrap_id, w_ite_ne, w_ite_lt, Nat.sub_zero, Nat.sub_self]
  refine call_pc (ok_mk_Few t) (by simp [go_sem]) ?_
  try simp (disch := omega) only [go_sem, Int.reduceEq, Int.reduceLT, Int.reduceLE, Int.reduceToNat, Nat.reduceLT, Nat.reduceEqDiff, Nat.reduceAdd, Nat.reduceLeDiff, Nat.reduceSub, Nat.reduceMul, ↓reduceIte, reduceCtorEq, wrap_id, w_ite_ne, w_ite_lt, Nat.sub_zero, Nat.sub_self]
  cases hfew : fewB t
  · try simp (disch := omega) only [go_sem, Int.reduceEq, Int.reduceLT, Int.reduceLE, Int.reduceToNat, Nat.reduceLT, Nat.reduceEqDiff, Nat.reduceAdd, Nat.reduceLeDiff, Nat.reduceSub, Nat.reduceMul, ↓reduceIte, reduceCtorEq, wrap_id, w_ite_ne, w_ite_lt, Nat.sub_zero, Nat.sub_self]
    exact Pub.of_eq rfl rfl
  have hlt : t.length ≤ 9223372036854775807 := by simp [fewB] at hfew; omega
  try simp (disch := omega) only [go_sem, Int.reduceEq, Int.reduceLT, Int.reduceLE, Int.reduceToNat, Nat.reduceLT, Nat.reduceEqDiff, Nat.reduceAdd, Nat.reduceLeDiff, Nat.reduceSub, Nat.reduceMul, ↓reduceIte, reduceCtorEq, wrap_id, w_ite_ne, w_ite_lt, Nat.sub_zero, Nat.sub_self, hds_length]
  refine cond_d (fun h => ?_) (fun hr1 => ?_) <;> try simp (disch := omega) only [go_sem, Int.reduceEq, Int.reduceLT, Int.reduceLE, Int.reduceToNat, Nat.reduceLT, Nat.reduceEqDiff, Nat.reduceAdd, Nat.reduceLeDiff, Nat.reduceSub, Nat.reduceMul, ↓reduceIte, reduceCtorEq, wrap_id, w_ite_ne, w_ite_lt, Nat.sub_zero, Nat.sub_self]
  · exact Pub.of_eq rfl rfl
  refine call_hc (ok_mk_New _ t) ?_
  try simp (disch := omega) only [go_sem, Int.reduceEq, Int.reduceLT, Int.reduceLE, Int.reduceToNat, Nat.reduceLT, Nat.reduceEqDiff, Nat.reduceAdd, Nat.reduceLeDiff, Nat.reduceSub, Nat.reduceMul, ↓reduceIte, reduceCtorEq, wrap_id, w_ite_ne, w_ite_lt, Nat.sub_zero, Nat.sub_self]
  refine (hc_law38_hands _ 0 0 t 0 hlt (by simp) (by first | rfl | simp (maxSteps := 1000000) only [go_sem, Int.reduceEq, Int.reduceLT, Int.reduceLE, Int.reduceToNat, Nat.reduceLT, Nat.reduceEqDiff, Nat.reduceAdd, Nat.reduceLeDiff, Nat.reduceSub, Nat.reduceMul, ↓reduceIte, reduceCtorEq, w_app_nl])).mono ?_
  rintro _ _ ⟨made, at2, c, rfl, hok, rfl⟩
  have hml := hdOk_len (by omega) (by omega) hok
  try simp (disch := omega) only [go_sem, Int.reduceEq, Int.reduceLT, Int.reduceLE, Int.reduceToNat, Nat.reduceLT, Nat.reduceEqDiff, Nat.reduceAdd, Nat.reduceLeDiff, Nat.reduceSub, Nat.reduceMul, ↓reduceIte, reduceCtorEq, wrap_id, w_ite_ne, w_ite_lt, Nat.sub_zero, Nat.sub_self]
  have hLs : ∀ i : Nat, i < 2 → ∃ y : List Hd, [AV.list 2 (hds raw), AV.list 2 (hds made)][i]? = some (.list 2 (hds y)) ∧ y.length ≤ 1000 := fun i hi => by
    rcases i with _ | _ | i
    · exact ⟨raw, rfl, by omega⟩
    · exact ⟨made, rfl, by omega⟩
    · omega
  have hLl : [AV.list 2 (hds raw), AV.list 2 (hds made)].length = 2 := rfl
  generalize [AV.list 2 (hds raw), AV.list 2 (hds made)] = L at *
  refine awp_upG [8, 11, 13, 15, 16, 17, 18, 19, 20, 21, 22, 23, 24, 25, 43, 44, 45, 46, 47, 48, 49, 50, 51, 52, 53, 54, 55, 56, 57, 58, 59, 60, 61, 62, 63, 64, 65, 66, 67, 68, 69, 70, 71, 72, 73, 74, 75, 76, 77, 78, 79, 80, 81, 82, 83, 84, 85, 86, 87, 88, 89, 90, 91, 92, 93, 94, 95, 96, 97, 98, 99, 100, 101, 102, 103, 104, 105, 106, 107, 108, 109, 110, 111, 112, 113, 114, 115, 116, 117, 118, 119, 120, 121, 122, 123, 124, 125, 126, 127, 128, 129, 130, 131, 132, 133, 134, 135, 136] (by kernel_rfl) 2 (fun k e σ => e 43 = .int .i64 k) ?_ ?_
  · exact (by first | ((try simp (maxSteps := 1000000) only [go_sem, Int.reduceEq, Int.reduceLT, Int.reduceLE, Int.reduceToNat, Nat.reduceLT, Nat.reduceEqDiff, Nat.reduceAdd, Nat.reduceLeDiff, Nat.reduceSub, Nat.reduceMul, ↓reduceIte, reduceCtorEq, w_app_nl]); done) | ((try simp (maxSteps := 1000000) only [go_sem, Int.reduceEq, Int.reduceLT, Int.reduceLE, Int.reduceToNat, Nat.reduceLT, Nat.reduceEqDiff, Nat.reduceAdd, Nat.reduceLeDiff, Nat.reduceSub, Nat.reduceMul, ↓reduceIte, reduceCtorEq, w_app_nl]); rfl) | ((try simp (maxSteps := 1000000) (disch := omega) only [go_sem, Int.reduceEq, Int.reduceLT, Int.reduceLE, Int.reduceToNat, Nat.reduceLT, Nat.reduceEqDiff, Nat.reduceAdd, Nat.reduceLeDiff, Nat.reduceSub, Nat.reduceMul, ↓reduceIte, reduceCtorEq, w_app_nl, wrap_id, w_ite_ne, w_ite_lt]); rfl) | (simp (maxSteps := 1000000) (disch := omega) only [go_sem, Int.reduceEq, Int.reduceLT, Int.reduceLE, Int.reduceToNat, Nat.reduceLT, Nat.reduceEqDiff, Nat.reduceAdd, Nat.reduceLeDiff, Nat.reduceSub, Nat.reduceMul, ↓reduceIte, reduceCtorEq, w_app_nl, wrap_id, w_ite_ne, w_ite_lt]; done))
  · rintro k1 fe1 ob1 m1 c1 hk1 _ h43
    simp (maxSteps := 1000000) only [go_sem, Int.reduceEq, Int.reduceLT, Int.reduceLE, Int.reduceToNat, Nat.reduceLT, Nat.reduceEqDiff, Nat.reduceAdd, Nat.reduceLeDiff, Nat.reduceSub, Nat.reduceMul, ↓reduceIte, reduceCtorEq, w_app_nl] at h43
    try simp (disch := omega) only [go_sem, Int.reduceEq, Int.reduceLT, Int.reduceLE, Int.reduceToNat, Nat.reduceLT, Nat.reduceEqDiff, Nat.reduceAdd, Nat.reduceLeDiff, Nat.reduceSub, Nat.reduceMul, ↓reduceIte, reduceCtorEq, wrap_id, w_ite_ne, w_ite_lt, Nat.sub_zero, Nat.sub_self, h43]
    refine cond_d (fun hlt1 => ?_) (fun hge1 => ?_)
    · have hk1' : k1 < 2 := by omega
      obtain ⟨y, hy, hyl⟩ := hLs k1 hk1'
      try simp (disch := omega) only [go_sem, Int.reduceEq, Int.reduceLT, Int.reduceLE, Int.reduceToNat, Nat.reduceLT, Nat.reduceEqDiff, Nat.reduceAdd, Nat.reduceLeDiff, Nat.reduceSub, Nat.reduceMul, ↓reduceIte, reduceCtorEq, wrap_id, w_ite_ne, w_ite_lt, Nat.sub_zero, Nat.sub_self, h43, hy]
      refine ⟨by omega, by rw [hLl]; omega, ?_⟩
      refine call_pc (ok_manual_Check y (by omega)) (by simp [go_sem, hds_pur]) ?_
      try simp (disch := omega) only [go_sem, Int.reduceEq, Int.reduceLT, Int.reduceLE, Int.reduceToNat, Nat.reduceLT, Nat.reduceEqDiff, Nat.reduceAdd, Nat.reduceLeDiff, Nat.reduceSub, Nat.reduceMul, ↓reduceIte, reduceCtorEq, wrap_id, w_ite_ne, w_ite_lt, Nat.sub_zero, Nat.sub_self]
      refine call_pc (ok_ref38_Check y (by omega)) (by simp [go_sem, hds_pur]) ?_
      try simp (disch := omega) only [go_sem, Int.reduceEq, Int.reduceLT, Int.reduceLE, Int.reduceToNat, Nat.reduceLT, Nat.reduceEqDiff, Nat.reduceAdd, Nat.reduceLeDiff, Nat.reduceSub, Nat.reduceMul, ↓reduceIte, reduceCtorEq, wrap_id, w_ite_ne, w_ite_lt, Nat.sub_zero, Nat.sub_self, decide_true]
      refine call_pc (ok_mk_Mod site 6 (by omega) (by omega)) (by simp [go_sem]) ?_
      try simp (disch := omega) only [go_sem, Int.reduceEq, Int.reduceLT, Int.reduceLE, Int.reduceToNat, Nat.reduceLT, Nat.reduceEqDiff, Nat.reduceAdd, Nat.reduceLeDiff, Nat.reduceSub, Nat.reduceMul, ↓reduceIte, reduceCtorEq, wrap_id, w_ite_ne, w_ite_lt, Nat.sub_zero, Nat.sub_self]
      have hMs : ∀ i : Nat, i < 2 → ∃ x : Int, [AV.int .i64 site, AV.int .i64 (site % 6)][i]? = some (.int .i64 x) := fun i hi => by
        rcases i with _ | _ | i
        · exact ⟨_, rfl⟩
        · exact ⟨_, rfl⟩
        · omega
      have hMl : [AV.int .i64 site, AV.int .i64 (site % 6)].length = 2 := rfl
      generalize [AV.int .i64 site, AV.int .i64 (site % 6)] = M at *
      refine awp_upG [8, 13, 15, 16, 17, 18, 19, 20, 21, 22, 23, 24, 25, 57, 58, 59, 60, 61, 62, 63, 64, 65, 66, 67, 68, 69, 70, 71, 72, 73, 74, 75, 76, 77, 78, 79, 80, 81, 82, 83, 84, 85, 86, 87, 88, 89, 90, 91, 92, 93, 94, 95, 96, 97, 98, 99, 100, 101, 102, 103, 104, 105, 106, 107, 108, 109, 110, 111, 112, 113, 114, 115, 116, 117, 118, 119, 120, 121, 122, 123, 124, 125, 126, 127, 128, 129, 130, 131, 132, 133, 134, 135] (by kernel_rfl) 2 (fun k e σ => e 57 = .int .i64 k) ?_ ?_
      · exact (by first | ((try simp (maxSteps := 1000000) only [go_sem, Int.reduceEq, Int.reduceLT, Int.reduceLE, Int.reduceToNat, Nat.reduceLT, Nat.reduceEqDiff, Nat.reduceAdd, Nat.reduceLeDiff, Nat.reduceSub, Nat.reduceMul, ↓reduceIte, reduceCtorEq, w_app_nl]); done) | ((try simp (maxSteps := 1000000) only [go_sem, Int.reduceEq, Int.reduceLT, Int.reduceLE, Int.reduceToNat, Nat.reduceLT, Nat.reduceEqDiff, Nat.reduceAdd, Nat.reduceLeDiff, Nat.reduceSub, Nat.reduceMul, ↓reduceIte, reduceCtorEq, w_app_nl]); rfl) | ((try simp (maxSteps := 1000000) (disch := omega) only [go_sem, Int.reduceEq, Int.reduceLT, Int.reduceLE, Int.reduceToNat, Nat.reduceLT, Nat.reduceEqDiff, Nat.reduceAdd, Nat.reduceLeDiff, Nat.reduceSub, Nat.reduceMul, ↓reduceIte, reduceCtorEq, w_app_nl, wrap_id, w_ite_ne, w_ite_lt]); rfl) | (simp (maxSteps := 1000000) (disch := omega) only [go_sem, Int.reduceEq, Int.reduceLT, Int.reduceLE, Int.reduceToNat, Nat.reduceLT, Nat.reduceEqDiff, Nat.reduceAdd, Nat.reduceLeDiff, Nat.reduceSub, Nat.reduceMul, ↓reduceIte, reduceCtorEq, w_app_nl, wrap_id, w_ite_ne, w_ite_lt]; done))
      · rintro k2 fe2 ob2 m2 c2 hk2 hm2 h57
        simp (maxSteps := 1000000) only [go_sem, Int.reduceEq, Int.reduceLT, Int.reduceLE, Int.reduceToNat, Nat.reduceLT, Nat.reduceEqDiff, Nat.reduceAdd, Nat.reduceLeDiff, Nat.reduceSub, Nat.reduceMul, ↓reduceIte, reduceCtorEq, w_app_nl] at h57
        try simp (disch := omega) only [go_sem, Int.reduceEq, Int.reduceLT, Int.reduceLE, Int.reduceToNat, Nat.reduceLT, Nat.reduceEqDiff, Nat.reduceAdd, Nat.reduceLeDiff, Nat.reduceSub, Nat.reduceMul, ↓reduceIte, reduceCtorEq, wrap_id, w_ite_ne, w_ite_lt, Nat.sub_zero, Nat.sub_self, h57]
        refine cond_d (fun hlt2 => ?_) (fun hge2 => ?_)
        · have hk2' : k2 < 2 := by omega
          obtain ⟨x, hx⟩ := hMs k2 hk2'
          try simp (disch := omega) only [go_sem, Int.reduceEq, Int.reduceLT, Int.reduceLE, Int.reduceToNat, Nat.reduceLT, Nat.reduceEqDiff, Nat.reduceAdd, Nat.reduceLeDiff, Nat.reduceSub, Nat.reduceMul, ↓reduceIte, reduceCtorEq, wrap_id, w_ite_ne, w_ite_lt, Nat.sub_zero, Nat.sub_self, h57, hx]
          refine ⟨by omega, by rw [hMl]; omega, ?_⟩
          refine call_pc (ok_mk_Mod time 30 (by omega) (by omega)) (by simp [go_sem]) ?_
          try simp (disch := omega) only [go_sem, Int.reduceEq, Int.reduceLT, Int.reduceLE, Int.reduceToNat, Nat.reduceLT, Nat.reduceEqDiff, Nat.reduceAdd, Nat.reduceLeDiff, Nat.reduceSub, Nat.reduceMul, ↓reduceIte, reduceCtorEq, wrap_id, w_ite_ne, w_ite_lt, Nat.sub_zero, Nat.sub_self]
          have hNs : ∀ i : Nat, i < 2 → ∃ x : Int, [AV.int .i64 time, AV.int .i64 (time % 30)][i]? = some (.int .i64 x) := fun i hi => by
            rcases i with _ | _ | i
            · exact ⟨_, rfl⟩
            · exact ⟨_, rfl⟩
            · omega
          have hNl : [AV.int .i64 time, AV.int .i64 (time % 30)].length = 2 := rfl
          generalize [AV.int .i64 time, AV.int .i64 (time % 30)] = N at *
          refine awp_upG [8, 15, 16, 17, 18, 19, 20, 21, 22, 23, 24, 25, 66, 67, 68, 69, 70, 71, 72, 73, 74, 75, 76, 77, 78, 79, 80, 81, 82, 83, 84, 85, 86, 87, 88, 89, 90, 91, 92, 93, 94, 95, 96, 97, 98, 99, 100, 101, 102, 103, 104, 105, 106, 107, 108, 109, 110, 111, 112, 113, 114, 115, 116, 117, 118, 119, 120, 121, 122, 123, 124, 125, 126, 127, 128, 129, 130, 131, 132, 133, 134] (by kernel_rfl) 2 (fun k e σ => e 66 = .int .i64 k) ?_ ?_
          · exact (by first | ((try simp (maxSteps := 1000000) only [go_sem, Int.reduceEq, Int.reduceLT, Int.reduceLE, Int.reduceToNat, Nat.reduceLT, Nat.reduceEqDiff, Nat.reduceAdd, Nat.reduceLeDiff, Nat.reduceSub, Nat.reduceMul, ↓reduceIte, reduceCtorEq, w_app_nl]); done) | ((try simp (maxSteps := 1000000) only [go_sem, Int.reduceEq, Int.reduceLT, Int.reduceLE, Int.reduceToNat, Nat.reduceLT, Nat.reduceEqDiff, Nat.reduceAdd, Nat.reduceLeDiff, Nat.reduceSub, Nat.reduceMul, ↓reduceIte, reduceCtorEq, w_app_nl]); rfl) | ((try simp (maxSteps := 1000000) (disch := omega) only [go_sem, Int.reduceEq, Int.reduceLT, Int.reduceLE, Int.reduceToNat, Nat.reduceLT, Nat.reduceEqDiff, Nat.reduceAdd, Nat.reduceLeDiff, Nat.reduceSub, Nat.reduceMul, ↓reduceIte, reduceCtorEq, w_app_nl, wrap_id, w_ite_ne, w_ite_lt]); rfl) | (simp (maxSteps := 1000000) (disch := omega) only [go_sem, Int.reduceEq, Int.reduceLT, Int.reduceLE, Int.reduceToNat, Nat.reduceLT, Nat.reduceEqDiff, Nat.reduceAdd, Nat.reduceLeDiff, Nat.reduceSub, Nat.reduceMul, ↓reduceIte, reduceCtorEq, w_app_nl, wrap_id, w_ite_ne, w_ite_lt]; done))
          · rintro k3 fe3 ob3 m3 c3 hk3 hm3 h66
            simp (maxSteps := 1000000) only [go_sem, Int.reduceEq, Int.reduceLT, Int.reduceLE, Int.reduceToNat, Nat.reduceLT, Nat.reduceEqDiff, Nat.reduceAdd, Nat.reduceLeDiff, Nat.reduceSub, Nat.reduceMul, ↓reduceIte, reduceCtorEq, w_app_nl] at h66
            try simp (disch := omega) only [go_sem, Int.reduceEq, Int.reduceLT, Int.reduceLE, Int.reduceToNat, Nat.reduceLT, Nat.reduceEqDiff, Nat.reduceAdd, Nat.reduceLeDiff, Nat.reduceSub, Nat.reduceMul, ↓reduceIte, reduceCtorEq, wrap_id, w_ite_ne, w_ite_lt, Nat.sub_zero, Nat.sub_self, h66]
            refine cond_d (fun hlt3 => ?_) (fun hge3 => ?_)
            · have hk3' : k3 < 2 := by omega
              obtain ⟨n, hn⟩ := hNs k3 hk3'
              try simp (disch := omega) only [go_sem, Int.reduceEq, Int.reduceLT, Int.reduceLE, Int.reduceToNat, Nat.reduceLT, Nat.reduceEqDiff, Nat.reduceAdd, Nat.reduceLeDiff, Nat.reduceSub, Nat.reduceMul, ↓reduceIte, reduceCtorEq, wrap_id, w_ite_ne, w_ite_lt, Nat.sub_zero, Nat.sub_self, h66, hn]
              refine ⟨by omega, by rw [hNl]; omega, ?_⟩
              refine call_pc (ok_manual_Take y x n (by omega)) (by simp [go_sem, hds_pur]) ?_
              try simp (disch := omega) only [go_sem, Int.reduceEq, Int.reduceLT, Int.reduceLE, Int.reduceToNat, Nat.reduceLT, Nat.reduceEqDiff, Nat.reduceAdd, Nat.reduceLeDiff, Nat.reduceSub, Nat.reduceMul, ↓reduceIte, reduceCtorEq, wrap_id, w_ite_ne, w_ite_lt, Nat.sub_zero, Nat.sub_self]
              refine call_pc (ok_ref38_Take y x n (by omega)) (by simp [go_sem, hds_pur]) ?_
              try simp (disch := omega) only [go_sem, Int.reduceEq, Int.reduceLT, Int.reduceLE, Int.reduceToNat, Nat.reduceLT, Nat.reduceEqDiff, Nat.reduceAdd, Nat.reduceLeDiff, Nat.reduceSub, Nat.reduceMul, ↓reduceIte, reduceCtorEq, wrap_id, w_ite_ne, w_ite_lt, Nat.sub_zero, Nat.sub_self]
              refine call_pc (ok_manual_Back y x n (by omega)) (by simp [go_sem, hds_pur]) ?_
              try simp (disch := omega) only [go_sem, Int.reduceEq, Int.reduceLT, Int.reduceLE, Int.reduceToNat, Nat.reduceLT, Nat.reduceEqDiff, Nat.reduceAdd, Nat.reduceLeDiff, Nat.reduceSub, Nat.reduceMul, ↓reduceIte, reduceCtorEq, wrap_id, w_ite_ne, w_ite_lt, Nat.sub_zero, Nat.sub_self]
              refine call_pc (ok_ref38_Back y x n (by omega)) (by simp [go_sem, hds_pur]) ?_
              have hb1 : (takeH y x n).1.length ≤ 2000 := by
                unfold takeH
                repeat' split
                all_goals simp
                omega
              have hb2 : (backH y x n).1.length ≤ 2000 := by
                unfold backH
                repeat' split
                all_goals (first | (simp; done) | exact Nat.le_trans (List.length_filter_le _ _) (by omega))
              generalize takeH y x n = T at *
              obtain ⟨T1, T2⟩ := T
              generalize backH y x n = U at *
              obtain ⟨U1, U2, U3⟩ := U
              simp only at hb1 hb2
              try simp (disch := omega) only [go_sem, Int.reduceEq, Int.reduceLT, Int.reduceLE, Int.reduceToNat, Nat.reduceLT, Nat.reduceEqDiff, Nat.reduceAdd, Nat.reduceLeDiff, Nat.reduceSub, Nat.reduceMul, ↓reduceIte, reduceCtorEq, wrap_id, w_ite_ne, w_ite_lt, Nat.sub_zero, Nat.sub_self, decide_true]
              refine call_pc (ok_ref38_SameHands T1 T1 (by omega)) (by simp [go_sem, hds_pur]) ?_
              try simp (disch := omega) only [go_sem, Int.reduceEq, Int.reduceLT, Int.reduceLE, Int.reduceToNat, Nat.reduceLT, Nat.reduceEqDiff, Nat.reduceAdd, Nat.reduceLeDiff, Nat.reduceSub, Nat.reduceMul, ↓reduceIte, reduceCtorEq, wrap_id, w_ite_ne, w_ite_lt, Nat.sub_zero, Nat.sub_self, decide_true]
              refine call_pc (ok_ref38_SameHands U1 U1 (by omega)) (by simp [go_sem, hds_pur]) ?_
              try simp (disch := omega) only [go_sem, Int.reduceEq, Int.reduceLT, Int.reduceLE, Int.reduceToNat, Nat.reduceLT, Nat.reduceEqDiff, Nat.reduceAdd, Nat.reduceLeDiff, Nat.reduceSub, Nat.reduceMul, ↓reduceIte, reduceCtorEq, wrap_id, w_ite_ne, w_ite_lt, Nat.sub_zero, Nat.sub_self, decide_true]
              refine call_pc (ok_manual_By y x (by omega)) (by simp [go_sem, hds_pur]) ?_
              try simp (disch := omega) only [go_sem, Int.reduceEq, Int.reduceLT, Int.reduceLE, Int.reduceToNat, Nat.reduceLT, Nat.reduceEqDiff, Nat.reduceAdd, Nat.reduceLeDiff, Nat.reduceSub, Nat.reduceMul, ↓reduceIte, reduceCtorEq, wrap_id, w_ite_ne, w_ite_lt, Nat.sub_zero, Nat.sub_self]
              refine call_pc (ok_ref38_By y x (by omega)) (by simp [go_sem, hds_pur]) ?_
              try simp (disch := omega) only [go_sem, Int.reduceEq, Int.reduceLT, Int.reduceLE, Int.reduceToNat, Nat.reduceLT, Nat.reduceEqDiff, Nat.reduceAdd, Nat.reduceLeDiff, Nat.reduceSub, Nat.reduceMul, ↓reduceIte, reduceCtorEq, wrap_id, w_ite_ne, w_ite_lt, Nat.sub_zero, Nat.sub_self, decide_true, h66]
              exact up_nextG m3 hk3' hm3 (by try simp (disch := omega) only [go_sem, Int.reduceEq, Int.reduceLT, Int.reduceLE, Int.reduceToNat, Nat.reduceLT, Nat.reduceEqDiff, Nat.reduceAdd, Nat.reduceLeDiff, Nat.reduceSub, Nat.reduceMul, ↓reduceIte, reduceCtorEq, wrap_id, w_ite_ne, w_ite_lt, Nat.sub_zero, Nat.sub_self]; rfl)
            · try simp (disch := omega) only [go_sem, Int.reduceEq, Int.reduceLT, Int.reduceLE, Int.reduceToNat, Nat.reduceLT, Nat.reduceEqDiff, Nat.reduceAdd, Nat.reduceLeDiff, Nat.reduceSub, Nat.reduceMul, ↓reduceIte, reduceCtorEq, wrap_id, w_ite_ne, w_ite_lt, Nat.sub_zero, Nat.sub_self, h57]
              exact up_nextG m2 hk2' hm2 (by try simp (disch := omega) only [go_sem, Int.reduceEq, Int.reduceLT, Int.reduceLE, Int.reduceToNat, Nat.reduceLT, Nat.reduceEqDiff, Nat.reduceAdd, Nat.reduceLeDiff, Nat.reduceSub, Nat.reduceMul, ↓reduceIte, reduceCtorEq, wrap_id, w_ite_ne, w_ite_lt, Nat.sub_zero, Nat.sub_self]; rfl)
        · try simp (disch := omega) only [go_sem, Int.reduceEq, Int.reduceLT, Int.reduceLE, Int.reduceToNat, Nat.reduceLT, Nat.reduceEqDiff, Nat.reduceAdd, Nat.reduceLeDiff, Nat.reduceSub, Nat.reduceMul, ↓reduceIte, reduceCtorEq, wrap_id, w_ite_ne, w_ite_lt, Nat.sub_zero, Nat.sub_self, h43]
          exact up_nextG _ hk1' (Nat.le_refl _) (by try simp (disch := omega) only [go_sem, Int.reduceEq, Int.reduceLT, Int.reduceLE, Int.reduceToNat, Nat.reduceLT, Nat.reduceEqDiff, Nat.reduceAdd, Nat.reduceLeDiff, Nat.reduceSub, Nat.reduceMul, ↓reduceIte, reduceCtorEq, wrap_id, w_ite_ne, w_ite_lt, Nat.sub_zero, Nat.sub_self]; rfl)
    · try simp (disch := omega) only [go_sem, Int.reduceEq, Int.reduceLT, Int.reduceLE, Int.reduceToNat, Nat.reduceLT, Nat.reduceEqDiff, Nat.reduceAdd, Nat.reduceLeDiff, Nat.reduceSub, Nat.reduceMul, ↓reduceIte, reduceCtorEq, wrap_id, w_ite_ne, w_ite_lt, Nat.sub_zero, Nat.sub_self]
      exact Pub.of_eq rfl rfl
theorem takeH_ok {l : List Hd} {x n : Int} (hok : hdOk (-1) l = true) (hx : 0 ≤ x ∧ x < 6) (hn : 0 ≤ n ∧ n ≤ 16777216) (ha : (l.any fun h => decide (h.s = x)) = false) :
    takeH l x n = (l.take (bsI (l.map Hd.s) x) ++ ⟨x, n⟩ :: l.drop (bsI (l.map Hd.s) x), 0) := by simp only [takeH, hok, if_true, if_pos hx, if_pos hn, ha]; rfl
theorem hdOk_ins : ∀ {l : List Hd} {last : Int} {x : Hd} (i : Nat), hdOk last l = true → last < x.s → x.s < 6 → 0 ≤ x.t → x.t ≤ 16777216 → i ≤ l.length → (∀ k, k < i → ∀ y, l[k]? = some y → y.s < x.s) → (∀ k, i ≤ k → ∀ y, l[k]? = some y → x.s < y.s) → hdOk last (l.take i ++ x :: l.drop i) = true
  | [], last, x, i, _, h1, h2, h3, h4, _, _, _ => by simp [hdOk, hd1]; omega
  | a :: r, last, x, 0, hok, h1, h2, h3, h4, _, _, hhi => by
    have := hhi 0 (Nat.le_refl _) a rfl
    simp only [hdOk, hd1, Bool.and_eq_true, decide_eq_true_eq] at hok
    simp only [List.take_zero, List.drop_zero, List.nil_append, hdOk, hd1, Bool.and_eq_true, decide_eq_true_eq]
    exact ⟨⟨⟨⟨h1, h2⟩, h3⟩, h4⟩, ⟨⟨⟨this, hok.1.1.1.2⟩, hok.1.1.2⟩, hok.1.2⟩, hok.2⟩
  | a :: r, last, x, i + 1, hok, h1, h2, h3, h4, hil, hlo, hhi => by
    have ha := hlo 0 (by omega) a rfl
    simp only [hdOk, Bool.and_eq_true] at hok
    simp only [List.take_succ_cons, List.drop_succ_cons, List.cons_append, hdOk, Bool.and_eq_true]
    exact ⟨hok.1, hdOk_ins i hok.2 ha h2 h3 h4 (by simpa using hil) (fun k hk y hy => hlo (k + 1) (by omega) y (by simpa using hy)) (fun k hk y hy => hhi (k + 1) (by omega) y (by simpa using hy))⟩
/-- taken, and given back -/
theorem take_back {l : List Hd} {x n m : Int} (hok : hdOk (-1) l = true) (hx : 0 ≤ x ∧ x < 6) (hn : 0 ≤ n ∧ n ≤ 16777216) (hm : n ≤ m ∧ m ≤ 16777216) (ha : (l.any fun h => decide (h.s = x)) = false) :
    hdOk (-1) (takeH l x n).1 = true ∧ byB (takeH l x n).1 x = true ∧ backH (takeH l x n).1 x m = (l, n, 0) := by
  have hin := bsI_le (l.map Hd.s) x
  rw [List.length_map] at hin
  have hne : ∀ h ∈ l, h.s ≠ x := fun h hh => by
    rw [List.any_eq_false] at ha
    simpa using ha h hh
  rw [takeH_ok hok hx hn ha]
  have hlo : ∀ k, k < bsI (l.map Hd.s) x → ∀ y, l[k]? = some y → y.s < x := fun k hk y hy => by
    rcases Int.lt_or_le y.s x with h | h
    · exact h
    · have := bsI_le_of (l := l.map Hd.s) (x := x) (k := k) (y := y.s) (by simp [hy]) h
      omega
  have hhi : ∀ k, bsI (l.map Hd.s) x ≤ k → ∀ y, l[k]? = some y → x < y.s := fun k hk y hy => by
    have hA := hd_Asc hok
    have hyl : y ∈ l := List.mem_of_getElem? hy
    have h1 := hne y hyl
    have hkl := (List.getElem?_eq_some_iff.1 hy).1
    have hi : (l.map Hd.s)[bsI (l.map Hd.s) x]? = some (l[bsI (l.map Hd.s) x]'(by omega)).s := by simp [List.getElem?_eq_getElem (show bsI (l.map Hd.s) x < l.length by omega)]
    have h2 := bsI_at hi
    rcases Nat.eq_or_lt_of_le hk with e | e
    · have : l[bsI (l.map Hd.s) x]? = some y := by rw [e]; exact hy
      rw [List.getElem?_map, this] at hi
      have := Option.some.inj hi
      omega
    · have := hA _ _ e _ y.s hi (by simp [hy])
      omega
  generalize bsI (l.map Hd.s) x = i at *
  have hok2 : hdOk (-1) (l.take i ++ ⟨x, n⟩ :: l.drop i) = true := hdOk_ins i hok (by simp only; omega) (by simp only; omega) (by simp only; omega) (by simp only; omega) hin hlo hhi
  have hil : (l.take i ++ (⟨x, n⟩ : Hd) :: l.drop i)[i]? = some ⟨x, n⟩ := by
    have h1 : (l.take i).length = i := by simp; omega
    rw [List.getElem?_append_right (by omega), h1]; simp
  have hany : ((l.take i ++ (⟨x, n⟩ : Hd) :: l.drop i).any fun h => decide (h.s = x)) = true := List.any_eq_true.2 ⟨⟨x, n⟩, by simp, by simp⟩
  obtain ⟨e1, e2⟩ := hd_at (acc := -1) hok2 hil
  refine ⟨hok2, by simp only [byB, hok2, hany, Bool.and_self], ?_⟩
  have e3 : (l.take i ++ (⟨x, n⟩ : Hd) :: l.drop i).filter (fun y => !decide (y.s = x)) = l := by
    rw [List.filter_append, List.filter_cons]
    have h4 : (l.take i).filter (fun y => !decide (y.s = x)) = l.take i := fil_none fun a ha => hne a (List.mem_of_mem_take ha)
    have h5 : (l.drop i).filter (fun y => !decide (y.s = x)) = l.drop i := fil_none fun a ha => hne a (List.mem_of_mem_drop ha)
    rw [h4, h5]
    simp
  simp only at e1
  simp only [backH, hok2, if_true, if_pos hx, hany, e1, e3]
  rw [if_pos (by omega)]
theorem repL_get (first account field frm : Int) (v : List Int) (tol : Int) (n k : Nat) (h : k < n) : (repL first account field frm v tol n)[k]? = some (rp1 first account field frm tol k (v.getD k 0)) := by
  simp [repL, List.getElem?_range, h]
theorem ok_law38_ManualBack (t : List Int) (site time more : Int) (values : List Int) (hsite : 0 ≤ site ∧ site ≤ 255) (htime : 0 ≤ time ∧ time ≤ 255) (hmore : 0 ≤ more ∧ more ≤ 255) (hv : values.length ≤ 9223372036854775807) :
    PC prog n_law38_ManualBack [.list 1 (ints t), .int .u8 site, .int .u8 time, .int .u8 more, .list 1 (ints values)] (.bool true) := by
  refine PC_of_body b_law38_ManualBack (by simp) ?_
  simp only [c_law38_ManualBack, go_sem, Int.reduceEq, Int.reduceLT, Int.reduceLE, Int.reduceToNat, Nat.reduceLT, Nat.reduceEqDiff, Nat.reduceAdd, Nat.reduceLeDiff, Nat.reduceSub, Nat.reduceMul, ↓reduceIte, reduceCtorEq, w_app_nl]
  refine call_pc ok_law38_sane (by simp) ?_
  try simp (disch := omega) only [go_sem, Int.reduceEq, Int.reduceLT, Int.reduceLE, Int.reduceToNat, Nat.reduceLT, Nat.reduceEqDiff, Nat.reduceAdd, Nat.reduceLeDiff, Nat.reduceSub, Nat.reduceMul, ↓reduceIte, reduceCtorEq, wrap_id, w_ite_ne, w_ite_lt, Nat.sub_zero, Nat.sub_self]
  refine call_pc (ok_mk_Few t) (by simp [go_sem]) ?_
  try simp (disch := omega) only [go_sem, Int.reduceEq, Int.reduceLT, Int.reduceLE, Int.reduceToNat, Nat.reduceLT, Nat.reduceEqDiff, Nat.reduceAdd, Nat.reduceLeDiff, Nat.reduceSub, Nat.reduceMul, ↓reduceIte, reduceCtorEq, wrap_id, w_ite_ne, w_ite_lt, Nat.sub_zero, Nat.sub_self]
  cases hfew : fewB t
  · try simp (disch := omega) only [go_sem, Int.reduceEq, Int.reduceLT, Int.reduceLE, Int.reduceToNat, Nat.reduceLT, Nat.reduceEqDiff, Nat.reduceAdd, Nat.reduceLeDiff, Nat.reduceSub, Nat.reduceMul, ↓reduceIte, reduceCtorEq, wrap_id, w_ite_ne, w_ite_lt, Nat.sub_zero, Nat.sub_self]
    exact Pub.of_eq rfl rfl
  have hlt : t.length ≤ 9223372036854775807 := by simp [fewB] at hfew; omega
  try simp (disch := omega) only [go_sem, Int.reduceEq, Int.reduceLT, Int.reduceLE, Int.reduceToNat, Nat.reduceLT, Nat.reduceEqDiff, Nat.reduceAdd, Nat.reduceLeDiff, Nat.reduceSub, Nat.reduceMul, ↓reduceIte, reduceCtorEq, wrap_id, w_ite_ne, w_ite_lt, Nat.sub_zero, Nat.sub_self, ints_length]
  refine cond_d (fun h => ?_) (fun hr1 => ?_) <;> try simp (disch := omega) only [go_sem, Int.reduceEq, Int.reduceLT, Int.reduceLE, Int.reduceToNat, Nat.reduceLT, Nat.reduceEqDiff, Nat.reduceAdd, Nat.reduceLeDiff, Nat.reduceSub, Nat.reduceMul, ↓reduceIte, reduceCtorEq, wrap_id, w_ite_ne, w_ite_lt, Nat.sub_zero, Nat.sub_self]
  · exact Pub.of_eq rfl rfl
  refine call_hc (ok_mk_New _ t) ?_
  try simp (disch := omega) only [go_sem, Int.reduceEq, Int.reduceLT, Int.reduceLE, Int.reduceToNat, Nat.reduceLT, Nat.reduceEqDiff, Nat.reduceAdd, Nat.reduceLeDiff, Nat.reduceSub, Nat.reduceMul, ↓reduceIte, reduceCtorEq, wrap_id, w_ite_ne, w_ite_lt, Nat.sub_zero, Nat.sub_self]
  refine (hc_law38_hands _ 0 0 t 0 hlt (by simp) (by first | rfl | simp (maxSteps := 1000000) only [go_sem, Int.reduceEq, Int.reduceLT, Int.reduceLE, Int.reduceToNat, Nat.reduceLT, Nat.reduceEqDiff, Nat.reduceAdd, Nat.reduceLeDiff, Nat.reduceSub, Nat.reduceMul, ↓reduceIte, reduceCtorEq, w_app_nl])).mono ?_
  rintro _ _ ⟨L, at2, c, rfl, hok, rfl⟩
  have hml := hdOk_len (by omega) (by omega) hok
  have htm : site.tmod 6 = site % 6 := Int.tmod_eq_emod_of_nonneg hsite.1
  try simp (disch := omega) only [go_sem, Int.reduceEq, Int.reduceLT, Int.reduceLE, Int.reduceToNat, Nat.reduceLT, Nat.reduceEqDiff, Nat.reduceAdd, Nat.reduceLeDiff, Nat.reduceSub, Nat.reduceMul, ↓reduceIte, reduceCtorEq, wrap_id, w_ite_ne, w_ite_lt, Nat.sub_zero, Nat.sub_self, htm]
  have hx : 0 ≤ site % 6 ∧ site % 6 < 6 := by omega
  generalize site % 6 = x at *
  refine call_pc (ok_manual_Take L x time (by omega)) (by simp [go_sem, hds_pur]) ?_
  try simp (disch := omega) only [go_sem, Int.reduceEq, Int.reduceLT, Int.reduceLE, Int.reduceToNat, Nat.reduceLT, Nat.reduceEqDiff, Nat.reduceAdd, Nat.reduceLeDiff, Nat.reduceSub, Nat.reduceMul, ↓reduceIte, reduceCtorEq, wrap_id, w_ite_ne, w_ite_lt, Nat.sub_zero, Nat.sub_self]
  refine call_pc (ok_manual_By L x (by omega)) (by simp [go_sem, hds_pur]) ?_
  have hb0 : byB L x = L.any fun h => decide (h.s = x) := by simp [byB, hok]
  cases ha : L.any fun h => decide (h.s = x)
  case true =>
    have htk : takeH L x time = ([], 46) := by simp only [takeH, hok, if_true, if_pos hx, if_pos (show 0 ≤ time ∧ time ≤ 16777216 by omega), ha]
    try simp (disch := omega) only [go_sem, Int.reduceEq, Int.reduceLT, Int.reduceLE, Int.reduceToNat, Nat.reduceLT, Nat.reduceEqDiff, Nat.reduceAdd, Nat.reduceLeDiff, Nat.reduceSub, Nat.reduceMul, ↓reduceIte, reduceCtorEq, wrap_id, w_ite_ne, w_ite_lt, Nat.sub_zero, Nat.sub_self, hb0, ha, htk]
    exact Pub.of_eq rfl rfl
  obtain ⟨k1, k2, k3⟩ := take_back (n := time) (m := time + more) hok hx (by omega) (by omega) ha
  have hT2 : (takeH L x time).2 = 0 := by rw [takeH_ok hok hx (by omega) ha]
  have hT1 : (takeH L x time).1.length ≤ 100 := by have := hdOk_len (by omega) (by omega) k1; omega
  generalize takeH L x time = T at *
  obtain ⟨T1, T2⟩ := T
  simp only at hT1 hT2 k1 k2 k3
  subst hT2
  try simp (disch := omega) only [go_sem, Int.reduceEq, Int.reduceLT, Int.reduceLE, Int.reduceToNat, Nat.reduceLT, Nat.reduceEqDiff, Nat.reduceAdd, Nat.reduceLeDiff, Nat.reduceSub, Nat.reduceMul, ↓reduceIte, reduceCtorEq, wrap_id, w_ite_ne, w_ite_lt, Nat.sub_zero, Nat.sub_self, hb0, ha]
  refine call_pc (ok_manual_Back T1 x (time + more) (by omega)) (by simp [go_sem, hds_pur]) ?_
  try simp (disch := omega) only [go_sem, Int.reduceEq, Int.reduceLT, Int.reduceLE, Int.reduceToNat, Nat.reduceLT, Nat.reduceEqDiff, Nat.reduceAdd, Nat.reduceLeDiff, Nat.reduceSub, Nat.reduceMul, ↓reduceIte, reduceCtorEq, wrap_id, w_ite_ne, w_ite_lt, Nat.sub_zero, Nat.sub_self, k3]
  refine call_pc (ok_ref38_SameHands L L (by omega)) (by simp [go_sem, hds_pur]) ?_
  try simp (disch := omega) only [go_sem, Int.reduceEq, Int.reduceLT, Int.reduceLE, Int.reduceToNat, Nat.reduceLT, Nat.reduceEqDiff, Nat.reduceAdd, Nat.reduceLeDiff, Nat.reduceSub, Nat.reduceMul, ↓reduceIte, reduceCtorEq, wrap_id, w_ite_ne, w_ite_lt, Nat.sub_zero, Nat.sub_self, decide_true]
  refine call_pc (ok_manual_By T1 x (by omega)) (by simp [go_sem, hds_pur]) ?_
  try simp (disch := omega) only [go_sem, Int.reduceEq, Int.reduceLT, Int.reduceLE, Int.reduceToNat, Nat.reduceLT, Nat.reduceEqDiff, Nat.reduceAdd, Nat.reduceLeDiff, Nat.reduceSub, Nat.reduceMul, ↓reduceIte, reduceCtorEq, wrap_id, w_ite_ne, w_ite_lt, Nat.sub_zero, Nat.sub_self, k2]
  refine call_pc (ok_manual_By L x (by omega)) (by simp [go_sem, hds_pur]) ?_
  try simp (disch := omega) only [go_sem, Int.reduceEq, Int.reduceLT, Int.reduceLE, Int.reduceToNat, Nat.reduceLT, Nat.reduceEqDiff, Nat.reduceAdd, Nat.reduceLeDiff, Nat.reduceSub, Nat.reduceMul, ↓reduceIte, reduceCtorEq, wrap_id, w_ite_ne, w_ite_lt, Nat.sub_zero, Nat.sub_self, hb0, ha, ints_length]
  refine awp_upG [19, 21, 99, 100, 101, 102, 103, 104, 105, 106, 107, 108] (by kernel_rfl) values.length (fun k e σ => e 99 = .int .i64 k ∧ (∃ at', σ.ob 0 = some ⟨0, 2, ty_Deck, false, true, [deckV t at']⟩) ∧ Oth (e 19) 0 ∧ SlR 1 3 σ (ints ((values.take k).map fun v => v % 100)) (e 19)) ?_ ?_
  · refine ⟨(by first | ((try simp (maxSteps := 1000000) only [go_sem, Int.reduceEq, Int.reduceLT, Int.reduceLE, Int.reduceToNat, Nat.reduceLT, Nat.reduceEqDiff, Nat.reduceAdd, Nat.reduceLeDiff, Nat.reduceSub, Nat.reduceMul, ↓reduceIte, reduceCtorEq, w_app_nl]); done) | ((try simp (maxSteps := 1000000) only [go_sem, Int.reduceEq, Int.reduceLT, Int.reduceLE, Int.reduceToNat, Nat.reduceLT, Nat.reduceEqDiff, Nat.reduceAdd, Nat.reduceLeDiff, Nat.reduceSub, Nat.reduceMul, ↓reduceIte, reduceCtorEq, w_app_nl]); rfl) | ((try simp (maxSteps := 1000000) (disch := omega) only [go_sem, Int.reduceEq, Int.reduceLT, Int.reduceLE, Int.reduceToNat, Nat.reduceLT, Nat.reduceEqDiff, Nat.reduceAdd, Nat.reduceLeDiff, Nat.reduceSub, Nat.reduceMul, ↓reduceIte, reduceCtorEq, w_app_nl, wrap_id, w_ite_ne, w_ite_lt]); rfl) | (simp (maxSteps := 1000000) (disch := omega) only [go_sem, Int.reduceEq, Int.reduceLT, Int.reduceLE, Int.reduceToNat, Nat.reduceLT, Nat.reduceEqDiff, Nat.reduceAdd, Nat.reduceLeDiff, Nat.reduceSub, Nat.reduceMul, ↓reduceIte, reduceCtorEq, w_app_nl, wrap_id, w_ite_ne, w_ite_lt]; done)), ⟨at2, (by first | ((try simp (maxSteps := 1000000) only [go_sem, Int.reduceEq, Int.reduceLT, Int.reduceLE, Int.reduceToNat, Nat.reduceLT, Nat.reduceEqDiff, Nat.reduceAdd, Nat.reduceLeDiff, Nat.reduceSub, Nat.reduceMul, ↓reduceIte, reduceCtorEq, w_app_nl]); done) | ((try simp (maxSteps := 1000000) only [go_sem, Int.reduceEq, Int.reduceLT, Int.reduceLE, Int.reduceToNat, Nat.reduceLT, Nat.reduceEqDiff, Nat.reduceAdd, Nat.reduceLeDiff, Nat.reduceSub, Nat.reduceMul, ↓reduceIte, reduceCtorEq, w_app_nl]); rfl) | ((try simp (maxSteps := 1000000) (disch := omega) only [go_sem, Int.reduceEq, Int.reduceLT, Int.reduceLE, Int.reduceToNat, Nat.reduceLT, Nat.reduceEqDiff, Nat.reduceAdd, Nat.reduceLeDiff, Nat.reduceSub, Nat.reduceMul, ↓reduceIte, reduceCtorEq, w_app_nl, wrap_id, w_ite_ne, w_ite_lt]); rfl) | (simp (maxSteps := 1000000) (disch := omega) only [go_sem, Int.reduceEq, Int.reduceLT, Int.reduceLE, Int.reduceToNat, Nat.reduceLT, Nat.reduceEqDiff, Nat.reduceAdd, Nat.reduceLeDiff, Nat.reduceSub, Nat.reduceMul, ↓reduceIte, reduceCtorEq, w_app_nl, wrap_id, w_ite_ne, w_ite_lt]; done))⟩, ?_, ?_⟩
    · try simp (disch := omega) only [go_sem, Int.reduceEq, Int.reduceLT, Int.reduceLE, Int.reduceToNat, Nat.reduceLT, Nat.reduceEqDiff, Nat.reduceAdd, Nat.reduceLeDiff, Nat.reduceSub, Nat.reduceMul, ↓reduceIte, reduceCtorEq, wrap_id, w_ite_ne, w_ite_lt, Nat.sub_zero, Nat.sub_self]; exact Oth.nil 0
    · try simp (disch := omega) only [go_sem, Int.reduceEq, Int.reduceLT, Int.reduceLE, Int.reduceToNat, Nat.reduceLT, Nat.reduceEqDiff, Nat.reduceAdd, Nat.reduceLeDiff, Nat.reduceSub, Nat.reduceMul, ↓reduceIte, reduceCtorEq, wrap_id, w_ite_ne, w_ite_lt, Nat.sub_zero, Nat.sub_self]; exact .nil
  · rintro k fe ob m c1 hk hm ⟨h99, ⟨at1, hd⟩, ho, hR⟩
    have hm1 : 1 ≤ m := hm
    simp (maxSteps := 1000000) only [go_sem, Int.reduceEq, Int.reduceLT, Int.reduceLE, Int.reduceToNat, Nat.reduceLT, Nat.reduceEqDiff, Nat.reduceAdd, Nat.reduceLeDiff, Nat.reduceSub, Nat.reduceMul, ↓reduceIte, reduceCtorEq, w_app_nl] at h99 hd ho hR
    obtain ⟨X, hX⟩ : ∃ X, fe 19 = X := ⟨_, rfl⟩
    rw [hX] at hR ho
    try simp (disch := omega) only [go_sem, Int.reduceEq, Int.reduceLT, Int.reduceLE, Int.reduceToNat, Nat.reduceLT, Nat.reduceEqDiff, Nat.reduceAdd, Nat.reduceLeDiff, Nat.reduceSub, Nat.reduceMul, ↓reduceIte, reduceCtorEq, wrap_id, w_ite_ne, w_ite_lt, Nat.sub_zero, Nat.sub_self, h99, ints_length]
    refine cond_d (fun hlt2 => ?_) (fun hge => ?_)
    · have hkl : k < values.length := by omega
      have hk2 : values[k]? = some values[k] := List.getElem?_eq_getElem hkl
      have hst : (values.take (k + 1)).map (fun v => v % 100) = (values.take k).map (fun v => v % 100) ++ [values[k] % 100] := by rw [List.take_add_one, hk2, List.map_append]; rfl
      generalize values[k] = v at *
      try simp (disch := omega) only [go_sem, Int.reduceEq, Int.reduceLT, Int.reduceLE, Int.reduceToNat, Nat.reduceLT, Nat.reduceEqDiff, Nat.reduceAdd, Nat.reduceLeDiff, Nat.reduceSub, Nat.reduceMul, ↓reduceIte, reduceCtorEq, wrap_id, w_ite_ne, w_ite_lt, Nat.sub_zero, Nat.sub_self, h99, ints_length, ints_get, hk2, hX, Option.map_some]
      refine ⟨by omega, by omega, ?_⟩
      refine call_pc (ok_mk_Mod v 100 (by omega) (by omega)) (by simp [go_sem]) ?_
      try simp (disch := omega) only [go_sem, Int.reduceEq, Int.reduceLT, Int.reduceLE, Int.reduceToNat, Nat.reduceLT, Nat.reduceEqDiff, Nat.reduceAdd, Nat.reduceLeDiff, Nat.reduceSub, Nat.reduceMul, ↓reduceIte, reduceCtorEq, wrap_id, w_ite_ne, w_ite_lt, Nat.sub_zero, Nat.sub_self, h99]
      refine app_slr hR (by simp [ints_length]; omega) (by simp [ints_length]; omega) fun X2 τ2 hR2 hK2 => ?_
      try simp (disch := omega) only [go_sem, Int.reduceEq, Int.reduceLT, Int.reduceLE, Int.reduceToNat, Nat.reduceLT, Nat.reduceEqDiff, Nat.reduceAdd, Nat.reduceLeDiff, Nat.reduceSub, Nat.reduceMul, ↓reduceIte, reduceCtorEq, wrap_id, w_ite_ne, w_ite_lt, Nat.sub_zero, Nat.sub_self, h99]
      refine up_nextG τ2.n hkl (by have := hK2.1; simp only at this ⊢; omega) ⟨(by first | ((try simp (maxSteps := 1000000) only [go_sem, Int.reduceEq, Int.reduceLT, Int.reduceLE, Int.reduceToNat, Nat.reduceLT, Nat.reduceEqDiff, Nat.reduceAdd, Nat.reduceLeDiff, Nat.reduceSub, Nat.reduceMul, ↓reduceIte, reduceCtorEq, w_app_nl]); done) | ((try simp (maxSteps := 1000000) only [go_sem, Int.reduceEq, Int.reduceLT, Int.reduceLE, Int.reduceToNat, Nat.reduceLT, Nat.reduceEqDiff, Nat.reduceAdd, Nat.reduceLeDiff, Nat.reduceSub, Nat.reduceMul, ↓reduceIte, reduceCtorEq, w_app_nl]); rfl) | ((try simp (maxSteps := 1000000) (disch := omega) only [go_sem, Int.reduceEq, Int.reduceLT, Int.reduceLE, Int.reduceToNat, Nat.reduceLT, Nat.reduceEqDiff, Nat.reduceAdd, Nat.reduceLeDiff, Nat.reduceSub, Nat.reduceMul, ↓reduceIte, reduceCtorEq, w_app_nl, wrap_id, w_ite_ne, w_ite_lt]); rfl) | (simp (maxSteps := 1000000) (disch := omega) only [go_sem, Int.reduceEq, Int.reduceLT, Int.reduceLE, Int.reduceToNat, Nat.reduceLT, Nat.reduceEqDiff, Nat.reduceAdd, Nat.reduceLeDiff, Nat.reduceSub, Nat.reduceMul, ↓reduceIte, reduceCtorEq, w_app_nl, wrap_id, w_ite_ne, w_ite_lt]; done)), ⟨at1, ?_⟩, ?_, ?_⟩
      · simp only [St.trunc]
        rw [if_pos (by have := hK2.1; simp only at this; omega), hK2.2.1 0 (by simp only; omega) ho]
        exact hd
      · try simp (disch := omega) only [go_sem, Int.reduceEq, Int.reduceLT, Int.reduceLE, Int.reduceToNat, Nat.reduceLT, Nat.reduceEqDiff, Nat.reduceAdd, Nat.reduceLeDiff, Nat.reduceSub, Nat.reduceMul, ↓reduceIte, reduceCtorEq, wrap_id, w_ite_ne, w_ite_lt, Nat.sub_zero, Nat.sub_self]
        exact hK2.2.2 0 (by simp only; omega) ho
      · try simp (disch := omega) only [go_sem, Int.reduceEq, Int.reduceLT, Int.reduceLE, Int.reduceToNat, Nat.reduceLT, Nat.reduceEqDiff, Nat.reduceAdd, Nat.reduceLeDiff, Nat.reduceSub, Nat.reduceMul, ↓reduceIte, reduceCtorEq, wrap_id, w_ite_ne, w_ite_lt, Nat.sub_zero, Nat.sub_self]
        rw [hst]
        rw [show ints ((values.take k).map fun v => v % 100) ++ [AV.int .i64 (v % 100)] = ints ((values.take k).map (fun v => v % 100) ++ [v % 100]) by simp [ints]] at hR2
        refine hR2.move (Nat.le_refl _) fun i hi _ => ?_
        simp only [St.trunc, if_pos hi]
    · have hkl : k = values.length := by omega
      subst hkl
      rw [List.take_length] at hR
      try simp (disch := omega) only [go_sem, Int.reduceEq, Int.reduceLT, Int.reduceLE, Int.reduceToNat, Nat.reduceLT, Nat.reduceEqDiff, Nat.reduceAdd, Nat.reduceLeDiff, Nat.reduceSub, Nat.reduceMul, ↓reduceIte, reduceCtorEq, wrap_id, w_ite_ne, w_ite_lt, Nat.sub_zero, Nat.sub_self, hX]
      refine call_hc (ok_mk_Deck_Next _ 0 0 ty_Deck true t at1 20 (by (try simp (maxSteps := 1000000) only [go_sem, Int.reduceEq, Int.reduceLT, Int.reduceLE, Int.reduceToNat, Nat.reduceLT, Nat.reduceEqDiff, Nat.reduceAdd, Nat.reduceLeDiff, Nat.reduceSub, Nat.reduceMul, ↓reduceIte, reduceCtorEq, w_app_nl]); exact hd) (by omega) hlt) ?_
      have hx2 := deckR_bd t at1 20
      generalize deckR t at1 20 = dr at *
      obtain ⟨tol, at3⟩ := dr
      simp only at hx2
      try simp (disch := omega) only [go_sem, Int.reduceEq, Int.reduceLT, Int.reduceLE, Int.reduceToNat, Nat.reduceLT, Nat.reduceEqDiff, Nat.reduceAdd, Nat.reduceLeDiff, Nat.reduceSub, Nat.reduceMul, ↓reduceIte, reduceCtorEq, wrap_id, w_ite_ne, w_ite_lt, Nat.sub_zero, Nat.sub_self, hX]
      have hgl : (values.map fun v => v % 100).length ≤ 100 := by simp; omega
      have hgv : ∀ v ∈ (values.map fun v => v % 100), 0 ≤ v ∧ v < 100 := fun v hv => by
        obtain ⟨y, _, rfl⟩ := List.mem_map.1 hv
        omega
      generalize (values.map fun v => v % 100) = good at *
      have hrp : repR 1 0 3 5 good tol = (repL 1 0 3 5 good tol good.length, 0) := by
        simp only [repR]
        rw [if_neg (by omega), if_neg (by omega), if_neg (by omega), if_neg]
        rintro (h | h | h)
        · omega
        · omega
        · obtain ⟨y, hy, hy2⟩ := List.any_eq_true.1 h
          have := hgv y hy
          simp [volB] at hy2
          omega
      refine call_ro (fun i => decide (i = 0)) (ok_manual_Reports 1 0 3 5 good tol (by omega)) (.cons (.pure rfl) (.cons (.pure rfl) (.cons (.pure rfl) (.cons (.pure rfl) (.cons ?_ (.cons (.pure rfl) .nil)))))) (by simp [go_sem]) ?_
      · refine hR.pub (fun i hi hi2 => ?_) (ints_pur _) (ints_ok _)
        have : ¬ i = 0 := fun e => hi2 (by subst e; exact ho)
        simp [this, upd]
      try simp (disch := omega) only [go_sem, Int.reduceEq, Int.reduceLT, Int.reduceLE, Int.reduceToNat, Nat.reduceLT, Nat.reduceEqDiff, Nat.reduceAdd, Nat.reduceLeDiff, Nat.reduceSub, Nat.reduceMul, ↓reduceIte, reduceCtorEq, wrap_id, w_ite_ne, w_ite_lt, Nat.sub_zero, Nat.sub_self, hrp, hX]
      rcases hR with ⟨rfl, h0⟩ | ⟨id, g, rfl, hid, hob⟩
      · have : good = [] := by simpa [ints] using h0
        subst this
        try simp (disch := omega) only [go_sem, Int.reduceEq, Int.reduceLT, Int.reduceLE, Int.reduceToNat, Nat.reduceLT, Nat.reduceEqDiff, Nat.reduceAdd, Nat.reduceLeDiff, Nat.reduceSub, Nat.reduceMul, ↓reduceIte, reduceCtorEq, wrap_id, w_ite_ne, w_ite_lt, Nat.sub_zero, Nat.sub_self, repL, List.range_zero, List.map_nil, rps, List.length_nil]
        refine awp_upG [10, 24, 25, 127, 128, 129, 130, 131, 132, 133, 134, 135, 136, 137, 138, 139, 140, 141, 142, 143, 144, 145, 146, 147, 148, 149, 150, 151, 152, 153, 154, 155, 156, 157, 158, 159, 160, 161, 162, 163, 164, 165, 166, 167, 168, 169, 170] (by kernel_rfl) 0 (fun k e σ => e 127 = .int .i64 0) (by first | ((try simp (maxSteps := 1000000) only [go_sem, Int.reduceEq, Int.reduceLT, Int.reduceLE, Int.reduceToNat, Nat.reduceLT, Nat.reduceEqDiff, Nat.reduceAdd, Nat.reduceLeDiff, Nat.reduceSub, Nat.reduceMul, ↓reduceIte, reduceCtorEq, w_app_nl]); done) | ((try simp (maxSteps := 1000000) only [go_sem, Int.reduceEq, Int.reduceLT, Int.reduceLE, Int.reduceToNat, Nat.reduceLT, Nat.reduceEqDiff, Nat.reduceAdd, Nat.reduceLeDiff, Nat.reduceSub, Nat.reduceMul, ↓reduceIte, reduceCtorEq, w_app_nl]); rfl) | ((try simp (maxSteps := 1000000) (disch := omega) only [go_sem, Int.reduceEq, Int.reduceLT, Int.reduceLE, Int.reduceToNat, Nat.reduceLT, Nat.reduceEqDiff, Nat.reduceAdd, Nat.reduceLeDiff, Nat.reduceSub, Nat.reduceMul, ↓reduceIte, reduceCtorEq, w_app_nl, wrap_id, w_ite_ne, w_ite_lt]); rfl) | (simp (maxSteps := 1000000) (disch := omega) only [go_sem, Int.reduceEq, Int.reduceLT, Int.reduceLE, Int.reduceToNat, Nat.reduceLT, Nat.reduceEqDiff, Nat.reduceAdd, Nat.reduceLeDiff, Nat.reduceSub, Nat.reduceMul, ↓reduceIte, reduceCtorEq, w_app_nl, wrap_id, w_ite_ne, w_ite_lt]; done)) ?_
        rintro k fe ob m c2 hk hm h127
        simp (maxSteps := 1000000) only [go_sem, Int.reduceEq, Int.reduceLT, Int.reduceLE, Int.reduceToNat, Nat.reduceLT, Nat.reduceEqDiff, Nat.reduceAdd, Nat.reduceLeDiff, Nat.reduceSub, Nat.reduceMul, ↓reduceIte, reduceCtorEq, w_app_nl] at h127
        try simp (disch := omega) only [go_sem, Int.reduceEq, Int.reduceLT, Int.reduceLE, Int.reduceToNat, Nat.reduceLT, Nat.reduceEqDiff, Nat.reduceAdd, Nat.reduceLeDiff, Nat.reduceSub, Nat.reduceMul, ↓reduceIte, reduceCtorEq, wrap_id, w_ite_ne, w_ite_lt, Nat.sub_zero, Nat.sub_self, h127]
        exact Pub.of_eq rfl rfl
      · have hid0 : ¬ id = 0 := fun e => ho _ _ _ _ (by rw [e])
        simp only at hob
        try simp (disch := omega) only [go_sem, Int.reduceEq, Int.reduceLT, Int.reduceLE, Int.reduceToNat, Nat.reduceLT, Nat.reduceEqDiff, Nat.reduceAdd, Nat.reduceLeDiff, Nat.reduceSub, Nat.reduceMul, ↓reduceIte, reduceCtorEq, wrap_id, w_ite_ne, w_ite_lt, Nat.sub_zero, Nat.sub_self, rps_length, repL_length, ints_length]
        refine awp_upG [10, 24, 25, 127, 128, 129, 130, 131, 132, 133, 134, 135, 136, 137, 138, 139, 140, 141, 142, 143, 144, 145, 146, 147, 148, 149, 150, 151, 152, 153, 154, 155, 156, 157, 158, 159, 160, 161, 162, 163, 164, 165, 166, 167, 168, 169, 170] (by kernel_rfl) good.length (fun k e σ => e 127 = .int .i64 k ∧ σ.ob id = some ⟨g, 1, 3, true, true, ints good⟩) ?_ ?_
        · refine ⟨(by first | ((try simp (maxSteps := 1000000) only [go_sem, Int.reduceEq, Int.reduceLT, Int.reduceLE, Int.reduceToNat, Nat.reduceLT, Nat.reduceEqDiff, Nat.reduceAdd, Nat.reduceLeDiff, Nat.reduceSub, Nat.reduceMul, ↓reduceIte, reduceCtorEq, w_app_nl]); done) | ((try simp (maxSteps := 1000000) only [go_sem, Int.reduceEq, Int.reduceLT, Int.reduceLE, Int.reduceToNat, Nat.reduceLT, Nat.reduceEqDiff, Nat.reduceAdd, Nat.reduceLeDiff, Nat.reduceSub, Nat.reduceMul, ↓reduceIte, reduceCtorEq, w_app_nl]); rfl) | ((try simp (maxSteps := 1000000) (disch := omega) only [go_sem, Int.reduceEq, Int.reduceLT, Int.reduceLE, Int.reduceToNat, Nat.reduceLT, Nat.reduceEqDiff, Nat.reduceAdd, Nat.reduceLeDiff, Nat.reduceSub, Nat.reduceMul, ↓reduceIte, reduceCtorEq, w_app_nl, wrap_id, w_ite_ne, w_ite_lt]); rfl) | (simp (maxSteps := 1000000) (disch := omega) only [go_sem, Int.reduceEq, Int.reduceLT, Int.reduceLE, Int.reduceToNat, Nat.reduceLT, Nat.reduceEqDiff, Nat.reduceAdd, Nat.reduceLeDiff, Nat.reduceSub, Nat.reduceMul, ↓reduceIte, reduceCtorEq, w_app_nl, wrap_id, w_ite_ne, w_ite_lt]; done)), ?_⟩
          simp [hid0, hob]
        · rintro k fe ob m c2 hk hm ⟨h127, hq⟩
          simp (maxSteps := 1000000) only [go_sem, Int.reduceEq, Int.reduceLT, Int.reduceLE, Int.reduceToNat, Nat.reduceLT, Nat.reduceEqDiff, Nat.reduceAdd, Nat.reduceLeDiff, Nat.reduceSub, Nat.reduceMul, ↓reduceIte, reduceCtorEq, w_app_nl] at h127 hq
          try simp (disch := omega) only [go_sem, Int.reduceEq, Int.reduceLT, Int.reduceLE, Int.reduceToNat, Nat.reduceLT, Nat.reduceEqDiff, Nat.reduceAdd, Nat.reduceLeDiff, Nat.reduceSub, Nat.reduceMul, ↓reduceIte, reduceCtorEq, wrap_id, w_ite_ne, w_ite_lt, Nat.sub_zero, Nat.sub_self, h127]
          refine cond_d (fun hlt3 => ?_) (fun hge3 => ?_)
          · have hkl : k < good.length := by omega
            have hk2 : good[k]? = some good[k] := List.getElem?_eq_getElem hkl
            have hgk := hgv good[k] (List.getElem_mem _)
            have hrg := repL_get 1 0 3 5 good tol good.length k hkl
            rw [show good.getD k 0 = good[k] by simp [hk2]] at hrg
            generalize good[k] = v at *
            have f1 : ¬ v < max 0 (v - tol) := by omega
            have f2 : ¬ min 274877906944 (v + tol) < v := by omega
            try simp (disch := omega) only [go_sem, Int.reduceEq, Int.reduceLT, Int.reduceLE, Int.reduceToNat, Nat.reduceLT, Nat.reduceEqDiff, Nat.reduceAdd, Nat.reduceLeDiff, Nat.reduceSub, Nat.reduceMul, ↓reduceIte, reduceCtorEq, wrap_id, w_ite_ne, w_ite_lt, Nat.sub_zero, Nat.sub_self, h127, hq, ints_length, ints_get, hk2, Option.map_some, rps_length, repL_length, rps_get, hrg, rpv, rp1, f1, f2, decide_true, decide_false]
            refine ⟨by omega, by omega, by omega, by omega, by omega, by omega, by omega, by omega, by omega, by omega, ?_⟩
            refine up_nextG m hkl hm ⟨by try simp (disch := omega) only [go_sem, Int.reduceEq, Int.reduceLT, Int.reduceLE, Int.reduceToNat, Nat.reduceLT, Nat.reduceEqDiff, Nat.reduceAdd, Nat.reduceLeDiff, Nat.reduceSub, Nat.reduceMul, ↓reduceIte, reduceCtorEq, wrap_id, w_ite_ne, w_ite_lt, Nat.sub_zero, Nat.sub_self]; rfl, ?_⟩
            have hidm : id < m := Nat.lt_of_lt_of_le hid hm
            try simp (disch := omega) only [go_sem, Int.reduceEq, Int.reduceLT, Int.reduceLE, Int.reduceToNat, Nat.reduceLT, Nat.reduceEqDiff, Nat.reduceAdd, Nat.reduceLeDiff, Nat.reduceSub, Nat.reduceMul, ↓reduceIte, reduceCtorEq, wrap_id, w_ite_ne, w_ite_lt, Nat.sub_zero, Nat.sub_self]
            exact hq
          · try simp (disch := omega) only [go_sem, Int.reduceEq, Int.reduceLT, Int.reduceLE, Int.reduceToNat, Nat.reduceLT, Nat.reduceEqDiff, Nat.reduceAdd, Nat.reduceLeDiff, Nat.reduceSub, Nat.reduceMul, ↓reduceIte, reduceCtorEq, wrap_id, w_ite_ne, w_ite_lt, Nat.sub_zero, Nat.sub_self]
            exact Pub.of_eq rfl rfl
abbrev shHd : Sh := .struct (.fc (.int .i64) (.fc (.int .i64) .f0))
theorem shHds {c : List AV} (h : (Sh.slice 2 shHd).R c) : ∃ L : List Hd, c = [.list 2 (hds L)] ∧ L.length ≤ 9223372036854775807 := by
  obtain ⟨xs, rfl, hl, h⟩ := h
  obtain ⟨L, rfl, _⟩ := exists_map (f := hdv) (Q := fun _ => True) fun x hx => by
    obtain ⟨cs, hr, _, rfl⟩ := h x hx
    obtain ⟨_, _, rfl, ⟨a, rfl, _⟩, _, _, rfl, ⟨b, rfl, _⟩, rfl⟩ := hr
    exact ⟨⟨a, b⟩, trivial, rfl⟩
  exact ⟨L, rfl, by simpa using hl⟩
theorem law_law38_ManualDoes {c0 c1 c2 c3 : List AV} (s0 : (Sh.slice 1 (.int .i64)).R c0) (s1 : (Sh.slice 2 shHd).R c1) (s2 : (Sh.int .i64).R c2) (s3 : (Sh.int .i64).R c3) :
    PC prog n_law38_ManualDoes [(Sh.slice 1 (.int .i64)).mk1 c0, (Sh.slice 2 shHd).mk1 c1, (Sh.int .i64).mk1 c2, (Sh.int .i64).mk1 c3] (.bool true) := by
  obtain ⟨l0, rfl, _, _⟩ := shInts s0
  obtain ⟨l1, rfl, h1⟩ := shHds s1
  obtain ⟨a2, rfl, _⟩ := s2
  obtain ⟨a3, rfl, _⟩ := s3
  exact ok_law38_ManualDoes l0 l1 h1 a2 a3
theorem law_law38_ManualBack {c0 c1 c2 c3 c4 : List AV} (s0 : (Sh.slice 1 (.int .i64)).R c0) (s1 : (Sh.int .u8).R c1) (s2 : (Sh.int .u8).R c2) (s3 : (Sh.int .u8).R c3) (s4 : (Sh.slice 1 (.int .i64)).R c4) :
    PC prog n_law38_ManualBack [(Sh.slice 1 (.int .i64)).mk1 c0, (Sh.int .u8).mk1 c1, (Sh.int .u8).mk1 c2, (Sh.int .u8).mk1 c3, (Sh.slice 1 (.int .i64)).mk1 c4] (.bool true) := by
  obtain ⟨l0, rfl, _, _⟩ := shInts s0
  obtain ⟨a1, rfl, w1⟩ := s1
  obtain ⟨a2, rfl, w2⟩ := s2
  obtain ⟨a3, rfl, w3⟩ := s3
  obtain ⟨l4, rfl, h4, _⟩ := shInts s4
  exact ok_law38_ManualBack l0 a1 a2 a3 l4 (wf_u8 w1) (wf_u8 w2) (wf_u8 w3) h4
end Go.Proofs.Try
