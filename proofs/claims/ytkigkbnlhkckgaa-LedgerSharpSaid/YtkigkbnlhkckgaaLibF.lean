/-
  OWN WORK, put together by tools/asm.py: what functions do.
-/
import Derived.Test.YtkigkbnlhkckgaaLibE
set_option linter.unusedSimpArgs false
set_option linter.unusedVariables false
set_option maxRecDepth 100000
set_option maxHeartbeats 1000000
namespace Go.Proofs.Try
open Go.Ab Go
theorem ok_law30_LedgerTwice (t : List Int) : PC prog n_law30_LedgerTwice [.list 1 (ints t)] (.bool true) := by
  refine PC_of_body b_law30_LedgerTwice (by simp) ?_
  simp only [c_law30_LedgerTwice, go_sem, Int.reduceEq, Int.reduceLT, Int.reduceLE, Int.reduceToNat, Nat.reduceLT, Nat.reduceEqDiff, Nat.reduceAdd, Nat.reduceLeDiff, Nat.reduceSub, Nat.reduceMul, ↓reduceIte, reduceCtorEq, w_app_nl]
  try simp (maxSteps := 500000) (disch := omega) only [go_sem, Int.reduceEq, Int.reduceLT, Int.reduceLE, Int.reduceToNat, Nat.reduceLT, Nat.reduceEqDiff, Nat.reduceAdd, Nat.reduceLeDiff, Nat.reduceSub, Nat.reduceMul, ↓reduceIte, reduceCtorEq, wrap_id, w_ite_ne, w_ite_lt, Nat.sub_zero, Nat.sub_self]
  refine call_pc ok_law30_sane (by simp) ?_
  try simp (maxSteps := 500000) (disch := omega) only [go_sem, Int.reduceEq, Int.reduceLT, Int.reduceLE, Int.reduceToNat, Nat.reduceLT, Nat.reduceEqDiff, Nat.reduceAdd, Nat.reduceLeDiff, Nat.reduceSub, Nat.reduceMul, ↓reduceIte, reduceCtorEq, wrap_id, w_ite_ne, w_ite_lt, Nat.sub_zero, Nat.sub_self]
  refine call_pc (ok_mk_Few t) (by simp [go_sem]) ?_
  try simp (maxSteps := 500000) (disch := omega) only [go_sem, Int.reduceEq, Int.reduceLT, Int.reduceLE, Int.reduceToNat, Nat.reduceLT, Nat.reduceEqDiff, Nat.reduceAdd, Nat.reduceLeDiff, Nat.reduceSub, Nat.reduceMul, ↓reduceIte, reduceCtorEq, wrap_id, w_ite_ne, w_ite_lt, Nat.sub_zero, Nat.sub_self]
  cases hfew : fewB t
  · try simp (maxSteps := 500000) (disch := omega) only [go_sem, Int.reduceEq, Int.reduceLT, Int.reduceLE, Int.reduceToNat, Nat.reduceLT, Nat.reduceEqDiff, Nat.reduceAdd, Nat.reduceLeDiff, Nat.reduceSub, Nat.reduceMul, ↓reduceIte, reduceCtorEq, wrap_id, w_ite_ne, w_ite_lt, Nat.sub_zero, Nat.sub_self]
    exact Pub.of_eq rfl rfl
  have hlt : t.length ≤ 9223372036854775807 := by simp [fewB] at hfew; omega
  try simp (maxSteps := 500000) (disch := omega) only [go_sem, Int.reduceEq, Int.reduceLT, Int.reduceLE, Int.reduceToNat, Nat.reduceLT, Nat.reduceEqDiff, Nat.reduceAdd, Nat.reduceLeDiff, Nat.reduceSub, Nat.reduceMul, ↓reduceIte, reduceCtorEq, wrap_id, w_ite_ne, w_ite_lt, Nat.sub_zero, Nat.sub_self]
  refine call_hc (ok_mk_New _ t) ?_
  try simp (maxSteps := 500000) (disch := omega) only [go_sem, Int.reduceEq, Int.reduceLT, Int.reduceLE, Int.reduceToNat, Nat.reduceLT, Nat.reduceEqDiff, Nat.reduceAdd, Nat.reduceLeDiff, Nat.reduceSub, Nat.reduceMul, ↓reduceIte, reduceCtorEq, wrap_id, w_ite_ne, w_ite_lt, Nat.sub_zero, Nat.sub_self]
  refine (hc_flow_Loose _ 0 0 t 0 hlt (by simp only [St.push]; omega) (by try simp (maxSteps := 500000) (disch := omega) only [go_sem, Int.reduceEq, Int.reduceLT, Int.reduceLE, Int.reduceToNat, Nat.reduceLT, Nat.reduceEqDiff, Nat.reduceAdd, Nat.reduceLeDiff, Nat.reduceSub, Nat.reduceMul, ↓reduceIte, reduceCtorEq, wrap_id, w_ite_ne, w_ite_lt, Nat.sub_zero, Nat.sub_self])).mono ?_
  intro r τ hD
  obtain ⟨⟨a, n, rfl, hA⟩, hn, ⟨at1, hd⟩, hf⟩ := hD.use (by simp only [St.push]; omega)
  obtain ⟨ob, m, c⟩ := τ
  simp only [St.push] at hn hd hf
  subst hn
  have hok := hA.ok
  clear hA hf hD
  have hT := ok_ledger_Tighten a hok.l
  simp only [acv] at hT
  try simp (maxSteps := 500000) (disch := omega) only [go_sem, Int.reduceEq, Int.reduceLT, Int.reduceLE, Int.reduceToNat, Nat.reduceLT, Nat.reduceEqDiff, Nat.reduceAdd, Nat.reduceLeDiff, Nat.reduceSub, Nat.reduceMul, ↓reduceIte, reduceCtorEq, wrap_id, w_ite_ne, w_ite_lt, Nat.sub_zero, Nat.sub_self, acv]
  refine call_pc hT (by simp [go_sem, bds_pur]) ?_
  try simp (maxSteps := 500000) (disch := omega) only [go_sem, Int.reduceEq, Int.reduceLT, Int.reduceLE, Int.reduceToNat, Nat.reduceLT, Nat.reduceEqDiff, Nat.reduceAdd, Nat.reduceLeDiff, Nat.reduceSub, Nat.reduceMul, ↓reduceIte, reduceCtorEq, wrap_id, w_ite_ne, w_ite_lt, Nat.sub_zero, Nat.sub_self]
  refine cond_n (fun h => ?_) (fun h => ?_) <;> try simp (maxSteps := 500000) (disch := omega) only [go_sem, Int.reduceEq, Int.reduceLT, Int.reduceLE, Int.reduceToNat, Nat.reduceLT, Nat.reduceEqDiff, Nat.reduceAdd, Nat.reduceLeDiff, Nat.reduceSub, Nat.reduceMul, ↓reduceIte, reduceCtorEq, wrap_id, w_ite_ne, w_ite_lt, Nat.sub_zero, Nat.sub_self]
  · exact Pub.of_eq rfl rfl
  obtain ⟨-, hv, ht⟩ := tightS_ok h
  have hok2 := tgt_ok hok hv
  have hv2 := tgt_vd hok hv
  have htt := tgt_tgt hok hv
  have hw := wid_le hok hv
  have hT2 := ok_ledger_Tighten (tgt a) hok2.l
  rw [tightS_yes hok2 hv2, htt] at hT2
  have hW1 := ok_ledger_Width (tgt a) hok2.l
  have hW2 := ok_ledger_Width a hok.l
  rw [show widS (tgt a) = (widK (tgt a) 3, 0) by simp only [widS]; rw [if_neg (by simp [chk_ok.2 hok2])]] at hW1
  rw [show widS a = (widK a 3, 0) by simp only [widS]; rw [if_neg (by simp [chk_ok.2 hok])]] at hW2
  have hSm := ok_ledger_Same (tgt a) (tgt a) hok2.l
  rw [sameA_iff.2 rfl] at hSm
  rw [ht]
  generalize tgt a = b at *
  simp only [acv] at hT2 hW1 hW2 hSm
  refine call_pc hT2 (by simp [go_sem, bds_pur]) ?_
  try simp (maxSteps := 500000) (disch := omega) only [go_sem, Int.reduceEq, Int.reduceLT, Int.reduceLE, Int.reduceToNat, Nat.reduceLT, Nat.reduceEqDiff, Nat.reduceAdd, Nat.reduceLeDiff, Nat.reduceSub, Nat.reduceMul, ↓reduceIte, reduceCtorEq, wrap_id, w_ite_ne, w_ite_lt, Nat.sub_zero, Nat.sub_self]
  refine call_pc hW1 (by simp [go_sem, bds_pur]) ?_
  try simp (maxSteps := 500000) (disch := omega) only [go_sem, Int.reduceEq, Int.reduceLT, Int.reduceLE, Int.reduceToNat, Nat.reduceLT, Nat.reduceEqDiff, Nat.reduceAdd, Nat.reduceLeDiff, Nat.reduceSub, Nat.reduceMul, ↓reduceIte, reduceCtorEq, wrap_id, w_ite_ne, w_ite_lt, Nat.sub_zero, Nat.sub_self]
  refine call_pc hW2 (by simp [go_sem, bds_pur]) ?_
  try simp (maxSteps := 500000) (disch := omega) only [go_sem, Int.reduceEq, Int.reduceLT, Int.reduceLE, Int.reduceToNat, Nat.reduceLT, Nat.reduceEqDiff, Nat.reduceAdd, Nat.reduceLeDiff, Nat.reduceSub, Nat.reduceMul, ↓reduceIte, reduceCtorEq, wrap_id, w_ite_ne, w_ite_lt, Nat.sub_zero, Nat.sub_self]
  have hwn : ¬ widK a 3 < widK b 3 := by omega
  try simp (maxSteps := 500000) (disch := omega) only [go_sem, Int.reduceEq, Int.reduceLT, Int.reduceLE, Int.reduceToNat, Nat.reduceLT, Nat.reduceEqDiff, Nat.reduceAdd, Nat.reduceLeDiff, Nat.reduceSub, Nat.reduceMul, ↓reduceIte, reduceCtorEq, wrap_id, w_ite_ne, w_ite_lt, Nat.sub_zero, Nat.sub_self, hwn, decide_false]
  refine call_pc hSm (by simp [go_sem, bds_pur]) ?_
  try simp (maxSteps := 500000) (disch := omega) only [go_sem, Int.reduceEq, Int.reduceLT, Int.reduceLE, Int.reduceToNat, Nat.reduceLT, Nat.reduceEqDiff, Nat.reduceAdd, Nat.reduceLeDiff, Nat.reduceSub, Nat.reduceMul, ↓reduceIte, reduceCtorEq, wrap_id, w_ite_ne, w_ite_lt, Nat.sub_zero, Nat.sub_self]
  refine (hc_flow_History _ 0 0 t at1 hlt (by simp only; omega) (by try simp (maxSteps := 500000) (disch := omega) only [go_sem, Int.reduceEq, Int.reduceLT, Int.reduceLE, Int.reduceToNat, Nat.reduceLT, Nat.reduceEqDiff, Nat.reduceAdd, Nat.reduceLeDiff, Nat.reduceSub, Nat.reduceMul, ↓reduceIte, reduceCtorEq, wrap_id, w_ite_ne, w_ite_lt, Nat.sub_zero, Nat.sub_self]; exact hd)).mono ?_
  intro r τ hD
  obtain ⟨⟨n2, S, I, O, rfl, hH, hn1, hn5⟩, hn, -, -⟩ := hD.use (by simp only; omega)
  obtain ⟨ob2, m2, c2⟩ := τ
  simp only at hn
  subst hn
  clear hD
  have hS := hH.ls
  have hI := hH.li
  have hO := hH.lo
  try simp (maxSteps := 500000) (disch := omega) only [go_sem, Int.reduceEq, Int.reduceLT, Int.reduceLE, Int.reduceToNat, Nat.reduceLT, Nat.reduceEqDiff, Nat.reduceAdd, Nat.reduceLeDiff, Nat.reduceSub, Nat.reduceMul, ↓reduceIte, reduceCtorEq, wrap_id, w_ite_ne, w_ite_lt, Nat.sub_zero, Nat.sub_self]
  refine call_pc (ok_law30_exact S (by omega)) (by simp [go_sem]) ?_
  try simp (maxSteps := 500000) (disch := omega) only [go_sem, Int.reduceEq, Int.reduceLT, Int.reduceLE, Int.reduceToNat, Nat.reduceLT, Nat.reduceEqDiff, Nat.reduceAdd, Nat.reduceLeDiff, Nat.reduceSub, Nat.reduceMul, ↓reduceIte, reduceCtorEq, wrap_id, w_ite_ne, w_ite_lt, Nat.sub_zero, Nat.sub_self]
  refine call_pc (ok_law30_exact I (by omega)) (by simp [go_sem]) ?_
  try simp (maxSteps := 500000) (disch := omega) only [go_sem, Int.reduceEq, Int.reduceLT, Int.reduceLE, Int.reduceToNat, Nat.reduceLT, Nat.reduceEqDiff, Nat.reduceAdd, Nat.reduceLeDiff, Nat.reduceSub, Nat.reduceMul, ↓reduceIte, reduceCtorEq, wrap_id, w_ite_ne, w_ite_lt, Nat.sub_zero, Nat.sub_self]
  refine call_pc (ok_law30_exact O (by omega)) (by simp [go_sem]) ?_
  try simp (maxSteps := 500000) (disch := omega) only [go_sem, Int.reduceEq, Int.reduceLT, Int.reduceLE, Int.reduceToNat, Nat.reduceLT, Nat.reduceEqDiff, Nat.reduceAdd, Nat.reduceLeDiff, Nat.reduceSub, Nat.reduceMul, ↓reduceIte, reduceCtorEq, wrap_id, w_ite_ne, w_ite_lt, Nat.sub_zero, Nat.sub_self]
  have hR := ok_ledger_Residuals ⟨0, exL S, exL I, exL O⟩ (hH.exok hn1 hn5).l
  rw [hH.res hn1 hn5] at hR
  simp only [acv] at hR
  refine call_pc hR (by simp [go_sem, bds_pur]) ?_
  try simp (maxSteps := 500000) (disch := omega) only [go_sem, Int.reduceEq, Int.reduceLT, Int.reduceLE, Int.reduceToNat, Nat.reduceLT, Nat.reduceEqDiff, Nat.reduceAdd, Nat.reduceLeDiff, Nat.reduceSub, Nat.reduceMul, ↓reduceIte, reduceCtorEq, wrap_id, w_ite_ne, w_ite_lt, Nat.sub_zero, Nat.sub_self, ints_length, hI, bds_length, mkL_length]
  refine awp_upG [2, 20, 102, 103, 104, 105, 106, 107, 108, 109] (by kernel_rfl) n2 (fun k e σ => e 102 = .int .i64 k) ?_ ?_
  · exact (by first | ((try simp (maxSteps := 1000000) only [go_sem, Int.reduceEq, Int.reduceLT, Int.reduceLE, Int.reduceToNat, Nat.reduceLT, Nat.reduceEqDiff, Nat.reduceAdd, Nat.reduceLeDiff, Nat.reduceSub, Nat.reduceMul, ↓reduceIte, reduceCtorEq, w_app_nl]); done) | ((try simp (maxSteps := 1000000) only [go_sem, Int.reduceEq, Int.reduceLT, Int.reduceLE, Int.reduceToNat, Nat.reduceLT, Nat.reduceEqDiff, Nat.reduceAdd, Nat.reduceLeDiff, Nat.reduceSub, Nat.reduceMul, ↓reduceIte, reduceCtorEq, w_app_nl]); rfl) | ((try simp (maxSteps := 1000000) (disch := omega) only [go_sem, Int.reduceEq, Int.reduceLT, Int.reduceLE, Int.reduceToNat, Nat.reduceLT, Nat.reduceEqDiff, Nat.reduceAdd, Nat.reduceLeDiff, Nat.reduceSub, Nat.reduceMul, ↓reduceIte, reduceCtorEq, w_app_nl, wrap_id, w_ite_ne, w_ite_lt]); rfl) | (simp (maxSteps := 1000000) (disch := omega) only [go_sem, Int.reduceEq, Int.reduceLT, Int.reduceLE, Int.reduceToNat, Nat.reduceLT, Nat.reduceEqDiff, Nat.reduceAdd, Nat.reduceLeDiff, Nat.reduceSub, Nat.reduceMul, ↓reduceIte, reduceCtorEq, w_app_nl, wrap_id, w_ite_ne, w_ite_lt]; done))
  rintro k fe ob3 m3 c3 hk hm h102
  simp (maxSteps := 1000000) only [go_sem, Int.reduceEq, Int.reduceLT, Int.reduceLE, Int.reduceToNat, Nat.reduceLT, Nat.reduceEqDiff, Nat.reduceAdd, Nat.reduceLeDiff, Nat.reduceSub, Nat.reduceMul, ↓reduceIte, reduceCtorEq, w_app_nl] at h102
  try simp (maxSteps := 500000) (disch := omega) only [go_sem, Int.reduceEq, Int.reduceLT, Int.reduceLE, Int.reduceToNat, Nat.reduceLT, Nat.reduceEqDiff, Nat.reduceAdd, Nat.reduceLeDiff, Nat.reduceSub, Nat.reduceMul, ↓reduceIte, reduceCtorEq, wrap_id, w_ite_ne, w_ite_lt, Nat.sub_zero, Nat.sub_self, h102]
  refine cond_d (fun hlt => ?_) (fun hge => ?_)
  · have hkl : k < n2 := by omega
    have e1 : (mkL n2 fun _ => (⟨0, 0⟩ : Bd))[k]? = some ⟨0, 0⟩ := mkL_get _ hkl
    try simp (maxSteps := 500000) (disch := omega) only [go_sem, Int.reduceEq, Int.reduceLT, Int.reduceLE, Int.reduceToNat, Nat.reduceLT, Nat.reduceEqDiff, Nat.reduceAdd, Nat.reduceLeDiff, Nat.reduceSub, Nat.reduceMul, ↓reduceIte, reduceCtorEq, wrap_id, w_ite_ne, w_ite_lt, Nat.sub_zero, Nat.sub_self, h102, bds_length, mkL_length, bds_get, e1, Option.map_some, bdv]
    refine ⟨by omega, by omega, ?_⟩
    exact up_nextG _ hkl (by omega) (by first | ((try simp (maxSteps := 1000000) only [go_sem, Int.reduceEq, Int.reduceLT, Int.reduceLE, Int.reduceToNat, Nat.reduceLT, Nat.reduceEqDiff, Nat.reduceAdd, Nat.reduceLeDiff, Nat.reduceSub, Nat.reduceMul, ↓reduceIte, reduceCtorEq, w_app_nl]); done) | ((try simp (maxSteps := 1000000) only [go_sem, Int.reduceEq, Int.reduceLT, Int.reduceLE, Int.reduceToNat, Nat.reduceLT, Nat.reduceEqDiff, Nat.reduceAdd, Nat.reduceLeDiff, Nat.reduceSub, Nat.reduceMul, ↓reduceIte, reduceCtorEq, w_app_nl]); rfl) | ((try simp (maxSteps := 1000000) (disch := omega) only [go_sem, Int.reduceEq, Int.reduceLT, Int.reduceLE, Int.reduceToNat, Nat.reduceLT, Nat.reduceEqDiff, Nat.reduceAdd, Nat.reduceLeDiff, Nat.reduceSub, Nat.reduceMul, ↓reduceIte, reduceCtorEq, w_app_nl, wrap_id, w_ite_ne, w_ite_lt]); rfl) | (simp (maxSteps := 1000000) (disch := omega) only [go_sem, Int.reduceEq, Int.reduceLT, Int.reduceLE, Int.reduceToNat, Nat.reduceLT, Nat.reduceEqDiff, Nat.reduceAdd, Nat.reduceLeDiff, Nat.reduceSub, Nat.reduceMul, ↓reduceIte, reduceCtorEq, w_app_nl, wrap_id, w_ite_ne, w_ite_lt]; done))
  · try simp (maxSteps := 500000) (disch := omega) only [go_sem, Int.reduceEq, Int.reduceLT, Int.reduceLE, Int.reduceToNat, Nat.reduceLT, Nat.reduceEqDiff, Nat.reduceAdd, Nat.reduceLeDiff, Nat.reduceSub, Nat.reduceMul, ↓reduceIte, reduceCtorEq, wrap_id, w_ite_ne, w_ite_lt, Nat.sub_zero, Nat.sub_self]
    exact Pub.of_eq rfl rfl
theorem ok_law30_LedgerSharp (t : List Int) (field time : Int) (least : Bool) (hf0 : 0 ≤ field ∧ field ≤ 255) (ht0 : 0 ≤ time ∧ time ≤ 255) : PC prog n_law30_LedgerSharp [.list 1 (ints t), .int .u8 field, .int .u8 time, .bool least] (.bool true) := by
  refine PC_of_body b_law30_LedgerSharp (by simp) ?_
  simp only [c_law30_LedgerSharp, go_sem, Int.reduceEq, Int.reduceLT, Int.reduceLE, Int.reduceToNat, Nat.reduceLT, Nat.reduceEqDiff, Nat.reduceAdd, Nat.reduceLeDiff, Nat.reduceSub, Nat.reduceMul, ↓reduceIte, reduceCtorEq, w_app_nl]
  try simp (maxSteps := 500000) (disch := omega) only [go_sem, Int.reduceEq, Int.reduceLT, Int.reduceLE, Int.reduceToNat, Nat.reduceLT, Nat.reduceEqDiff, Nat.reduceAdd, Nat.reduceLeDiff, Nat.reduceSub, Nat.reduceMul, ↓reduceIte, reduceCtorEq, wrap_id, w_ite_ne, w_ite_lt, Nat.sub_zero, Nat.sub_self]
  refine call_pc ok_law30_sane (by simp) ?_
  try simp (maxSteps := 500000) (disch := omega) only [go_sem, Int.reduceEq, Int.reduceLT, Int.reduceLE, Int.reduceToNat, Nat.reduceLT, Nat.reduceEqDiff, Nat.reduceAdd, Nat.reduceLeDiff, Nat.reduceSub, Nat.reduceMul, ↓reduceIte, reduceCtorEq, wrap_id, w_ite_ne, w_ite_lt, Nat.sub_zero, Nat.sub_self]
  refine call_pc (ok_mk_Few t) (by simp [go_sem]) ?_
  try simp (maxSteps := 500000) (disch := omega) only [go_sem, Int.reduceEq, Int.reduceLT, Int.reduceLE, Int.reduceToNat, Nat.reduceLT, Nat.reduceEqDiff, Nat.reduceAdd, Nat.reduceLeDiff, Nat.reduceSub, Nat.reduceMul, ↓reduceIte, reduceCtorEq, wrap_id, w_ite_ne, w_ite_lt, Nat.sub_zero, Nat.sub_self]
  cases hfew : fewB t
  · try simp (maxSteps := 500000) (disch := omega) only [go_sem, Int.reduceEq, Int.reduceLT, Int.reduceLE, Int.reduceToNat, Nat.reduceLT, Nat.reduceEqDiff, Nat.reduceAdd, Nat.reduceLeDiff, Nat.reduceSub, Nat.reduceMul, ↓reduceIte, reduceCtorEq, wrap_id, w_ite_ne, w_ite_lt, Nat.sub_zero, Nat.sub_self]
    exact Pub.of_eq rfl rfl
  have hlt : t.length ≤ 9223372036854775807 := by simp [fewB] at hfew; omega
  try simp (maxSteps := 500000) (disch := omega) only [go_sem, Int.reduceEq, Int.reduceLT, Int.reduceLE, Int.reduceToNat, Nat.reduceLT, Nat.reduceEqDiff, Nat.reduceAdd, Nat.reduceLeDiff, Nat.reduceSub, Nat.reduceMul, ↓reduceIte, reduceCtorEq, wrap_id, w_ite_ne, w_ite_lt, Nat.sub_zero, Nat.sub_self]
  refine call_hc (ok_mk_New _ t) ?_
  try simp (maxSteps := 500000) (disch := omega) only [go_sem, Int.reduceEq, Int.reduceLT, Int.reduceLE, Int.reduceToNat, Nat.reduceLT, Nat.reduceEqDiff, Nat.reduceAdd, Nat.reduceLeDiff, Nat.reduceSub, Nat.reduceMul, ↓reduceIte, reduceCtorEq, wrap_id, w_ite_ne, w_ite_lt, Nat.sub_zero, Nat.sub_self]
  refine (hc_flow_Loose _ 0 0 t 0 hlt (by simp only [St.push]; omega) (by try simp (maxSteps := 500000) (disch := omega) only [go_sem, Int.reduceEq, Int.reduceLT, Int.reduceLE, Int.reduceToNat, Nat.reduceLT, Nat.reduceEqDiff, Nat.reduceAdd, Nat.reduceLeDiff, Nat.reduceSub, Nat.reduceMul, ↓reduceIte, reduceCtorEq, wrap_id, w_ite_ne, w_ite_lt, Nat.sub_zero, Nat.sub_self])).mono ?_
  intro r τ hD
  obtain ⟨⟨a, n, rfl, hA⟩, hn, -, -⟩ := hD.use (by simp only [St.push]; omega)
  obtain ⟨ob, m, c⟩ := τ
  simp only [St.push] at hn
  subst hn
  have hok := hA.ok
  clear hA hD
  have hT := ok_ledger_Tighten a hok.l
  simp only [acv] at hT
  try simp (maxSteps := 500000) (disch := omega) only [go_sem, Int.reduceEq, Int.reduceLT, Int.reduceLE, Int.reduceToNat, Nat.reduceLT, Nat.reduceEqDiff, Nat.reduceAdd, Nat.reduceLeDiff, Nat.reduceSub, Nat.reduceMul, ↓reduceIte, reduceCtorEq, wrap_id, w_ite_ne, w_ite_lt, Nat.sub_zero, Nat.sub_self, acv]
  refine call_pc hT (by simp [go_sem, bds_pur]) ?_
  try simp (maxSteps := 500000) (disch := omega) only [go_sem, Int.reduceEq, Int.reduceLT, Int.reduceLE, Int.reduceToNat, Nat.reduceLT, Nat.reduceEqDiff, Nat.reduceAdd, Nat.reduceLeDiff, Nat.reduceSub, Nat.reduceMul, ↓reduceIte, reduceCtorEq, wrap_id, w_ite_ne, w_ite_lt, Nat.sub_zero, Nat.sub_self]
  refine cond_n (fun h => ?_) (fun h => ?_) <;> try simp (maxSteps := 500000) (disch := omega) only [go_sem, Int.reduceEq, Int.reduceLT, Int.reduceLE, Int.reduceToNat, Nat.reduceLT, Nat.reduceEqDiff, Nat.reduceAdd, Nat.reduceLeDiff, Nat.reduceSub, Nat.reduceMul, ↓reduceIte, reduceCtorEq, wrap_id, w_ite_ne, w_ite_lt, Nat.sub_zero, Nat.sub_self]
  · have h48 : (tightS a).2 = 48 := by
      by_cases hv : VD a.st a.ins a.outs a.ins.length
      · rw [tightS_yes hok hv] at h; exact absurd rfl h
      · rw [tightS_no hok hv]
    rw [h48]
    exact Pub.of_eq (by simp) rfl
  obtain ⟨-, hv, ht⟩ := tightS_ok h
  have hok2 := tgt_ok hok hv
  have hl2 := tgt_len a
  have hls := hok.ns
  have hlo := hok.no
  have hls2 := hok2.ns
  have hlo2 := hok2.no
  have hln := hok.n2
  have hl1 := hok.n1
  have ha0 := hok.f0
  have ha1 := hok.f1
  rw [ht]
  have e1 : ((tgt a).st.length : Int) = a.st.length := by omega
  have e2 : ((tgt a).ins.length : Int) = a.ins.length := by omega
  have e3 : ((tgt a).outs.length : Int) = a.outs.length := by omega
  rcases mod3 hf0.1 with hx | hx | hx <;> try simp (maxSteps := 500000) (disch := omega) only [go_sem, Int.reduceEq, Int.reduceLT, Int.reduceLE, Int.reduceToNat, Nat.reduceLT, Nat.reduceEqDiff, Nat.reduceAdd, Nat.reduceLeDiff, Nat.reduceSub, Nat.reduceMul, ↓reduceIte, reduceCtorEq, wrap_id, w_ite_ne, w_ite_lt, Nat.sub_zero, Nat.sub_self, hx, bds_length, e1, e2, e3]
  · obtain ⟨i, hi, hin⟩ := modN ht0.1 (n := a.st.length) (by omega)
    refine ⟨by omega, ?_⟩
    try simp (maxSteps := 500000) (disch := omega) only [go_sem, Int.reduceEq, Int.reduceLT, Int.reduceLE, Int.reduceToNat, Nat.reduceLT, Nat.reduceEqDiff, Nat.reduceAdd, Nat.reduceLeDiff, Nat.reduceSub, Nat.reduceMul, ↓reduceIte, reduceCtorEq, wrap_id, w_ite_ne, w_ite_lt, Nat.sub_zero, Nat.sub_self, hi]
    have hfl : fldL a 1 = a.st := by simp [fldL]
    have hfl2 : fldL (tgt a) 1 = (tgt a).st := by simp [fldL]
    have hval := fld_val hok hv (f := 1) (by omega) (i := i) (by rw [hfl]; omega)
    have shp := fun v => sharp_law hok hv (f := 1) (by omega) (i := i) (by rw [hfl]; omega) (v := v)
    have byd := fun v => beyond_law hok hv (f := 1) (by omega) (i := i) (by rw [hfl]; omega) (v := v)
    have hfit : fitB (gB (fldL (tgt a) 1) i) := by rw [hfl2]; exact hok2.bs _ (List.mem_of_getElem? (gB_get (by omega)))
    have hfit := fit_bd hfit
    rw [hfl2] at hval shp byd hfit
    rw [hfl] at byd
    have g1 := gB_get (L := (tgt a).st) (i := i) (by omega)
    have g2 := gB_get (L := a.st) (i := i) (by omega)
    have e4 : (tgt a).st.length = a.st.length := by omega
    generalize tgt a = b at *
    try simp (maxSteps := 500000) (disch := omega) only [go_sem, Int.reduceEq, Int.reduceLT, Int.reduceLE, Int.reduceToNat, Nat.reduceLT, Nat.reduceEqDiff, Nat.reduceAdd, Nat.reduceLeDiff, Nat.reduceSub, Nat.reduceMul, ↓reduceIte, reduceCtorEq, wrap_id, w_ite_ne, w_ite_lt, Nat.sub_zero, Nat.sub_self, bds_length, e4, bds_get, g1, Option.map_some, bdv]
    refine ⟨by omega, by omega, by omega, by omega, ?_⟩
    cases least
    · try simp (maxSteps := 500000) (disch := omega) only [go_sem, Int.reduceEq, Int.reduceLT, Int.reduceLE, Int.reduceToNat, Nat.reduceLT, Nat.reduceEqDiff, Nat.reduceAdd, Nat.reduceLeDiff, Nat.reduceSub, Nat.reduceMul, ↓reduceIte, reduceCtorEq, wrap_id, w_ite_ne, w_ite_lt, Nat.sub_zero, Nat.sub_self]
      obtain ⟨y, S, I, O, y1, y2, y3, y4, y5, y6, y7, y8⟩ := shp (gB b.st i).hi (by simp only [inB, valB] at *; omega)
      have hF := ok_ledger_Fix a hok.l (1 : Nat) (a.fr + i) ⟨(gB b.st i).hi, (gB b.st i).hi⟩ (by omega) (by omega)
      rw [y1, show ((1 : Nat) : Int) = 0 + 1 from rfl] at hF
      have hFi := ok_ledger_First y y2.l
      rw [y3] at hFi
      have hHo := ok_ledger_Holds a hok.l S I O
      rw [y4] at hHo
      simp only [nth3, if_true, if_false, Nat.reduceEqDiff] at y8
      simp only [acv, bdv] at hF hFi hHo
      refine call_pc hF (by simp [go_sem, bds_pur]) ?_
      try simp (maxSteps := 500000) (disch := omega) only [go_sem, Int.reduceEq, Int.reduceLT, Int.reduceLE, Int.reduceToNat, Nat.reduceLT, Nat.reduceEqDiff, Nat.reduceAdd, Nat.reduceLeDiff, Nat.reduceSub, Nat.reduceMul, ↓reduceIte, reduceCtorEq, wrap_id, w_ite_ne, w_ite_lt, Nat.sub_zero, Nat.sub_self]
      refine call_pc hFi (by simp [go_sem, bds_pur]) ?_
      try simp (maxSteps := 500000) (disch := omega) only [go_sem, Int.reduceEq, Int.reduceLT, Int.reduceLE, Int.reduceToNat, Nat.reduceLT, Nat.reduceEqDiff, Nat.reduceAdd, Nat.reduceLeDiff, Nat.reduceSub, Nat.reduceMul, ↓reduceIte, reduceCtorEq, wrap_id, w_ite_ne, w_ite_lt, Nat.sub_zero, Nat.sub_self]
      refine call_pc hHo (by simp [go_sem, bds_pur]) ?_
      by_cases q1 : (gB b.st i).hi + 1 < (gB a.st i).lo
      · try simp (maxSteps := 500000) (disch := omega) only [go_sem, Int.reduceEq, Int.reduceLT, Int.reduceLE, Int.reduceToNat, Nat.reduceLT, Nat.reduceEqDiff, Nat.reduceAdd, Nat.reduceLeDiff, Nat.reduceSub, Nat.reduceMul, ↓reduceIte, reduceCtorEq, wrap_id, w_ite_ne, w_ite_lt, Nat.sub_zero, Nat.sub_self, ints_length, y5, y6, y7, ints_get, y8, Option.map_some, bds_length, bds_get, g2, bdv, q1, decide_true]
        refine ⟨by omega, by omega, by omega, by omega, ?_⟩
        exact Pub.of_eq rfl rfl
      by_cases q2 : (gB a.st i).hi < (gB b.st i).hi + 1
      · try simp (maxSteps := 500000) (disch := omega) only [go_sem, Int.reduceEq, Int.reduceLT, Int.reduceLE, Int.reduceToNat, Nat.reduceLT, Nat.reduceEqDiff, Nat.reduceAdd, Nat.reduceLeDiff, Nat.reduceSub, Nat.reduceMul, ↓reduceIte, reduceCtorEq, wrap_id, w_ite_ne, w_ite_lt, Nat.sub_zero, Nat.sub_self, ints_length, y5, y6, y7, ints_get, y8, Option.map_some, bds_length, bds_get, g2, bdv, q1, q2, decide_true, decide_false]
        refine ⟨by omega, by omega, by omega, by omega, by omega, by omega, ?_⟩
        exact Pub.of_eq rfl rfl
      try simp (maxSteps := 500000) (disch := omega) only [go_sem, Int.reduceEq, Int.reduceLT, Int.reduceLE, Int.reduceToNat, Nat.reduceLT, Nat.reduceEqDiff, Nat.reduceAdd, Nat.reduceLeDiff, Nat.reduceSub, Nat.reduceMul, ↓reduceIte, reduceCtorEq, wrap_id, w_ite_ne, w_ite_lt, Nat.sub_zero, Nat.sub_self, ints_length, y5, y6, y7, ints_get, y8, Option.map_some, bds_length, bds_get, g2, bdv, q1, q2, decide_false]
      refine ⟨by omega, by omega, by omega, by omega, by omega, by omega, ?_⟩
      obtain ⟨z, z1, z2, z3⟩ := byd ((gB b.st i).hi + 1) (by simp only [inB]; omega) (by simp only [inB]; omega)
      have hF2 := ok_ledger_Fix a hok.l (1 : Nat) (a.fr + i) ⟨(gB b.st i).hi + 1, (gB b.st i).hi + 1⟩ (by omega) (by omega)
      rw [z1, show ((1 : Nat) : Int) = 0 + 1 from rfl] at hF2
      have hT2 := ok_ledger_Tighten z z2.l
      rw [z3] at hT2
      simp only [acv, bdv, acZ] at hF2 hT2
      refine call_pc hF2 (by simp [go_sem, bds_pur]) ?_
      try simp (maxSteps := 500000) (disch := omega) only [go_sem, Int.reduceEq, Int.reduceLT, Int.reduceLE, Int.reduceToNat, Nat.reduceLT, Nat.reduceEqDiff, Nat.reduceAdd, Nat.reduceLeDiff, Nat.reduceSub, Nat.reduceMul, ↓reduceIte, reduceCtorEq, wrap_id, w_ite_ne, w_ite_lt, Nat.sub_zero, Nat.sub_self]
      refine call_pc hT2 (by simp [go_sem, bds_pur]) ?_
      try simp (maxSteps := 500000) (disch := omega) only [go_sem, Int.reduceEq, Int.reduceLT, Int.reduceLE, Int.reduceToNat, Nat.reduceLT, Nat.reduceEqDiff, Nat.reduceAdd, Nat.reduceLeDiff, Nat.reduceSub, Nat.reduceMul, ↓reduceIte, reduceCtorEq, wrap_id, w_ite_ne, w_ite_lt, Nat.sub_zero, Nat.sub_self]
      exact Pub.of_eq rfl rfl
    · try simp (maxSteps := 500000) (disch := omega) only [go_sem, Int.reduceEq, Int.reduceLT, Int.reduceLE, Int.reduceToNat, Nat.reduceLT, Nat.reduceEqDiff, Nat.reduceAdd, Nat.reduceLeDiff, Nat.reduceSub, Nat.reduceMul, ↓reduceIte, reduceCtorEq, wrap_id, w_ite_ne, w_ite_lt, Nat.sub_zero, Nat.sub_self, bds_length, e4, bds_get, g1, Option.map_some, bdv]
      refine ⟨by omega, by omega, by omega, by omega, ?_⟩
      obtain ⟨y, S, I, O, y1, y2, y3, y4, y5, y6, y7, y8⟩ := shp (gB b.st i).lo (by simp only [inB, valB] at *; omega)
      have hF := ok_ledger_Fix a hok.l (1 : Nat) (a.fr + i) ⟨(gB b.st i).lo, (gB b.st i).lo⟩ (by omega) (by omega)
      rw [y1, show ((1 : Nat) : Int) = 0 + 1 from rfl] at hF
      have hFi := ok_ledger_First y y2.l
      rw [y3] at hFi
      have hHo := ok_ledger_Holds a hok.l S I O
      rw [y4] at hHo
      simp only [nth3, if_true, if_false, Nat.reduceEqDiff] at y8
      simp only [acv, bdv] at hF hFi hHo
      refine call_pc hF (by simp [go_sem, bds_pur]) ?_
      try simp (maxSteps := 500000) (disch := omega) only [go_sem, Int.reduceEq, Int.reduceLT, Int.reduceLE, Int.reduceToNat, Nat.reduceLT, Nat.reduceEqDiff, Nat.reduceAdd, Nat.reduceLeDiff, Nat.reduceSub, Nat.reduceMul, ↓reduceIte, reduceCtorEq, wrap_id, w_ite_ne, w_ite_lt, Nat.sub_zero, Nat.sub_self]
      refine call_pc hFi (by simp [go_sem, bds_pur]) ?_
      try simp (maxSteps := 500000) (disch := omega) only [go_sem, Int.reduceEq, Int.reduceLT, Int.reduceLE, Int.reduceToNat, Nat.reduceLT, Nat.reduceEqDiff, Nat.reduceAdd, Nat.reduceLeDiff, Nat.reduceSub, Nat.reduceMul, ↓reduceIte, reduceCtorEq, wrap_id, w_ite_ne, w_ite_lt, Nat.sub_zero, Nat.sub_self]
      refine call_pc hHo (by simp [go_sem, bds_pur]) ?_
      by_cases q1 : (gB b.st i).lo - 1 < (gB a.st i).lo
      · try simp (maxSteps := 500000) (disch := omega) only [go_sem, Int.reduceEq, Int.reduceLT, Int.reduceLE, Int.reduceToNat, Nat.reduceLT, Nat.reduceEqDiff, Nat.reduceAdd, Nat.reduceLeDiff, Nat.reduceSub, Nat.reduceMul, ↓reduceIte, reduceCtorEq, wrap_id, w_ite_ne, w_ite_lt, Nat.sub_zero, Nat.sub_self, ints_length, y5, y6, y7, ints_get, y8, Option.map_some, bds_length, bds_get, g2, bdv, q1, decide_true]
        refine ⟨by omega, by omega, by omega, by omega, ?_⟩
        exact Pub.of_eq rfl rfl
      by_cases q2 : (gB a.st i).hi < (gB b.st i).lo - 1
      · try simp (maxSteps := 500000) (disch := omega) only [go_sem, Int.reduceEq, Int.reduceLT, Int.reduceLE, Int.reduceToNat, Nat.reduceLT, Nat.reduceEqDiff, Nat.reduceAdd, Nat.reduceLeDiff, Nat.reduceSub, Nat.reduceMul, ↓reduceIte, reduceCtorEq, wrap_id, w_ite_ne, w_ite_lt, Nat.sub_zero, Nat.sub_self, ints_length, y5, y6, y7, ints_get, y8, Option.map_some, bds_length, bds_get, g2, bdv, q1, q2, decide_true, decide_false]
        refine ⟨by omega, by omega, by omega, by omega, by omega, by omega, ?_⟩
        exact Pub.of_eq rfl rfl
      try simp (maxSteps := 500000) (disch := omega) only [go_sem, Int.reduceEq, Int.reduceLT, Int.reduceLE, Int.reduceToNat, Nat.reduceLT, Nat.reduceEqDiff, Nat.reduceAdd, Nat.reduceLeDiff, Nat.reduceSub, Nat.reduceMul, ↓reduceIte, reduceCtorEq, wrap_id, w_ite_ne, w_ite_lt, Nat.sub_zero, Nat.sub_self, ints_length, y5, y6, y7, ints_get, y8, Option.map_some, bds_length, bds_get, g2, bdv, q1, q2, decide_false]
      refine ⟨by omega, by omega, by omega, by omega, by omega, by omega, ?_⟩
      obtain ⟨z, z1, z2, z3⟩ := byd ((gB b.st i).lo - 1) (by simp only [inB]; omega) (by simp only [inB]; omega)
      have hF2 := ok_ledger_Fix a hok.l (1 : Nat) (a.fr + i) ⟨(gB b.st i).lo - 1, (gB b.st i).lo - 1⟩ (by omega) (by omega)
      rw [z1, show ((1 : Nat) : Int) = 0 + 1 from rfl] at hF2
      have hT2 := ok_ledger_Tighten z z2.l
      rw [z3] at hT2
      simp only [acv, bdv, acZ] at hF2 hT2
      refine call_pc hF2 (by simp [go_sem, bds_pur]) ?_
      try simp (maxSteps := 500000) (disch := omega) only [go_sem, Int.reduceEq, Int.reduceLT, Int.reduceLE, Int.reduceToNat, Nat.reduceLT, Nat.reduceEqDiff, Nat.reduceAdd, Nat.reduceLeDiff, Nat.reduceSub, Nat.reduceMul, ↓reduceIte, reduceCtorEq, wrap_id, w_ite_ne, w_ite_lt, Nat.sub_zero, Nat.sub_self]
      refine call_pc hT2 (by simp [go_sem, bds_pur]) ?_
      try simp (maxSteps := 500000) (disch := omega) only [go_sem, Int.reduceEq, Int.reduceLT, Int.reduceLE, Int.reduceToNat, Nat.reduceLT, Nat.reduceEqDiff, Nat.reduceAdd, Nat.reduceLeDiff, Nat.reduceSub, Nat.reduceMul, ↓reduceIte, reduceCtorEq, wrap_id, w_ite_ne, w_ite_lt, Nat.sub_zero, Nat.sub_self]
      exact Pub.of_eq rfl rfl
  · obtain ⟨i, hi, hin⟩ := modN ht0.1 (n := a.ins.length) (by omega)
    refine ⟨by omega, ?_⟩
    try simp (maxSteps := 500000) (disch := omega) only [go_sem, Int.reduceEq, Int.reduceLT, Int.reduceLE, Int.reduceToNat, Nat.reduceLT, Nat.reduceEqDiff, Nat.reduceAdd, Nat.reduceLeDiff, Nat.reduceSub, Nat.reduceMul, ↓reduceIte, reduceCtorEq, wrap_id, w_ite_ne, w_ite_lt, Nat.sub_zero, Nat.sub_self, hi]
    have hfl : fldL a 2 = a.ins := by simp [fldL]
    have hfl2 : fldL (tgt a) 2 = (tgt a).ins := by simp [fldL]
    have hval := fld_val hok hv (f := 2) (by omega) (i := i) (by rw [hfl]; omega)
    have shp := fun v => sharp_law hok hv (f := 2) (by omega) (i := i) (by rw [hfl]; omega) (v := v)
    have byd := fun v => beyond_law hok hv (f := 2) (by omega) (i := i) (by rw [hfl]; omega) (v := v)
    have hfit : fitB (gB (fldL (tgt a) 2) i) := by rw [hfl2]; exact hok2.bi _ (List.mem_of_getElem? (gB_get (by omega)))
    have hfit := fit_bd hfit
    rw [hfl2] at hval shp byd hfit
    rw [hfl] at byd
    have g1 := gB_get (L := (tgt a).ins) (i := i) (by omega)
    have g2 := gB_get (L := a.ins) (i := i) (by omega)
    have e4 : (tgt a).ins.length = a.ins.length := by omega
    generalize tgt a = b at *
    try simp (maxSteps := 500000) (disch := omega) only [go_sem, Int.reduceEq, Int.reduceLT, Int.reduceLE, Int.reduceToNat, Nat.reduceLT, Nat.reduceEqDiff, Nat.reduceAdd, Nat.reduceLeDiff, Nat.reduceSub, Nat.reduceMul, ↓reduceIte, reduceCtorEq, wrap_id, w_ite_ne, w_ite_lt, Nat.sub_zero, Nat.sub_self, bds_length, e4, bds_get, g1, Option.map_some, bdv]
    refine ⟨by omega, by omega, by omega, by omega, ?_⟩
    cases least
    · try simp (maxSteps := 500000) (disch := omega) only [go_sem, Int.reduceEq, Int.reduceLT, Int.reduceLE, Int.reduceToNat, Nat.reduceLT, Nat.reduceEqDiff, Nat.reduceAdd, Nat.reduceLeDiff, Nat.reduceSub, Nat.reduceMul, ↓reduceIte, reduceCtorEq, wrap_id, w_ite_ne, w_ite_lt, Nat.sub_zero, Nat.sub_self]
      obtain ⟨y, S, I, O, y1, y2, y3, y4, y5, y6, y7, y8⟩ := shp (gB b.ins i).hi (by simp only [inB, valB] at *; omega)
      have hF := ok_ledger_Fix a hok.l (2 : Nat) (a.fr + i) ⟨(gB b.ins i).hi, (gB b.ins i).hi⟩ (by omega) (by omega)
      rw [y1, show ((2 : Nat) : Int) = 1 + 1 from rfl] at hF
      have hFi := ok_ledger_First y y2.l
      rw [y3] at hFi
      have hHo := ok_ledger_Holds a hok.l S I O
      rw [y4] at hHo
      simp only [nth3, if_true, if_false, Nat.reduceEqDiff] at y8
      simp only [acv, bdv] at hF hFi hHo
      refine call_pc hF (by simp [go_sem, bds_pur]) ?_
      try simp (maxSteps := 500000) (disch := omega) only [go_sem, Int.reduceEq, Int.reduceLT, Int.reduceLE, Int.reduceToNat, Nat.reduceLT, Nat.reduceEqDiff, Nat.reduceAdd, Nat.reduceLeDiff, Nat.reduceSub, Nat.reduceMul, ↓reduceIte, reduceCtorEq, wrap_id, w_ite_ne, w_ite_lt, Nat.sub_zero, Nat.sub_self]
      refine call_pc hFi (by simp [go_sem, bds_pur]) ?_
      try simp (maxSteps := 500000) (disch := omega) only [go_sem, Int.reduceEq, Int.reduceLT, Int.reduceLE, Int.reduceToNat, Nat.reduceLT, Nat.reduceEqDiff, Nat.reduceAdd, Nat.reduceLeDiff, Nat.reduceSub, Nat.reduceMul, ↓reduceIte, reduceCtorEq, wrap_id, w_ite_ne, w_ite_lt, Nat.sub_zero, Nat.sub_self]
      refine call_pc hHo (by simp [go_sem, bds_pur]) ?_
      by_cases q1 : (gB b.ins i).hi + 1 < (gB a.ins i).lo
      · try simp (maxSteps := 500000) (disch := omega) only [go_sem, Int.reduceEq, Int.reduceLT, Int.reduceLE, Int.reduceToNat, Nat.reduceLT, Nat.reduceEqDiff, Nat.reduceAdd, Nat.reduceLeDiff, Nat.reduceSub, Nat.reduceMul, ↓reduceIte, reduceCtorEq, wrap_id, w_ite_ne, w_ite_lt, Nat.sub_zero, Nat.sub_self, ints_length, y5, y6, y7, ints_get, y8, Option.map_some, bds_length, bds_get, g2, bdv, q1, decide_true]
        refine ⟨by omega, by omega, by omega, by omega, ?_⟩
        exact Pub.of_eq rfl rfl
      by_cases q2 : (gB a.ins i).hi < (gB b.ins i).hi + 1
      · try simp (maxSteps := 500000) (disch := omega) only [go_sem, Int.reduceEq, Int.reduceLT, Int.reduceLE, Int.reduceToNat, Nat.reduceLT, Nat.reduceEqDiff, Nat.reduceAdd, Nat.reduceLeDiff, Nat.reduceSub, Nat.reduceMul, ↓reduceIte, reduceCtorEq, wrap_id, w_ite_ne, w_ite_lt, Nat.sub_zero, Nat.sub_self, ints_length, y5, y6, y7, ints_get, y8, Option.map_some, bds_length, bds_get, g2, bdv, q1, q2, decide_true, decide_false]
        refine ⟨by omega, by omega, by omega, by omega, by omega, by omega, ?_⟩
        exact Pub.of_eq rfl rfl
      try simp (maxSteps := 500000) (disch := omega) only [go_sem, Int.reduceEq, Int.reduceLT, Int.reduceLE, Int.reduceToNat, Nat.reduceLT, Nat.reduceEqDiff, Nat.reduceAdd, Nat.reduceLeDiff, Nat.reduceSub, Nat.reduceMul, ↓reduceIte, reduceCtorEq, wrap_id, w_ite_ne, w_ite_lt, Nat.sub_zero, Nat.sub_self, ints_length, y5, y6, y7, ints_get, y8, Option.map_some, bds_length, bds_get, g2, bdv, q1, q2, decide_false]
      refine ⟨by omega, by omega, by omega, by omega, by omega, by omega, ?_⟩
      obtain ⟨z, z1, z2, z3⟩ := byd ((gB b.ins i).hi + 1) (by simp only [inB]; omega) (by simp only [inB]; omega)
      have hF2 := ok_ledger_Fix a hok.l (2 : Nat) (a.fr + i) ⟨(gB b.ins i).hi + 1, (gB b.ins i).hi + 1⟩ (by omega) (by omega)
      rw [z1, show ((2 : Nat) : Int) = 1 + 1 from rfl] at hF2
      have hT2 := ok_ledger_Tighten z z2.l
      rw [z3] at hT2
      simp only [acv, bdv, acZ] at hF2 hT2
      refine call_pc hF2 (by simp [go_sem, bds_pur]) ?_
      try simp (maxSteps := 500000) (disch := omega) only [go_sem, Int.reduceEq, Int.reduceLT, Int.reduceLE, Int.reduceToNat, Nat.reduceLT, Nat.reduceEqDiff, Nat.reduceAdd, Nat.reduceLeDiff, Nat.reduceSub, Nat.reduceMul, ↓reduceIte, reduceCtorEq, wrap_id, w_ite_ne, w_ite_lt, Nat.sub_zero, Nat.sub_self]
      refine call_pc hT2 (by simp [go_sem, bds_pur]) ?_
      try simp (maxSteps := 500000) (disch := omega) only [go_sem, Int.reduceEq, Int.reduceLT, Int.reduceLE, Int.reduceToNat, Nat.reduceLT, Nat.reduceEqDiff, Nat.reduceAdd, Nat.reduceLeDiff, Nat.reduceSub, Nat.reduceMul, ↓reduceIte, reduceCtorEq, wrap_id, w_ite_ne, w_ite_lt, Nat.sub_zero, Nat.sub_self]
      exact Pub.of_eq rfl rfl
    · try simp (maxSteps := 500000) (disch := omega) only [go_sem, Int.reduceEq, Int.reduceLT, Int.reduceLE, Int.reduceToNat, Nat.reduceLT, Nat.reduceEqDiff, Nat.reduceAdd, Nat.reduceLeDiff, Nat.reduceSub, Nat.reduceMul, ↓reduceIte, reduceCtorEq, wrap_id, w_ite_ne, w_ite_lt, Nat.sub_zero, Nat.sub_self, bds_length, e4, bds_get, g1, Option.map_some, bdv]
      refine ⟨by omega, by omega, by omega, by omega, ?_⟩
      obtain ⟨y, S, I, O, y1, y2, y3, y4, y5, y6, y7, y8⟩ := shp (gB b.ins i).lo (by simp only [inB, valB] at *; omega)
      have hF := ok_ledger_Fix a hok.l (2 : Nat) (a.fr + i) ⟨(gB b.ins i).lo, (gB b.ins i).lo⟩ (by omega) (by omega)
      rw [y1, show ((2 : Nat) : Int) = 1 + 1 from rfl] at hF
      have hFi := ok_ledger_First y y2.l
      rw [y3] at hFi
      have hHo := ok_ledger_Holds a hok.l S I O
      rw [y4] at hHo
      simp only [nth3, if_true, if_false, Nat.reduceEqDiff] at y8
      simp only [acv, bdv] at hF hFi hHo
      refine call_pc hF (by simp [go_sem, bds_pur]) ?_
      try simp (maxSteps := 500000) (disch := omega) only [go_sem, Int.reduceEq, Int.reduceLT, Int.reduceLE, Int.reduceToNat, Nat.reduceLT, Nat.reduceEqDiff, Nat.reduceAdd, Nat.reduceLeDiff, Nat.reduceSub, Nat.reduceMul, ↓reduceIte, reduceCtorEq, wrap_id, w_ite_ne, w_ite_lt, Nat.sub_zero, Nat.sub_self]
      refine call_pc hFi (by simp [go_sem, bds_pur]) ?_
      try simp (maxSteps := 500000) (disch := omega) only [go_sem, Int.reduceEq, Int.reduceLT, Int.reduceLE, Int.reduceToNat, Nat.reduceLT, Nat.reduceEqDiff, Nat.reduceAdd, Nat.reduceLeDiff, Nat.reduceSub, Nat.reduceMul, ↓reduceIte, reduceCtorEq, wrap_id, w_ite_ne, w_ite_lt, Nat.sub_zero, Nat.sub_self]
      refine call_pc hHo (by simp [go_sem, bds_pur]) ?_
      by_cases q1 : (gB b.ins i).lo - 1 < (gB a.ins i).lo
      · try simp (maxSteps := 500000) (disch := omega) only [go_sem, Int.reduceEq, Int.reduceLT, Int.reduceLE, Int.reduceToNat, Nat.reduceLT, Nat.reduceEqDiff, Nat.reduceAdd, Nat.reduceLeDiff, Nat.reduceSub, Nat.reduceMul, ↓reduceIte, reduceCtorEq, wrap_id, w_ite_ne, w_ite_lt, Nat.sub_zero, Nat.sub_self, ints_length, y5, y6, y7, ints_get, y8, Option.map_some, bds_length, bds_get, g2, bdv, q1, decide_true]
        refine ⟨by omega, by omega, by omega, by omega, ?_⟩
        exact Pub.of_eq rfl rfl
      by_cases q2 : (gB a.ins i).hi < (gB b.ins i).lo - 1
      · try simp (maxSteps := 500000) (disch := omega) only [go_sem, Int.reduceEq, Int.reduceLT, Int.reduceLE, Int.reduceToNat, Nat.reduceLT, Nat.reduceEqDiff, Nat.reduceAdd, Nat.reduceLeDiff, Nat.reduceSub, Nat.reduceMul, ↓reduceIte, reduceCtorEq, wrap_id, w_ite_ne, w_ite_lt, Nat.sub_zero, Nat.sub_self, ints_length, y5, y6, y7, ints_get, y8, Option.map_some, bds_length, bds_get, g2, bdv, q1, q2, decide_true, decide_false]
        refine ⟨by omega, by omega, by omega, by omega, by omega, by omega, ?_⟩
        exact Pub.of_eq rfl rfl
      try simp (maxSteps := 500000) (disch := omega) only [go_sem, Int.reduceEq, Int.reduceLT, Int.reduceLE, Int.reduceToNat, Nat.reduceLT, Nat.reduceEqDiff, Nat.reduceAdd, Nat.reduceLeDiff, Nat.reduceSub, Nat.reduceMul, ↓reduceIte, reduceCtorEq, wrap_id, w_ite_ne, w_ite_lt, Nat.sub_zero, Nat.sub_self, ints_length, y5, y6, y7, ints_get, y8, Option.map_some, bds_length, bds_get, g2, bdv, q1, q2, decide_false]
      refine ⟨by omega, by omega, by omega, by omega, by omega, by omega, ?_⟩
      obtain ⟨z, z1, z2, z3⟩ := byd ((gB b.ins i).lo - 1) (by simp only [inB]; omega) (by simp only [inB]; omega)
      have hF2 := ok_ledger_Fix a hok.l (2 : Nat) (a.fr + i) ⟨(gB b.ins i).lo - 1, (gB b.ins i).lo - 1⟩ (by omega) (by omega)
      rw [z1, show ((2 : Nat) : Int) = 1 + 1 from rfl] at hF2
      have hT2 := ok_ledger_Tighten z z2.l
      rw [z3] at hT2
      simp only [acv, bdv, acZ] at hF2 hT2
      refine call_pc hF2 (by simp [go_sem, bds_pur]) ?_
      try simp (maxSteps := 500000) (disch := omega) only [go_sem, Int.reduceEq, Int.reduceLT, Int.reduceLE, Int.reduceToNat, Nat.reduceLT, Nat.reduceEqDiff, Nat.reduceAdd, Nat.reduceLeDiff, Nat.reduceSub, Nat.reduceMul, ↓reduceIte, reduceCtorEq, wrap_id, w_ite_ne, w_ite_lt, Nat.sub_zero, Nat.sub_self]
      refine call_pc hT2 (by simp [go_sem, bds_pur]) ?_
      try simp (maxSteps := 500000) (disch := omega) only [go_sem, Int.reduceEq, Int.reduceLT, Int.reduceLE, Int.reduceToNat, Nat.reduceLT, Nat.reduceEqDiff, Nat.reduceAdd, Nat.reduceLeDiff, Nat.reduceSub, Nat.reduceMul, ↓reduceIte, reduceCtorEq, wrap_id, w_ite_ne, w_ite_lt, Nat.sub_zero, Nat.sub_self]
      exact Pub.of_eq rfl rfl
  · obtain ⟨i, hi, hin⟩ := modN ht0.1 (n := a.outs.length) (by omega)
    refine ⟨by omega, ?_⟩
    try simp (maxSteps := 500000) (disch := omega) only [go_sem, Int.reduceEq, Int.reduceLT, Int.reduceLE, Int.reduceToNat, Nat.reduceLT, Nat.reduceEqDiff, Nat.reduceAdd, Nat.reduceLeDiff, Nat.reduceSub, Nat.reduceMul, ↓reduceIte, reduceCtorEq, wrap_id, w_ite_ne, w_ite_lt, Nat.sub_zero, Nat.sub_self, hi]
    have hfl : fldL a 3 = a.outs := by simp [fldL]
    have hfl2 : fldL (tgt a) 3 = (tgt a).outs := by simp [fldL]
    have hval := fld_val hok hv (f := 3) (by omega) (i := i) (by rw [hfl]; omega)
    have shp := fun v => sharp_law hok hv (f := 3) (by omega) (i := i) (by rw [hfl]; omega) (v := v)
    have byd := fun v => beyond_law hok hv (f := 3) (by omega) (i := i) (by rw [hfl]; omega) (v := v)
    have hfit : fitB (gB (fldL (tgt a) 3) i) := by rw [hfl2]; exact hok2.bo _ (List.mem_of_getElem? (gB_get (by omega)))
    have hfit := fit_bd hfit
    rw [hfl2] at hval shp byd hfit
    rw [hfl] at byd
    have g1 := gB_get (L := (tgt a).outs) (i := i) (by omega)
    have g2 := gB_get (L := a.outs) (i := i) (by omega)
    have e4 : (tgt a).outs.length = a.outs.length := by omega
    generalize tgt a = b at *
    try simp (maxSteps := 500000) (disch := omega) only [go_sem, Int.reduceEq, Int.reduceLT, Int.reduceLE, Int.reduceToNat, Nat.reduceLT, Nat.reduceEqDiff, Nat.reduceAdd, Nat.reduceLeDiff, Nat.reduceSub, Nat.reduceMul, ↓reduceIte, reduceCtorEq, wrap_id, w_ite_ne, w_ite_lt, Nat.sub_zero, Nat.sub_self, bds_length, e4, bds_get, g1, Option.map_some, bdv]
    refine ⟨by omega, by omega, by omega, by omega, ?_⟩
    cases least
    · try simp (maxSteps := 500000) (disch := omega) only [go_sem, Int.reduceEq, Int.reduceLT, Int.reduceLE, Int.reduceToNat, Nat.reduceLT, Nat.reduceEqDiff, Nat.reduceAdd, Nat.reduceLeDiff, Nat.reduceSub, Nat.reduceMul, ↓reduceIte, reduceCtorEq, wrap_id, w_ite_ne, w_ite_lt, Nat.sub_zero, Nat.sub_self]
      obtain ⟨y, S, I, O, y1, y2, y3, y4, y5, y6, y7, y8⟩ := shp (gB b.outs i).hi (by simp only [inB, valB] at *; omega)
      have hF := ok_ledger_Fix a hok.l (3 : Nat) (a.fr + i) ⟨(gB b.outs i).hi, (gB b.outs i).hi⟩ (by omega) (by omega)
      rw [y1, show ((3 : Nat) : Int) = 2 + 1 from rfl] at hF
      have hFi := ok_ledger_First y y2.l
      rw [y3] at hFi
      have hHo := ok_ledger_Holds a hok.l S I O
      rw [y4] at hHo
      simp only [nth3, if_true, if_false, Nat.reduceEqDiff] at y8
      simp only [acv, bdv] at hF hFi hHo
      refine call_pc hF (by simp [go_sem, bds_pur]) ?_
      try simp (maxSteps := 500000) (disch := omega) only [go_sem, Int.reduceEq, Int.reduceLT, Int.reduceLE, Int.reduceToNat, Nat.reduceLT, Nat.reduceEqDiff, Nat.reduceAdd, Nat.reduceLeDiff, Nat.reduceSub, Nat.reduceMul, ↓reduceIte, reduceCtorEq, wrap_id, w_ite_ne, w_ite_lt, Nat.sub_zero, Nat.sub_self]
      refine call_pc hFi (by simp [go_sem, bds_pur]) ?_
      try simp (maxSteps := 500000) (disch := omega) only [go_sem, Int.reduceEq, Int.reduceLT, Int.reduceLE, Int.reduceToNat, Nat.reduceLT, Nat.reduceEqDiff, Nat.reduceAdd, Nat.reduceLeDiff, Nat.reduceSub, Nat.reduceMul, ↓reduceIte, reduceCtorEq, wrap_id, w_ite_ne, w_ite_lt, Nat.sub_zero, Nat.sub_self]
      refine call_pc hHo (by simp [go_sem, bds_pur]) ?_
      by_cases q1 : (gB b.outs i).hi + 1 < (gB a.outs i).lo
      · try simp (maxSteps := 500000) (disch := omega) only [go_sem, Int.reduceEq, Int.reduceLT, Int.reduceLE, Int.reduceToNat, Nat.reduceLT, Nat.reduceEqDiff, Nat.reduceAdd, Nat.reduceLeDiff, Nat.reduceSub, Nat.reduceMul, ↓reduceIte, reduceCtorEq, wrap_id, w_ite_ne, w_ite_lt, Nat.sub_zero, Nat.sub_self, ints_length, y5, y6, y7, ints_get, y8, Option.map_some, bds_length, bds_get, g2, bdv, q1, decide_true]
        refine ⟨by omega, by omega, by omega, by omega, ?_⟩
        exact Pub.of_eq rfl rfl
      by_cases q2 : (gB a.outs i).hi < (gB b.outs i).hi + 1
      · try simp (maxSteps := 500000) (disch := omega) only [go_sem, Int.reduceEq, Int.reduceLT, Int.reduceLE, Int.reduceToNat, Nat.reduceLT, Nat.reduceEqDiff, Nat.reduceAdd, Nat.reduceLeDiff, Nat.reduceSub, Nat.reduceMul, ↓reduceIte, reduceCtorEq, wrap_id, w_ite_ne, w_ite_lt, Nat.sub_zero, Nat.sub_self, ints_length, y5, y6, y7, ints_get, y8, Option.map_some, bds_length, bds_get, g2, bdv, q1, q2, decide_true, decide_false]
        refine ⟨by omega, by omega, by omega, by omega, by omega, by omega, ?_⟩
        exact Pub.of_eq rfl rfl
      try simp (maxSteps := 500000) (disch := omega) only [go_sem, Int.reduceEq, Int.reduceLT, Int.reduceLE, Int.reduceToNat, Nat.reduceLT, Nat.reduceEqDiff, Nat.reduceAdd, Nat.reduceLeDiff, Nat.reduceSub, Nat.reduceMul, ↓reduceIte, reduceCtorEq, wrap_id, w_ite_ne, w_ite_lt, Nat.sub_zero, Nat.sub_self, ints_length, y5, y6, y7, ints_get, y8, Option.map_some, bds_length, bds_get, g2, bdv, q1, q2, decide_false]
      refine ⟨by omega, by omega, by omega, by omega, by omega, by omega, ?_⟩
      obtain ⟨z, z1, z2, z3⟩ := byd ((gB b.outs i).hi + 1) (by simp only [inB]; omega) (by simp only [inB]; omega)
      have hF2 := ok_ledger_Fix a hok.l (3 : Nat) (a.fr + i) ⟨(gB b.outs i).hi + 1, (gB b.outs i).hi + 1⟩ (by omega) (by omega)
      rw [z1, show ((3 : Nat) : Int) = 2 + 1 from rfl] at hF2
      have hT2 := ok_ledger_Tighten z z2.l
      rw [z3] at hT2
      simp only [acv, bdv, acZ] at hF2 hT2
      refine call_pc hF2 (by simp [go_sem, bds_pur]) ?_
      try simp (maxSteps := 500000) (disch := omega) only [go_sem, Int.reduceEq, Int.reduceLT, Int.reduceLE, Int.reduceToNat, Nat.reduceLT, Nat.reduceEqDiff, Nat.reduceAdd, Nat.reduceLeDiff, Nat.reduceSub, Nat.reduceMul, ↓reduceIte, reduceCtorEq, wrap_id, w_ite_ne, w_ite_lt, Nat.sub_zero, Nat.sub_self]
      refine call_pc hT2 (by simp [go_sem, bds_pur]) ?_
      try simp (maxSteps := 500000) (disch := omega) only [go_sem, Int.reduceEq, Int.reduceLT, Int.reduceLE, Int.reduceToNat, Nat.reduceLT, Nat.reduceEqDiff, Nat.reduceAdd, Nat.reduceLeDiff, Nat.reduceSub, Nat.reduceMul, ↓reduceIte, reduceCtorEq, wrap_id, w_ite_ne, w_ite_lt, Nat.sub_zero, Nat.sub_self]
      exact Pub.of_eq rfl rfl
    · try simp (maxSteps := 500000) (disch := omega) only [go_sem, Int.reduceEq, Int.reduceLT, Int.reduceLE, Int.reduceToNat, Nat.reduceLT, Nat.reduceEqDiff, Nat.reduceAdd, Nat.reduceLeDiff, Nat.reduceSub, Nat.reduceMul, ↓reduceIte, reduceCtorEq, wrap_id, w_ite_ne, w_ite_lt, Nat.sub_zero, Nat.sub_self, bds_length, e4, bds_get, g1, Option.map_some, bdv]
      refine ⟨by omega, by omega, by omega, by omega, ?_⟩
      obtain ⟨y, S, I, O, y1, y2, y3, y4, y5, y6, y7, y8⟩ := shp (gB b.outs i).lo (by simp only [inB, valB] at *; omega)
      have hF := ok_ledger_Fix a hok.l (3 : Nat) (a.fr + i) ⟨(gB b.outs i).lo, (gB b.outs i).lo⟩ (by omega) (by omega)
      rw [y1, show ((3 : Nat) : Int) = 2 + 1 from rfl] at hF
      have hFi := ok_ledger_First y y2.l
      rw [y3] at hFi
      have hHo := ok_ledger_Holds a hok.l S I O
      rw [y4] at hHo
      simp only [nth3, if_true, if_false, Nat.reduceEqDiff] at y8
      simp only [acv, bdv] at hF hFi hHo
      refine call_pc hF (by simp [go_sem, bds_pur]) ?_
      try simp (maxSteps := 500000) (disch := omega) only [go_sem, Int.reduceEq, Int.reduceLT, Int.reduceLE, Int.reduceToNat, Nat.reduceLT, Nat.reduceEqDiff, Nat.reduceAdd, Nat.reduceLeDiff, Nat.reduceSub, Nat.reduceMul, ↓reduceIte, reduceCtorEq, wrap_id, w_ite_ne, w_ite_lt, Nat.sub_zero, Nat.sub_self]
      refine call_pc hFi (by simp [go_sem, bds_pur]) ?_
      try simp (maxSteps := 500000) (disch := omega) only [go_sem, Int.reduceEq, Int.reduceLT, Int.reduceLE, Int.reduceToNat, Nat.reduceLT, Nat.reduceEqDiff, Nat.reduceAdd, Nat.reduceLeDiff, Nat.reduceSub, Nat.reduceMul, ↓reduceIte, reduceCtorEq, wrap_id, w_ite_ne, w_ite_lt, Nat.sub_zero, Nat.sub_self]
      refine call_pc hHo (by simp [go_sem, bds_pur]) ?_
      by_cases q1 : (gB b.outs i).lo - 1 < (gB a.outs i).lo
      · try simp (maxSteps := 500000) (disch := omega) only [go_sem, Int.reduceEq, Int.reduceLT, Int.reduceLE, Int.reduceToNat, Nat.reduceLT, Nat.reduceEqDiff, Nat.reduceAdd, Nat.reduceLeDiff, Nat.reduceSub, Nat.reduceMul, ↓reduceIte, reduceCtorEq, wrap_id, w_ite_ne, w_ite_lt, Nat.sub_zero, Nat.sub_self, ints_length, y5, y6, y7, ints_get, y8, Option.map_some, bds_length, bds_get, g2, bdv, q1, decide_true]
        refine ⟨by omega, by omega, by omega, by omega, ?_⟩
        exact Pub.of_eq rfl rfl
      by_cases q2 : (gB a.outs i).hi < (gB b.outs i).lo - 1
      · try simp (maxSteps := 500000) (disch := omega) only [go_sem, Int.reduceEq, Int.reduceLT, Int.reduceLE, Int.reduceToNat, Nat.reduceLT, Nat.reduceEqDiff, Nat.reduceAdd, Nat.reduceLeDiff, Nat.reduceSub, Nat.reduceMul, ↓reduceIte, reduceCtorEq, wrap_id, w_ite_ne, w_ite_lt, Nat.sub_zero, Nat.sub_self, ints_length, y5, y6, y7, ints_get, y8, Option.map_some, bds_length, bds_get, g2, bdv, q1, q2, decide_true, decide_false]
        refine ⟨by omega, by omega, by omega, by omega, by omega, by omega, ?_⟩
        exact Pub.of_eq rfl rfl
      try simp (maxSteps := 500000) (disch := omega) only [go_sem, Int.reduceEq, Int.reduceLT, Int.reduceLE, Int.reduceToNat, Nat.reduceLT, Nat.reduceEqDiff, Nat.reduceAdd, Nat.reduceLeDiff, Nat.reduceSub, Nat.reduceMul, ↓reduceIte, reduceCtorEq, wrap_id, w_ite_ne, w_ite_lt, Nat.sub_zero, Nat.sub_self, ints_length, y5, y6, y7, ints_get, y8, Option.map_some, bds_length, bds_get, g2, bdv, q1, q2, decide_false]
      refine ⟨by omega, by omega, by omega, by omega, by omega, by omega, ?_⟩
      obtain ⟨z, z1, z2, z3⟩ := byd ((gB b.outs i).lo - 1) (by simp only [inB]; omega) (by simp only [inB]; omega)
      have hF2 := ok_ledger_Fix a hok.l (3 : Nat) (a.fr + i) ⟨(gB b.outs i).lo - 1, (gB b.outs i).lo - 1⟩ (by omega) (by omega)
      rw [z1, show ((3 : Nat) : Int) = 2 + 1 from rfl] at hF2
      have hT2 := ok_ledger_Tighten z z2.l
      rw [z3] at hT2
      simp only [acv, bdv, acZ] at hF2 hT2
      refine call_pc hF2 (by simp [go_sem, bds_pur]) ?_
      try simp (maxSteps := 500000) (disch := omega) only [go_sem, Int.reduceEq, Int.reduceLT, Int.reduceLE, Int.reduceToNat, Nat.reduceLT, Nat.reduceEqDiff, Nat.reduceAdd, Nat.reduceLeDiff, Nat.reduceSub, Nat.reduceMul, ↓reduceIte, reduceCtorEq, wrap_id, w_ite_ne, w_ite_lt, Nat.sub_zero, Nat.sub_self]
      refine call_pc hT2 (by simp [go_sem, bds_pur]) ?_
      try simp (maxSteps := 500000) (disch := omega) only [go_sem, Int.reduceEq, Int.reduceLT, Int.reduceLE, Int.reduceToNat, Nat.reduceLT, Nat.reduceEqDiff, Nat.reduceAdd, Nat.reduceLeDiff, Nat.reduceSub, Nat.reduceMul, ↓reduceIte, reduceCtorEq, wrap_id, w_ite_ne, w_ite_lt, Nat.sub_zero, Nat.sub_self]
      exact Pub.of_eq rfl rfl
theorem law_law30_LedgerTwice {c0 : List AV} (s0 : (Sh.slice 1 (.int .i64)).R c0) : PC prog n_law30_LedgerTwice [(Sh.slice 1 (.int .i64)).mk1 c0] (.bool true) := by
  obtain ⟨l0, rfl, _, _⟩ := shInts s0
  exact ok_law30_LedgerTwice l0
theorem law_law30_LedgerSharp {c0 c1 c2 c3 : List AV} (s0 : (Sh.slice 1 (.int .i64)).R c0) (s1 : (Sh.int .u8).R c1) (s2 : (Sh.int .u8).R c2) (s3 : Sh.bool.R c3) : PC prog n_law30_LedgerSharp [(Sh.slice 1 (.int .i64)).mk1 c0, (Sh.int .u8).mk1 c1, (Sh.int .u8).mk1 c2, Sh.bool.mk1 c3] (.bool true) := by
  obtain ⟨l0, rfl, _, _⟩ := shInts s0
  obtain ⟨a1, rfl, w1⟩ := s1
  obtain ⟨a2, rfl, w2⟩ := s2
  obtain ⟨a3, rfl⟩ := s3
  exact ok_law30_LedgerSharp l0 a1 a2 a3 (wf_u8 w1) (wf_u8 w2)
end Go.Proofs.Try
