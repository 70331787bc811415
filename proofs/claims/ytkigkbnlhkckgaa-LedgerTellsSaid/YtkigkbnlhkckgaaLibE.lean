/-
  OWN WORK, put together by tools/asm.py: what functions do.
-/
import Derived.Test.YtkigkbnlhkckgaaLibD
set_option linter.unusedSimpArgs false
set_option linter.unusedVariables false
set_option maxRecDepth 100000
set_option maxHeartbeats 1000000
namespace Go.Proofs.Try
open Go.Ab Go
def sA : Ac := ⟨0, [⟨100, 100⟩, ⟨90, 120⟩], [⟨10, 30⟩], [⟨0, 5⟩]⟩
def sT : Ac := ⟨0, [⟨100, 100⟩, ⟨105, 120⟩], [⟨10, 25⟩], [⟨0, 5⟩]⟩
theorem sA_t : tightS sA = (sT, 0) := by rfl
theorem sA_f : firstS sA = (([100, 105], [10], [5]), 0) := by rfl
theorem sA_c : chk sA = 0 := by rfl
theorem sA_h : holdsS sA [100, 105] [10] [5] = true := by rfl
theorem sA_l : AcL sA := by simp [AcL, sA]
theorem ok_law30_sane : PC prog n_law30_sane [] (.bool true) := by
  refine PC_of_body b_law30_sane (by simp) ?_
  simp only [c_law30_sane, go_sem, Int.reduceEq, Int.reduceLT, Int.reduceLE, Int.reduceToNat, Nat.reduceLT, Nat.reduceEqDiff, Nat.reduceAdd, Nat.reduceLeDiff, Nat.reduceSub, Nat.reduceMul, ↓reduceIte, reduceCtorEq, w_app_nl]
  have h1 := ok_ledger_Tighten sA sA_l
  have h2 := ok_ledger_First sA sA_l
  have h3 := ok_ledger_Holds sA sA_l [100, 105] [10] [5]
  have h4 := ok_ledger_Check sA sA_l
  rw [sA_t] at h1
  rw [sA_f] at h2
  rw [sA_h] at h3
  rw [sA_c] at h4
  simp only [sA, sT, acv, bds, ints, bdv, List.map_cons, List.map_nil] at h1 h2 h3 h4
  refine call_pc h1 (by simp [go_sem]) ?_
  try simp (maxSteps := 500000) (disch := omega) only [go_sem, Int.reduceEq, Int.reduceLT, Int.reduceLE, Int.reduceToNat, Nat.reduceLT, Nat.reduceEqDiff, Nat.reduceAdd, Nat.reduceLeDiff, Nat.reduceSub, Nat.reduceMul, ↓reduceIte, reduceCtorEq, wrap_id, w_ite_ne, w_ite_lt, Nat.sub_zero, Nat.sub_self]
  refine call_pc h2 (by simp [go_sem]) ?_
  try simp (maxSteps := 500000) (disch := omega) only [go_sem, Int.reduceEq, Int.reduceLT, Int.reduceLE, Int.reduceToNat, Nat.reduceLT, Nat.reduceEqDiff, Nat.reduceAdd, Nat.reduceLeDiff, Nat.reduceSub, Nat.reduceMul, ↓reduceIte, reduceCtorEq, wrap_id, w_ite_ne, w_ite_lt, Nat.sub_zero, Nat.sub_self]
  refine call_pc h3 (by simp [go_sem]) ?_
  try simp (maxSteps := 500000) (disch := omega) only [go_sem, Int.reduceEq, Int.reduceLT, Int.reduceLE, Int.reduceToNat, Nat.reduceLT, Nat.reduceEqDiff, Nat.reduceAdd, Nat.reduceLeDiff, Nat.reduceSub, Nat.reduceMul, ↓reduceIte, reduceCtorEq, wrap_id, w_ite_ne, w_ite_lt, Nat.sub_zero, Nat.sub_self]
  refine call_pc h4 (by simp [go_sem]) ?_
  try simp (maxSteps := 500000) (disch := omega) only [go_sem, Int.reduceEq, Int.reduceLT, Int.reduceLE, Int.reduceToNat, Nat.reduceLT, Nat.reduceEqDiff, Nat.reduceAdd, Nat.reduceLeDiff, Nat.reduceSub, Nat.reduceMul, ↓reduceIte, reduceCtorEq, wrap_id, w_ite_ne, w_ite_lt, Nat.sub_zero, Nat.sub_self]
  exact Pub.of_eq rfl rfl
/-- The account of an exact history of flows, and one exact stock. -/
def xB (S : List Int) (k : Int) (i : Nat) : Bd := if (i : Int) = k then ⟨S.getD i 0, S.getD i 0⟩ else ⟨0, 274877906944⟩
def xS (S : List Int) (k : Int) (m : Nat) : List Bd := mkL m (xB S k)
theorem gB_exL {L : List Int} {i : Nat} (h : i < L.length) : gB (exL L) i = ⟨L.getD i 0, L.getD i 0⟩ := by
  simp [gB, exL, List.getD_eq_getElem?_getD, h]
theorem exL_len (L : List Int) : (exL L).length = L.length := by simp [exL]
theorem mkL_eq {n : Nat} {f : Nat → Bd} {L : List Bd} (hl : L.length = n) (h : ∀ i, i < n → f i = gB L i) : mkL n f = L := by
  refine List.ext_getElem? fun i => ?_
  rcases Nat.lt_or_ge i n with hi | hi
  · rw [mkL_get f hi, h i hi, gB_get (by omega)]
  · rw [List.getElem?_eq_none (by simp [mkL]; exact hi), List.getElem?_eq_none (by omega)]
theorem exL_fit {L : List Int} (h : ∀ i, i < L.length → 0 ≤ L.getD i 0 ∧ L.getD i 0 ≤ 1000) : ∀ b ∈ exL L, fitB b := fun b hb => by
  obtain ⟨i, hi, rfl⟩ := List.mem_iff_getElem.1 hb
  rw [exL_len] at hi
  have h1 := h i hi
  simp only [exL, List.getElem_map, fitB, mxV]
  simp only [List.getD_eq_getElem?_getD, List.getElem?_eq_getElem hi, Option.getD_some] at h1
  omega
theorem exact_law {n : Nat} {S I O : List Int} (h : Hst n S I O) (h1 : 1 ≤ n) (h5 : n ≤ 5) {q : Nat} (hq : q ≤ n) :
    tightS ⟨0, xS S q (n + 1), exL I, exL O⟩ = (tgt ⟨0, xS S q (n + 1), exL I, exL O⟩, 0) ∧ (tgt ⟨0, xS S q (n + 1), exL I, exL O⟩).st = exL S := by
  have hS := h.ls
  have hI := h.li
  have hO := h.lo
  have gS : ∀ i, i ≤ n → gB (xS S q (n + 1)) i = xB S q i := fun i hi => gB_mk _ (by omega)
  have gI : ∀ i, i < n → gB (exL I) i = ⟨I.getD i 0, I.getD i 0⟩ := fun i hi => gB_exL (by omega)
  have gO : ∀ i, i < n → gB (exL O) i = ⟨O.getD i 0, O.getD i 0⟩ := fun i hi => gB_exL (by omega)
  have hl : (exL I).length = n := by rw [exL_len, hI]
  have hok : AcOK ⟨0, xS S q (n + 1), exL I, exL O⟩ := by
    refine ⟨by simp only [hl]; omega, by simp only [hl]; omega, by simp only [hl, exL_len, hO], by simp only [hl]; exact mkL_length _ _, by simp only; omega, by simp only [hl]; omega, fun b hb => ?_, exL_fit fun i hi => ?_, exL_fit fun i hi => ?_⟩
    · obtain ⟨i, hi, rfl⟩ := mkL_mem hb
      have := h.s i (by omega)
      unfold xB
      split <;> simp only [fitB, mxV] <;> omega
    · have := h.i i (by omega); omega
    · have := h.o i (by omega); omega
  have hhi : Hi (gB (xS S q (n + 1))) (gB (exL I)) (gB (exL O)) n (fun i => S.getD i 0) (fun i => I.getD i 0) (fun i => O.getD i 0) := by
    refine ⟨fun i hi => ?_, fun i hi => ?_, fun i hi => ?_, fun i hi => h.bal i hi⟩
    · rw [gS i hi]
      have := h.s i (by omega)
      unfold xB
      split <;> simp only [inB] <;> omega
    · rw [gI i hi]; simp only [inB]; omega
    · rw [gO i hi]; simp only [inB]; omega
  have hvd : VD (xS S q (n + 1)) (exL I) (exL O) n := fun i hi => hhi.vd.f i hi
  have hV := hhi.vd
  refine ⟨tightS_yes hok (by simp only [hl]; exact hvd), ?_⟩
  simp only [tgt, hl]
  refine mkL_eq (by rw [exL_len, hS]) fun i hi => ?_
  rw [gB_exL (by omega)]
  have key : ∀ v, inB (cB (xS S q (n + 1)) (exL I) (exL O) n i) v → v = S.getD i 0 := fun v hv => by
    obtain ⟨s, x, y, hs, rfl⟩ := hV.hiS (by omega) hv
    have hx : ∀ j, j ≤ n → s j - S.getD j 0 = s 0 - S.getD 0 0 := fun j => by
      induction j with
      | zero => intro _; rfl
      | succ j ih =>
        intro hj
        have a1 := ih (by omega)
        have a2 := hs.bal j (by omega)
        have a3 := h.bal j (by omega)
        have a4 := hs.ins j (by omega)
        have a5 := hs.outs j (by omega)
        rw [gI j (by omega)] at a4
        rw [gO j (by omega)] at a5
        simp only [inB] at a4 a5
        omega
    have h1 := hx q hq
    have h2 := hx i (by omega)
    have h3 := hs.st q hq
    rw [gS q hq] at h3
    simp only [xB, if_true, inB] at h3
    omega
  have hb := hV.B (i := i) (by omega)
  unfold cB at key ⊢
  have k1 := key _ ⟨Int.le_refl _, hb⟩
  have k2 := key _ ⟨hb, Int.le_refl _⟩
  generalize chB (gB (xS S q (n + 1))) (gB (exL I)) (gB (exL O)) n i = b at *
  obtain ⟨b1, b2⟩ := b
  simp only at k1 k2
  rw [k1, k2]
theorem ok_law30_LedgerExact (t : List Int) (at0 : Int) (ha : 0 ≤ at0 ∧ at0 ≤ 255) : PC prog n_law30_LedgerExact [.list 1 (ints t), .int .u8 at0] (.bool true) := by
  refine PC_of_body b_law30_LedgerExact (by simp) ?_
  simp only [c_law30_LedgerExact, go_sem, Int.reduceEq, Int.reduceLT, Int.reduceLE, Int.reduceToNat, Nat.reduceLT, Nat.reduceEqDiff, Nat.reduceAdd, Nat.reduceLeDiff, Nat.reduceSub, Nat.reduceMul, ↓reduceIte, reduceCtorEq, w_app_nl]
  try simp (maxSteps := 500000) (disch := omega) only [go_sem, Int.reduceEq, Int.reduceLT, Int.reduceLE, Int.reduceToNat, Nat.reduceLT, Nat.reduceEqDiff, Nat.reduceAdd, Nat.reduceLeDiff, Nat.reduceSub, Nat.reduceMul, ↓reduceIte, reduceCtorEq, wrap_id, w_ite_ne, w_ite_lt, Nat.sub_zero, Nat.sub_self]
  refine call_pc ok_law30_sane (by simp) ?_
  try simp (maxSteps := 500000) (disch := omega) only [go_sem, Int.reduceEq, Int.reduceLT, Int.reduceLE, Int.reduceToNat, Nat.reduceLT, Nat.reduceEqDiff, Nat.reduceAdd, Nat.reduceLeDiff, Nat.reduceSub, Nat.reduceMul, ↓reduceIte, reduceCtorEq, wrap_id, w_ite_ne, w_ite_lt, Nat.sub_zero, Nat.sub_self]
  refine call_pc (ok_mk_Few t) (by simp [go_sem]) ?_
  try simp (maxSteps := 500000) (disch := omega) only [go_sem, Int.reduceEq, Int.reduceLT, Int.reduceLE, Int.reduceToNat, Nat.reduceLT, Nat.reduceEqDiff, Nat.reduceAdd, Nat.reduceLeDiff, Nat.reduceSub, Nat.reduceMul, ↓reduceIte, reduceCtorEq, wrap_id, w_ite_ne, w_ite_lt, Nat.sub_zero, Nat.sub_self]
  cases hfew : fewB t
  · try simp (maxSteps := 500000) (disch := omega) only [go_sem, Int.reduceEq, Int.reduceLT, Int.reduceLE, Int.reduceToNat, Nat.reduceLT, Nat.reduceEqDiff, Nat.reduceAdd, Nat.reduceLeDiff, Nat.reduceSub, Nat.reduceMul, ↓reduceIte, reduceCtorEq, wrap_id, w_ite_ne, w_ite_lt, Nat.sub_zero, Nat.sub_self]
    exact Pub.of_eq rfl rfl
  have hlt : t.length ≤ 9223372036854775807 := by simp [fewB] at hfew; omega
  try simp (maxSteps := 500000) (disch := omega) only [go_sem, Int.reduceEq, Int.reduceLT, Int.reduceLE, Int.reduceToNat, Nat.reduceLT, Nat.reduceEqDiff, Nat.reduceAdd, Nat.reduceLeDiff, Nat.reduceSub, Nat.reduceMul, ↓reduceIte, reduceCtorEq, wrap_id, w_ite_ne, w_ite_lt, Nat.sub_zero, Nat.sub_self]
  refine call_hc (ok_mk_New _ t) ?_
  try simp (maxSteps := 500000) (disch := omega) only [go_sem, Int.reduceEq, Int.reduceLT, Int.reduceLE, Int.reduceToNat, Nat.reduceLT, Nat.reduceEqDiff, Nat.reduceAdd, Nat.reduceLeDiff, Nat.reduceSub, Nat.reduceMul, ↓reduceIte, reduceCtorEq, wrap_id, w_ite_ne, w_ite_lt, Nat.sub_zero, Nat.sub_self]
  refine (hc_flow_History _ 0 0 t 0 hlt (by simp only [St.push]; omega) (by try simp (maxSteps := 500000) (disch := omega) only [go_sem, Int.reduceEq, Int.reduceLT, Int.reduceLE, Int.reduceToNat, Nat.reduceLT, Nat.reduceEqDiff, Nat.reduceAdd, Nat.reduceLeDiff, Nat.reduceSub, Nat.reduceMul, ↓reduceIte, reduceCtorEq, wrap_id, w_ite_ne, w_ite_lt, Nat.sub_zero, Nat.sub_self])).mono ?_
  intro r τ hD
  obtain ⟨⟨n, S, I, O, rfl, hH, hn1, hn5⟩, hn, ⟨at1, hd⟩, hf⟩ := hD.use (by simp only [St.push]; omega)
  obtain ⟨ob, m, c⟩ := τ
  simp only [St.push] at hn hd hf
  subst hn
  have hS := hH.ls
  have hI := hH.li
  have hO := hH.lo
  try simp (maxSteps := 500000) (disch := omega) only [go_sem, Int.reduceEq, Int.reduceLT, Int.reduceLE, Int.reduceToNat, Nat.reduceLT, Nat.reduceEqDiff, Nat.reduceAdd, Nat.reduceLeDiff, Nat.reduceSub, Nat.reduceMul, ↓reduceIte, reduceCtorEq, wrap_id, w_ite_ne, w_ite_lt, Nat.sub_zero, Nat.sub_self]
  refine call_pc (ok_law30_exact I (by omega)) (by simp [go_sem]) ?_
  try simp (maxSteps := 500000) (disch := omega) only [go_sem, Int.reduceEq, Int.reduceLT, Int.reduceLE, Int.reduceToNat, Nat.reduceLT, Nat.reduceEqDiff, Nat.reduceAdd, Nat.reduceLeDiff, Nat.reduceSub, Nat.reduceMul, ↓reduceIte, reduceCtorEq, wrap_id, w_ite_ne, w_ite_lt, Nat.sub_zero, Nat.sub_self]
  refine call_pc (ok_law30_exact O (by omega)) (by simp [go_sem]) ?_
  try simp (maxSteps := 500000) (disch := omega) only [go_sem, Int.reduceEq, Int.reduceLT, Int.reduceLE, Int.reduceToNat, Nat.reduceLT, Nat.reduceEqDiff, Nat.reduceAdd, Nat.reduceLeDiff, Nat.reduceSub, Nat.reduceMul, ↓reduceIte, reduceCtorEq, wrap_id, w_ite_ne, w_ite_lt, Nat.sub_zero, Nat.sub_self, ints_length]
  obtain ⟨q, hq⟩ : ∃ q : Nat, (q : Int) = at0 % ((n : Int) + 1) ∧ q ≤ n := by
    have h1 := Int.emod_nonneg at0 (show ((n : Int) + 1) ≠ 0 by omega)
    have h2 := Int.emod_lt_of_pos at0 (show 0 < ((n : Int) + 1) by omega)
    exact ⟨(at0 % ((n : Int) + 1)).toNat, by omega, by omega⟩
  obtain ⟨hq, hqn⟩ := hq
  rw [show (n : Int) + 1 = ((n + 1 : Nat) : Int) by omega] at hq
  refine awp_upG [9, 10, 11, 33, 34, 35, 36, 37, 38, 39, 40, 41, 42, 43, 44, 45, 46, 47, 48, 49, 50, 51, 52, 53, 54, 55] (by kernel_rfl) (n + 1) (fun k e σ => e 33 = .int .i64 k ∧ ∃ X, σ.ob 1 = some ⟨c, 4, 33, false, true, [.agg [.int .i64 0, X, .list 2 (bds (exL I)), .list 2 (bds (exL O))]]⟩ ∧ SlR 2 28 σ (bds (xS S q k)) X ∧ Oth X 1) ?_ ?_
  · refine ⟨(by first | ((try simp (maxSteps := 1000000) only [go_sem, Int.reduceEq, Int.reduceLT, Int.reduceLE, Int.reduceToNat, Nat.reduceLT, Nat.reduceEqDiff, Nat.reduceAdd, Nat.reduceLeDiff, Nat.reduceSub, Nat.reduceMul, ↓reduceIte, reduceCtorEq, w_app_nl]); done) | ((try simp (maxSteps := 1000000) only [go_sem, Int.reduceEq, Int.reduceLT, Int.reduceLE, Int.reduceToNat, Nat.reduceLT, Nat.reduceEqDiff, Nat.reduceAdd, Nat.reduceLeDiff, Nat.reduceSub, Nat.reduceMul, ↓reduceIte, reduceCtorEq, w_app_nl]); rfl) | ((try simp (maxSteps := 1000000) (disch := omega) only [go_sem, Int.reduceEq, Int.reduceLT, Int.reduceLE, Int.reduceToNat, Nat.reduceLT, Nat.reduceEqDiff, Nat.reduceAdd, Nat.reduceLeDiff, Nat.reduceSub, Nat.reduceMul, ↓reduceIte, reduceCtorEq, w_app_nl, wrap_id, w_ite_ne, w_ite_lt]); rfl) | (simp (maxSteps := 1000000) (disch := omega) only [go_sem, Int.reduceEq, Int.reduceLT, Int.reduceLE, Int.reduceToNat, Nat.reduceLT, Nat.reduceEqDiff, Nat.reduceAdd, Nat.reduceLeDiff, Nat.reduceSub, Nat.reduceMul, ↓reduceIte, reduceCtorEq, w_app_nl, wrap_id, w_ite_ne, w_ite_lt]; done)), .nil, (by first | ((try simp (maxSteps := 1000000) only [go_sem, Int.reduceEq, Int.reduceLT, Int.reduceLE, Int.reduceToNat, Nat.reduceLT, Nat.reduceEqDiff, Nat.reduceAdd, Nat.reduceLeDiff, Nat.reduceSub, Nat.reduceMul, ↓reduceIte, reduceCtorEq, w_app_nl]); done) | ((try simp (maxSteps := 1000000) only [go_sem, Int.reduceEq, Int.reduceLT, Int.reduceLE, Int.reduceToNat, Nat.reduceLT, Nat.reduceEqDiff, Nat.reduceAdd, Nat.reduceLeDiff, Nat.reduceSub, Nat.reduceMul, ↓reduceIte, reduceCtorEq, w_app_nl]); rfl) | ((try simp (maxSteps := 1000000) (disch := omega) only [go_sem, Int.reduceEq, Int.reduceLT, Int.reduceLE, Int.reduceToNat, Nat.reduceLT, Nat.reduceEqDiff, Nat.reduceAdd, Nat.reduceLeDiff, Nat.reduceSub, Nat.reduceMul, ↓reduceIte, reduceCtorEq, w_app_nl, wrap_id, w_ite_ne, w_ite_lt]); rfl) | (simp (maxSteps := 1000000) (disch := omega) only [go_sem, Int.reduceEq, Int.reduceLT, Int.reduceLE, Int.reduceToNat, Nat.reduceLT, Nat.reduceEqDiff, Nat.reduceAdd, Nat.reduceLeDiff, Nat.reduceSub, Nat.reduceMul, ↓reduceIte, reduceCtorEq, w_app_nl, wrap_id, w_ite_ne, w_ite_lt]; done)), SlR.nil, Oth.nil _⟩
  rintro k fe ob2 m2 c2 hk hm ⟨h33, X, h1, hR, hx1⟩
  simp (maxSteps := 1000000) only [go_sem, Int.reduceEq, Int.reduceLT, Int.reduceLE, Int.reduceToNat, Nat.reduceLT, Nat.reduceEqDiff, Nat.reduceAdd, Nat.reduceLeDiff, Nat.reduceSub, Nat.reduceMul, ↓reduceIte, reduceCtorEq, w_app_nl] at h33 h1 hR hm
  try simp (maxSteps := 500000) (disch := omega) only [go_sem, Int.reduceEq, Int.reduceLT, Int.reduceLE, Int.reduceToNat, Nat.reduceLT, Nat.reduceEqDiff, Nat.reduceAdd, Nat.reduceLeDiff, Nat.reduceSub, Nat.reduceMul, ↓reduceIte, reduceCtorEq, wrap_id, w_ite_ne, w_ite_lt, Nat.sub_zero, Nat.sub_self, h33, hS]
  refine cond_d (fun hlt => ?_) (fun hge => ?_)
  · have hkl : k < n + 1 := by omega
    have e1 := get_getD (L := S) (i := k) (by omega)
    have hsk := hH.s k (by omega)
    have hsn : mkL (k + 1) (xB S q) = mkL k (xB S q) ++ [xB S q k] := mkL_snoc k _
    have z1 : ¬ 1 = m2 := by omega
    have z2 : ¬ m2 = 1 := by omega
    try simp (maxSteps := 500000) (disch := omega) only [go_sem, Int.reduceEq, Int.reduceLT, Int.reduceLE, Int.reduceToNat, Nat.reduceLT, Nat.reduceEqDiff, Nat.reduceAdd, Nat.reduceLeDiff, Nat.reduceSub, Nat.reduceMul, ↓reduceIte, reduceCtorEq, wrap_id, w_ite_ne, w_ite_lt, Nat.sub_zero, Nat.sub_self, h33, hS, ints_length, ints_get, e1, Option.map_some]
    refine ⟨by omega, by omega, by omega, ?_⟩
    rw [Int.tmod_eq_emod_of_nonneg ha.1, ← hq]
    refine cond_d (fun hkq => ?_) (fun hkq => ?_)
    · have hxq : xB S q k = ⟨S.getD k 0, S.getD k 0⟩ := by rw [xB, if_pos hkq]
      rw [hxq] at hsn
      try simp (maxSteps := 500000) (disch := omega) only [go_sem, Int.reduceEq, Int.reduceLT, Int.reduceLE, Int.reduceToNat, Nat.reduceLT, Nat.reduceEqDiff, Nat.reduceAdd, Nat.reduceLeDiff, Nat.reduceSub, Nat.reduceMul, ↓reduceIte, reduceCtorEq, wrap_id, w_ite_ne, w_ite_lt, Nat.sub_zero, Nat.sub_self, z1, z2, h1]
      refine app_slr (b := 16) (hR.move (by simp only; omega) fun i hi _ => ?_) (by rw [bds_length, xS, mkL_length]; omega) (by rw [bds_length, xS, mkL_length]; omega) fun X2 τ2 hR2 hK2 => ?_
      · simp only at hi ⊢
        rw [upd_ne _ _ _ _ (by omega), upd_ne _ _ _ _ (by omega), upd_ne _ _ _ _ (by omega)]
      have hn2 := hK2.1
      have r1 := hK2.2.1 1 (by simp only; omega) hx1
      have o1 := hK2.2.2 1 (by simp only; omega) hx1
      simp only at r1 hn2
      try simp (maxSteps := 500000) (disch := omega) only [go_sem, Int.reduceEq, Int.reduceLT, Int.reduceLE, Int.reduceToNat, Nat.reduceLT, Nat.reduceEqDiff, Nat.reduceAdd, Nat.reduceLeDiff, Nat.reduceSub, Nat.reduceMul, ↓reduceIte, reduceCtorEq, wrap_id, w_ite_ne, w_ite_lt, Nat.sub_zero, Nat.sub_self, z1, h1] at r1
      try simp (maxSteps := 500000) (disch := omega) only [go_sem, Int.reduceEq, Int.reduceLT, Int.reduceLE, Int.reduceToNat, Nat.reduceLT, Nat.reduceEqDiff, Nat.reduceAdd, Nat.reduceLeDiff, Nat.reduceSub, Nat.reduceMul, ↓reduceIte, reduceCtorEq, wrap_id, w_ite_ne, w_ite_lt, Nat.sub_zero, Nat.sub_self, h33, hR2.flat, hR2.one, hR2.cells, r1]
      refine up_nextG τ2.n hkl (by omega) ⟨(by first | ((try simp (maxSteps := 1000000) only [go_sem, Int.reduceEq, Int.reduceLT, Int.reduceLE, Int.reduceToNat, Nat.reduceLT, Nat.reduceEqDiff, Nat.reduceAdd, Nat.reduceLeDiff, Nat.reduceSub, Nat.reduceMul, ↓reduceIte, reduceCtorEq, w_app_nl]); done) | ((try simp (maxSteps := 1000000) only [go_sem, Int.reduceEq, Int.reduceLT, Int.reduceLE, Int.reduceToNat, Nat.reduceLT, Nat.reduceEqDiff, Nat.reduceAdd, Nat.reduceLeDiff, Nat.reduceSub, Nat.reduceMul, ↓reduceIte, reduceCtorEq, w_app_nl]); rfl) | ((try simp (maxSteps := 1000000) (disch := omega) only [go_sem, Int.reduceEq, Int.reduceLT, Int.reduceLE, Int.reduceToNat, Nat.reduceLT, Nat.reduceEqDiff, Nat.reduceAdd, Nat.reduceLeDiff, Nat.reduceSub, Nat.reduceMul, ↓reduceIte, reduceCtorEq, w_app_nl, wrap_id, w_ite_ne, w_ite_lt]); rfl) | (simp (maxSteps := 1000000) (disch := omega) only [go_sem, Int.reduceEq, Int.reduceLT, Int.reduceLE, Int.reduceToNat, Nat.reduceLT, Nat.reduceEqDiff, Nat.reduceAdd, Nat.reduceLeDiff, Nat.reduceSub, Nat.reduceMul, ↓reduceIte, reduceCtorEq, w_app_nl, wrap_id, w_ite_ne, w_ite_lt]; done)), X2, ?_, ?_, ?_⟩
      · simp only [St.trunc, St.put]; rw [if_pos (by omega), upd_same]
      · try simp (maxSteps := 500000) (disch := omega) only [go_sem, Int.reduceEq, Int.reduceLT, Int.reduceLE, Int.reduceToNat, Nat.reduceLT, Nat.reduceEqDiff, Nat.reduceAdd, Nat.reduceLeDiff, Nat.reduceSub, Nat.reduceMul, ↓reduceIte, reduceCtorEq, wrap_id, w_ite_ne, w_ite_lt, Nat.sub_zero, Nat.sub_self, xS, hsn, bds_snoc]
        refine hR2.move (Nat.le_refl _) fun i hi hno => ?_
        have : ¬ i = 1 := fun e => hno (e ▸ o1)
        simp only [St.trunc, St.put]; rw [if_pos hi, upd_ne _ _ _ _ this]
      · exact o1
    · have hxq : xB S q k = ⟨0, 274877906944⟩ := by rw [xB, if_neg hkq]
      rw [hxq] at hsn
      try simp (maxSteps := 500000) (disch := omega) only [go_sem, Int.reduceEq, Int.reduceLT, Int.reduceLE, Int.reduceToNat, Nat.reduceLT, Nat.reduceEqDiff, Nat.reduceAdd, Nat.reduceLeDiff, Nat.reduceSub, Nat.reduceMul, ↓reduceIte, reduceCtorEq, wrap_id, w_ite_ne, w_ite_lt, Nat.sub_zero, Nat.sub_self, z1, z2, h1]
      refine app_slr (b := 16) (hR.move (by simp only; omega) fun i hi _ => ?_) (by rw [bds_length, xS, mkL_length]; omega) (by rw [bds_length, xS, mkL_length]; omega) fun X2 τ2 hR2 hK2 => ?_
      · simp only at hi ⊢
        rw [upd_ne _ _ _ _ (by omega), upd_ne _ _ _ _ (by omega)]
      have hn2 := hK2.1
      have r1 := hK2.2.1 1 (by simp only; omega) hx1
      have o1 := hK2.2.2 1 (by simp only; omega) hx1
      simp only at r1 hn2
      try simp (maxSteps := 500000) (disch := omega) only [go_sem, Int.reduceEq, Int.reduceLT, Int.reduceLE, Int.reduceToNat, Nat.reduceLT, Nat.reduceEqDiff, Nat.reduceAdd, Nat.reduceLeDiff, Nat.reduceSub, Nat.reduceMul, ↓reduceIte, reduceCtorEq, wrap_id, w_ite_ne, w_ite_lt, Nat.sub_zero, Nat.sub_self, z1, h1] at r1
      try simp (maxSteps := 500000) (disch := omega) only [go_sem, Int.reduceEq, Int.reduceLT, Int.reduceLE, Int.reduceToNat, Nat.reduceLT, Nat.reduceEqDiff, Nat.reduceAdd, Nat.reduceLeDiff, Nat.reduceSub, Nat.reduceMul, ↓reduceIte, reduceCtorEq, wrap_id, w_ite_ne, w_ite_lt, Nat.sub_zero, Nat.sub_self, h33, hR2.flat, hR2.one, hR2.cells, r1]
      refine up_nextG τ2.n hkl (by omega) ⟨(by first | ((try simp (maxSteps := 1000000) only [go_sem, Int.reduceEq, Int.reduceLT, Int.reduceLE, Int.reduceToNat, Nat.reduceLT, Nat.reduceEqDiff, Nat.reduceAdd, Nat.reduceLeDiff, Nat.reduceSub, Nat.reduceMul, ↓reduceIte, reduceCtorEq, w_app_nl]); done) | ((try simp (maxSteps := 1000000) only [go_sem, Int.reduceEq, Int.reduceLT, Int.reduceLE, Int.reduceToNat, Nat.reduceLT, Nat.reduceEqDiff, Nat.reduceAdd, Nat.reduceLeDiff, Nat.reduceSub, Nat.reduceMul, ↓reduceIte, reduceCtorEq, w_app_nl]); rfl) | ((try simp (maxSteps := 1000000) (disch := omega) only [go_sem, Int.reduceEq, Int.reduceLT, Int.reduceLE, Int.reduceToNat, Nat.reduceLT, Nat.reduceEqDiff, Nat.reduceAdd, Nat.reduceLeDiff, Nat.reduceSub, Nat.reduceMul, ↓reduceIte, reduceCtorEq, w_app_nl, wrap_id, w_ite_ne, w_ite_lt]); rfl) | (simp (maxSteps := 1000000) (disch := omega) only [go_sem, Int.reduceEq, Int.reduceLT, Int.reduceLE, Int.reduceToNat, Nat.reduceLT, Nat.reduceEqDiff, Nat.reduceAdd, Nat.reduceLeDiff, Nat.reduceSub, Nat.reduceMul, ↓reduceIte, reduceCtorEq, w_app_nl, wrap_id, w_ite_ne, w_ite_lt]; done)), X2, ?_, ?_, ?_⟩
      · simp only [St.trunc, St.put]; rw [if_pos (by omega), upd_same]
      · try simp (maxSteps := 500000) (disch := omega) only [go_sem, Int.reduceEq, Int.reduceLT, Int.reduceLE, Int.reduceToNat, Nat.reduceLT, Nat.reduceEqDiff, Nat.reduceAdd, Nat.reduceLeDiff, Nat.reduceSub, Nat.reduceMul, ↓reduceIte, reduceCtorEq, wrap_id, w_ite_ne, w_ite_lt, Nat.sub_zero, Nat.sub_self, xS, hsn, bds_snoc]
        refine hR2.move (Nat.le_refl _) fun i hi hno => ?_
        have : ¬ i = 1 := fun e => hno (e ▸ o1)
        simp only [St.trunc, St.put]; rw [if_pos hi, upd_ne _ _ _ _ this]
      · exact o1
  · obtain rfl : n + 1 = k := by omega
    try simp (maxSteps := 500000) (disch := omega) only [go_sem, Int.reduceEq, Int.reduceLT, Int.reduceLE, Int.reduceToNat, Nat.reduceLT, Nat.reduceEqDiff, Nat.reduceAdd, Nat.reduceLeDiff, Nat.reduceSub, Nat.reduceMul, ↓reduceIte, reduceCtorEq, wrap_id, w_ite_ne, w_ite_lt, Nat.sub_zero, Nat.sub_self, h1]
    have hlaw := exact_law hH hn1 hn5 hqn
    generalize hA : (⟨0, xS S q (n + 1), exL I, exL O⟩ : Ac) = A at *
    have hT := ok_ledger_Tighten A (by subst hA; simp [AcL, exL_len, xS, mkL_length]; omega)
    rw [hlaw.1] at hT
    refine call_ro (fun i => decide (i = 1)) hT (.cons ?_ .nil) (by simp [go_sem, acv, bds_pur]) ?_
    · subst hA
      exact Pub.ag (.cons (.pure rfl) (.cons (hR.pub (fun i _ hno => by
        have : ¬ i = 1 := fun e => hno (e ▸ hx1)
        simp [this]) (bds_pur _) (bds_ok _)) (.cons (.pure (by simp [go_sem, bds_pur])) (.cons (.pure (by simp [go_sem, bds_pur])) .nil))))
    try simp (maxSteps := 500000) (disch := omega) only [go_sem, Int.reduceEq, Int.reduceLT, Int.reduceLE, Int.reduceToNat, Nat.reduceLT, Nat.reduceEqDiff, Nat.reduceAdd, Nat.reduceLeDiff, Nat.reduceSub, Nat.reduceMul, ↓reduceIte, reduceCtorEq, wrap_id, w_ite_ne, w_ite_lt, Nat.sub_zero, Nat.sub_self, acv]
    refine call_pc (ok_law30_exact S (by omega)) (by simp [go_sem]) ?_
    try simp (maxSteps := 500000) (disch := omega) only [go_sem, Int.reduceEq, Int.reduceLT, Int.reduceLE, Int.reduceToNat, Nat.reduceLT, Nat.reduceEqDiff, Nat.reduceAdd, Nat.reduceLeDiff, Nat.reduceSub, Nat.reduceMul, ↓reduceIte, reduceCtorEq, wrap_id, w_ite_ne, w_ite_lt, Nat.sub_zero, Nat.sub_self]
    have hT1 : (tgt A).st.length = n + 1 := by rw [hlaw.2, exL_len, hS]
    refine call_pc (ok_ref30_SameBounds (tgt A).st (exL S) (by omega)) (by simp [go_sem, bds_pur]) ?_
    try simp (maxSteps := 500000) (disch := omega) only [go_sem, Int.reduceEq, Int.reduceLT, Int.reduceLE, Int.reduceToNat, Nat.reduceLT, Nat.reduceEqDiff, Nat.reduceAdd, Nat.reduceLeDiff, Nat.reduceSub, Nat.reduceMul, ↓reduceIte, reduceCtorEq, wrap_id, w_ite_ne, w_ite_lt, Nat.sub_zero, Nat.sub_self]
    rw [hlaw.2]
    exact Pub.of_eq (by simp) rfl
theorem gB_set {L : List Bd} {i j : Nat} {b : Bd} (hi : i < L.length) : gB (L.set i b) j = if j = i then b else gB L j := by
  simp only [gB, List.getD_eq_getElem?_getD, List.getElem?_set]
  by_cases e : i = j
  · subst e; simp [hi]
  · rw [if_neg e, if_neg fun h => e h.symm]
/-- the f-th of three -/
def nth3 {α : Type} (f : Nat) (s x y : α) : α := if f = 1 then s else if f = 2 then x else y
def HiA (a : Ac) (n : Nat) (s x y : Nat → Int) : Prop := Hi (gB a.st) (gB a.ins) (gB a.outs) n s x y
theorem set_fitB {L : List Bd} {i : Nat} {b : Bd} (h : ∀ b ∈ L, fitB b) (hb : fitB b) : ∀ c ∈ L.set i b, fitB c := fun c hc => by
  rcases List.mem_or_eq_of_mem_set hc with h1 | rfl
  · exact h c h1
  · exact hb
theorem set_in {L : List Bd} {i n : Nat} {v : Int} {s : Nat → Int} (hi : i < L.length) (hL : L.length = n) (hv : inB (gB L i) v) :
    (∀ j, j < n → inB (gB (L.set i ⟨v, v⟩) j) (s j)) ↔ (∀ j, j < n → inB (gB L j) (s j)) ∧ s i = v := by
  constructor
  · intro h
    have h1 := h i (by omega)
    rw [gB_set hi, if_pos rfl] at h1
    simp only [inB] at h1
    refine ⟨fun j hj => ?_, by omega⟩
    have h2 := h j hj
    rw [gB_set hi] at h2
    split at h2
    · rename_i e; subst e; rw [show s j = v by omega]; exact hv
    · exact h2
  · rintro ⟨h1, h2⟩ j hj
    rw [gB_set hi]
    split
    · rename_i e; subst e; rw [h2]; simp [inB]
    · exact h1 j hj
/-- **A number of an account is fixed: what is left are the histories with that number.** -/
theorem fix_law {a : Ac} (h : AcOK a) {f i : Nat} (hf : f = 1 ∨ f = 2 ∨ f = 3) (hi : i < (fldL a f).length) {v : Int} (hv : inB (gB (fldL a f) i) v) :
    ∃ c, fixS a f (a.fr + i) ⟨v, v⟩ = (c, 0) ∧ AcOK c ∧ c.ins.length = a.ins.length ∧ ∀ s x y, HiA c a.ins.length s x y ↔ HiA a a.ins.length s x y ∧ nth3 f s x y i = v := by
  have hfit : fitB (gB (fldL a f) i) := by
    refine (?_ : ∀ b ∈ fldL a f, fitB b) _ (List.mem_of_getElem? (gB_get hi))
    rcases hf with rfl | rfl | rfl
    · exact h.bs
    · exact h.bi
    · exact h.bo
  have hvf : fitB ⟨v, v⟩ := by simp only [fitB, inB] at *; omega
  have hlen := h.ns
  have hlo := h.no
  refine ⟨setL a f ((fldL a f).set i ⟨v, v⟩), ?_, ?_, ?_, ?_⟩
  · unfold fixS
    rw [if_neg (by simp [chk_ok.2 h]), if_neg (by omega), show ((f : Nat) : Int).toNat = f by omega, if_neg (by omega), show (a.fr + (i : Int) - a.fr).toNat = i by omega]
    have : narB (gB (fldL a f) i) ⟨v, v⟩ = some ⟨v, v⟩ := by
      simp only [inB] at hv
      unfold narB
      rw [if_pos (by simp only; omega), meetB]
      simp only [Option.some.injEq, Bd.mk.injEq]
      omega
    rw [this]
  · rcases hf with rfl | rfl | rfl
    · exact ⟨h.n1, h.n2, h.no, by simp [setL, fldL, h.ns], h.f0, h.f1, set_fitB h.bs hvf, h.bi, h.bo⟩
    · refine ⟨?_, ?_, ?_, ?_, h.f0, ?_, h.bs, set_fitB h.bi hvf, h.bo⟩ <;> simp only [setL, fldL, if_true, if_false, List.length_set, reduceCtorEq, Nat.reduceEqDiff]
      · exact h.n1
      · exact h.n2
      · exact h.no
      · exact h.ns
      · exact h.f1
    · exact ⟨h.n1, h.n2, by simp [setL, fldL, h.no], h.ns, h.f0, h.f1, h.bs, h.bi, set_fitB h.bo hvf⟩
  · rcases hf with rfl | rfl | rfl <;> simp [setL, fldL]
  · intro s x y
    have con : ∀ {S X Y : Nat → Bd}, Hi S X Y a.ins.length s x y ↔ (∀ j, j < a.ins.length + 1 → inB (S j) (s j)) ∧ (∀ j, j < a.ins.length → inB (X j) (x j)) ∧ (∀ j, j < a.ins.length → inB (Y j) (y j)) ∧ ∀ j, j < a.ins.length → s (j + 1) = s j + x j - y j :=
      ⟨fun h => ⟨fun j hj => h.st j (by omega), h.ins, h.outs, h.bal⟩, fun h => ⟨fun j hj => h.1 j (by omega), h.2.1, h.2.2.1, h.2.2.2⟩⟩
    unfold HiA
    rw [con, con]
    rcases hf with rfl | rfl | rfl
    · have := set_in (s := s) hi h.ns hv
      simp only [setL, fldL, nth3, if_true] at this ⊢
      rw [this]
      constructor
      · rintro ⟨⟨h1, h2⟩, h3⟩; exact ⟨⟨h1, h3⟩, h2⟩
      · rintro ⟨⟨h1, h3⟩, h2⟩; exact ⟨⟨h1, h2⟩, h3⟩
    · have := set_in (s := x) hi rfl hv
      simp only [setL, fldL, nth3, if_true, if_false, Nat.reduceEqDiff] at this ⊢
      rw [this]
      constructor
      · rintro ⟨h0, ⟨h1, h2⟩, h3⟩; exact ⟨⟨h0, h1, h3⟩, h2⟩
      · rintro ⟨⟨h0, h1, h3⟩, h2⟩; exact ⟨h0, ⟨h1, h2⟩, h3⟩
    · have := set_in (s := y) hi h.no hv
      simp only [setL, fldL, nth3, if_false, Nat.reduceEqDiff] at this ⊢
      rw [this]
      constructor
      · rintro ⟨h0, h00, ⟨h1, h2⟩, h3⟩; exact ⟨⟨h0, h00, h1, h3⟩, h2⟩
      · rintro ⟨⟨h0, h00, h1, h3⟩, h2⟩; exact ⟨h0, h00, ⟨h1, h2⟩, h3⟩
abbrev Ac.tg (a : Ac) : Ac := tgt a
theorem HiA.vd {a : Ac} {s x y : Nat → Int} (h : HiA a a.ins.length s x y) : VD a.st a.ins a.outs a.ins.length := fun i hi => (Hi.vd h).f i hi
theorem tgt_len (a : Ac) : (tgt a).ins.length = a.ins.length := mkL_length _ _
theorem HiA.tgt {a : Ac} {s x y : Nat → Int} (h : HiA a a.ins.length s x y) : HiA (tgt a) a.ins.length s x y := by
  have h1 := Hi.left h
  exact ⟨fun i hi => by rw [tgt_st hi]; exact h1.st i hi, fun i hi => by rw [tgt_ins hi]; exact h1.ins i hi, fun i hi => by rw [tgt_outs hi]; exact h1.outs i hi, h1.bal⟩
theorem HiA.of_tgt {a : Ac} {s x y : Nat → Int} (h : HiA (Ac.tg a) a.ins.length s x y) : HiA a a.ins.length s x y := by
  refine Hi.of_left ⟨fun i hi => ?_, fun i hi => ?_, fun i hi => ?_, h.bal⟩
  · have := h.st i hi; rw [tgt_st hi] at this; exact this
  · have := h.ins i hi; rw [tgt_ins hi] at this; exact this
  · have := h.outs i hi; rw [tgt_outs hi] at this; exact this
/-- What is drawn is a history of the account. -/
theorem Drn.hi {a : Ac} {n : Nat} {S I O : List Int} (h : Drn a n S I O) : a.ins.length = n ∧ HiA a n (fun i => S.getD i 0) (fun i => I.getD i 0) (fun i => O.getD i 0) := by
  have h1 := h.h.ls
  have h2 := h.h.li
  have h3 := h.h.lo
  refine ⟨by rw [h.i.ln, h2], fun i hi => ?_, fun i hi => ?_, fun i hi => ?_, h.h.bal⟩
  · have := h.s.b i (by omega); exact ⟨this.2.1, this.2.2.1⟩
  · have := h.i.b i (by omega); exact ⟨this.2.1, this.2.2.1⟩
  · have := h.o.b i (by omega); exact ⟨this.2.1, this.2.2.1⟩
theorem mod3 {x : Int} (h : 0 ≤ x) : x.tmod 3 = 0 ∨ x.tmod 3 = 1 ∨ x.tmod 3 = 2 := by
  rw [Int.tmod_eq_emod_of_nonneg h]
  have := Int.emod_nonneg x (show (3 : Int) ≠ 0 by omega)
  have := Int.emod_lt_of_pos x (show (0 : Int) < 3 by omega)
  omega
theorem modN {x : Int} (h : 0 ≤ x) {n : Nat} (hn : 1 ≤ n) : ∃ i : Nat, x.tmod (n : Int) = i ∧ i < n := by
  rw [Int.tmod_eq_emod_of_nonneg h]
  have h1 := Int.emod_nonneg x (show (n : Int) ≠ 0 by omega)
  have h2 := Int.emod_lt_of_pos x (show (0 : Int) < n by omega)
  exact ⟨(x % (n : Int)).toNat, by omega, by omega⟩
theorem AcOK.l {a : Ac} (h : AcOK a) : AcL a := by
  have := h.n2; have := h.no; have := h.ns
  exact ⟨by omega, by omega, by omega⟩
theorem ok_law30_LedgerTrue (t : List Int) (field time : Int) (hf0 : 0 ≤ field ∧ field ≤ 255) (ht0 : 0 ≤ time ∧ time ≤ 255) : PC prog n_law30_LedgerTrue [.list 1 (ints t), .int .u8 field, .int .u8 time] (.bool true) := by
  refine PC_of_body b_law30_LedgerTrue (by simp) ?_
  simp only [c_law30_LedgerTrue, go_sem, Int.reduceEq, Int.reduceLT, Int.reduceLE, Int.reduceToNat, Nat.reduceLT, Nat.reduceEqDiff, Nat.reduceAdd, Nat.reduceLeDiff, Nat.reduceSub, Nat.reduceMul, ↓reduceIte, reduceCtorEq, w_app_nl]
  try simp (maxSteps := 500000) (disch := omega) only [go_sem, Int.reduceEq, Int.reduceLT, Int.reduceLE, Int.reduceToNat, Nat.reduceLT, Nat.reduceEqDiff, Nat.reduceAdd, Nat.reduceLeDiff, Nat.reduceSub, Nat.reduceMul, ↓reduceIte, reduceCtorEq, wrap_id, w_ite_ne, w_ite_lt, Nat.sub_zero, Nat.sub_self]
  refine call_pc ok_law30_sane (by simp) ?_
  try simp (maxSteps := 500000) (disch := omega) only [go_sem, Int.reduceEq, Int.reduceLT, Int.reduceLE, Int.reduceToNat, Nat.reduceLT, Nat.reduceEqDiff, Nat.reduceAdd, Nat.reduceLeDiff, Nat.reduceSub, Nat.reduceMul, ↓reduceIte, reduceCtorEq, wrap_id, w_ite_ne, w_ite_lt, Nat.sub_zero, Nat.sub_self]
  refine call_pc (ok_mk_Few t) (by simp [go_sem]) ?_
  try simp (maxSteps := 500000) (disch := omega) only [go_sem, Int.reduceEq, Int.reduceLT, Int.reduceLE, Int.reduceToNat, Nat.reduceLT, Nat.reduceEqDiff, Nat.reduceAdd, Nat.reduceLeDiff, Nat.reduceSub, Nat.reduceMul, ↓reduceIte, reduceCtorEq, wrap_id, w_ite_ne, w_ite_lt, Nat.sub_zero, Nat.sub_self]
  cases hfew : fewB t
  · try simp (maxSteps := 500000) (disch := omega) only [go_sem, Int.reduceEq, Int.reduceLT, Int.reduceLE, Int.reduceToNat, Nat.reduceLT, Nat.reduceEqDiff, Nat.reduceAdd, Nat.reduceLeDiff, Nat.reduceSub, Nat.reduceMul, ↓reduceIte, reduceCtorEq, wrap_id, w_ite_ne, w_ite_lt, Nat.sub_zero, Nat.sub_self]
    exact Pub.of_eq rfl rfl
  have hlt : t.length ≤ 9223372036854775807 := by simp [fewB] at hfew; omega
  try simp (maxSteps := 500000) (disch := omega) only [go_sem, Int.reduceEq, Int.reduceLT, Int.reduceLE, Int.reduceToNat, Nat.reduceLT, Nat.reduceEqDiff, Nat.reduceAdd, Nat.reduceLeDiff, Nat.reduceSub, Nat.reduceMul, ↓reduceIte, reduceCtorEq, wrap_id, w_ite_ne, w_ite_lt, Nat.sub_zero, Nat.sub_self]
  refine call_hc (ok_mk_New _ t) ?_
  try simp (maxSteps := 500000) (disch := omega) only [go_sem, Int.reduceEq, Int.reduceLT, Int.reduceLE, Int.reduceToNat, Nat.reduceLT, Nat.reduceEqDiff, Nat.reduceAdd, Nat.reduceLeDiff, Nat.reduceSub, Nat.reduceMul, ↓reduceIte, reduceCtorEq, wrap_id, w_ite_ne, w_ite_lt, Nat.sub_zero, Nat.sub_self]
  refine (deck_flow_Account _ 0 0 t 0 hlt (by simp only [St.push]; omega) (by try simp (maxSteps := 500000) (disch := omega) only [go_sem, Int.reduceEq, Int.reduceLT, Int.reduceLE, Int.reduceToNat, Nat.reduceLT, Nat.reduceEqDiff, Nat.reduceAdd, Nat.reduceLeDiff, Nat.reduceSub, Nat.reduceMul, ↓reduceIte, reduceCtorEq, wrap_id, w_ite_ne, w_ite_lt, Nat.sub_zero, Nat.sub_self])).mono ?_
  intro r τ hD
  obtain ⟨⟨a, n, S, I, O, rfl, hA⟩, hn, ⟨at1, hd⟩, hf⟩ := hD.use (by simp only [St.push]; omega)
  obtain ⟨ob, m, c⟩ := τ
  simp only [St.push] at hn hd hf
  subst hn
  have hS := hA.h.ls
  have hI := hA.h.li
  have hO := hA.h.lo
  have hn1 := hA.n1
  have hn5 := hA.n5
  obtain ⟨han, hH⟩ := hA.hi
  have hok := hA.lse.ok
  have ha0 := hok.f0
  have ha1 := hok.f1
  have hls := hok.ns
  have hlo := hok.no
  clear hD hA
  subst han
  have hT := ok_ledger_Tighten a hok.l
  rw [tightS_yes hok hH.vd] at hT
  have hok2 := tgt_ok hok hH.vd
  have hl2 := tgt_len a
  have hH2 := hH.tgt
  have c1 : holdsS a S I O = true := holdsS_iff.2 ⟨hok, hS, hI, hO, hH⟩
  have c2 : holdsS (tgt a) S I O = true := holdsS_iff.2 ⟨hok2, by omega, by omega, by omega, by rw [hl2]; exact hH2⟩
  have c1' := ok_ledger_Holds a hok.l S I O
  have c2' := ok_ledger_Holds (tgt a) hok2.l S I O
  rw [c1] at c1'
  rw [c2] at c2'
  have hfr : (tgt a).fr = a.fr := rfl
  have hls2 := hok2.ns
  have hlo2 := hok2.no
  generalize tgt a = b at *
  simp only [acv] at hT c1' c2'
  try simp (maxSteps := 500000) (disch := omega) only [go_sem, Int.reduceEq, Int.reduceLT, Int.reduceLE, Int.reduceToNat, Nat.reduceLT, Nat.reduceEqDiff, Nat.reduceAdd, Nat.reduceLeDiff, Nat.reduceSub, Nat.reduceMul, ↓reduceIte, reduceCtorEq, wrap_id, w_ite_ne, w_ite_lt, Nat.sub_zero, Nat.sub_self, acv]
  refine call_pc hT (by simp [go_sem, bds_pur]) ?_
  try simp (maxSteps := 500000) (disch := omega) only [go_sem, Int.reduceEq, Int.reduceLT, Int.reduceLE, Int.reduceToNat, Nat.reduceLT, Nat.reduceEqDiff, Nat.reduceAdd, Nat.reduceLeDiff, Nat.reduceSub, Nat.reduceMul, ↓reduceIte, reduceCtorEq, wrap_id, w_ite_ne, w_ite_lt, Nat.sub_zero, Nat.sub_self]
  refine call_pc c1' (by simp [go_sem, bds_pur]) ?_
  try simp (maxSteps := 500000) (disch := omega) only [go_sem, Int.reduceEq, Int.reduceLT, Int.reduceLE, Int.reduceToNat, Nat.reduceLT, Nat.reduceEqDiff, Nat.reduceAdd, Nat.reduceLeDiff, Nat.reduceSub, Nat.reduceMul, ↓reduceIte, reduceCtorEq, wrap_id, w_ite_ne, w_ite_lt, Nat.sub_zero, Nat.sub_self]
  refine call_pc c2' (by simp [go_sem, bds_pur]) ?_
  try simp (maxSteps := 500000) (disch := omega) only [go_sem, Int.reduceEq, Int.reduceLT, Int.reduceLE, Int.reduceToNat, Nat.reduceLT, Nat.reduceEqDiff, Nat.reduceAdd, Nat.reduceLeDiff, Nat.reduceSub, Nat.reduceMul, ↓reduceIte, reduceCtorEq, wrap_id, w_ite_ne, w_ite_lt, Nat.sub_zero, Nat.sub_self]
  rcases mod3 hf0.1 with hx | hx | hx <;> try simp (maxSteps := 500000) (disch := omega) only [go_sem, Int.reduceEq, Int.reduceLT, Int.reduceLE, Int.reduceToNat, Nat.reduceLT, Nat.reduceEqDiff, Nat.reduceAdd, Nat.reduceLeDiff, Nat.reduceSub, Nat.reduceMul, ↓reduceIte, reduceCtorEq, wrap_id, w_ite_ne, w_ite_lt, Nat.sub_zero, Nat.sub_self, hx, ints_length, hS, hI, hO]
  · obtain ⟨i, hi, hin⟩ := modN ht0.1 (n := a.ins.length + 1) (by omega)
    refine ⟨by omega, ?_⟩
    try simp (maxSteps := 500000) (disch := omega) only [go_sem, Int.reduceEq, Int.reduceLT, Int.reduceLE, Int.reduceToNat, Nat.reduceLT, Nat.reduceEqDiff, Nat.reduceAdd, Nat.reduceLeDiff, Nat.reduceSub, Nat.reduceMul, ↓reduceIte, reduceCtorEq, wrap_id, w_ite_ne, w_ite_lt, Nat.sub_zero, Nat.sub_self, hi]
    have hlen : (fldL b 1).length = a.ins.length + 1 := by simp only [fldL]; simp; omega
    have e1 := get_getD (L := S) (i := i) (by omega)
    have hin2 : inB (gB (fldL b 1) i) (S.getD i 0) := by
      have := hH2.st i (by omega)
      simpa [fldL] using this
    obtain ⟨d, hd1, hd2, hd3, hd4⟩ := fix_law hok2 (f := 1) (by omega) (i := i) (by omega) hin2
    have hH3 : HiA d a.ins.length (fun i => S.getD i 0) (fun i => I.getD i 0) (fun i => O.getD i 0) := by
      rw [← hl2, hd4]
      exact ⟨by rw [hl2]; exact hH2, rfl⟩
    rw [hl2] at hd3
    have hF := ok_ledger_Fix b hok2.l (1 : Nat) (b.fr + i) ⟨S.getD i 0, S.getD i 0⟩ (by omega) (by omega)
    rw [hd1, hfr] at hF
    have hH3' : HiA d d.ins.length (fun i => S.getD i 0) (fun i => I.getD i 0) (fun i => O.getD i 0) := by rw [hd3]; exact hH3
    have hT3 := ok_ledger_Tighten d hd2.l
    rw [tightS_yes hd2 hH3'.vd] at hT3
    have hok4 := tgt_ok hd2 hH3'.vd
    have c4 : holdsS (tgt d) S I O = true := holdsS_iff.2 ⟨hok4, by rw [tgt_len]; omega, by rw [tgt_len]; omega, by rw [tgt_len]; omega, by rw [tgt_len]; exact hH3'.tgt⟩
    have c4' := ok_ledger_Holds (tgt d) hok4.l S I O
    rw [c4] at c4'
    generalize tgt d = z at *
    rw [show ((1 : Nat) : Int) = 1 + 0 from rfl] at hF
    simp only [acv, bdv] at hF hT3 c4'
    try simp (maxSteps := 500000) (disch := omega) only [go_sem, Int.reduceEq, Int.reduceLT, Int.reduceLE, Int.reduceToNat, Nat.reduceLT, Nat.reduceEqDiff, Nat.reduceAdd, Nat.reduceLeDiff, Nat.reduceSub, Nat.reduceMul, ↓reduceIte, reduceCtorEq, wrap_id, w_ite_ne, w_ite_lt, Nat.sub_zero, Nat.sub_self, ints_length, ints_get, e1, Option.map_some]
    refine ⟨by omega, by omega, by omega, by omega, ?_⟩
    refine call_pc hF (by simp [go_sem, bds_pur]) ?_
    try simp (maxSteps := 500000) (disch := omega) only [go_sem, Int.reduceEq, Int.reduceLT, Int.reduceLE, Int.reduceToNat, Nat.reduceLT, Nat.reduceEqDiff, Nat.reduceAdd, Nat.reduceLeDiff, Nat.reduceSub, Nat.reduceMul, ↓reduceIte, reduceCtorEq, wrap_id, w_ite_ne, w_ite_lt, Nat.sub_zero, Nat.sub_self]
    refine call_pc hT3 (by simp [go_sem, bds_pur]) ?_
    try simp (maxSteps := 500000) (disch := omega) only [go_sem, Int.reduceEq, Int.reduceLT, Int.reduceLE, Int.reduceToNat, Nat.reduceLT, Nat.reduceEqDiff, Nat.reduceAdd, Nat.reduceLeDiff, Nat.reduceSub, Nat.reduceMul, ↓reduceIte, reduceCtorEq, wrap_id, w_ite_ne, w_ite_lt, Nat.sub_zero, Nat.sub_self]
    refine call_pc c4' (by simp [go_sem, bds_pur]) ?_
    try simp (maxSteps := 500000) (disch := omega) only [go_sem, Int.reduceEq, Int.reduceLT, Int.reduceLE, Int.reduceToNat, Nat.reduceLT, Nat.reduceEqDiff, Nat.reduceAdd, Nat.reduceLeDiff, Nat.reduceSub, Nat.reduceMul, ↓reduceIte, reduceCtorEq, wrap_id, w_ite_ne, w_ite_lt, Nat.sub_zero, Nat.sub_self]
    exact Pub.of_eq rfl rfl
  · obtain ⟨i, hi, hin⟩ := modN ht0.1 (n := a.ins.length) (by omega)
    refine ⟨by omega, ?_⟩
    try simp (maxSteps := 500000) (disch := omega) only [go_sem, Int.reduceEq, Int.reduceLT, Int.reduceLE, Int.reduceToNat, Nat.reduceLT, Nat.reduceEqDiff, Nat.reduceAdd, Nat.reduceLeDiff, Nat.reduceSub, Nat.reduceMul, ↓reduceIte, reduceCtorEq, wrap_id, w_ite_ne, w_ite_lt, Nat.sub_zero, Nat.sub_self, hi]
    have hlen : (fldL b 2).length = a.ins.length := by simp only [fldL]; simp; omega
    have e1 := get_getD (L := I) (i := i) (by omega)
    have hin2 : inB (gB (fldL b 2) i) (I.getD i 0) := by
      have := hH2.ins i (by omega)
      simpa [fldL] using this
    obtain ⟨d, hd1, hd2, hd3, hd4⟩ := fix_law hok2 (f := 2) (by omega) (i := i) (by omega) hin2
    have hH3 : HiA d a.ins.length (fun i => S.getD i 0) (fun i => I.getD i 0) (fun i => O.getD i 0) := by
      rw [← hl2, hd4]
      exact ⟨by rw [hl2]; exact hH2, rfl⟩
    rw [hl2] at hd3
    have hF := ok_ledger_Fix b hok2.l (2 : Nat) (b.fr + i) ⟨I.getD i 0, I.getD i 0⟩ (by omega) (by omega)
    rw [hd1, hfr] at hF
    have hH3' : HiA d d.ins.length (fun i => S.getD i 0) (fun i => I.getD i 0) (fun i => O.getD i 0) := by rw [hd3]; exact hH3
    have hT3 := ok_ledger_Tighten d hd2.l
    rw [tightS_yes hd2 hH3'.vd] at hT3
    have hok4 := tgt_ok hd2 hH3'.vd
    have c4 : holdsS (tgt d) S I O = true := holdsS_iff.2 ⟨hok4, by rw [tgt_len]; omega, by rw [tgt_len]; omega, by rw [tgt_len]; omega, by rw [tgt_len]; exact hH3'.tgt⟩
    have c4' := ok_ledger_Holds (tgt d) hok4.l S I O
    rw [c4] at c4'
    generalize tgt d = z at *
    rw [show ((2 : Nat) : Int) = 1 + 1 from rfl] at hF
    simp only [acv, bdv] at hF hT3 c4'
    try simp (maxSteps := 500000) (disch := omega) only [go_sem, Int.reduceEq, Int.reduceLT, Int.reduceLE, Int.reduceToNat, Nat.reduceLT, Nat.reduceEqDiff, Nat.reduceAdd, Nat.reduceLeDiff, Nat.reduceSub, Nat.reduceMul, ↓reduceIte, reduceCtorEq, wrap_id, w_ite_ne, w_ite_lt, Nat.sub_zero, Nat.sub_self, ints_length, ints_get, e1, Option.map_some]
    refine ⟨by omega, by omega, by omega, by omega, ?_⟩
    refine call_pc hF (by simp [go_sem, bds_pur]) ?_
    try simp (maxSteps := 500000) (disch := omega) only [go_sem, Int.reduceEq, Int.reduceLT, Int.reduceLE, Int.reduceToNat, Nat.reduceLT, Nat.reduceEqDiff, Nat.reduceAdd, Nat.reduceLeDiff, Nat.reduceSub, Nat.reduceMul, ↓reduceIte, reduceCtorEq, wrap_id, w_ite_ne, w_ite_lt, Nat.sub_zero, Nat.sub_self]
    refine call_pc hT3 (by simp [go_sem, bds_pur]) ?_
    try simp (maxSteps := 500000) (disch := omega) only [go_sem, Int.reduceEq, Int.reduceLT, Int.reduceLE, Int.reduceToNat, Nat.reduceLT, Nat.reduceEqDiff, Nat.reduceAdd, Nat.reduceLeDiff, Nat.reduceSub, Nat.reduceMul, ↓reduceIte, reduceCtorEq, wrap_id, w_ite_ne, w_ite_lt, Nat.sub_zero, Nat.sub_self]
    refine call_pc c4' (by simp [go_sem, bds_pur]) ?_
    try simp (maxSteps := 500000) (disch := omega) only [go_sem, Int.reduceEq, Int.reduceLT, Int.reduceLE, Int.reduceToNat, Nat.reduceLT, Nat.reduceEqDiff, Nat.reduceAdd, Nat.reduceLeDiff, Nat.reduceSub, Nat.reduceMul, ↓reduceIte, reduceCtorEq, wrap_id, w_ite_ne, w_ite_lt, Nat.sub_zero, Nat.sub_self]
    exact Pub.of_eq rfl rfl
  · obtain ⟨i, hi, hin⟩ := modN ht0.1 (n := a.ins.length) (by omega)
    refine ⟨by omega, ?_⟩
    try simp (maxSteps := 500000) (disch := omega) only [go_sem, Int.reduceEq, Int.reduceLT, Int.reduceLE, Int.reduceToNat, Nat.reduceLT, Nat.reduceEqDiff, Nat.reduceAdd, Nat.reduceLeDiff, Nat.reduceSub, Nat.reduceMul, ↓reduceIte, reduceCtorEq, wrap_id, w_ite_ne, w_ite_lt, Nat.sub_zero, Nat.sub_self, hi]
    have hlen : (fldL b 3).length = a.ins.length := by simp only [fldL]; simp; omega
    have e1 := get_getD (L := O) (i := i) (by omega)
    have hin2 : inB (gB (fldL b 3) i) (O.getD i 0) := by
      have := hH2.outs i (by omega)
      simpa [fldL] using this
    obtain ⟨d, hd1, hd2, hd3, hd4⟩ := fix_law hok2 (f := 3) (by omega) (i := i) (by omega) hin2
    have hH3 : HiA d a.ins.length (fun i => S.getD i 0) (fun i => I.getD i 0) (fun i => O.getD i 0) := by
      rw [← hl2, hd4]
      exact ⟨by rw [hl2]; exact hH2, rfl⟩
    rw [hl2] at hd3
    have hF := ok_ledger_Fix b hok2.l (3 : Nat) (b.fr + i) ⟨O.getD i 0, O.getD i 0⟩ (by omega) (by omega)
    rw [hd1, hfr] at hF
    have hH3' : HiA d d.ins.length (fun i => S.getD i 0) (fun i => I.getD i 0) (fun i => O.getD i 0) := by rw [hd3]; exact hH3
    have hT3 := ok_ledger_Tighten d hd2.l
    rw [tightS_yes hd2 hH3'.vd] at hT3
    have hok4 := tgt_ok hd2 hH3'.vd
    have c4 : holdsS (tgt d) S I O = true := holdsS_iff.2 ⟨hok4, by rw [tgt_len]; omega, by rw [tgt_len]; omega, by rw [tgt_len]; omega, by rw [tgt_len]; exact hH3'.tgt⟩
    have c4' := ok_ledger_Holds (tgt d) hok4.l S I O
    rw [c4] at c4'
    generalize tgt d = z at *
    rw [show ((3 : Nat) : Int) = 1 + 2 from rfl] at hF
    simp only [acv, bdv] at hF hT3 c4'
    try simp (maxSteps := 500000) (disch := omega) only [go_sem, Int.reduceEq, Int.reduceLT, Int.reduceLE, Int.reduceToNat, Nat.reduceLT, Nat.reduceEqDiff, Nat.reduceAdd, Nat.reduceLeDiff, Nat.reduceSub, Nat.reduceMul, ↓reduceIte, reduceCtorEq, wrap_id, w_ite_ne, w_ite_lt, Nat.sub_zero, Nat.sub_self, ints_length, ints_get, e1, Option.map_some]
    refine ⟨by omega, by omega, by omega, by omega, ?_⟩
    refine call_pc hF (by simp [go_sem, bds_pur]) ?_
    try simp (maxSteps := 500000) (disch := omega) only [go_sem, Int.reduceEq, Int.reduceLT, Int.reduceLE, Int.reduceToNat, Nat.reduceLT, Nat.reduceEqDiff, Nat.reduceAdd, Nat.reduceLeDiff, Nat.reduceSub, Nat.reduceMul, ↓reduceIte, reduceCtorEq, wrap_id, w_ite_ne, w_ite_lt, Nat.sub_zero, Nat.sub_self]
    refine call_pc hT3 (by simp [go_sem, bds_pur]) ?_
    try simp (maxSteps := 500000) (disch := omega) only [go_sem, Int.reduceEq, Int.reduceLT, Int.reduceLE, Int.reduceToNat, Nat.reduceLT, Nat.reduceEqDiff, Nat.reduceAdd, Nat.reduceLeDiff, Nat.reduceSub, Nat.reduceMul, ↓reduceIte, reduceCtorEq, wrap_id, w_ite_ne, w_ite_lt, Nat.sub_zero, Nat.sub_self]
    refine call_pc c4' (by simp [go_sem, bds_pur]) ?_
    try simp (maxSteps := 500000) (disch := omega) only [go_sem, Int.reduceEq, Int.reduceLT, Int.reduceLE, Int.reduceToNat, Nat.reduceLT, Nat.reduceEqDiff, Nat.reduceAdd, Nat.reduceLeDiff, Nat.reduceSub, Nat.reduceMul, ↓reduceIte, reduceCtorEq, wrap_id, w_ite_ne, w_ite_lt, Nat.sub_zero, Nat.sub_self]
    exact Pub.of_eq rfl rfl
theorem bd_ext {b c : Bd} (hb : valB b) (hc : valB c) (h1 : ∀ v, inB b v → inB c v) (h2 : ∀ v, inB c v → inB b v) : b = c := by
  have a1 := h1 _ ⟨Int.le_refl _, hb⟩
  have a2 := h1 _ ⟨hb, Int.le_refl _⟩
  have a3 := h2 _ ⟨Int.le_refl _, hc⟩
  have a4 := h2 _ ⟨hc, Int.le_refl _⟩
  rw [bd_eq]
  simp only [inB] at *
  omega
theorem ac_ext : ∀ {a b : Ac}, a.fr = b.fr → a.st = b.st → a.ins = b.ins → a.outs = b.outs → a = b
  | ⟨_, _, _, _⟩, ⟨_, _, _, _⟩, rfl, rfl, rfl, rfl => rfl
section
variable {a : Ac} (h : AcOK a) (hv : VD a.st a.ins a.outs a.ins.length)
include h hv
theorem cB_iff {i : Nat} (hi : i ≤ a.ins.length) (v : Int) : inB (cB a.st a.ins a.outs a.ins.length i) v ↔ ∃ s x y, HiA a a.ins.length s x y ∧ s i = v :=
  ⟨fun hh => (h.lens.vd hv).hiS hi hh, fun ⟨s, x, y, hh, e⟩ => e ▸ Hi.B hh hi⟩
theorem cX_iff {i : Nat} (hi : i < a.ins.length) (v : Int) : inB (cX a.st a.ins a.outs a.ins.length i) v ↔ ∃ s x y, HiA a a.ins.length s x y ∧ x i = v :=
  ⟨fun hh => (h.lens.vd hv).hiX hi hh, fun ⟨s, x, y, hh, e⟩ => e ▸ (Hi.left hh).ins i hi⟩
theorem cY_iff {i : Nat} (hi : i < a.ins.length) (v : Int) : inB (cY a.st a.ins a.outs a.ins.length i) v ↔ ∃ s x y, HiA a a.ins.length s x y ∧ y i = v :=
  ⟨fun hh => (h.lens.vd hv).hiY hi hh, fun ⟨s, x, y, hh, e⟩ => e ▸ (Hi.left hh).outs i hi⟩
theorem some_hi : ∃ s x y, HiA a a.ins.length s x y := by
  obtain ⟨s, x, y, hh, _⟩ := (cB_iff h hv (Nat.zero_le _) _).1 ⟨Int.le_refl _, (h.lens.vd hv).B (Nat.zero_le _)⟩
  exact ⟨s, x, y, hh⟩
theorem tgt_vd : VD (tgt a).st (tgt a).ins (tgt a).outs (tgt a).ins.length := by
  obtain ⟨s, x, y, hh⟩ := some_hi h hv
  exact HiA.vd (by rw [tgt_len]; exact hh.tgt)
/-- **To make an account narrower twice is to do it once.** -/
theorem tgt_tgt : tgt (tgt a) = tgt a := by
  have h2 := tgt_ok h hv
  have hv2 := tgt_vd h hv
  have hl := tgt_len a
  have con : ∀ s x y, HiA (tgt a) (tgt a).ins.length s x y ↔ HiA a a.ins.length s x y := fun s x y => by rw [hl]; exact ⟨HiA.of_tgt, HiA.tgt⟩
  have e1 : (tgt (tgt a)).st = (tgt a).st := by
    show mkL _ _ = _
    refine mkL_eq (by rw [hl]; exact mkL_length _ _) fun i hi => ?_
    rw [hl] at hi
    rw [tgt_st (by omega)]
    refine bd_ext ((h2.lens.vd hv2).B (by omega)) ((h.lens.vd hv).B (by omega)) (fun v => ?_) fun v => ?_
    · intro hh
      rw [cB_iff h2 hv2 (by omega)] at hh
      rw [cB_iff h hv (by omega)]
      simpa only [con] using hh
    · intro hh
      rw [cB_iff h hv (by omega)] at hh
      rw [cB_iff h2 hv2 (by omega)]
      simpa only [con] using hh
  have e2 : (tgt (tgt a)).ins = (tgt a).ins := by
    show mkL _ _ = _
    refine mkL_eq rfl fun i hi => ?_
    rw [hl] at hi
    rw [tgt_ins (by omega)]
    refine bd_ext ((h2.lens.vd hv2).cx (by omega)) ((h.lens.vd hv).cx (by omega)) (fun v => ?_) fun v => ?_
    · intro hh
      have hh := (cX_iff h2 hv2 (by omega) v).1 hh
      refine (cX_iff h hv (by omega) v).2 ?_
      simpa only [con] using hh
    · intro hh
      have hh := (cX_iff h hv (by omega) v).1 hh
      refine (cX_iff h2 hv2 (by omega) v).2 ?_
      simpa only [con] using hh
  have e3 : (tgt (tgt a)).outs = (tgt a).outs := by
    show mkL _ _ = _
    refine mkL_eq (by rw [hl]; exact mkL_length _ _) fun i hi => ?_
    rw [hl] at hi
    rw [tgt_outs (by omega)]
    refine bd_ext ((h2.lens.vd hv2).cy (by omega)) ((h.lens.vd hv).cy (by omega)) (fun v => ?_) fun v => ?_
    · intro hh
      have hh := (cY_iff h2 hv2 (by omega) v).1 hh
      refine (cY_iff h hv (by omega) v).2 ?_
      simpa only [con] using hh
    · intro hh
      have hh := (cY_iff h hv (by omega) v).1 hh
      refine (cY_iff h2 hv2 (by omega) v).2 ?_
      simpa only [con] using hh
  have e0 : (tgt (tgt a)).fr = (tgt a).fr := rfl
  exact ac_ext e0 e1 e2 e3
end
theorem sum_le : ∀ {L M : List Bd}, L.length = M.length → (∀ i, i < L.length → (gB M i).lo ≤ (gB L i).lo ∧ (gB L i).hi ≤ (gB M i).hi) → widL L ≤ widL M
  | [], [], _, _ => Int.le_refl _
  | [], _ :: _, h, _ => by simp at h
  | _ :: _, [], h, _ => by simp at h
  | b :: L, c :: M, h, hh => by
    have h0 := hh 0 (by simp)
    have h1 := sum_le (L := L) (M := M) (by simpa using h) fun i hi => by
      have := hh (i + 1) (by simp; omega)
      simpa [gB] using this
    simp only [gB, List.getD_cons_zero] at h0
    simp only [widL, List.map_cons, List.sum_cons] at h1 ⊢
    omega
theorem wid_le {a : Ac} (h : AcOK a) (hv : VD a.st a.ins a.outs a.ins.length) : widK (tgt a) 3 ≤ widK a 3 := by
  have hl := tgt_len a
  have hls : (tgt a).st.length = a.ins.length + 1 := mkL_length _ _
  have hlo : (tgt a).outs.length = a.ins.length := mkL_length _ _
  have hs := h.ns
  have ho := h.no
  have sub : ∀ {b c : Bd}, valB b → (∀ v, inB b v → inB c v) → c.lo ≤ b.lo ∧ b.hi ≤ c.hi := fun hb hh => ⟨(hh _ ⟨Int.le_refl _, hb⟩).1, (hh _ ⟨hb, Int.le_refl _⟩).2⟩
  have w1 : widL (tgt a).st ≤ widL a.st := sum_le (by omega) fun i hi => by
    rw [tgt_st (by omega)]
    refine sub ((h.lens.vd hv).B (by omega)) fun v hh => ?_
    obtain ⟨s, x, y, h9, rfl⟩ := (cB_iff h hv (by omega) v).1 hh
    exact h9.st i (by omega)
  have w2 : widL (tgt a).ins ≤ widL a.ins := sum_le (by omega) fun i hi => by
    rw [tgt_ins (by omega)]
    refine sub ((h.lens.vd hv).cx (by omega)) fun v hh => ?_
    obtain ⟨s, x, y, h9, rfl⟩ := (cX_iff h hv (by omega) v).1 hh
    exact h9.ins i (by omega)
  have w3 : widL (tgt a).outs ≤ widL a.outs := sum_le (by omega) fun i hi => by
    rw [tgt_outs (by omega)]
    refine sub ((h.lens.vd hv).cy (by omega)) fun v hh => ?_
    obtain ⟨s, x, y, h9, rfl⟩ := (cY_iff h hv (by omega) v).1 hh
    exact h9.outs i (by omega)
  simp only [widK, if_true, show 1 ≤ 3 by omega, show 2 ≤ 3 by omega]
  omega
theorem Hst.exok {n : Nat} {S I O : List Int} (h : Hst n S I O) (h1 : 1 ≤ n) (h5 : n ≤ 5) : AcOK ⟨0, exL S, exL I, exL O⟩ := by
  have hS := h.ls
  have hI := h.li
  have hO := h.lo
  refine ⟨by simp only [exL_len]; omega, by simp only [exL_len]; omega, by simp only [exL_len]; omega, by simp only [exL_len]; omega, by simp only; omega, by simp only [exL_len]; omega, exL_fit fun i hi => ?_, exL_fit fun i hi => ?_, exL_fit fun i hi => ?_⟩
  · have := h.s i (by omega); omega
  · have := h.i i (by omega); omega
  · have := h.o i (by omega); omega
theorem Hst.res {n : Nat} {S I O : List Int} (h : Hst n S I O) (h1 : 1 ≤ n) (h5 : n ≤ 5) : resS ⟨0, exL S, exL I, exL O⟩ = (mkL n fun _ => ⟨0, 0⟩, 0) := by
  have hS := h.ls
  have hI := h.li
  have hO := h.lo
  unfold resS
  rw [if_neg (by simp [chk_ok.2 (h.exok h1 h5)])]
  simp only [exL_len, hI]
  congr 1
  refine mkL_ext fun i hi => ?_
  have := h.bal i hi
  simp only [rsB]
  rw [gB_exL (by omega), gB_exL (by omega), gB_exL (by omega), gB_exL (by omega)]
  rw [bd_eq]
  simp only
  omega
theorem Hi.congr {S X Y : Nat → Bd} {n : Nat} {s x y s2 x2 y2 : Nat → Int} (h : Hi S X Y n s x y) (h1 : ∀ i, i ≤ n → s2 i = s i) (h2 : ∀ i, i < n → x2 i = x i) (h3 : ∀ i, i < n → y2 i = y i) : Hi S X Y n s2 x2 y2 :=
  ⟨fun i hi => by rw [h1 i hi]; exact h.st i hi, fun i hi => by rw [h2 i hi]; exact h.ins i hi, fun i hi => by rw [h3 i hi]; exact h.outs i hi, fun i hi => by rw [h1 i (by omega), h1 (i + 1) (by omega), h2 i hi, h3 i hi]; exact h.bal i hi⟩
theorem fld_iff {a : Ac} (h : AcOK a) (hv : VD a.st a.ins a.outs a.ins.length) {f i : Nat} (hf : f = 1 ∨ f = 2 ∨ f = 3) (hi : i < (fldL a f).length) (v : Int) :
    inB (gB (fldL (tgt a) f) i) v ↔ ∃ s x y, HiA a a.ins.length s x y ∧ nth3 f s x y i = v := by
  have h1 := h.ns
  have h2 := h.no
  rcases hf with rfl | rfl | rfl
  · simp only [fldL, nth3, if_true] at hi ⊢
    rw [tgt_st (by omega)]; exact cB_iff h hv (by omega) v
  · simp only [fldL, nth3, if_true, if_false, Nat.reduceEqDiff] at hi ⊢
    rw [tgt_ins (by omega)]; exact cX_iff h hv (by omega) v
  · simp only [fldL, nth3, if_false, Nat.reduceEqDiff] at hi ⊢
    rw [tgt_outs (by omega)]; exact cY_iff h hv (by omega) v
theorem fld_hi {a : Ac} (h : AcOK a) {f i : Nat} (hf : f = 1 ∨ f = 2 ∨ f = 3) (hi : i < (fldL a f).length) {s x y : Nat → Int} (hh : HiA a a.ins.length s x y) : inB (gB (fldL a f) i) (nth3 f s x y i) := by
  have h1 := h.ns
  have h2 := h.no
  rcases hf with rfl | rfl | rfl
  · simp only [fldL, nth3, if_true] at hi ⊢; exact hh.st i (by omega)
  · simp only [fldL, nth3, if_true, if_false, Nat.reduceEqDiff] at hi ⊢; exact hh.ins i hi
  · simp only [fldL, nth3, if_false, Nat.reduceEqDiff] at hi ⊢; exact hh.outs i (by omega)
/-- **A number that is left is of a history: it is handed out.** -/
theorem sharp_law {a : Ac} (h : AcOK a) (hv : VD a.st a.ins a.outs a.ins.length) {f i : Nat} (hf : f = 1 ∨ f = 2 ∨ f = 3) (hi : i < (fldL a f).length) {v : Int} (hvv : inB (gB (fldL (tgt a) f) i) v) :
    ∃ y s x w, fixS a f (a.fr + i) ⟨v, v⟩ = (y, 0) ∧ AcOK y ∧ firstS y = ((s, x, w), 0) ∧ holdsS a s x w = true ∧ s.length = a.ins.length + 1 ∧ x.length = a.ins.length ∧ w.length = a.ins.length ∧ (nth3 f s x w)[i]? = some v := by
  obtain ⟨s, x, y, hh, rfl⟩ := (fld_iff h hv hf hi v).1 hvv
  obtain ⟨c, c1, c2, c3, c4⟩ := fix_law h hf hi (fld_hi h hf hi hh)
  have hc : HiA c c.ins.length s x y := by rw [c3, c4]; exact ⟨hh, rfl⟩
  have hcv := hc.vd
  have hF := first_hi c2 hcv
  have hF2 : HiA c a.ins.length (sq c (tgt c)) (cm c (tgt c)) (og c (tgt c)) := by rw [← c3]; exact hF
  obtain ⟨e1, e2⟩ := (c4 _ _ _).1 hF2
  have h1 := h.ns
  have h2 := h.no
  refine ⟨c, mkI (a.ins.length + 1) (sq c (tgt c)), mkI a.ins.length (cm c (tgt c)), mkI a.ins.length (og c (tgt c)), c1, c2, ?_, holdsS_iff.2 ⟨h, mkI_length _ _, mkI_length _ _, mkI_length _ _, ?_⟩, mkI_length _ _, mkI_length _ _, mkI_length _ _, ?_⟩
  · unfold firstS
    rw [tightS_yes c2 hcv, if_neg (by simp), c3]
  · exact Hi.congr e1 (fun i hi => mkI_getD _ (by omega)) (fun i hi => mkI_getD _ hi) (fun i hi => mkI_getD _ hi)
  · rw [← e2]
    rcases hf with rfl | rfl | rfl
    · simp only [fldL, nth3, if_true] at hi ⊢; exact mkI_get _ (by omega)
    · simp only [fldL, nth3, if_true, if_false, Nat.reduceEqDiff] at hi ⊢; exact mkI_get _ hi
    · simp only [fldL, nth3, if_false, Nat.reduceEqDiff] at hi ⊢; exact mkI_get _ (by omega)
/-- **Nothing beyond what is left is of a history.** -/
theorem beyond_law {a : Ac} (h : AcOK a) (hv : VD a.st a.ins a.outs a.ins.length) {f i : Nat} (hf : f = 1 ∨ f = 2 ∨ f = 3) (hi : i < (fldL a f).length) {v : Int} (hvv : ¬ inB (gB (fldL (tgt a) f) i) v) (ho : inB (gB (fldL a f) i) v) :
    ∃ z, fixS a f (a.fr + i) ⟨v, v⟩ = (z, 0) ∧ AcOK z ∧ tightS z = (acZ, 48) := by
  obtain ⟨c, c1, c2, c3, c4⟩ := fix_law h hf hi ho
  refine ⟨c, c1, c2, tightS_no c2 fun hz => ?_⟩
  obtain ⟨s, x, y, hh⟩ := some_hi c2 hz
  rw [c3] at hh
  obtain ⟨e1, e2⟩ := (c4 _ _ _).1 hh
  exact hvv ((fld_iff h hv hf hi v).2 ⟨s, x, y, e1, e2⟩)
theorem fld_val {a : Ac} (h : AcOK a) (hv : VD a.st a.ins a.outs a.ins.length) {f i : Nat} (hf : f = 1 ∨ f = 2 ∨ f = 3) (hi : i < (fldL a f).length) : valB (gB (fldL (tgt a) f) i) := by
  have h1 := h.ns
  have h2 := h.no
  rcases hf with rfl | rfl | rfl
  · simp only [fldL, if_true] at hi ⊢
    rw [tgt_st (by omega)]; exact (h.lens.vd hv).B (by omega)
  · simp only [fldL, if_true, if_false, Nat.reduceEqDiff] at hi ⊢
    rw [tgt_ins (by omega)]; exact (h.lens.vd hv).cx (by omega)
  · simp only [fldL, if_false, Nat.reduceEqDiff] at hi ⊢
    rw [tgt_outs (by omega)]; exact (h.lens.vd hv).cy (by omega)
theorem tightS_l (a : Ac) : AcL (tightS a).1 := by
  by_cases h : (tightS a).2 = 0
  · obtain ⟨h1, h2, h3⟩ := tightS_ok h
    rw [h3]; exact (tgt_ok h1 h2).l
  · unfold tightS at h ⊢
    split
    · simp [acZ, AcL]
    · split
      · rename_i h1 h2; rw [if_neg h1, if_pos h2] at h; exact absurd rfl h
      · simp [acZ, AcL]
theorem setL_l {a : Ac} (h : AcL a) {f : Nat} {l : List Bd} (hl : l.length ≤ 9223372036854775807) : AcL (setL a f l) := by
  unfold setL
  split
  · exact ⟨hl, h.2.1, h.2.2⟩
  · split
    · exact ⟨h.1, hl, h.2.2⟩
    · exact ⟨h.1, h.2.1, hl⟩
theorem fldL_l {a : Ac} (h : AcL a) (f : Nat) : (fldL a f).length ≤ 9223372036854775807 := by
  unfold fldL
  split
  · exact h.1
  · split
    · exact h.2.1
    · exact h.2.2
theorem fixS_l {a : Ac} (h : AcL a) (f t : Int) (b : Bd) : AcL (fixS a f t b).1 := by
  have hz : AcL acZ := by simp [acZ, AcL]
  unfold fixS
  split
  · exact hz
  · split
    · exact hz
    · split
      · exact hz
      · split
        · exact hz
        · exact setL_l h (by rw [List.length_set]; exact fldL_l h _)
theorem firstS_len (a : Ac) : (firstS a).1.1.length ≤ 401 ∧ (firstS a).1.2.1.length ≤ 401 ∧ (firstS a).1.2.2.length ≤ 401 := by
  unfold firstS
  split
  · simp
  · rename_i h
    simp only [ne_eq, Decidable.not_not] at h
    have := (tightS_ok h).1.n2
    simp only [mkI_length]
    omega
theorem resS_len (a : Ac) : (resS a).1.length ≤ 400 := by
  unfold resS
  split
  · simp
  · rename_i h
    simp only [ne_eq, Decidable.not_not] at h
    have := (chk_ok.1 h).n2
    simp only [mkL_length]
    omega
theorem two_ac (a b : Ac) {k : Nat} (h : k < 2) : ∃ c, [acv a, acv b][k]? = some (acv c) ∧ (c = a ∨ c = b) := by
  rcases (by omega : k = 0 ∨ k = 1) with rfl | rfl
  · exact ⟨a, rfl, .inl rfl⟩
  · exact ⟨b, rfl, .inr rfl⟩
theorem two_bd (a b : Bd) {k : Nat} (h : k < 2) : ∃ c, [bdv a, bdv b][k]? = some (bdv c) := by
  rcases (by omega : k = 0 ∨ k = 1) with rfl | rfl
  · exact ⟨a, rfl⟩
  · exact ⟨b, rfl⟩
def prv (p : Int × Int) : AV := .agg [.int .i64 p.1, .int .i64 p.2]
def inI (x : Int) : Prop := -9223372036854775808 ≤ x ∧ x ≤ 9223372036854775807
theorem two_pr {p q : Int × Int} {k : Nat} (h : k < 2) (hp : inI p.1 ∧ inI p.2) (hq : inI q.1 ∧ inI q.2) : ∃ c, [prv p, prv q][k]? = some (prv c) ∧ inI c.1 ∧ inI c.2 := by
  rcases (by omega : k = 0 ∨ k = 1) with rfl | rfl
  · exact ⟨p, rfl, hp⟩
  · exact ⟨q, rfl, hq⟩
theorem wrap_in (n : Int) : inI (IntKind.i64.wrap n) := by
  simp [inI, IntKind.wrap, IntKind.signed, IntKind.bits]
  split <;> omega
abbrev shBd : Sh := .struct (.fc (.int .i64) (.fc (.int .i64) .f0))
abbrev shBds : Sh := .slice 2 shBd
abbrev shAc : Sh := .struct (.fc (.int .i64) (.fc shBds (.fc shBds (.fc shBds .f0))))
theorem shBdR {c : List AV} (h : shBd.R c) : ∃ b : Bd, shBd.mk1 c = bdv b ∧ c = [.int .i64 b.lo, .int .i64 b.hi] := by
  obtain ⟨x, y, rfl, ⟨a, rfl, _⟩, z, w, rfl, ⟨b, rfl, _⟩, rfl⟩ := h
  exact ⟨⟨a, b⟩, rfl, rfl⟩
theorem shBdsR {c : List AV} (h : shBds.R c) : ∃ L : List Bd, c = [.list 2 (bds L)] ∧ L.length ≤ 9223372036854775807 := by
  obtain ⟨xs, rfl, hl, h⟩ := h
  obtain ⟨L, rfl, hL⟩ := exists_map (f := bdv) (Q := fun _ => True) fun x hx => by
    obtain ⟨cs, hr, _, rfl⟩ := h x hx
    obtain ⟨b, hb, _⟩ := shBdR hr
    exact ⟨b, trivial, hb⟩
  exact ⟨L, rfl, by simpa using hl⟩
theorem shAcR {c : List AV} (h : shAc.R c) : ∃ a : Ac, shAc.mk1 c = acv a ∧ AcL a ∧ inI a.fr := by
  obtain ⟨x1, y1, rfl, ⟨f, rfl, wf⟩, x2, y2, rfl, h2, x3, y3, rfl, h3, x4, y4, rfl, h4, rfl⟩ := h
  obtain ⟨L2, rfl, l2⟩ := shBdsR h2
  obtain ⟨L3, rfl, l3⟩ := shBdsR h3
  obtain ⟨L4, rfl, l4⟩ := shBdsR h4
  exact ⟨⟨f, L2, L3, L4⟩, rfl, ⟨l2, l3, l4⟩, wf_i64 wf⟩
theorem law_law30_LedgerExact {c0 c1 : List AV} (s0 : (Sh.slice 1 (.int .i64)).R c0) (s1 : (Sh.int .u8).R c1) : PC prog n_law30_LedgerExact [(Sh.slice 1 (.int .i64)).mk1 c0, (Sh.int .u8).mk1 c1] (.bool true) := by
  obtain ⟨l0, rfl, _, _⟩ := shInts s0
  obtain ⟨a1, rfl, w1⟩ := s1
  exact ok_law30_LedgerExact l0 a1 (wf_u8 w1)
theorem law_law30_LedgerTrue {c0 c1 c2 : List AV} (s0 : (Sh.slice 1 (.int .i64)).R c0) (s1 : (Sh.int .u8).R c1) (s2 : (Sh.int .u8).R c2) : PC prog n_law30_LedgerTrue [(Sh.slice 1 (.int .i64)).mk1 c0, (Sh.int .u8).mk1 c1, (Sh.int .u8).mk1 c2] (.bool true) := by
  obtain ⟨l0, rfl, _, _⟩ := shInts s0
  obtain ⟨a1, rfl, w1⟩ := s1
  obtain ⟨a2, rfl, w2⟩ := s2
  exact ok_law30_LedgerTrue l0 a1 a2 (wf_u8 w1) (wf_u8 w2)
end Go.Proofs.Try
