/-
  OWN WORK, put together by tools/asm.py: what functions do.
-/
import Derived.Test.YtkbpllahboofgaaLibE
set_option linter.unusedSimpArgs false
set_option linter.unusedVariables false
set_option maxRecDepth 100000
set_option maxHeartbeats 1000000
namespace Go.Proofs.Try
open Go.Ab Go
theorem difs_le {a z : Ac} : difN a.st z.st ≤ a.st.length ∧ difN a.ins z.ins ≤ a.ins.length ∧ difN a.outs z.outs ≤ a.outs.length := ⟨difN_le _ _, difN_le _ _, difN_le _ _⟩
theorem ok_revision_Changed (B : Bk) (h : BkOK B) (r : Rp) (hr : RpOK B.op r) {B' : Bk} (hf : fileS B r = (B', 0)) (h' : BkOK B') (ho : B'.op = B.op) {i : Nat} (hi : r.ac = (i : Int)) {a z : Ac} (ha : tigS B i = (a, 0)) (hz : tigS B' i = (z, 0)) (hA : AcOK a)
    (h1 : a.st.length = z.st.length) (h2 : a.ins.length = z.ins.length) (h3 : a.outs.length = z.outs.length) :
    PC prog n_revision_Changed [bkv B, rpv r] (.tuple [.int .i64 ((difN a.st z.st : Int) + difN a.ins z.ins + difN a.outs z.outs), .int .i64 0]) := by
  have hil : i < B.op.length := by have := hr.a1; omega
  have hF := ok_revision_File B h r hr
  have hT1 := ok_revision_Tight B h i hil
  have hT2 := ok_revision_Tight B' h' i (by rw [ho]; exact hil)
  rw [hf] at hF
  rw [ha] at hT1
  rw [hz] at hT2
  have n1 := hA.n2
  have n2 := hA.no
  have n3 := hA.ns
  have d1 := ok_revision_different a.st z.st h1 (by omega)
  have d2 := ok_revision_different a.ins z.ins h2 (by omega)
  have d3 := ok_revision_different a.outs z.outs h3 (by omega)
  obtain ⟨l1, l2, l3⟩ := difs_le (a := a) (z := z)
  simp only [bkv, rpv, acv, hi] at hF hT1 hT2
  refine PC_of_body b_revision_Changed (by simp) ?_
  simp only [c_revision_Changed, go_sem, Int.reduceEq, Int.reduceLT, Int.reduceLE, Int.reduceToNat, Nat.reduceLT, Nat.reduceEqDiff, Nat.reduceAdd, Nat.reduceLeDiff, Nat.reduceSub, Nat.reduceMul, ↓reduceIte, reduceCtorEq, w_app_nl, bkv, rpv, hi]
  refine call_pc hF (by simp [go_sem, acs_pur, rps_pur]) ?_
  try simp (maxSteps := 500000) (disch := omega) only [go_sem, Int.reduceEq, Int.reduceLT, Int.reduceLE, Int.reduceToNat, Nat.reduceLT, Nat.reduceEqDiff, Nat.reduceAdd, Nat.reduceLeDiff, Nat.reduceSub, Nat.reduceMul, ↓reduceIte, reduceCtorEq, wrap_id, w_ite_ne, w_ite_lt, Nat.sub_zero, Nat.sub_self]
  refine call_pc hT1 (by simp [go_sem, acs_pur, rps_pur]) ?_
  try simp (maxSteps := 500000) (disch := omega) only [go_sem, Int.reduceEq, Int.reduceLT, Int.reduceLE, Int.reduceToNat, Nat.reduceLT, Nat.reduceEqDiff, Nat.reduceAdd, Nat.reduceLeDiff, Nat.reduceSub, Nat.reduceMul, ↓reduceIte, reduceCtorEq, wrap_id, w_ite_ne, w_ite_lt, Nat.sub_zero, Nat.sub_self]
  refine call_pc hT2 (by simp [go_sem, acs_pur, rps_pur]) ?_
  try simp (maxSteps := 500000) (disch := omega) only [go_sem, Int.reduceEq, Int.reduceLT, Int.reduceLE, Int.reduceToNat, Nat.reduceLT, Nat.reduceEqDiff, Nat.reduceAdd, Nat.reduceLeDiff, Nat.reduceSub, Nat.reduceMul, ↓reduceIte, reduceCtorEq, wrap_id, w_ite_ne, w_ite_lt, Nat.sub_zero, Nat.sub_self]
  refine call_pc d1 (by simp [go_sem, bds_pur]) ?_
  try simp (maxSteps := 500000) (disch := omega) only [go_sem, Int.reduceEq, Int.reduceLT, Int.reduceLE, Int.reduceToNat, Nat.reduceLT, Nat.reduceEqDiff, Nat.reduceAdd, Nat.reduceLeDiff, Nat.reduceSub, Nat.reduceMul, ↓reduceIte, reduceCtorEq, wrap_id, w_ite_ne, w_ite_lt, Nat.sub_zero, Nat.sub_self]
  refine call_pc d2 (by simp [go_sem, bds_pur]) ?_
  try simp (maxSteps := 500000) (disch := omega) only [go_sem, Int.reduceEq, Int.reduceLT, Int.reduceLE, Int.reduceToNat, Nat.reduceLT, Nat.reduceEqDiff, Nat.reduceAdd, Nat.reduceLeDiff, Nat.reduceSub, Nat.reduceMul, ↓reduceIte, reduceCtorEq, wrap_id, w_ite_ne, w_ite_lt, Nat.sub_zero, Nat.sub_self]
  refine call_pc d3 (by simp [go_sem, bds_pur]) ?_
  try simp (maxSteps := 500000) (disch := omega) only [go_sem, Int.reduceEq, Int.reduceLT, Int.reduceLE, Int.reduceToNat, Nat.reduceLT, Nat.reduceEqDiff, Nat.reduceAdd, Nat.reduceLeDiff, Nat.reduceSub, Nat.reduceMul, ↓reduceIte, reduceCtorEq, wrap_id, w_ite_ne, w_ite_lt, Nat.sub_zero, Nat.sub_self]
  exact Pub.of_eq rfl rfl
theorem pw_low {l : List Rp} (h : l.Pairwise fun a b => a.nu < b.nu) (h1 : ∀ r ∈ l, 1 ≤ r.nu) : ∀ (i : Nat) (r : Rp), l[i]? = some r → (i : Int) + 1 ≤ r.nu
  | 0, r, hr => by have := h1 r (List.mem_of_getElem? hr); omega
  | i + 1, r, hr => by
    have hil := (List.getElem?_eq_some_iff.1 hr).1
    have h2 := pw_low h h1 i _ (gR_get (by omega))
    have h3 := pw_get h (Nat.lt_succ_self i) (gR_get (l := l) (i := i) (by omega)) hr
    omega
theorem TrB.few {B : Bk} {T : List Tr} (h : TrB B T) : B.rp.length ≤ 20 := by
  rcases Nat.eq_zero_or_pos B.rp.length with h0 | h0
  · omega
  · have e := gR_get (l := B.rp) (i := B.rp.length - 1) (by omega)
    have h1 := pw_low h.ok.asc (fun r hr => (h.ok.ro r hr).n1) _ _ e
    have h2 := h.nu _ (List.mem_of_getElem? e)
    omega
theorem ok_law31_RevisionChanged (t : List Int) : PC prog n_law31_RevisionChanged [.list 1 (ints t)] (.bool true) := by
  refine PC_of_body b_law31_RevisionChanged (by simp) ?_
  simp only [c_law31_RevisionChanged, go_sem, Int.reduceEq, Int.reduceLT, Int.reduceLE, Int.reduceToNat, Nat.reduceLT, Nat.reduceEqDiff, Nat.reduceAdd, Nat.reduceLeDiff, Nat.reduceSub, Nat.reduceMul, ↓reduceIte, reduceCtorEq, w_app_nl]
  try simp (maxSteps := 500000) (disch := omega) only [go_sem, Int.reduceEq, Int.reduceLT, Int.reduceLE, Int.reduceToNat, Nat.reduceLT, Nat.reduceEqDiff, Nat.reduceAdd, Nat.reduceLeDiff, Nat.reduceSub, Nat.reduceMul, ↓reduceIte, reduceCtorEq, wrap_id, w_ite_ne, w_ite_lt, Nat.sub_zero, Nat.sub_self]
  refine call_pc ok_law31_sane (by simp) ?_
  try simp (maxSteps := 500000) (disch := omega) only [go_sem, Int.reduceEq, Int.reduceLT, Int.reduceLE, Int.reduceToNat, Nat.reduceLT, Nat.reduceEqDiff, Nat.reduceAdd, Nat.reduceLeDiff, Nat.reduceSub, Nat.reduceMul, ↓reduceIte, reduceCtorEq, wrap_id, w_ite_ne, w_ite_lt, Nat.sub_zero, Nat.sub_self]
  refine call_pc (ok_mk_Few t) (by simp [go_sem]) ?_
  try simp (maxSteps := 500000) (disch := omega) only [go_sem, Int.reduceEq, Int.reduceLT, Int.reduceLE, Int.reduceToNat, Nat.reduceLT, Nat.reduceEqDiff, Nat.reduceAdd, Nat.reduceLeDiff, Nat.reduceSub, Nat.reduceMul, ↓reduceIte, reduceCtorEq, wrap_id, w_ite_ne, w_ite_lt, Nat.sub_zero, Nat.sub_self]
  cases hfew : fewB t
  · try simp (maxSteps := 500000) (disch := omega) only [go_sem, Int.reduceEq, Int.reduceLT, Int.reduceLE, Int.reduceToNat, Nat.reduceLT, Nat.reduceEqDiff, Nat.reduceAdd, Nat.reduceLeDiff, Nat.reduceSub, Nat.reduceMul, ↓reduceIte, reduceCtorEq, wrap_id, w_ite_ne, w_ite_lt, Nat.sub_zero, Nat.sub_self]
    exact Pub.of_eq rfl rfl
  have hlt : t.length ≤ 9223372036854775807 := by simp [fewB] at hfew; omega
  try simp (maxSteps := 500000) (disch := omega) only [go_sem, Int.reduceEq, Int.reduceLT, Int.reduceLE, Int.reduceToNat, Nat.reduceLT, Nat.reduceEqDiff, Nat.reduceAdd, Nat.reduceLeDiff, Nat.reduceSub, Nat.reduceMul, ↓reduceIte, reduceCtorEq, wrap_id, w_ite_ne, w_ite_lt, Nat.sub_zero, Nat.sub_self]
  refine call_hc (ok_mk_New _ t) ?_
  try simp (maxSteps := 500000) (disch := omega) only [go_sem, Int.reduceEq, Int.reduceLT, Int.reduceLE, Int.reduceToNat, Nat.reduceLT, Nat.reduceEqDiff, Nat.reduceAdd, Nat.reduceLeDiff, Nat.reduceSub, Nat.reduceMul, ↓reduceIte, reduceCtorEq, wrap_id, w_ite_ne, w_ite_lt, Nat.sub_zero, Nat.sub_self]
  refine (hc_flow_Book _ 0 0 t 0 hlt (by simp only [St.push]; omega) (by try simp (maxSteps := 500000) (disch := omega) only [go_sem, Int.reduceEq, Int.reduceLT, Int.reduceLE, Int.reduceToNat, Nat.reduceLT, Nat.reduceEqDiff, Nat.reduceAdd, Nat.reduceLeDiff, Nat.reduceSub, Nat.reduceMul, ↓reduceIte, reduceCtorEq, wrap_id, w_ite_ne, w_ite_lt, Nat.sub_zero, Nat.sub_self])).mono ?_
  intro r τ hD
  obtain ⟨⟨B, T, rfl, hTB⟩, hn, ⟨at1, hd⟩, -⟩ := hD.use (by simp only [St.push]; omega)
  obtain ⟨ob, m, c⟩ := τ
  simp only [St.push] at hn hd
  subst hn
  clear hD
  have hTn := hTB.len
  have hop1 := hTB.n1
  have hT0 := hTB.tr 0 (by omega)
  have eA := gA_get (l := B.op) (i := 0) (by omega)
  have eT := gT_get (l := T) (i := 0) (by omega)
  try simp (maxSteps := 500000) (disch := omega) only [go_sem, Int.reduceEq, Int.reduceLT, Int.reduceLE, Int.reduceToNat, Nat.reduceLT, Nat.reduceEqDiff, Nat.reduceAdd, Nat.reduceLeDiff, Nat.reduceSub, Nat.reduceMul, ↓reduceIte, reduceCtorEq, wrap_id, w_ite_ne, w_ite_lt, Nat.sub_zero, Nat.sub_self, bkv, acs_length, trs_length, acs_get, trs_get, eA, eT, Option.map_some, acv, trv]
  refine ⟨by omega, by omega, ?_⟩
  refine (hc_flow_Report _ 0 0 t at1 (gA B.op 0) (gT T 0) hT0 0 1000 hlt (by simp only; omega) (by try simp (maxSteps := 500000) (disch := omega) only [go_sem, Int.reduceEq, Int.reduceLT, Int.reduceLE, Int.reduceToNat, Nat.reduceLT, Nat.reduceEqDiff, Nat.reduceAdd, Nat.reduceLeDiff, Nat.reduceSub, Nat.reduceMul, ↓reduceIte, reduceCtorEq, wrap_id, w_ite_ne, w_ite_lt, Nat.sub_zero, Nat.sub_self]; exact hd)).mono ?_
  intro r' τ hDR
  obtain ⟨⟨q, rfl, q1, q2, q3, q4, q5⟩, hn9, -, hf9⟩ := hDR.use (by simp only; omega)
  obtain ⟨ob9, m9, c9⟩ := τ
  simp only at hn9 hf9
  subst hn9
  have v1 := hf9 1 (by omega) (by omega)
  try simp (maxSteps := 500000) (disch := omega) only [go_sem, Int.reduceEq, Int.reduceLT, Int.reduceLE, Int.reduceToNat, Nat.reduceLT, Nat.reduceEqDiff, Nat.reduceAdd, Nat.reduceLeDiff, Nat.reduceSub, Nat.reduceMul, ↓reduceIte, reduceCtorEq, wrap_id, w_ite_ne, w_ite_lt, Nat.sub_zero, Nat.sub_self] at v1
  have hqOK : RpOK B.op q := ⟨by omega, by omega, by omega, by omega, by rw [q2]; exact q3⟩
  obtain ⟨t1, t2, t3, t4, t5⟩ := hT0.hi
  obtain ⟨B', a, z, k1, k2, k3, k4, k5, k6, k7, k8, k9, k10, k11, k12, k13, k14⟩ := chg_law hTB.ok hqOK (fun p hp e => by have := hTB.nu p hp; omega) (by have := hTB.few; omega) (i := 0) (by rw [q2]; rfl) t1 hTB.hist q4
  have w0 := ok_revision_Changed B hTB.ok q hqOK k1 k2 k3 (i := 0) (by rw [q2]; rfl) k4 k5 k6 k9 k10 k11
  have w1 := ok_revision_Tight B hTB.ok 0 (by omega)
  have w2 := ok_revision_File B hTB.ok q hqOK
  have w3 := ok_revision_Tight B' k2 0 (by rw [k3]; omega)
  rw [k4] at w1
  rw [k1] at w2
  rw [k5] at w3
  rw [show ((0 : Nat) : Int) = 0 from rfl] at w1 w3
  have x1 := ok_ref30_Width a k6.l
  have x2 := ok_ref30_Width z k7.l
  rw [show widS a = (widK a 3, 0) by simp only [widS]; rw [if_neg (by simp [chk_ok.2 k6])]] at x1
  rw [show widS z = (widK z 3, 0) by simp only [widS]; rw [if_neg (by simp [chk_ok.2 k7])]] at x2
  have x3 := ok_ref30_Same a z k6.l
  clear k1 k4 k5 k8
  obtain ⟨l1, l2, l3⟩ := difs_le (a := a) (z := z)
  generalize hN : (difN a.st z.st : Int) + difN a.ins z.ins + difN a.outs z.outs = N at *
  simp only [bkv, acv, rpv] at w0 w1 w2 w3 x1 x2 x3
  try simp (maxSteps := 500000) (disch := omega) only [go_sem, Int.reduceEq, Int.reduceLT, Int.reduceLE, Int.reduceToNat, Nat.reduceLT, Nat.reduceEqDiff, Nat.reduceAdd, Nat.reduceLeDiff, Nat.reduceSub, Nat.reduceMul, ↓reduceIte, reduceCtorEq, wrap_id, w_ite_ne, w_ite_lt, Nat.sub_zero, Nat.sub_self, v1, rpv]
  refine call_pc w0 (by simp [go_sem, rpv, acs_pur, rps_pur]) ?_
  try simp (maxSteps := 500000) (disch := omega) only [go_sem, Int.reduceEq, Int.reduceLT, Int.reduceLE, Int.reduceToNat, Nat.reduceLT, Nat.reduceEqDiff, Nat.reduceAdd, Nat.reduceLeDiff, Nat.reduceSub, Nat.reduceMul, ↓reduceIte, reduceCtorEq, wrap_id, w_ite_ne, w_ite_lt, Nat.sub_zero, Nat.sub_self, v1]
  refine call_pc w1 (by simp [go_sem, acs_pur, rps_pur]) ?_
  try simp (maxSteps := 500000) (disch := omega) only [go_sem, Int.reduceEq, Int.reduceLT, Int.reduceLE, Int.reduceToNat, Nat.reduceLT, Nat.reduceEqDiff, Nat.reduceAdd, Nat.reduceLeDiff, Nat.reduceSub, Nat.reduceMul, ↓reduceIte, reduceCtorEq, wrap_id, w_ite_ne, w_ite_lt, Nat.sub_zero, Nat.sub_self, v1]
  refine call_pc w2 (by simp [go_sem, rpv, acs_pur, rps_pur]) ?_
  try simp (maxSteps := 500000) (disch := omega) only [go_sem, Int.reduceEq, Int.reduceLT, Int.reduceLE, Int.reduceToNat, Nat.reduceLT, Nat.reduceEqDiff, Nat.reduceAdd, Nat.reduceLeDiff, Nat.reduceSub, Nat.reduceMul, ↓reduceIte, reduceCtorEq, wrap_id, w_ite_ne, w_ite_lt, Nat.sub_zero, Nat.sub_self, v1]
  refine call_pc w3 (by simp [go_sem, acs_pur, rps_pur]) ?_
  try simp (maxSteps := 500000) (disch := omega) only [go_sem, Int.reduceEq, Int.reduceLT, Int.reduceLE, Int.reduceToNat, Nat.reduceLT, Nat.reduceEqDiff, Nat.reduceAdd, Nat.reduceLeDiff, Nat.reduceSub, Nat.reduceMul, ↓reduceIte, reduceCtorEq, wrap_id, w_ite_ne, w_ite_lt, Nat.sub_zero, Nat.sub_self, v1]
  refine call_pc x1 (by simp [go_sem, bds_pur]) ?_
  try simp (maxSteps := 500000) (disch := omega) only [go_sem, Int.reduceEq, Int.reduceLT, Int.reduceLE, Int.reduceToNat, Nat.reduceLT, Nat.reduceEqDiff, Nat.reduceAdd, Nat.reduceLeDiff, Nat.reduceSub, Nat.reduceMul, ↓reduceIte, reduceCtorEq, wrap_id, w_ite_ne, w_ite_lt, Nat.sub_zero, Nat.sub_self, v1]
  refine call_pc x2 (by simp [go_sem, bds_pur]) ?_
  try simp (maxSteps := 500000) (disch := omega) only [go_sem, Int.reduceEq, Int.reduceLT, Int.reduceLE, Int.reduceToNat, Nat.reduceLT, Nat.reduceEqDiff, Nat.reduceAdd, Nat.reduceLeDiff, Nat.reduceSub, Nat.reduceMul, ↓reduceIte, reduceCtorEq, wrap_id, w_ite_ne, w_ite_lt, Nat.sub_zero, Nat.sub_self, v1]
  refine call_pc x3 (by simp [go_sem, bds_pur]) ?_
  have hle : decide (widK z 3 ≤ widK a 3) = true := decide_eq_true k12
  by_cases heq : a = z
  · have hd1 : decide (N = 0) = true := decide_eq_true (k13.2 heq)
    have hd2 : sameA a z = true := sameA_iff.2 heq
    have hd3 : decide (widK a 3 = widK z 3) = true := decide_eq_true (k14.1 heq)
    try simp (maxSteps := 500000) (disch := omega) only [go_sem, Int.reduceEq, Int.reduceLT, Int.reduceLE, Int.reduceToNat, Nat.reduceLT, Nat.reduceEqDiff, Nat.reduceAdd, Nat.reduceLeDiff, Nat.reduceSub, Nat.reduceMul, ↓reduceIte, reduceCtorEq, wrap_id, w_ite_ne, w_ite_lt, Nat.sub_zero, Nat.sub_self, hd1, hd2, hd3, hle, beq_self_eq_true]
    exact Pub.of_eq (by simp) rfl
  · have hd1 : decide (N = 0) = false := decide_eq_false fun e => heq (k13.1 e)
    have hd2 : sameA a z = false := by
      cases hs : sameA a z
      · rfl
      · exact absurd (sameA_iff.1 hs) heq
    have hd3 : decide (widK a 3 = widK z 3) = false := decide_eq_false fun e => heq (k14.2 e)
    try simp (maxSteps := 500000) (disch := omega) only [go_sem, Int.reduceEq, Int.reduceLT, Int.reduceLE, Int.reduceToNat, Nat.reduceLT, Nat.reduceEqDiff, Nat.reduceAdd, Nat.reduceLeDiff, Nat.reduceSub, Nat.reduceMul, ↓reduceIte, reduceCtorEq, wrap_id, w_ite_ne, w_ite_lt, Nat.sub_zero, Nat.sub_self, hd1, hd2, hd3, hle, beq_self_eq_true]
    exact Pub.of_eq (by simp) rfl
theorem law_law31_RevisionChanged {c0 : List AV} (s0 : (Sh.slice 1 (.int .i64)).R c0) : PC prog n_law31_RevisionChanged [(Sh.slice 1 (.int .i64)).mk1 c0] (.bool true) := by
  obtain ⟨l0, rfl, _, _⟩ := shInts s0
  exact ok_law31_RevisionChanged l0
end Go.Proofs.Try
