/-
  OWN WORK, put together by tools/asm.py: what functions do.
-/
import Derived.Test.YtkbpllahboofgaaLibE
set_option linter.unusedSimpArgs false
set_option linter.unusedVariables false
set_option maxRecDepth 100000
set_option maxHeartbeats 1000000
namespace Go.Proofs.Try
open Go.Ab Go
theorem ok_law31_RevisionContradicts (t : List Int) (fi se gp : Int) (hf0 : 0 ≤ fi ∧ fi ≤ 255) (hs0 : 0 ≤ se ∧ se ≤ 255) (hg0 : 0 ≤ gp ∧ gp ≤ 255) : PC prog n_law31_RevisionContradicts [.list 1 (ints t), .int .u8 fi, .int .u8 se, .int .u8 gp] (.bool true) := by
  refine PC_of_body b_law31_RevisionContradicts (by simp) ?_
  simp only [c_law31_RevisionContradicts, go_sem, Int.reduceEq, Int.reduceLT, Int.reduceLE, Int.reduceToNat, Nat.reduceLT, Nat.reduceEqDiff, Nat.reduceAdd, Nat.reduceLeDiff, Nat.reduceSub, Nat.reduceMul, ↓reduceIte, reduceCtorEq, w_app_nl]
  try simp (maxSteps := 500000) (disch := omega) only [go_sem, Int.reduceEq, Int.reduceLT, Int.reduceLE, Int.reduceToNat, Nat.reduceLT, Nat.reduceEqDiff, Nat.reduceAdd, Nat.reduceLeDiff, Nat.reduceSub, Nat.reduceMul, ↓reduceIte, reduceCtorEq, wrap_id, w_ite_ne, w_ite_lt, Nat.sub_zero, Nat.sub_self]
  refine call_pc ok_law31_sane (by simp) ?_
  try simp (maxSteps := 500000) (disch := omega) only [go_sem, Int.reduceEq, Int.reduceLT, Int.reduceLE, Int.reduceToNat, Nat.reduceLT, Nat.reduceEqDiff, Nat.reduceAdd, Nat.reduceLeDiff, Nat.reduceSub, Nat.reduceMul, ↓reduceIte, reduceCtorEq, wrap_id, w_ite_ne, w_ite_lt, Nat.sub_zero, Nat.sub_self]
  refine call_pc (ok_mk_Few t) (by simp [go_sem]) ?_
  try simp (maxSteps := 500000) (disch := omega) only [go_sem, Int.reduceEq, Int.reduceLT, Int.reduceLE, Int.reduceToNat, Nat.reduceLT, Nat.reduceEqDiff, Nat.reduceAdd, Nat.reduceLeDiff, Nat.reduceSub, Nat.reduceMul, ↓reduceIte, reduceCtorEq, wrap_id, w_ite_ne, w_ite_lt, Nat.sub_zero, Nat.sub_self]
  cases hfew : fewB t
  · try simp (maxSteps := 500000) (disch := omega) only [go_sem, Int.reduceEq, Int.reduceLT, Int.reduceLE, Int.reduceToNat, Nat.reduceLT, Nat.reduceEqDiff, Nat.reduceAdd, Nat.reduceLeDiff, Nat.reduceSub, Nat.reduceMul, ↓reduceIte, reduceCtorEq, wrap_id, w_ite_ne, w_ite_lt, Nat.sub_zero, Nat.sub_self]
    exact Pub.of_eq rfl rfl
  have hlt : t.length ≤ 9223372036854775807 := by simp [fewB] at hfew; omega
  try simp (maxSteps := 500000) (disch := omega) only [go_sem, Int.reduceEq, Int.reduceLT, Int.reduceLE, Int.reduceToNat, Nat.reduceLT, Nat.reduceEqDiff, Nat.reduceAdd, Nat.reduceLeDiff, Nat.reduceSub, Nat.reduceMul, ↓reduceIte, reduceCtorEq, wrap_id, w_ite_ne, w_ite_lt, Nat.sub_zero, Nat.sub_self]
  refine call_hc (ok_mk_New _ t) ?_
  try simp (maxSteps := 500000) (disch := omega) only [go_sem, Int.reduceEq, Int.reduceLT, Int.reduceLE, Int.reduceToNat, Nat.reduceLT, Nat.reduceEqDiff, Nat.reduceAdd, Nat.reduceLeDiff, Nat.reduceSub, Nat.reduceMul, ↓reduceIte, reduceCtorEq, wrap_id, w_ite_ne, w_ite_lt, Nat.sub_zero, Nat.sub_self]
  refine (hc_flow_Book _ 0 0 t 0 hlt (by simp only [St.push]; omega) (by try simp (maxSteps := 500000) (disch := omega) only [go_sem, Int.reduceEq, Int.reduceLT, Int.reduceLE, Int.reduceToNat, Nat.reduceLT, Nat.reduceEqDiff, Nat.reduceAdd, Nat.reduceLeDiff, Nat.reduceSub, Nat.reduceMul, ↓reduceIte, reduceCtorEq, wrap_id, w_ite_ne, w_ite_lt, Nat.sub_zero, Nat.sub_self])).mono ?_
  intro r' τ hD
  obtain ⟨⟨B, T, rfl, hTB⟩, hn, ⟨at1, hd⟩, -⟩ := hD.use (by simp only [St.push]; omega)
  obtain ⟨ob, m, c⟩ := τ
  simp only [St.push] at hn hd
  subst hn
  clear hD
  have hTn := hTB.len
  have hop1 := hTB.n1
  have hop2 := hTB.n2
  have hT0 := hTB.tr 0 (by omega)
  have eA := gA_get (l := B.op) (i := 0) (by omega)
  have eT := gT_get (l := T) (i := 0) (by omega)
  try simp (maxSteps := 500000) (disch := omega) only [go_sem, Int.reduceEq, Int.reduceLT, Int.reduceLE, Int.reduceToNat, Nat.reduceLT, Nat.reduceEqDiff, Nat.reduceAdd, Nat.reduceLeDiff, Nat.reduceSub, Nat.reduceMul, ↓reduceIte, reduceCtorEq, wrap_id, w_ite_ne, w_ite_lt, Nat.sub_zero, Nat.sub_self, bkv, acs_length, trs_length, acs_get, trs_get, eA, eT, Option.map_some, acv, trv]
  refine ⟨by omega, by omega, ?_⟩
  refine (hc_flow_Report _ 0 0 t at1 (gA B.op 0) (gT T 0) hT0 0 1 hlt (by simp only; omega) (by try simp (maxSteps := 500000) (disch := omega) only [go_sem, Int.reduceEq, Int.reduceLT, Int.reduceLE, Int.reduceToNat, Nat.reduceLT, Nat.reduceEqDiff, Nat.reduceAdd, Nat.reduceLeDiff, Nat.reduceSub, Nat.reduceMul, ↓reduceIte, reduceCtorEq, wrap_id, w_ite_ne, w_ite_lt, Nat.sub_zero, Nat.sub_self]; exact hd)).mono ?_
  intro r' τ hDR
  obtain ⟨⟨r, rfl, q1, q2, q3, q4, q5⟩, hn9, -, hf9⟩ := hDR.use (by simp only; omega)
  obtain ⟨ob9, m9, c9⟩ := τ
  simp only at hn9 hf9
  subst hn9
  have v1 := hf9 1 (by omega) (by omega)
  try simp (maxSteps := 500000) (disch := omega) only [go_sem, Int.reduceEq, Int.reduceLT, Int.reduceLE, Int.reduceToNat, Nat.reduceLT, Nat.reduceEqDiff, Nat.reduceAdd, Nat.reduceLeDiff, Nat.reduceSub, Nat.reduceMul, ↓reduceIte, reduceCtorEq, wrap_id, w_ite_ne, w_ite_lt, Nat.sub_zero, Nat.sub_self] at v1
  clear hf9 hDR
  have hB0 : BkOK ⟨B.op, []⟩ := hTB.ok.sub (List.nil_sublist _)
  have hrOK : RpOK B.op r := ⟨by omega, by omega, by omega, by omega, by rw [q2]; exact q3⟩
  obtain ⟨b0, b1, b2⟩ := q3.b
  obtain ⟨q, hq⟩ : ∃ q : Rp, q = ⟨2, r.ac, r.fd, r.tm, ⟨r.b.hi + 1 + gp, r.b.hi + 1 + gp + se⟩⟩ := ⟨_, rfl⟩
  have hqOK : RpOK B.op q := by
    subst hq
    refine ⟨by simp only; omega, by simp only; omega, by simp only; omega, by simp only; omega, ⟨?_, ?_, ?_, ?_⟩⟩
    · rw [q2]; exact q3.fd
    · rw [q2]; exact q3.t0
    · rw [q2]; exact q3.t1
    · simp only [fitB, mxV]; omega
  obtain ⟨t1, t2, t3, t4, t5⟩ := hT0.hi
  obtain ⟨o1, o2, o3, o4, o5⟩ := contra_law hB0 hrOK hqOK q1 (by rw [hq]) (i := 0) (by rw [q2]; rfl) (by rw [hq]; simp only; rw [q2]; rfl) (by rw [hq]) (by rw [hq]) (by rw [hq]; simp only; omega) t1 q4
  have w1 := ok_revision_Current ⟨B.op, [r, q]⟩ o3 0 (by simp only; omega)
  have w2 := ok_revision_Tight ⟨B.op, [r, q]⟩ o3 0 (by simp only; omega)
  rw [o4, show ((0 : Nat) : Int) = 0 from rfl] at w1
  rw [o5, show ((0 : Nat) : Int) = 0 from rfl] at w2
  have w3 : 1 < T.length → ∃ a, AcOK a ∧ PC prog n_revision_Tight [bkv ⟨B.op, [r, q]⟩, .int .i64 1] (.tuple [acv a, .int .i64 0]) ∧ PC prog n_ref30_Holds [acv a, .list 1 (ints (gT T 1).S), .list 1 (ints (gT T 1).I), .list 1 (ints (gT T 1).O)] (.bool true) := fun h1 => by
    obtain ⟨g1, g2, g3, g4, g5⟩ := (hTB.tr 1 (by omega)).hi
    obtain ⟨cc, d1, d2, d3, d4, d5, d6, d7, d8⟩ := tig_law o3 (i := 1) (by simp only; omega) g1 (fun p hp e => by
      simp only [List.mem_cons, List.not_mem_nil, or_false] at hp
      rcases hp with rfl | rfl
      · omega
      · rw [hq] at e; simp only at e; omega)
    have y1 := ok_revision_Tight ⟨B.op, [r, q]⟩ o3 1 (by simp only; omega)
    rw [d2] at y1
    have hk := tgt_ok d3 d4
    have y2 := ok_ref30_Holds (tgt cc) hk.l (gT T 1).S (gT T 1).I (gT T 1).O
    simp only at d5
    rw [tgt_hold d3 d7 (by omega) (by omega) (by omega)] at y2
    exact ⟨tgt cc, hk, y1, y2⟩
  have hF0 := fun (u : Rp) (hu : RpOK B.op u) => pc_nl (ok_revision_File ⟨B.op, []⟩ hB0 u hu) (args := [.agg [.list 4 (acs B.op), .nil], rpv u]) (.cons (NlR.agg (.cons .rfl (.cons (.nil 6) .nil))) (.cons .rfl .nil))
  simp only [bkv, acv, acZ] at w1 w2
  try simp (maxSteps := 500000) (disch := omega) only [go_sem, Int.reduceEq, Int.reduceLT, Int.reduceLE, Int.reduceToNat, Nat.reduceLT, Nat.reduceEqDiff, Nat.reduceAdd, Nat.reduceLeDiff, Nat.reduceSub, Nat.reduceMul, ↓reduceIte, reduceCtorEq, wrap_id, w_ite_ne, w_ite_lt, Nat.sub_zero, Nat.sub_self, v1, rpv]
  refine cond_d (fun hodd => ?_) (fun heven => ?_)
  · obtain ⟨B1, f1, f2, f3, f4⟩ := o2
    have g1 := hF0 q hqOK
    rw [f1] at g1
    have g2 := ok_revision_File B1 f2 r (by rw [f3]; exact hrOK)
    rw [f4] at g2
    simp only [bkv, rpv, hq, f3] at g1 g2
    try simp (maxSteps := 500000) (disch := omega) only [go_sem, Int.reduceEq, Int.reduceLT, Int.reduceLE, Int.reduceToNat, Nat.reduceLT, Nat.reduceEqDiff, Nat.reduceAdd, Nat.reduceLeDiff, Nat.reduceSub, Nat.reduceMul, ↓reduceIte, reduceCtorEq, wrap_id, w_ite_ne, w_ite_lt, Nat.sub_zero, Nat.sub_self, v1, rpv]
    refine awp_upG [8, 16, 17, 18, 80, 81, 82, 83, 84, 85, 86, 87, 88, 89, 90, 91, 92, 93] (by kernel_rfl) 2 (fun k e σ => e 80 = .int .i64 k ∧ ∃ XR, σ.ob 1 = some ⟨c, 2, 30, false, true, [.agg [.list 4 (acs B.op), XR]]⟩ ∧ ((k = 0 ∧ XR = .nil) ∨ (k = 1 ∧ XR = .list 6 (rps B1.rp)) ∨ (k = 2 ∧ XR = .list 6 (rps [r, q])))) ?_ ?_
    · exact ⟨(by first | ((try simp (maxSteps := 1000000) only [go_sem, Int.reduceEq, Int.reduceLT, Int.reduceLE, Int.reduceToNat, Nat.reduceLT, Nat.reduceEqDiff, Nat.reduceAdd, Nat.reduceLeDiff, Nat.reduceSub, Nat.reduceMul, ↓reduceIte, reduceCtorEq, w_app_nl]); done) | ((try simp (maxSteps := 1000000) only [go_sem, Int.reduceEq, Int.reduceLT, Int.reduceLE, Int.reduceToNat, Nat.reduceLT, Nat.reduceEqDiff, Nat.reduceAdd, Nat.reduceLeDiff, Nat.reduceSub, Nat.reduceMul, ↓reduceIte, reduceCtorEq, w_app_nl]); rfl) | ((try simp (maxSteps := 1000000) (disch := omega) only [go_sem, Int.reduceEq, Int.reduceLT, Int.reduceLE, Int.reduceToNat, Nat.reduceLT, Nat.reduceEqDiff, Nat.reduceAdd, Nat.reduceLeDiff, Nat.reduceSub, Nat.reduceMul, ↓reduceIte, reduceCtorEq, w_app_nl, wrap_id, w_ite_ne, w_ite_lt]); rfl) | (simp (maxSteps := 1000000) (disch := omega) only [go_sem, Int.reduceEq, Int.reduceLT, Int.reduceLE, Int.reduceToNat, Nat.reduceLT, Nat.reduceEqDiff, Nat.reduceAdd, Nat.reduceLeDiff, Nat.reduceSub, Nat.reduceMul, ↓reduceIte, reduceCtorEq, w_app_nl, wrap_id, w_ite_ne, w_ite_lt]; done)), .nil, by try simp (maxSteps := 500000) (disch := omega) only [go_sem, Int.reduceEq, Int.reduceLT, Int.reduceLE, Int.reduceToNat, Nat.reduceLT, Nat.reduceEqDiff, Nat.reduceAdd, Nat.reduceLeDiff, Nat.reduceSub, Nat.reduceMul, ↓reduceIte, reduceCtorEq, wrap_id, w_ite_ne, w_ite_lt, Nat.sub_zero, Nat.sub_self, v1], .inl ⟨rfl, rfl⟩⟩
    rintro k fe ob1 m1 c1 hk hm1 ⟨h80, XR, u1, hX⟩
    simp (maxSteps := 1000000) only [go_sem, Int.reduceEq, Int.reduceLT, Int.reduceLE, Int.reduceToNat, Nat.reduceLT, Nat.reduceEqDiff, Nat.reduceAdd, Nat.reduceLeDiff, Nat.reduceSub, Nat.reduceMul, ↓reduceIte, reduceCtorEq, w_app_nl] at h80 u1 hm1
    try simp (maxSteps := 500000) (disch := omega) only [go_sem, Int.reduceEq, Int.reduceLT, Int.reduceLE, Int.reduceToNat, Nat.reduceLT, Nat.reduceEqDiff, Nat.reduceAdd, Nat.reduceLeDiff, Nat.reduceSub, Nat.reduceMul, ↓reduceIte, reduceCtorEq, wrap_id, w_ite_ne, w_ite_lt, Nat.sub_zero, Nat.sub_self, h80]
    have z1 : ¬ 1 = m1 := by omega
    have z1a : ¬ 1 = m1 + 1 := by omega
    refine cond_d (fun hlt1 => ?_) (fun hge => ?_)
    · rcases hX with ⟨rfl, rfl⟩ | ⟨rfl, rfl⟩ | ⟨rfl, _⟩
      · try simp (maxSteps := 500000) (disch := omega) only [go_sem, Int.reduceEq, Int.reduceLT, Int.reduceLE, Int.reduceToNat, Nat.reduceLT, Nat.reduceEqDiff, Nat.reduceAdd, Nat.reduceLeDiff, Nat.reduceSub, Nat.reduceMul, ↓reduceIte, reduceCtorEq, wrap_id, w_ite_ne, w_ite_lt, Nat.sub_zero, Nat.sub_self, h80, z1, u1]
        refine call_pc g1 (by simp [go_sem, acs_pur]) ?_
        try simp (maxSteps := 500000) (disch := omega) only [go_sem, Int.reduceEq, Int.reduceLT, Int.reduceLE, Int.reduceToNat, Nat.reduceLT, Nat.reduceEqDiff, Nat.reduceAdd, Nat.reduceLeDiff, Nat.reduceSub, Nat.reduceMul, ↓reduceIte, reduceCtorEq, wrap_id, w_ite_ne, w_ite_lt, Nat.sub_zero, Nat.sub_self, h80, z1, z1a, u1]
        refine up_nextG (m1 + 1 + 1) (by omega) (by omega) ⟨(by first | ((try simp (maxSteps := 1000000) only [go_sem, Int.reduceEq, Int.reduceLT, Int.reduceLE, Int.reduceToNat, Nat.reduceLT, Nat.reduceEqDiff, Nat.reduceAdd, Nat.reduceLeDiff, Nat.reduceSub, Nat.reduceMul, ↓reduceIte, reduceCtorEq, w_app_nl]); done) | ((try simp (maxSteps := 1000000) only [go_sem, Int.reduceEq, Int.reduceLT, Int.reduceLE, Int.reduceToNat, Nat.reduceLT, Nat.reduceEqDiff, Nat.reduceAdd, Nat.reduceLeDiff, Nat.reduceSub, Nat.reduceMul, ↓reduceIte, reduceCtorEq, w_app_nl]); rfl) | ((try simp (maxSteps := 1000000) (disch := omega) only [go_sem, Int.reduceEq, Int.reduceLT, Int.reduceLE, Int.reduceToNat, Nat.reduceLT, Nat.reduceEqDiff, Nat.reduceAdd, Nat.reduceLeDiff, Nat.reduceSub, Nat.reduceMul, ↓reduceIte, reduceCtorEq, w_app_nl, wrap_id, w_ite_ne, w_ite_lt]); rfl) | (simp (maxSteps := 1000000) (disch := omega) only [go_sem, Int.reduceEq, Int.reduceLT, Int.reduceLE, Int.reduceToNat, Nat.reduceLT, Nat.reduceEqDiff, Nat.reduceAdd, Nat.reduceLeDiff, Nat.reduceSub, Nat.reduceMul, ↓reduceIte, reduceCtorEq, w_app_nl, wrap_id, w_ite_ne, w_ite_lt]; done)), _, ?_, .inr (.inl ⟨rfl, rfl⟩)⟩
        try simp (maxSteps := 500000) (disch := omega) only [go_sem, Int.reduceEq, Int.reduceLT, Int.reduceLE, Int.reduceToNat, Nat.reduceLT, Nat.reduceEqDiff, Nat.reduceAdd, Nat.reduceLeDiff, Nat.reduceSub, Nat.reduceMul, ↓reduceIte, reduceCtorEq, wrap_id, w_ite_ne, w_ite_lt, Nat.sub_zero, Nat.sub_self, St.trunc, z1, z1a, u1]
      · try simp (maxSteps := 500000) (disch := omega) only [go_sem, Int.reduceEq, Int.reduceLT, Int.reduceLE, Int.reduceToNat, Nat.reduceLT, Nat.reduceEqDiff, Nat.reduceAdd, Nat.reduceLeDiff, Nat.reduceSub, Nat.reduceMul, ↓reduceIte, reduceCtorEq, wrap_id, w_ite_ne, w_ite_lt, Nat.sub_zero, Nat.sub_self, h80, z1, u1]
        refine call_pc g2 (by simp [go_sem, acs_pur, rps_pur]) ?_
        try simp (maxSteps := 500000) (disch := omega) only [go_sem, Int.reduceEq, Int.reduceLT, Int.reduceLE, Int.reduceToNat, Nat.reduceLT, Nat.reduceEqDiff, Nat.reduceAdd, Nat.reduceLeDiff, Nat.reduceSub, Nat.reduceMul, ↓reduceIte, reduceCtorEq, wrap_id, w_ite_ne, w_ite_lt, Nat.sub_zero, Nat.sub_self, h80, z1, z1a, u1]
        refine up_nextG (m1 + 1 + 1) (by omega) (by omega) ⟨(by first | ((try simp (maxSteps := 1000000) only [go_sem, Int.reduceEq, Int.reduceLT, Int.reduceLE, Int.reduceToNat, Nat.reduceLT, Nat.reduceEqDiff, Nat.reduceAdd, Nat.reduceLeDiff, Nat.reduceSub, Nat.reduceMul, ↓reduceIte, reduceCtorEq, w_app_nl]); done) | ((try simp (maxSteps := 1000000) only [go_sem, Int.reduceEq, Int.reduceLT, Int.reduceLE, Int.reduceToNat, Nat.reduceLT, Nat.reduceEqDiff, Nat.reduceAdd, Nat.reduceLeDiff, Nat.reduceSub, Nat.reduceMul, ↓reduceIte, reduceCtorEq, w_app_nl]); rfl) | ((try simp (maxSteps := 1000000) (disch := omega) only [go_sem, Int.reduceEq, Int.reduceLT, Int.reduceLE, Int.reduceToNat, Nat.reduceLT, Nat.reduceEqDiff, Nat.reduceAdd, Nat.reduceLeDiff, Nat.reduceSub, Nat.reduceMul, ↓reduceIte, reduceCtorEq, w_app_nl, wrap_id, w_ite_ne, w_ite_lt]); rfl) | (simp (maxSteps := 1000000) (disch := omega) only [go_sem, Int.reduceEq, Int.reduceLT, Int.reduceLE, Int.reduceToNat, Nat.reduceLT, Nat.reduceEqDiff, Nat.reduceAdd, Nat.reduceLeDiff, Nat.reduceSub, Nat.reduceMul, ↓reduceIte, reduceCtorEq, w_app_nl, wrap_id, w_ite_ne, w_ite_lt]; done)), _, ?_, .inr (.inr ⟨rfl, rfl⟩)⟩
        try simp (maxSteps := 500000) (disch := omega) only [go_sem, Int.reduceEq, Int.reduceLT, Int.reduceLE, Int.reduceToNat, Nat.reduceLT, Nat.reduceEqDiff, Nat.reduceAdd, Nat.reduceLeDiff, Nat.reduceSub, Nat.reduceMul, ↓reduceIte, reduceCtorEq, wrap_id, w_ite_ne, w_ite_lt, Nat.sub_zero, Nat.sub_self, St.trunc, z1, z1a, u1, hq]
      · omega
    · have hX2 : XR = .list 6 (rps [r, q]) := by
        rcases hX with ⟨rfl, _⟩ | ⟨rfl, _⟩ | ⟨_, h9⟩
        · omega
        · omega
        · exact h9
      subst hX2
      clear hX
      try simp (maxSteps := 500000) (disch := omega) only [go_sem, Int.reduceEq, Int.reduceLT, Int.reduceLE, Int.reduceToNat, Nat.reduceLT, Nat.reduceEqDiff, Nat.reduceAdd, Nat.reduceLeDiff, Nat.reduceSub, Nat.reduceMul, ↓reduceIte, reduceCtorEq, wrap_id, w_ite_ne, w_ite_lt, Nat.sub_zero, Nat.sub_self, u1]
      refine call_pc w1 (by simp [go_sem, acs_pur, rps_pur]) ?_
      try simp (maxSteps := 500000) (disch := omega) only [go_sem, Int.reduceEq, Int.reduceLT, Int.reduceLE, Int.reduceToNat, Nat.reduceLT, Nat.reduceEqDiff, Nat.reduceAdd, Nat.reduceLeDiff, Nat.reduceSub, Nat.reduceMul, ↓reduceIte, reduceCtorEq, wrap_id, w_ite_ne, w_ite_lt, Nat.sub_zero, Nat.sub_self, u1, z1]
      refine call_pc w2 (by simp [go_sem, acs_pur, rps_pur]) ?_
      try simp (maxSteps := 500000) (disch := omega) only [go_sem, Int.reduceEq, Int.reduceLT, Int.reduceLE, Int.reduceToNat, Nat.reduceLT, Nat.reduceEqDiff, Nat.reduceAdd, Nat.reduceLeDiff, Nat.reduceSub, Nat.reduceMul, ↓reduceIte, reduceCtorEq, wrap_id, w_ite_ne, w_ite_lt, Nat.sub_zero, Nat.sub_self, trs_length]
      refine cond_d (fun hT1 => ?_) (fun hT1 => ?_)
      · obtain ⟨a, a1, a2, a3⟩ := w3 (by omega)
        have eT1 := gT_get (l := T) (i := 1) (by omega)
        simp only [bkv, acv] at a2 a3
        try simp (maxSteps := 500000) (disch := omega) only [go_sem, Int.reduceEq, Int.reduceLT, Int.reduceLE, Int.reduceToNat, Nat.reduceLT, Nat.reduceEqDiff, Nat.reduceAdd, Nat.reduceLeDiff, Nat.reduceSub, Nat.reduceMul, ↓reduceIte, reduceCtorEq, wrap_id, w_ite_ne, w_ite_lt, Nat.sub_zero, Nat.sub_self, u1, z1, z1a]
        refine call_pc a2 (by simp [go_sem, acs_pur, rps_pur]) ?_
        try simp (maxSteps := 500000) (disch := omega) only [go_sem, Int.reduceEq, Int.reduceLT, Int.reduceLE, Int.reduceToNat, Nat.reduceLT, Nat.reduceEqDiff, Nat.reduceAdd, Nat.reduceLeDiff, Nat.reduceSub, Nat.reduceMul, ↓reduceIte, reduceCtorEq, wrap_id, w_ite_ne, w_ite_lt, Nat.sub_zero, Nat.sub_self, trs_length, trs_get, eT1, Option.map_some, trv]
        refine ⟨by omega, by omega, by omega, ?_⟩
        refine call_pc a3 (by simp [go_sem, bds_pur]) ?_
        try simp (maxSteps := 500000) (disch := omega) only [go_sem, Int.reduceEq, Int.reduceLT, Int.reduceLE, Int.reduceToNat, Nat.reduceLT, Nat.reduceEqDiff, Nat.reduceAdd, Nat.reduceLeDiff, Nat.reduceSub, Nat.reduceMul, ↓reduceIte, reduceCtorEq, wrap_id, w_ite_ne, w_ite_lt, Nat.sub_zero, Nat.sub_self]
        exact Pub.of_eq rfl rfl
      · try simp (maxSteps := 500000) (disch := omega) only [go_sem, Int.reduceEq, Int.reduceLT, Int.reduceLE, Int.reduceToNat, Nat.reduceLT, Nat.reduceEqDiff, Nat.reduceAdd, Nat.reduceLeDiff, Nat.reduceSub, Nat.reduceMul, ↓reduceIte, reduceCtorEq, wrap_id, w_ite_ne, w_ite_lt, Nat.sub_zero, Nat.sub_self]
        exact Pub.of_eq rfl rfl
  · obtain ⟨B1, f1, f2, f3, f4⟩ := o1
    have g1 := hF0 r hrOK
    rw [f1] at g1
    have g2 := ok_revision_File B1 f2 q (by rw [f3]; exact hqOK)
    rw [f4] at g2
    simp only [bkv, rpv, hq, f3] at g1 g2
    try simp (maxSteps := 500000) (disch := omega) only [go_sem, Int.reduceEq, Int.reduceLT, Int.reduceLE, Int.reduceToNat, Nat.reduceLT, Nat.reduceEqDiff, Nat.reduceAdd, Nat.reduceLeDiff, Nat.reduceSub, Nat.reduceMul, ↓reduceIte, reduceCtorEq, wrap_id, w_ite_ne, w_ite_lt, Nat.sub_zero, Nat.sub_self, v1, rpv]
    refine awp_upG [8, 16, 17, 18, 80, 81, 82, 83, 84, 85, 86, 87, 88, 89, 90, 91, 92, 93] (by kernel_rfl) 2 (fun k e σ => e 80 = .int .i64 k ∧ ∃ XR, σ.ob 1 = some ⟨c, 2, 30, false, true, [.agg [.list 4 (acs B.op), XR]]⟩ ∧ ((k = 0 ∧ XR = .nil) ∨ (k = 1 ∧ XR = .list 6 (rps B1.rp)) ∨ (k = 2 ∧ XR = .list 6 (rps [r, q])))) ?_ ?_
    · exact ⟨(by first | ((try simp (maxSteps := 1000000) only [go_sem, Int.reduceEq, Int.reduceLT, Int.reduceLE, Int.reduceToNat, Nat.reduceLT, Nat.reduceEqDiff, Nat.reduceAdd, Nat.reduceLeDiff, Nat.reduceSub, Nat.reduceMul, ↓reduceIte, reduceCtorEq, w_app_nl]); done) | ((try simp (maxSteps := 1000000) only [go_sem, Int.reduceEq, Int.reduceLT, Int.reduceLE, Int.reduceToNat, Nat.reduceLT, Nat.reduceEqDiff, Nat.reduceAdd, Nat.reduceLeDiff, Nat.reduceSub, Nat.reduceMul, ↓reduceIte, reduceCtorEq, w_app_nl]); rfl) | ((try simp (maxSteps := 1000000) (disch := omega) only [go_sem, Int.reduceEq, Int.reduceLT, Int.reduceLE, Int.reduceToNat, Nat.reduceLT, Nat.reduceEqDiff, Nat.reduceAdd, Nat.reduceLeDiff, Nat.reduceSub, Nat.reduceMul, ↓reduceIte, reduceCtorEq, w_app_nl, wrap_id, w_ite_ne, w_ite_lt]); rfl) | (simp (maxSteps := 1000000) (disch := omega) only [go_sem, Int.reduceEq, Int.reduceLT, Int.reduceLE, Int.reduceToNat, Nat.reduceLT, Nat.reduceEqDiff, Nat.reduceAdd, Nat.reduceLeDiff, Nat.reduceSub, Nat.reduceMul, ↓reduceIte, reduceCtorEq, w_app_nl, wrap_id, w_ite_ne, w_ite_lt]; done)), .nil, by try simp (maxSteps := 500000) (disch := omega) only [go_sem, Int.reduceEq, Int.reduceLT, Int.reduceLE, Int.reduceToNat, Nat.reduceLT, Nat.reduceEqDiff, Nat.reduceAdd, Nat.reduceLeDiff, Nat.reduceSub, Nat.reduceMul, ↓reduceIte, reduceCtorEq, wrap_id, w_ite_ne, w_ite_lt, Nat.sub_zero, Nat.sub_self, v1], .inl ⟨rfl, rfl⟩⟩
    rintro k fe ob1 m1 c1 hk hm1 ⟨h80, XR, u1, hX⟩
    simp (maxSteps := 1000000) only [go_sem, Int.reduceEq, Int.reduceLT, Int.reduceLE, Int.reduceToNat, Nat.reduceLT, Nat.reduceEqDiff, Nat.reduceAdd, Nat.reduceLeDiff, Nat.reduceSub, Nat.reduceMul, ↓reduceIte, reduceCtorEq, w_app_nl] at h80 u1 hm1
    try simp (maxSteps := 500000) (disch := omega) only [go_sem, Int.reduceEq, Int.reduceLT, Int.reduceLE, Int.reduceToNat, Nat.reduceLT, Nat.reduceEqDiff, Nat.reduceAdd, Nat.reduceLeDiff, Nat.reduceSub, Nat.reduceMul, ↓reduceIte, reduceCtorEq, wrap_id, w_ite_ne, w_ite_lt, Nat.sub_zero, Nat.sub_self, h80]
    have z1 : ¬ 1 = m1 := by omega
    have z1a : ¬ 1 = m1 + 1 := by omega
    refine cond_d (fun hlt1 => ?_) (fun hge => ?_)
    · rcases hX with ⟨rfl, rfl⟩ | ⟨rfl, rfl⟩ | ⟨rfl, _⟩
      · try simp (maxSteps := 500000) (disch := omega) only [go_sem, Int.reduceEq, Int.reduceLT, Int.reduceLE, Int.reduceToNat, Nat.reduceLT, Nat.reduceEqDiff, Nat.reduceAdd, Nat.reduceLeDiff, Nat.reduceSub, Nat.reduceMul, ↓reduceIte, reduceCtorEq, wrap_id, w_ite_ne, w_ite_lt, Nat.sub_zero, Nat.sub_self, h80, z1, u1]
        refine call_pc g1 (by simp [go_sem, acs_pur]) ?_
        try simp (maxSteps := 500000) (disch := omega) only [go_sem, Int.reduceEq, Int.reduceLT, Int.reduceLE, Int.reduceToNat, Nat.reduceLT, Nat.reduceEqDiff, Nat.reduceAdd, Nat.reduceLeDiff, Nat.reduceSub, Nat.reduceMul, ↓reduceIte, reduceCtorEq, wrap_id, w_ite_ne, w_ite_lt, Nat.sub_zero, Nat.sub_self, h80, z1, z1a, u1]
        refine up_nextG (m1 + 1 + 1) (by omega) (by omega) ⟨(by first | ((try simp (maxSteps := 1000000) only [go_sem, Int.reduceEq, Int.reduceLT, Int.reduceLE, Int.reduceToNat, Nat.reduceLT, Nat.reduceEqDiff, Nat.reduceAdd, Nat.reduceLeDiff, Nat.reduceSub, Nat.reduceMul, ↓reduceIte, reduceCtorEq, w_app_nl]); done) | ((try simp (maxSteps := 1000000) only [go_sem, Int.reduceEq, Int.reduceLT, Int.reduceLE, Int.reduceToNat, Nat.reduceLT, Nat.reduceEqDiff, Nat.reduceAdd, Nat.reduceLeDiff, Nat.reduceSub, Nat.reduceMul, ↓reduceIte, reduceCtorEq, w_app_nl]); rfl) | ((try simp (maxSteps := 1000000) (disch := omega) only [go_sem, Int.reduceEq, Int.reduceLT, Int.reduceLE, Int.reduceToNat, Nat.reduceLT, Nat.reduceEqDiff, Nat.reduceAdd, Nat.reduceLeDiff, Nat.reduceSub, Nat.reduceMul, ↓reduceIte, reduceCtorEq, w_app_nl, wrap_id, w_ite_ne, w_ite_lt]); rfl) | (simp (maxSteps := 1000000) (disch := omega) only [go_sem, Int.reduceEq, Int.reduceLT, Int.reduceLE, Int.reduceToNat, Nat.reduceLT, Nat.reduceEqDiff, Nat.reduceAdd, Nat.reduceLeDiff, Nat.reduceSub, Nat.reduceMul, ↓reduceIte, reduceCtorEq, w_app_nl, wrap_id, w_ite_ne, w_ite_lt]; done)), _, ?_, .inr (.inl ⟨rfl, rfl⟩)⟩
        try simp (maxSteps := 500000) (disch := omega) only [go_sem, Int.reduceEq, Int.reduceLT, Int.reduceLE, Int.reduceToNat, Nat.reduceLT, Nat.reduceEqDiff, Nat.reduceAdd, Nat.reduceLeDiff, Nat.reduceSub, Nat.reduceMul, ↓reduceIte, reduceCtorEq, wrap_id, w_ite_ne, w_ite_lt, Nat.sub_zero, Nat.sub_self, St.trunc, z1, z1a, u1]
      · try simp (maxSteps := 500000) (disch := omega) only [go_sem, Int.reduceEq, Int.reduceLT, Int.reduceLE, Int.reduceToNat, Nat.reduceLT, Nat.reduceEqDiff, Nat.reduceAdd, Nat.reduceLeDiff, Nat.reduceSub, Nat.reduceMul, ↓reduceIte, reduceCtorEq, wrap_id, w_ite_ne, w_ite_lt, Nat.sub_zero, Nat.sub_self, h80, z1, u1]
        refine call_pc g2 (by simp [go_sem, acs_pur, rps_pur]) ?_
        try simp (maxSteps := 500000) (disch := omega) only [go_sem, Int.reduceEq, Int.reduceLT, Int.reduceLE, Int.reduceToNat, Nat.reduceLT, Nat.reduceEqDiff, Nat.reduceAdd, Nat.reduceLeDiff, Nat.reduceSub, Nat.reduceMul, ↓reduceIte, reduceCtorEq, wrap_id, w_ite_ne, w_ite_lt, Nat.sub_zero, Nat.sub_self, h80, z1, z1a, u1]
        refine up_nextG (m1 + 1 + 1) (by omega) (by omega) ⟨(by first | ((try simp (maxSteps := 1000000) only [go_sem, Int.reduceEq, Int.reduceLT, Int.reduceLE, Int.reduceToNat, Nat.reduceLT, Nat.reduceEqDiff, Nat.reduceAdd, Nat.reduceLeDiff, Nat.reduceSub, Nat.reduceMul, ↓reduceIte, reduceCtorEq, w_app_nl]); done) | ((try simp (maxSteps := 1000000) only [go_sem, Int.reduceEq, Int.reduceLT, Int.reduceLE, Int.reduceToNat, Nat.reduceLT, Nat.reduceEqDiff, Nat.reduceAdd, Nat.reduceLeDiff, Nat.reduceSub, Nat.reduceMul, ↓reduceIte, reduceCtorEq, w_app_nl]); rfl) | ((try simp (maxSteps := 1000000) (disch := omega) only [go_sem, Int.reduceEq, Int.reduceLT, Int.reduceLE, Int.reduceToNat, Nat.reduceLT, Nat.reduceEqDiff, Nat.reduceAdd, Nat.reduceLeDiff, Nat.reduceSub, Nat.reduceMul, ↓reduceIte, reduceCtorEq, w_app_nl, wrap_id, w_ite_ne, w_ite_lt]); rfl) | (simp (maxSteps := 1000000) (disch := omega) only [go_sem, Int.reduceEq, Int.reduceLT, Int.reduceLE, Int.reduceToNat, Nat.reduceLT, Nat.reduceEqDiff, Nat.reduceAdd, Nat.reduceLeDiff, Nat.reduceSub, Nat.reduceMul, ↓reduceIte, reduceCtorEq, w_app_nl, wrap_id, w_ite_ne, w_ite_lt]; done)), _, ?_, .inr (.inr ⟨rfl, rfl⟩)⟩
        try simp (maxSteps := 500000) (disch := omega) only [go_sem, Int.reduceEq, Int.reduceLT, Int.reduceLE, Int.reduceToNat, Nat.reduceLT, Nat.reduceEqDiff, Nat.reduceAdd, Nat.reduceLeDiff, Nat.reduceSub, Nat.reduceMul, ↓reduceIte, reduceCtorEq, wrap_id, w_ite_ne, w_ite_lt, Nat.sub_zero, Nat.sub_self, St.trunc, z1, z1a, u1, hq]
      · omega
    · have hX2 : XR = .list 6 (rps [r, q]) := by
        rcases hX with ⟨rfl, _⟩ | ⟨rfl, _⟩ | ⟨_, h9⟩
        · omega
        · omega
        · exact h9
      subst hX2
      clear hX
      try simp (maxSteps := 500000) (disch := omega) only [go_sem, Int.reduceEq, Int.reduceLT, Int.reduceLE, Int.reduceToNat, Nat.reduceLT, Nat.reduceEqDiff, Nat.reduceAdd, Nat.reduceLeDiff, Nat.reduceSub, Nat.reduceMul, ↓reduceIte, reduceCtorEq, wrap_id, w_ite_ne, w_ite_lt, Nat.sub_zero, Nat.sub_self, u1]
      refine call_pc w1 (by simp [go_sem, acs_pur, rps_pur]) ?_
      try simp (maxSteps := 500000) (disch := omega) only [go_sem, Int.reduceEq, Int.reduceLT, Int.reduceLE, Int.reduceToNat, Nat.reduceLT, Nat.reduceEqDiff, Nat.reduceAdd, Nat.reduceLeDiff, Nat.reduceSub, Nat.reduceMul, ↓reduceIte, reduceCtorEq, wrap_id, w_ite_ne, w_ite_lt, Nat.sub_zero, Nat.sub_self, u1, z1]
      refine call_pc w2 (by simp [go_sem, acs_pur, rps_pur]) ?_
      try simp (maxSteps := 500000) (disch := omega) only [go_sem, Int.reduceEq, Int.reduceLT, Int.reduceLE, Int.reduceToNat, Nat.reduceLT, Nat.reduceEqDiff, Nat.reduceAdd, Nat.reduceLeDiff, Nat.reduceSub, Nat.reduceMul, ↓reduceIte, reduceCtorEq, wrap_id, w_ite_ne, w_ite_lt, Nat.sub_zero, Nat.sub_self, trs_length]
      refine cond_d (fun hT1 => ?_) (fun hT1 => ?_)
      · obtain ⟨a, a1, a2, a3⟩ := w3 (by omega)
        have eT1 := gT_get (l := T) (i := 1) (by omega)
        simp only [bkv, acv] at a2 a3
        try simp (maxSteps := 500000) (disch := omega) only [go_sem, Int.reduceEq, Int.reduceLT, Int.reduceLE, Int.reduceToNat, Nat.reduceLT, Nat.reduceEqDiff, Nat.reduceAdd, Nat.reduceLeDiff, Nat.reduceSub, Nat.reduceMul, ↓reduceIte, reduceCtorEq, wrap_id, w_ite_ne, w_ite_lt, Nat.sub_zero, Nat.sub_self, u1, z1, z1a]
        refine call_pc a2 (by simp [go_sem, acs_pur, rps_pur]) ?_
        try simp (maxSteps := 500000) (disch := omega) only [go_sem, Int.reduceEq, Int.reduceLT, Int.reduceLE, Int.reduceToNat, Nat.reduceLT, Nat.reduceEqDiff, Nat.reduceAdd, Nat.reduceLeDiff, Nat.reduceSub, Nat.reduceMul, ↓reduceIte, reduceCtorEq, wrap_id, w_ite_ne, w_ite_lt, Nat.sub_zero, Nat.sub_self, trs_length, trs_get, eT1, Option.map_some, trv]
        refine ⟨by omega, by omega, by omega, ?_⟩
        refine call_pc a3 (by simp [go_sem, bds_pur]) ?_
        try simp (maxSteps := 500000) (disch := omega) only [go_sem, Int.reduceEq, Int.reduceLT, Int.reduceLE, Int.reduceToNat, Nat.reduceLT, Nat.reduceEqDiff, Nat.reduceAdd, Nat.reduceLeDiff, Nat.reduceSub, Nat.reduceMul, ↓reduceIte, reduceCtorEq, wrap_id, w_ite_ne, w_ite_lt, Nat.sub_zero, Nat.sub_self]
        exact Pub.of_eq rfl rfl
      · try simp (maxSteps := 500000) (disch := omega) only [go_sem, Int.reduceEq, Int.reduceLT, Int.reduceLE, Int.reduceToNat, Nat.reduceLT, Nat.reduceEqDiff, Nat.reduceAdd, Nat.reduceLeDiff, Nat.reduceSub, Nat.reduceMul, ↓reduceIte, reduceCtorEq, wrap_id, w_ite_ne, w_ite_lt, Nat.sub_zero, Nat.sub_self]
        exact Pub.of_eq rfl rfl
theorem law_law31_RevisionContradicts {c0 c1 c2 c3 : List AV} (s0 : (Sh.slice 1 (.int .i64)).R c0) (s1 : (Sh.int .u8).R c1) (s2 : (Sh.int .u8).R c2) (s3 : (Sh.int .u8).R c3) :
    PC prog n_law31_RevisionContradicts [(Sh.slice 1 (.int .i64)).mk1 c0, (Sh.int .u8).mk1 c1, (Sh.int .u8).mk1 c2, (Sh.int .u8).mk1 c3] (.bool true) := by
  obtain ⟨l0, rfl, _, _⟩ := shInts s0
  obtain ⟨a1, rfl, w1⟩ := s1
  obtain ⟨a2, rfl, w2⟩ := s2
  obtain ⟨a3, rfl, w3⟩ := s3
  exact ok_law31_RevisionContradicts l0 a1 a2 a3 (wf_u8 w1) (wf_u8 w2) (wf_u8 w3)
end Go.Proofs.Try
