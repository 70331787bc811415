/- OWN WORK, put together by tools/asm.py, seat.py, mini.py. -/
import Derived.Test.YtbfefempldcfoaaLibF
set_option linter.unusedSimpArgs false
set_option linter.unusedVariables false
set_option maxRecDepth 100000
set_option maxHeartbeats 1000000
namespace Go.Proofs.Try
open Go.Ab Go
open Int renaming reduceEq → jA, reduceLT → jB, reduceLE → jC, reduceToNat → jD
open Go.Ab renaming w_ite_ne → jM, w_ite_lt → jN, wrap_id → jO, w_app_nl → jP
open Nat renaming reduceLT → jE, reduceEqDiff → jF, reduceAdd → jG, reduceLeDiff → jH, reduceSub → jI, reduceMul → jJ, sub_zero → jK, sub_self → jL
theorem first_g {a : Ac} {t : Tr} (hT : TrA a t) (h : (firstS a).2 = 0) : TrG a ⟨(firstS a).1.1, (firstS a).1.2.1, (firstS a).1.2.2⟩ := by
 have hG := hT.g
 have hok := hG.ok
 have ht : (tightS a).2 = 0 := by
  unfold firstS at h
  split at h
  ·exact h
  ·rename_i h1; simpa using h1
 obtain ⟨_, hv, ht1⟩ := tightS_ok ht
 have hF := first_hi hok hv
 have e : firstS a = ((mkI (a.ins.length + 1) (sq a (tgt a)), mkI a.ins.length (cm a (tgt a)), mkI a.ins.length (og a (tgt a))), 0) := by
  unfold firstS
  rw [if_neg (by simp [ht]), ht1]
 obtain ⟨n, hD⟩ := hT
 have hn := hD.hi.1
 have h5 := hD.n5
 have ls := hD.h.ls
 have li := hD.h.li
 have lo := hD.h.lo
 rw [e]
 refine ⟨?_, mkI_length _ _, mkI_length _ _, mkI_length _ _, hok, fun i hi => ?_, fun i hi => ?_, fun i hi => ?_⟩
 ·refine ⟨fun i hi => ?_, fun i hi => ?_, fun i hi => ?_, fun i hi => ?_⟩
  ·simp only; rw [mkI_getD _ (by omega)]; exact hF.st i hi
  ·simp only; rw [mkI_getD _ hi]; exact hF.ins i hi
  ·simp only; rw [mkI_getD _ hi]; exact hF.outs i hi
  ·simp only; rw [mkI_getD _ (by omega), mkI_getD _ (by omega), mkI_getD _ hi, mkI_getD _ hi]; exact hF.bal i hi
 ·simp only; rw [mkI_getD _ (by omega)]
  have h1 := hF.st i hi
  have h2 := hD.s.b i (by omega)
  have h3 := hD.h.s i (by omega)
  simp only [inB, arB] at h1 h2; omega
 ·simp only; rw [mkI_getD _ hi]
  have h1 := hF.ins i hi
  have h2 := hD.i.b i (by omega)
  have h3 := hD.h.i i (by omega)
  simp only [inB, arB] at h1 h2; omega
 ·simp only; rw [mkI_getD _ hi]
  have h1 := hF.outs i hi
  have h2 := hD.o.b i (by omega)
  have h3 := hD.h.o i (by omega)
  simp only [inB, arB] at h1 h2; omega
theorem vB_of {n : Int} (h0 : 0 ≤ n) (h1 : n ≤ 274877906944) : vB n = true := by simp [vB, h0, h1]
def RcB (q : Rc) : Prop := validR q = true ∧ q.sg = []
theorem rcB1 {nu ac fd tm lo hi : Int} (h : vB nu = true ∧ vB ac = true ∧ vB fd = true ∧ vB tm = true ∧ vB lo = true ∧ vB hi = true) : RcB ⟨1, nu, ac, fd, tm, lo, hi, 0, 0, 0, 0, 0, [], false, 0, 0, 0, 0, 0, 0, 0⟩ := by
 refine ⟨?_, rfl⟩
 simp [validR, offs, numsR, cI, bareR, sI, rc0, h]
theorem rcB2 {st fr to rl : Int} (h : vB st = true ∧ vB fr = true ∧ vB to = true ∧ vB rl = true) : RcB ⟨2, 0, 0, 0, 0, 0, 0, 0, st, fr, to, rl, [], false, 0, 0, 0, 0, 0, 0, 0⟩ := by
 refine ⟨?_, rfl⟩
 simp [validR, offs, numsR, cI, bareR, sI, rc0, h]
theorem rcB34 {k a b c tm : Int} (hk : k = 3 ∨ k = 4) (h : vB a = true ∧ vB b = true ∧ vB c = true ∧ vB tm = true) : RcB ⟨k, 0, 0, 0, 0, 0, 0, a, 0, 0, 0, 0, [], false, b, c, tm, 0, 0, 0, 0⟩ := by
 refine ⟨?_, rfl⟩
 rcases hk with rfl | rfl <;> simp [validR, offs, numsR, cI, bareR, sI, rc0, h]
theorem rcB5 {k i v : Int} (h : vB k = true ∧ vB i = true ∧ vB v = true) : RcB ⟨5, 0, 0, 0, 0, 0, 0, 0, 0, 0, 0, 0, [], false, 0, 0, 0, 0, k, i, v⟩ := by
 refine ⟨?_, rfl⟩
 simp [validR, offs, numsR, cI, bareR, sI, rc0, h]
theorem rcB6 {n : Int} (h : vB n = true) : RcB ⟨6, 0, 0, 0, 0, 0, 0, 0, 0, 0, 0, 0, [], false, 0, 0, 0, n, 0, 0, 0⟩ := by
 refine ⟨?_, rfl⟩
 simp [validR, offs, numsR, cI, bareR, sI, rc0, h]
theorem kpv_c0 (B : Bk) (K : Dk) (s : Sd) : (kpv B K s).cells.getD 0 .junk = .list 4 (acs B.op) := rfl
theorem kpv_c5 (B : Bk) (K : Dk) (s : Sd) : (kpv B K s).cells.getD 5 .junk = .int .i64 s.n := rfl
theorem kpv_len (B : Bk) (K : Dk) (s : Sd) : (kpv B K s).cells.length = 7 := rfl
theorem kpv_flat (B : Bk) (K : Dk) (s : Sd) : (kpv B K s).flat = true := rfl
theorem kpv_dk (B : Bk) (K : Dk) (s : Sd) : AV.agg (((kpv B K s).cells.drop 2).take 3) = dkv K := rfl
theorem hc_flow_Record (σ : St) (id g : Nat) (t : List Int) (at' : Nat) (B : Bk) (T : List Tr) (K : Dk) (s : Sd) (hT : TrB B T) (hK : DkB K) (hs : SdW s) (hl : t.length ≤ 9223372036854775807) (hid : id < σ.n) (hob : σ.ob id = some ⟨g, 2, ty_Deck, false, true, [deckV t at']⟩) :
  HC prog n_flow_Record [.ptr id g 2 0 0, kpv B K s] σ (DeckR σ id g t fun r => ∃ q : Rc, r = rcv q ∧ RcB q) := by
 refine HC.deck hid ?_
 obtain ⟨ob0, n0, c0⟩ := σ
 simp only at hob hid
 refine HC_of_body b_flow_Record (by simp) ?_
 simp only [c_flow_Record]
 have z0 : ¬ id = n0 := by omega
 have z1 : ¬ n0 = id := by omega
 have z2 : ¬ n0 + 1 = id := by omega
 have z3 : ¬ id = n0 + 1 := by omega
 have z4 : ¬ n0 + 1 + 1 = id := by omega
 have z5 : ¬ id = n0 + 1 + 1 := by omega
 have hbk := rck_fold
 have hfl : ∀ q, (rcX .nil q).flat = true := fun q => rcX_flat q rfl
 try simp (disch := omega) only [go_sem, jA, jB, jC, jD, jE, jF, jG, jH, jI, jJ, ↓reduceIte, reduceCtorEq, jO, jM, jN, jK, jL, kpv_flat, kpv_len, z0, z1, z2, z3]
 refine call_hc (ok_mk_Deck_Next _ id g ty_Deck true t at' 6 (by try simp (disch := omega) only [go_sem, jA, jB, jC, jD, jE, jF, jG, jH, jI, jJ, ↓reduceIte, reduceCtorEq, jO, jM, jN, jK, jL, z0, z3]; exact hob) (by omega) hl) ?_
 have hx1 := deckR_bd t at' 6
 generalize deckR t at' 6 = dr at *
 obtain ⟨x0, at1⟩ := dr
 simp only at hx1
 try simp (disch := omega) only [go_sem, jA, jB, jC, jD, jE, jF, jG, jH, jI, jJ, ↓reduceIte, reduceCtorEq, jO, jM, jN, jK, jL, z0, z1, z2, z3, z4, z5]
 have fin : ∀ (q : Rc) (hq : RcB q) (ob' : Nat → Option AObj) (c' m' at2 : Nat), ob' id = some ⟨g, 2, ty_Deck, false, true, [deckV t at2]⟩ → (∀ i, i < n0 → i ≠ id → ob' i = ob0 i) → Deck0 ⟨ob0, n0, c0⟩ id g t (fun r => ∃ q : Rc, r = rcv q ∧ RcB q) (rcX .nil q) ⟨ob', m', c'⟩ :=
  fun q hq ob' c' m' at2 h1 h2 => ⟨rcv q, at2, rcN_pub hq.2, ⟨q, rfl, hq⟩, h1, h2⟩
 have b0 := hT.n1
 have b1 := hT.n2
 have y1 : ¬ n0 = n0 + 1 := by omega
 have y2 : ¬ n0 = n0 + 1 + 1 := by omega
 have y3 : ¬ id = n0 + 1 + 1 + 1 := by omega
 have y4 : ¬ n0 + 1 + 1 + 1 = id := by omega
 have y5 : ¬ n0 + 1 = n0 + 1 + 1 := by omega
 have y6 : ¬ n0 + 1 = n0 + 1 + 1 + 1 := by omega
 have y7 : ¬ n0 + 1 + 1 = n0 + 1 + 1 + 1 := by omega
 refine cond_d (fun k1 => ?_) (fun k1 => ?_)
 ·try simp (disch := omega) only [go_sem, jA, jB, jC, jD, jE, jF, jG, jH, jI, jJ, ↓reduceIte, reduceCtorEq, jO, jM, jN, jK, jL, y1, y2, z0, z1, z2, z3, z4, z5, kpv_c0, acs_length]
  refine cond_d (fun q1 => ?_) (fun q1 => ?_)
  ·try simp (disch := omega) only [go_sem, jA, jB, jC, jD, jE, jF, jG, jH, jI, jJ, ↓reduceIte, reduceCtorEq, jO, jM, jN, jK, jL, y1, y2, z0, z1, z2, z3, z4, z5, kpv_c0, acs_length]
   refine call_hc (ok_mk_Deck_Next _ id g ty_Deck true t at1 B.op.length (by try simp (disch := omega) only [go_sem, jA, jB, jC, jD, jE, jF, jG, jH, jI, jJ, ↓reduceIte, reduceCtorEq, jO, jM, jN, jK, jL]) (by omega) hl) ?_
   have hx2 := deckR_bd t at1 B.op.length
   generalize deckR t at1 B.op.length = dr at *
   obtain ⟨x1, at2⟩ := dr
   simp only at hx2
   obtain ⟨i, hi⟩ : ∃ i : Nat, (i : Int) = x1 ∧ i < B.op.length := ⟨x1.toNat, by omega, by omega⟩
   obtain ⟨rfl, hi⟩ := hi
   have hA := hT.tr i hi
   have hg := gA_get hi
   have hFg := first_g hA
   have hok := hA.g.ok
   generalize gA B.op i = a at *
   try simp (disch := omega) only [go_sem, jA, jB, jC, jD, jE, jF, jG, jH, jI, jJ, ↓reduceIte, reduceCtorEq, jO, jM, jN, jK, jL, y1, y2, z0, z1, z2, z3, z4, z5, kpv_c0, acs_length, acs_get, hg, Option.map_some, acv]
   refine ⟨by omega, by omega, ?_⟩
   refine call_pc (ok_ref30_First a hok.l) (by simp [go_sem, acv, bds_pur]) ?_
   try simp (disch := omega) only [go_sem, jA, jB, jC, jD, jE, jF, jG, jH, jI, jJ, ↓reduceIte, reduceCtorEq, jO, jM, jN, jK, jL]
   refine cond_d (fun q2 => ?_) (fun q2 => ?_)
   ·try simp (disch := omega) only [go_sem, jA, jB, jC, jD, jE, jF, jG, jH, jI, jJ, ↓reduceIte, reduceCtorEq, jO, jM, jN, jK, jL, y1, y2, z0, z1, z2, z3, z4, z5]
    refine call_hc (ok_mk_Deck_Next _ id g ty_Deck true t at2 30 (by try simp (disch := omega) only [go_sem, jA, jB, jC, jD, jE, jF, jG, jH, jI, jJ, ↓reduceIte, reduceCtorEq, jO, jM, jN, jK, jL, y3]) (by omega) hl) ?_
    have hx3 := deckR_bd t at2 30
    generalize deckR t at2 30 = dr at *
    obtain ⟨x3, at3⟩ := dr
    simp only at hx3
    try simp (disch := omega) only [go_sem, jA, jB, jC, jD, jE, jF, jG, jH, jI, jJ, ↓reduceIte, reduceCtorEq, jO, jM, jN, jK, jL, y1, y2, y3, y4, z0, z1, z2, z3, z4, z5]
    refine (hc_flow_ReportG _ id g t at3 a ⟨(firstS a).1.1, (firstS a).1.2.1, (firstS a).1.2.2⟩ (hFg q2) i (1 + x3) hl (by simp only; omega) (by try simp (disch := omega) only [go_sem, jA, jB, jC, jD, jE, jF, jG, jH, jI, jJ, ↓reduceIte, reduceCtorEq, jO, jM, jN, jK, jL])).mono ?_
    intro r τ hDR
    obtain ⟨⟨q, rfl, hq1, hq2, hq3, hq4, hq5⟩, hn, ⟨at4, hd⟩, hf⟩ := hDR.use (by simp only; omega)
    obtain ⟨ob1, n1, c1⟩ := τ
    simp only at hn hd hf
    subst hn
    have u1 := hf (n0 + 1) (by omega) z2
    have u2 := hf (n0 + 1 + 1) (by omega) z4
    try simp (disch := omega) only [go_sem, jA, jB, jC, jD, jE, jF, jG, jH, jI, jJ, ↓reduceIte, reduceCtorEq, jO, jM, jN, jK, jL, y1, y2, y3, y4, y5, y6, y7, z0, z1, z2, z3, z4, z5] at u1
    try simp (disch := omega) only [go_sem, jA, jB, jC, jD, jE, jF, jG, jH, jI, jJ, ↓reduceIte, reduceCtorEq, jO, jM, jN, jK, jL, y1, y2, y3, y4, y5, y6, y7, z0, z1, z2, z3, z4, z5] at u2
    try simp (disch := omega) only [go_sem, jA, jB, jC, jD, jE, jF, jG, jH, jI, jJ, ↓reduceIte, reduceCtorEq, jO, jM, jN, jK, jL, rpv, u1, u2, y1, y2, y3, y4, y5, y6, y7, z0, z1, z2, z3, z4, z5]
    rw [k1]
    have hb4 := hq3.b
    have hfl9 := fld_len hok hq3.fd
    have hf1 := hok.f1
    have hn2 := hok.n2
    have hf0 := hok.f0
    have ht0 := hq3.t0
    have ht1 := hq3.t1
    have hfd := hq3.fd
    simp only [fitB] at hb4
    have htm : q.tm ≤ 16777216 := by
     rw [hfl9] at ht1
     split at ht1 <;> omega
    refine fin ⟨1, q.nu, q.ac, q.fd, q.tm, q.b.lo, q.b.hi, 0, 0, 0, 0, 0, [], false, 0, 0, 0, 0, 0, 0, 0⟩ (rcB1 ⟨vB_of (by omega) (by omega), vB_of (by omega) (by omega), vB_of (by omega) (by omega), vB_of (by omega) (by omega), vB_of (by omega) (by omega), vB_of (by omega) (by omega)⟩) _ _ _ at4 (by try simp (disch := omega) only [go_sem, jA, jB, jC, jD, jE, jF, jG, jH, jI, jJ, ↓reduceIte, reduceCtorEq, jO, jM, jN, jK, jL, y1, y2, y3, y4, y5, y6, y7, z0, z1, z2, z3, z4, z5]; exact hd) fun i hi hne => ?_
    have j0 : ¬ i = n0 := by omega
    have j1 : ¬ i = n0 + 1 := by omega
    have j2 : ¬ i = n0 + 1 + 1 := by omega
    have j3 : ¬ i = n0 + 1 + 1 + 1 := by omega
    try simp (disch := omega) only [go_sem, jA, jB, jC, jD, jE, jF, jG, jH, jI, jJ, ↓reduceIte, reduceCtorEq, jO, jM, jN, jK, jL, j0, j1, j2, j3, hne]
    rw [hf i (by omega) hne]
    try simp (disch := omega) only [go_sem, jA, jB, jC, jD, jE, jF, jG, jH, jI, jJ, ↓reduceIte, reduceCtorEq, jO, jM, jN, jK, jL, j0, j1, j2, j3, hne]
   ·try simp (disch := omega) only [go_sem, jA, jB, jC, jD, jE, jF, jG, jH, jI, jJ, ↓reduceIte, reduceCtorEq, jO, jM, jN, jK, jL, y1, y2, y3, y4, y5, y6, y7, z0, z1, z2, z3, z4, z5]
    rw [k1]
    refine fin (rc0 1) (rcB1 ⟨rfl, rfl, rfl, rfl, rfl, rfl⟩) _ _ _ at2 (by try simp (disch := omega) only [go_sem, jA, jB, jC, jD, jE, jF, jG, jH, jI, jJ, ↓reduceIte, reduceCtorEq, jO, jM, jN, jK, jL, y1, y2, y3, y4, y5, y6, y7, z0, z1, z2, z3, z4, z5]) fun i hi hne => ?_
    have j0 : ¬ i = n0 := by omega
    have j1 : ¬ i = n0 + 1 := by omega
    have j2 : ¬ i = n0 + 1 + 1 := by omega
    have j3 : ¬ i = n0 + 1 + 1 + 1 := by omega
    try simp (disch := omega) only [go_sem, jA, jB, jC, jD, jE, jF, jG, jH, jI, jJ, ↓reduceIte, reduceCtorEq, jO, jM, jN, jK, jL, j0, j1, j2, j3, hne]
  ·omega
 try simp (disch := omega) only [go_sem, jA, jB, jC, jD, jE, jF, jG, jH, jI, jJ, ↓reduceIte, reduceCtorEq, jO, jM, jN, jK, jL]
 refine cond_d (fun k2 => ?_) (fun k2 => ?_)
 ·try simp (disch := omega) only [go_sem, jA, jB, jC, jD, jE, jF, jG, jH, jI, jJ, ↓reduceIte, reduceCtorEq, jO, jM, jN, jK, jL, y1, y2, y3, y4, y5, y6, y7, z0, z1, z2, z3, z4, z5]
  refine call_hc (ok_mk_Deck_Next _ id g ty_Deck true t at1 12 (by try simp (disch := omega) only [go_sem, jA, jB, jC, jD, jE, jF, jG, jH, jI, jJ, ↓reduceIte, reduceCtorEq, jO, jM, jN, jK, jL, y1, y2, y3, y4, y5, y6, y7, z0, z1, z2, z3, z4, z5]) (by omega) hl) ?_
  have hx2 := deckR_bd t at1 12
  generalize deckR t at1 12 = dr at *
  obtain ⟨x1, at2⟩ := dr
  simp only at hx2
  try simp (disch := omega) only [go_sem, jA, jB, jC, jD, jE, jF, jG, jH, jI, jJ, ↓reduceIte, reduceCtorEq, jO, jM, jN, jK, jL, y1, y2, y3, y4, y5, y6, y7, z0, z1, z2, z3, z4, z5]
  refine call_hc (ok_mk_Deck_Next _ id g ty_Deck true t at2 3 (by try simp (disch := omega) only [go_sem, jA, jB, jC, jD, jE, jF, jG, jH, jI, jJ, ↓reduceIte, reduceCtorEq, jO, jM, jN, jK, jL, y1, y2, y3, y4, y5, y6, y7, z0, z1, z2, z3, z4, z5]) (by omega) hl) ?_
  have hx3 := deckR_bd t at2 3
  generalize deckR t at2 3 = dr at *
  obtain ⟨x2, at3⟩ := dr
  simp only at hx3
  try simp (disch := omega) only [go_sem, jA, jB, jC, jD, jE, jF, jG, jH, jI, jJ, ↓reduceIte, reduceCtorEq, jO, jM, jN, jK, jL, y1, y2, y3, y4, y5, y6, y7, z0, z1, z2, z3, z4, z5]
  refine call_hc (ok_mk_Deck_Next _ id g ty_Deck true t at3 12 (by try simp (disch := omega) only [go_sem, jA, jB, jC, jD, jE, jF, jG, jH, jI, jJ, ↓reduceIte, reduceCtorEq, jO, jM, jN, jK, jL, y1, y2, y3, y4, y5, y6, y7, z0, z1, z2, z3, z4, z5]) (by omega) hl) ?_
  have hx4 := deckR_bd t at3 12
  generalize deckR t at3 12 = dr at *
  obtain ⟨x3, at4⟩ := dr
  simp only at hx4
  try simp (disch := omega) only [go_sem, jA, jB, jC, jD, jE, jF, jG, jH, jI, jJ, ↓reduceIte, reduceCtorEq, jO, jM, jN, jK, jL, y1, y2, y3, y4, y5, y6, y7, z0, z1, z2, z3, z4, z5]
  refine call_hc (ok_mk_Deck_Next _ id g ty_Deck true t at4 60 (by try simp (disch := omega) only [go_sem, jA, jB, jC, jD, jE, jF, jG, jH, jI, jJ, ↓reduceIte, reduceCtorEq, jO, jM, jN, jK, jL, y1, y2, y3, y4, y5, y6, y7, z0, z1, z2, z3, z4, z5]) (by omega) hl) ?_
  have hx5 := deckR_bd t at4 60
  generalize deckR t at4 60 = dr at *
  obtain ⟨x4, at5⟩ := dr
  simp only at hx5
  try simp (disch := omega) only [go_sem, jA, jB, jC, jD, jE, jF, jG, jH, jI, jJ, ↓reduceIte, reduceCtorEq, jO, jM, jN, jK, jL, y1, y2, y3, y4, y5, y6, y7, z0, z1, z2, z3, z4, z5]
  rw [k2]
  refine fin ⟨2, 0, 0, 0, 0, 0, 0, 0, x2, x1, x1 + x3, x4, [], false, 0, 0, 0, 0, 0, 0, 0⟩ (rcB2 ⟨vB_of (by omega) (by omega), vB_of (by omega) (by omega), vB_of (by omega) (by omega), vB_of (by omega) (by omega)⟩) _ _ _ at5 (by try simp (disch := omega) only [go_sem, jA, jB, jC, jD, jE, jF, jG, jH, jI, jJ, ↓reduceIte, reduceCtorEq, jO, jM, jN, jK, jL, y1, y2, y3, y4, y5, y6, y7, z0, z1, z2, z3, z4, z5]) fun i hi hne => ?_
  have j0 : ¬ i = n0 := by omega
  have j1 : ¬ i = n0 + 1 := by omega
  have j2 : ¬ i = n0 + 1 + 1 := by omega
  have j3 : ¬ i = n0 + 1 + 1 + 1 := by omega
  try simp (disch := omega) only [go_sem, jA, jB, jC, jD, jE, jF, jG, jH, jI, jJ, ↓reduceIte, reduceCtorEq, jO, jM, jN, jK, jL, j0, j1, j2, j3, hne]
 try simp (disch := omega) only [go_sem, jA, jB, jC, jD, jE, jF, jG, jH, jI, jJ, ↓reduceIte, reduceCtorEq, jO, jM, jN, jK, jL]
 refine cond_d (fun k3 => ?_) (fun k3 => ?_)
 ·try simp (disch := omega) only [go_sem, jA, jB, jC, jD, jE, jF, jG, jH, jI, jJ, ↓reduceIte, reduceCtorEq, jO, jM, jN, jK, jL, decide_eq_true k3, y1, y2, y3, y4, y5, y6, y7, z0, z1, z2, z3, z4, z5, kpv_dk, kpv_flat, kpv_len]
  refine (hc_flow_Signed _ id g t at1 K hK 0 hl (by simp only; omega) (by try simp (disch := omega) only [go_sem, jA, jB, jC, jD, jE, jF, jG, jH, jI, jJ, ↓reduceIte, reduceCtorEq, jO, jM, jN, jK, jL, y1, y2, y3, y4, y5, y6, y7, z0, z1, z2, z3, z4, z5])).mono ?_
  intro r τ hDR
  obtain ⟨⟨a, b, c, rfl, hs1, hs2, hs3, hs4, hs5, hs6⟩, hn, ⟨at2, hd⟩, hf⟩ := hDR.use (by simp only; omega)
  obtain ⟨ob1, n1, c1⟩ := τ
  simp only at hn hd hf
  subst hn
  have u1 := hf (n0 + 1) (by omega) z2
  have u2 := hf (n0 + 1 + 1) (by omega) z4
  try simp (disch := omega) only [go_sem, jA, jB, jC, jD, jE, jF, jG, jH, jI, jJ, ↓reduceIte, reduceCtorEq, jO, jM, jN, jK, jL, y1, y2, y3, y4, y5, y6, y7, z0, z1, z2, z3, z4, z5] at u1
  try simp (disch := omega) only [go_sem, jA, jB, jC, jD, jE, jF, jG, jH, jI, jJ, ↓reduceIte, reduceCtorEq, jO, jM, jN, jK, jL, y1, y2, y3, y4, y5, y6, y7, z0, z1, z2, z3, z4, z5] at u2
  try simp (disch := omega) only [go_sem, jA, jB, jC, jD, jE, jF, jG, jH, jI, jJ, ↓reduceIte, reduceCtorEq, jO, jM, jN, jK, jL, u1, u2, y1, y2, y3, y4, y5, y6, y7, z0, z1, z2, z3, z4, z5]
  refine call_hc (ok_mk_Deck_Next _ id g ty_Deck true t at2 12 (by try simp (disch := omega) only [go_sem, jA, jB, jC, jD, jE, jF, jG, jH, jI, jJ, ↓reduceIte, reduceCtorEq, jO, jM, jN, jK, jL, y1, y2, y3, y4, y5, y6, y7, z0, z1, z2, z3, z4, z5]; exact hd) (by omega) hl) ?_
  have hx4 := deckR_bd t at2 12
  generalize deckR t at2 12 = dr at *
  obtain ⟨x4, at4⟩ := dr
  simp only at hx4
  try simp (disch := omega) only [go_sem, jA, jB, jC, jD, jE, jF, jG, jH, jI, jJ, ↓reduceIte, reduceCtorEq, jO, jM, jN, jK, jL, u1, u2, y1, y2, y3, y4, y5, y6, y7, z0, z1, z2, z3, z4, z5]
  rw [k3]
  refine fin ⟨3, 0, 0, 0, 0, 0, 0, a, 0, 0, 0, 0, [], false, b, c, x4, 0, 0, 0, 0⟩ (rcB34 (by omega) ⟨vB_of (by omega) (by omega), vB_of (by omega) (by omega), vB_of (by omega) (by omega), vB_of (by omega) (by omega)⟩) _ _ _ at4 (by try simp (disch := omega) only [go_sem, jA, jB, jC, jD, jE, jF, jG, jH, jI, jJ, ↓reduceIte, reduceCtorEq, jO, jM, jN, jK, jL, y1, y2, y3, y4, y5, y6, y7, z0, z1, z2, z3, z4, z5]) fun i hi hne => ?_
  have j0 : ¬ i = n0 := by omega
  have j1 : ¬ i = n0 + 1 := by omega
  have j2 : ¬ i = n0 + 1 + 1 := by omega
  have j3 : ¬ i = n0 + 1 + 1 + 1 := by omega
  try simp (disch := omega) only [go_sem, jA, jB, jC, jD, jE, jF, jG, jH, jI, jJ, ↓reduceIte, reduceCtorEq, jO, jM, jN, jK, jL, j0, j1, j2, j3, hne]
  rw [hf i (by omega) hne]
  try simp (disch := omega) only [go_sem, jA, jB, jC, jD, jE, jF, jG, jH, jI, jJ, ↓reduceIte, reduceCtorEq, jO, jM, jN, jK, jL, j0, j1, j2, j3, hne]
 try simp (disch := omega) only [go_sem, jA, jB, jC, jD, jE, jF, jG, jH, jI, jJ, ↓reduceIte, reduceCtorEq, jO, jM, jN, jK, jL]
 refine cond_d (fun k4 => ?_) (fun k4 => ?_)
 ·try simp (disch := omega) only [go_sem, jA, jB, jC, jD, jE, jF, jG, jH, jI, jJ, ↓reduceIte, reduceCtorEq, jO, jM, jN, jK, jL, y1, y2, y3, y4, y5, y6, y7, z0, z1, z2, z3, z4, z5, kpv_dk, kpv_flat, kpv_len]
  refine (hc_flow_Signed _ id g t at1 K hK 0 hl (by simp only; omega) (by try simp (disch := omega) only [go_sem, jA, jB, jC, jD, jE, jF, jG, jH, jI, jJ, ↓reduceIte, reduceCtorEq, jO, jM, jN, jK, jL, y1, y2, y3, y4, y5, y6, y7, z0, z1, z2, z3, z4, z5])).mono ?_
  intro r τ hDR
  obtain ⟨⟨a, b, c, rfl, hs1, hs2, hs3, hs4, hs5, hs6⟩, hn, ⟨at2, hd⟩, hf⟩ := hDR.use (by simp only; omega)
  obtain ⟨ob1, n1, c1⟩ := τ
  simp only at hn hd hf
  subst hn
  have u1 := hf (n0 + 1) (by omega) z2
  have u2 := hf (n0 + 1 + 1) (by omega) z4
  try simp (disch := omega) only [go_sem, jA, jB, jC, jD, jE, jF, jG, jH, jI, jJ, ↓reduceIte, reduceCtorEq, jO, jM, jN, jK, jL, y1, y2, y3, y4, y5, y6, y7, z0, z1, z2, z3, z4, z5] at u1
  try simp (disch := omega) only [go_sem, jA, jB, jC, jD, jE, jF, jG, jH, jI, jJ, ↓reduceIte, reduceCtorEq, jO, jM, jN, jK, jL, y1, y2, y3, y4, y5, y6, y7, z0, z1, z2, z3, z4, z5] at u2
  try simp (disch := omega) only [go_sem, jA, jB, jC, jD, jE, jF, jG, jH, jI, jJ, ↓reduceIte, reduceCtorEq, jO, jM, jN, jK, jL, u1, u2, y1, y2, y3, y4, y5, y6, y7, z0, z1, z2, z3, z4, z5]
  refine call_hc (ok_mk_Deck_Next _ id g ty_Deck true t at2 12 (by try simp (disch := omega) only [go_sem, jA, jB, jC, jD, jE, jF, jG, jH, jI, jJ, ↓reduceIte, reduceCtorEq, jO, jM, jN, jK, jL, y1, y2, y3, y4, y5, y6, y7, z0, z1, z2, z3, z4, z5]; exact hd) (by omega) hl) ?_
  have hx4 := deckR_bd t at2 12
  generalize deckR t at2 12 = dr at *
  obtain ⟨x4, at4⟩ := dr
  simp only at hx4
  try simp (disch := omega) only [go_sem, jA, jB, jC, jD, jE, jF, jG, jH, jI, jJ, ↓reduceIte, reduceCtorEq, jO, jM, jN, jK, jL, u1, u2, y1, y2, y3, y4, y5, y6, y7, z0, z1, z2, z3, z4, z5]
  rw [k4]
  refine fin ⟨4, 0, 0, 0, 0, 0, 0, a, 0, 0, 0, 0, [], false, b, c, x4, 0, 0, 0, 0⟩ (rcB34 (by omega) ⟨vB_of (by omega) (by omega), vB_of (by omega) (by omega), vB_of (by omega) (by omega), vB_of (by omega) (by omega)⟩) _ _ _ at4 (by try simp (disch := omega) only [go_sem, jA, jB, jC, jD, jE, jF, jG, jH, jI, jJ, ↓reduceIte, reduceCtorEq, jO, jM, jN, jK, jL, y1, y2, y3, y4, y5, y6, y7, z0, z1, z2, z3, z4, z5]) fun i hi hne => ?_
  have j0 : ¬ i = n0 := by omega
  have j1 : ¬ i = n0 + 1 := by omega
  have j2 : ¬ i = n0 + 1 + 1 := by omega
  have j3 : ¬ i = n0 + 1 + 1 + 1 := by omega
  try simp (disch := omega) only [go_sem, jA, jB, jC, jD, jE, jF, jG, jH, jI, jJ, ↓reduceIte, reduceCtorEq, jO, jM, jN, jK, jL, j0, j1, j2, j3, hne]
  rw [hf i (by omega) hne]
  try simp (disch := omega) only [go_sem, jA, jB, jC, jD, jE, jF, jG, jH, jI, jJ, ↓reduceIte, reduceCtorEq, jO, jM, jN, jK, jL, j0, j1, j2, j3, hne]
 try simp (disch := omega) only [go_sem, jA, jB, jC, jD, jE, jF, jG, jH, jI, jJ, ↓reduceIte, reduceCtorEq, jO, jM, jN, jK, jL]
 refine cond_d (fun k5 => ?_) (fun k5 => ?_)
 ·try simp (disch := omega) only [go_sem, jA, jB, jC, jD, jE, jF, jG, jH, jI, jJ, ↓reduceIte, reduceCtorEq, jO, jM, jN, jK, jL, y1, y2, y3, y4, y5, y6, y7, z0, z1, z2, z3, z4, z5]
  refine (hc_flow_OrderB _ id g t at1 1 hl (by simp only; omega) (by try simp (disch := omega) only [go_sem, jA, jB, jC, jD, jE, jF, jG, jH, jI, jJ, ↓reduceIte, reduceCtorEq, jO, jM, jN, jK, jL, y1, y2, y3, y4, y5, y6, y7, z0, z1, z2, z3, z4, z5])).mono ?_
  intro r τ hDR
  obtain ⟨⟨kk, ii, vv, rfl, hOB⟩, hn, ⟨at2, hd⟩, hf⟩ := hDR.use (by simp only; omega)
  obtain ⟨ob1, n1, c1⟩ := τ
  simp only at hn hd hf
  subst hn
  have u1 := hf (n0 + 1) (by omega) z2
  have u2 := hf (n0 + 1 + 1) (by omega) z4
  try simp (disch := omega) only [go_sem, jA, jB, jC, jD, jE, jF, jG, jH, jI, jJ, ↓reduceIte, reduceCtorEq, jO, jM, jN, jK, jL, y1, y2, y3, y4, y5, y6, y7, z0, z1, z2, z3, z4, z5] at u1
  try simp (disch := omega) only [go_sem, jA, jB, jC, jD, jE, jF, jG, jH, jI, jJ, ↓reduceIte, reduceCtorEq, jO, jM, jN, jK, jL, y1, y2, y3, y4, y5, y6, y7, z0, z1, z2, z3, z4, z5] at u2
  try simp (disch := omega) only [go_sem, jA, jB, jC, jD, jE, jF, jG, jH, jI, jJ, ↓reduceIte, reduceCtorEq, jO, jM, jN, jK, jL, odv, u1, u2, y1, y2, y3, y4, y5, y6, y7, z0, z1, z2, z3, z4, z5]
  rw [k5]
  simp only [OdB] at hOB
  refine fin ⟨5, 0, 0, 0, 0, 0, 0, 0, 0, 0, 0, 0, [], false, 0, 0, 0, 0, kk, ii, vv⟩ (rcB5 ⟨vB_of (by omega) (by omega), vB_of (by omega) (by omega), vB_of (by omega) (by omega)⟩) _ _ _ at2 (by try simp (disch := omega) only [go_sem, jA, jB, jC, jD, jE, jF, jG, jH, jI, jJ, ↓reduceIte, reduceCtorEq, jO, jM, jN, jK, jL, y1, y2, y3, y4, y5, y6, y7, z0, z1, z2, z3, z4, z5]; exact hd) fun i hi hne => ?_
  have j0 : ¬ i = n0 := by omega
  have j1 : ¬ i = n0 + 1 := by omega
  have j2 : ¬ i = n0 + 1 + 1 := by omega
  have j3 : ¬ i = n0 + 1 + 1 + 1 := by omega
  try simp (disch := omega) only [go_sem, jA, jB, jC, jD, jE, jF, jG, jH, jI, jJ, ↓reduceIte, reduceCtorEq, jO, jM, jN, jK, jL, j0, j1, j2, j3, hne]
  rw [hf i (by omega) hne]
  try simp (disch := omega) only [go_sem, jA, jB, jC, jD, jE, jF, jG, jH, jI, jJ, ↓reduceIte, reduceCtorEq, jO, jM, jN, jK, jL, j0, j1, j2, j3, hne]
 have k6 : 1 + x0 = 6 := by omega
 try simp (disch := omega) only [go_sem, jA, jB, jC, jD, jE, jF, jG, jH, jI, jJ, ↓reduceIte, reduceCtorEq, jO, jM, jN, jK, jL, y1, y2, y3, y4, y5, y6, y7, z0, z1, z2, z3, z4, z5, kpv_c5, kpv_len, kpv_flat]
 refine call_hc (ok_mk_Deck_Next _ id g ty_Deck true t at1 s.n (by try simp (disch := omega) only [go_sem, jA, jB, jC, jD, jE, jF, jG, jH, jI, jJ, ↓reduceIte, reduceCtorEq, jO, jM, jN, jK, jL, y1, y2, y3, y4, y5, y6, y7, z0, z1, z2, z3, z4, z5]) (by have := hs.2; omega) hl) ?_
 have hx2 := deckR_bd t at1 s.n
 generalize deckR t at1 s.n = dr at *
 obtain ⟨x1, at2⟩ := dr
 simp only at hx2
 try simp (disch := omega) only [go_sem, jA, jB, jC, jD, jE, jF, jG, jH, jI, jJ, ↓reduceIte, reduceCtorEq, jO, jM, jN, jK, jL, y1, y2, y3, y4, y5, y6, y7, z0, z1, z2, z3, z4, z5]
 rw [k6]
 have hs2 := hs.2
 refine fin ⟨6, 0, 0, 0, 0, 0, 0, 0, 0, 0, 0, 0, [], false, 0, 0, 0, x1, 0, 0, 0⟩ (rcB6 (vB_of (by omega) (by omega))) _ _ _ at2 (by try simp (disch := omega) only [go_sem, jA, jB, jC, jD, jE, jF, jG, jH, jI, jJ, ↓reduceIte, reduceCtorEq, jO, jM, jN, jK, jL, y1, y2, y3, y4, y5, y6, y7, z0, z1, z2, z3, z4, z5]) fun i hi hne => ?_
 have j0 : ¬ i = n0 := by omega
 have j1 : ¬ i = n0 + 1 := by omega
 have j2 : ¬ i = n0 + 1 + 1 := by omega
 have j3 : ¬ i = n0 + 1 + 1 + 1 := by omega
 try simp (disch := omega) only [go_sem, jA, jB, jC, jD, jE, jF, jG, jH, jI, jJ, ↓reduceIte, reduceCtorEq, jO, jM, jN, jK, jL, j0, j1, j2, j3, hne]
theorem kpv_tk (B : Bk) (K : Dk) (s : Sd) : AV.agg ((kpv B K s).cells.take 7) = kpv B K s := rfl
theorem kpv_dt (B : Bk) (K : Dk) (s : Sd) : AV.agg (((kpv B K s).cells.drop 0).take 7) = kpv B K s := rfl
theorem kpv_put (B : Bk) (K : Dk) (s : Sd) : setc 0 (kpv B K s) (.agg [.nil, .nil, .nil, .int .i64 0, .nil, .int .i64 0, .nil]) = kpv B K s := rfl
def RecO (σ : St) (id g : Nat) (t : List Int) (X : AV) (τ : St) : Prop := ∃ (l : List Rc) (at2 : Nat), SlR 21 41 τ (rcs l) X ∧ l.length ≤ 6 ∧ (∀ q ∈ l, RcB q) ∧ τ.ob id = some ⟨g, 2, ty_Deck, false, true, [deckV t at2]⟩ ∧ (∀ i, i < σ.n → i ≠ id → τ.ob i = σ.ob i) ∧ σ.n ≤ τ.n ∧ ∀ i, i < σ.n → Oth X i
theorem hcO_law32_records (σ : St) (id g : Nat) (t : List Int) (at' : Nat) (hl : t.length ≤ 9223372036854775807) (hid : id < σ.n) (hob : σ.ob id = some ⟨g, 2, ty_Deck, false, true, [deckV t at']⟩) :
  HC prog n_law32_records [.ptr id g 2 0 0] σ (RecO σ id g t) := by
 obtain ⟨ob0, n0, c0⟩ := σ
 simp only at hob hid
 refine HC_of_body b_law32_records (by simp) ?_
 simp only [c_law32_records]
 try simp (disch := omega) only [go_sem, jA, jB, jC, jD, jE, jF, jG, jH, jI, jJ, ↓reduceIte, reduceCtorEq, jO, jM, jN, jK, jL]
 refine (hc_flow_Kept _ id g t at' hl (by simp only; omega) (by exact hob)).mono ?_
 intro r τ hDR
 obtain ⟨⟨B, T, K, s, rfl, hT, hK, hs⟩, hn, ⟨at1, hd⟩, hf⟩ := hDR.use (by simp only; omega)
 obtain ⟨ob1, n1, c1⟩ := τ
 simp only at hn hd hf
 subst hn
 have z2 : ¬ n1 = id := by omega
 have z3 : ¬ id = n1 := by omega
 try simp (disch := omega) only [go_sem, jA, jB, jC, jD, jE, jF, jG, jH, jI, jJ, ↓reduceIte, reduceCtorEq, jO, jM, jN, jK, jL, z2, z3, kpv_flat, kpv_len, kpv_put]
 refine call_hc (ok_mk_Deck_Next _ id g ty_Deck true t at1 6 (by try simp (disch := omega) only [go_sem, jA, jB, jC, jD, jE, jF, jG, jH, jI, jJ, ↓reduceIte, reduceCtorEq, jO, jM, jN, jK, jL, z3]; exact hd) (by omega) hl) ?_
 have hx1 := deckR_bd t at1 6
 generalize deckR t at1 6 = dr at *
 obtain ⟨x0, at2⟩ := dr
 simp only at hx1
 try simp (disch := omega) only [go_sem, jA, jB, jC, jD, jE, jF, jG, jH, jI, jJ, ↓reduceIte, reduceCtorEq, jO, jM, jN, jK, jL, z2, z3]
 obtain ⟨N, hN⟩ : ∃ N : Nat, (N : Int) = x0 ∧ N ≤ 5 := ⟨x0.toNat, by omega, by omega⟩
 obtain ⟨rfl, hN⟩ := hN
 refine awp_upG [4, 5, 10, 11, 12, 13, 14, 15, 16, 17, 18, 19] (by kernel_rfl) N (fun k e σ => e 5 = .int .i64 ((N : Int) - k) ∧ n1 + 1 ≤ σ.n ∧ (∃ a, σ.ob id = some ⟨g, 2, ty_Deck, false, true, [deckV t a]⟩) ∧ (∀ i, i < n1 → i ≠ id → σ.ob i = ob0 i) ∧ σ.ob n1 = some ⟨c1, 7, 72, false, true, [kpv B K s]⟩ ∧
   ∃ l X, At e 4 X ∧ l.length = k ∧ (∀ q ∈ l, RcB q) ∧ SlR 21 41 σ (rcs l) X ∧ ∀ i, i < n1 + 1 → Oth X i) ?_ ?_
 ·refine ⟨(by first | rfl | (simp (disch := omega) only [go_sem, jA, jB, jC, jD, jE, jF, jG, jH, jI, jJ, ↓reduceIte, reduceCtorEq, jP, jO, jM, jN]; try rfl)), Nat.le_refl _, ⟨at2, by try simp (disch := omega) only [go_sem, jA, jB, jC, jD, jE, jF, jG, jH, jI, jJ, ↓reduceIte, reduceCtorEq, jO, jM, jN, jK, jL]⟩, fun i hi hne => ?_, by try simp (disch := omega) only [go_sem, jA, jB, jC, jD, jE, jF, jG, jH, jI, jJ, ↓reduceIte, reduceCtorEq, jO, jM, jN, jK, jL, z2], [], .nil, (by simp only [At]; try simp (disch := omega) only [go_sem, jA, jB, jC, jD, jE, jF, jG, jH, jI, jJ, ↓reduceIte, reduceCtorEq, jO, jM, jN, jK, jL]), rfl, fun q hq => by simp at hq, SlR.nil, fun i _ => Oth.nil i⟩
  have j1 : ¬ i = n1 := by omega
  try simp (disch := omega) only [go_sem, jA, jB, jC, jD, jE, jF, jG, jH, jI, jJ, ↓reduceIte, reduceCtorEq, jO, jM, jN, jK, jL, hne, j1]
  exact hf i hi hne
 clear hf hd hDR
 rintro k fe ob m c hk hm ⟨h5, hm1, ⟨at3, hd⟩, hfr, v0, l, X, h4, hll, hB, hX, ho⟩
 simp (maxSteps := 1000000) only [go_sem, jA, jB, jC, jD, jE, jF, jG, jH, jI, jJ, ↓reduceIte, reduceCtorEq, jP, At] at h5 hm hm1 hd hfr v0 h4
 try simp (disch := omega) only [go_sem, jA, jB, jC, jD, jE, jF, jG, jH, jI, jJ, ↓reduceIte, reduceCtorEq, jO, jM, jN, jK, jL, h5]
 refine cond_d (fun hge => ?_) (fun hlt => ?_)
 ·have hkl : k < N := by omega
  try simp (disch := omega) only [go_sem, jA, jB, jC, jD, jE, jF, jG, jH, jI, jJ, ↓reduceIte, reduceCtorEq, jO, jM, jN, jK, jL, z2, z3, v0, kpv_flat, kpv_len, kpv_tk, kpv_dt, h4]
  refine (hc_flow_Record _ id g t at3 B T K s hT hK hs hl (by simp only; omega) (by exact hd)).mono ?_
  intro r τ hDR
  obtain ⟨⟨q, rfl, hq⟩, hn2, ⟨at4, hd4⟩, hf4⟩ := hDR.use (by simp only; omega)
  obtain ⟨ob2, m2, c2⟩ := τ
  simp only at hn2 hd4 hf4
  subst hn2
  try simp (disch := omega) only [go_sem, jA, jB, jC, jD, jE, jF, jG, jH, jI, jJ, ↓reduceIte, reduceCtorEq, jO, jM, jN, jK, jL, h4]
  refine ⟨⟨rfl, rfl, rcv_pur q⟩, ?_⟩
  refine app_slr (b := 184) (hX.move (Nat.le_refl _) fun i hi hno => hf4 i hi fun e => hno (by rw [e]; exact ho id (by omega))) (by rw [rcs_length]; omega) (by rw [rcs_length]; omega) fun Y τ5 hR5 hK5 => ?_
  obtain ⟨ob5, m5, c5⟩ := τ5
  have hn5 : m2 ≤ m5 := hK5.1
  have f5 : ∀ i, i < n1 + 1 → i ≠ id → ob5 i = ob i := fun i hi hne => (hK5.2.1 i (by simp only; omega) (ho i hi)).trans (hf4 i (by omega) hne)
  have d5 := (hK5.2.1 id (by simp only; omega) (ho id (by omega))).trans hd4
  try simp (disch := omega) only [go_sem, jA, jB, jC, jD, jE, jF, jG, jH, jI, jJ, ↓reduceIte, reduceCtorEq, jO, jM, jN, jK, jL, h5]
  refine up_nextG m5 hkl (by omega) ⟨by try simp (disch := omega) only [go_sem, jA, jB, jC, jD, jE, jF, jG, jH, jI, jJ, ↓reduceIte, reduceCtorEq, jO, jM, jN, jK, jL]; congr 1; omega, by simp only [St.trunc]; omega, ⟨at4, by rw [tr_ob (by omega)]; exact d5⟩, fun i hi hne => by rw [tr_ob (by omega), f5 i (by omega) hne]; exact hfr i hi hne, by rw [tr_ob (by omega), f5 n1 (by omega) z2]; exact v0,
   l ++ [q], Y, (by simp only [At]; try simp (disch := omega) only [go_sem, jA, jB, jC, jD, jE, jF, jG, jH, jI, jJ, ↓reduceIte, reduceCtorEq, jO, jM, jN, jK, jL]), by simp [hll], fun p hp => ?_, ?_, fun i hi => hK5.2.2 i (by simp only; omega) (ho i hi)⟩
  ·rcases List.mem_append.1 hp with hp | hp
   ·exact hB p hp
   ·obtain rfl : p = q := by simpa using hp
    exact hq
  ·rw [show rcs (l ++ [q]) = rcs l ++ [rcv q] by simp [rcs]]
   exact hR5.tr
 obtain rfl : k = N := by omega
 try simp (disch := omega) only [go_sem, jA, jB, jC, jD, jE, jF, jG, jH, jI, jJ, ↓reduceIte, reduceCtorEq, jO, jM, jN, jK, jL, h4]
 exact ⟨l, at3, hX, by omega, hB, hd, hfr, by simp only; omega, fun i hi => ho i (by simp only at hi; omega)⟩
theorem hc_law32_records (σ : St) (id g : Nat) (t : List Int) (at' : Nat) (hl : t.length ≤ 9223372036854775807) (hid : id < σ.n) (hob : σ.ob id = some ⟨g, 2, ty_Deck, false, true, [deckV t at']⟩) :
  HC prog n_law32_records [.ptr id g 2 0 0] σ (DeckR σ id g t fun r => ∃ l : List Rc, r = .list 21 (rcs l) ∧ l.length ≤ 6 ∧ ∀ q ∈ l, RcB q) := by
 refine HC.deck hid ((hcO_law32_records σ id g t at' hl hid hob).mono ?_)
 rintro X τ ⟨l, at2, hX, hll, hB, hd, hfr, hn, ho⟩
 exact ⟨.list 21 (rcs l), at2, hX.pub (fun i hi hh => by simp only; rw [if_neg fun h => hh (ho i h)]) (rcs_pur _) (rcs_ok _), ⟨l, rfl, hll, hB⟩, hd, hfr⟩
def sumL (l : List Int) : Int := 65536 * (sumGo l 1 0).2 + (sumGo l 1 0).1
theorem sumS_sb (s : ByteArray) : sumS s = sumL (sb s) := rfl
theorem sumGo_bd : ∀ (l : List Int) (a b : Int), 0 ≤ a → a < 65521 → 0 ≤ b → b < 65521 → 0 ≤ (sumGo l a b).1 ∧ (sumGo l a b).1 < 65521 ∧ 0 ≤ (sumGo l a b).2 ∧ (sumGo l a b).2 < 65521
 | [], a, b, h1, h2, h3, h4 => ⟨h1, h2, h3, h4⟩
 | x :: l, a, b, h1, h2, h3, h4 => by
  simp only [sumGo]
  exact sumGo_bd l _ _ (Int.emod_nonneg _ (by decide)) (Int.emod_lt_of_pos _ (by decide)) (Int.emod_nonneg _ (by decide)) (Int.emod_lt_of_pos _ (by decide))
theorem sumL_bd (l : List Int) : 0 ≤ sumL l ∧ sumL l < 4294967296 := by
 have := sumGo_bd l 1 0 (by omega) (by omega) (by omega) (by omega)
 unfold sumL; omega
theorem getL_putB : ∀ (k : Nat) (n : Int), 0 ≤ n → n < 256 ^ k → getL (putB n k) = n
 | 0, n, h0, h1 => by simp at h1; simp [putB, getL]; omega
 | k + 1, n, h0, h1 => by
  rw [Int.pow_succ] at h1
  simp only [putB, getL]
  rw [getL_putB k (n / 256) (by omega) (by omega)]
  omega
theorem getL_pre {a r : List Int} {n : Int} {k : Nat} (h0 : 0 ≤ n) (h1 : n < 256 ^ k) (h : a = putB n k ++ r) : getL (a.take k) = n := by
 subst h
 rw [List.take_append_of_le_length (by rw [putB_length]; exact Nat.le_refl _), List.take_of_length_le (by rw [putB_length]; exact Nat.le_refl _), getL_putB k n h0 h1]
def encA (r : Rc) : List Int := encL r ++ putB (sumL (encL r)) 4
theorem flatL5 : ∀ l : List Int, (l.flatMap fun n => putB n 5).length = 5 * l.length
 | [] => rfl
 | a :: l => by rw [List.flatMap_cons, List.length_append, putB_length, flatL5 l, List.length_cons]; omega
theorem encL_length (r : Rc) : (encL r).length = 1 + 5 * (offs r.k).length := by
 rw [encL, List.length_append, putB_length, flatL5, numsR, List.length_map]
theorem encA_length (r : Rc) : (encA r).length = 5 + 5 * (offs r.k).length := by rw [encA, List.length_append, encL_length, putB_length]; omega
theorem encL_bd (r : Rc) : ∀ x ∈ encL r, 0 ≤ x ∧ x ≤ 255 := by
 intro x hx
 rcases List.mem_append.1 hx with hx | hx
 ·exact putB_bd _ _ x hx
 ·obtain ⟨n, _, hx⟩ := List.mem_flatMap.1 hx
  exact putB_bd _ _ x hx
theorem encA_bd (r : Rc) : ∀ x ∈ encA r, 0 ≤ x ∧ x ≤ 255 := by
 intro x hx
 rcases List.mem_append.1 hx with hx | hx
 ·exact encL_bd r x hx
 ·exact putB_bd _ _ x hx
theorem sb_encS (r : Rc) : sb (encS r) = encA r := by
 have h1 : sumS (bs (encL r)) = sumL (encL r) := by rw [sumS_sb, sb_bs _ (encL_bd r)]
 rw [encS, h1]
 exact sb_bs _ (encA_bd r)
theorem validR_parts {r : Rc} (h : validR r = true) : offs r.k ≠ [] ∧ (numsR r).all vB = true ∧ bareR r (offs r.k) = r := by
 simp only [validR, Bool.and_eq_true, decide_eq_true_eq] at h
 exact ⟨h.1.1, h.1.2, h.2⟩
def numsD (D : List Int) (n : Nat) : List Int := (List.range n).map fun i => getL ((D.drop (1 + 5 * i)).take 5)
def decD (D : List Int) : Rc × Nat × Int :=
 if offs (D.getD 0 0) = [] then (rc0 0, 0, 49) else if D.length < 1 + 5 * (offs (D.getD 0 0)).length + 4 then (rc0 0, 0, 7) else
 if getL ((D.drop (1 + 5 * (offs (D.getD 0 0)).length)).take 4) ≠ sumL (D.take (1 + 5 * (offs (D.getD 0 0)).length)) then (rc0 0, 0, 8) else
 if (numsD D (offs (D.getD 0 0)).length).all vB then (madeR (D.getD 0 0) (numsD D (offs (D.getD 0 0)).length), 1 + 5 * (offs (D.getD 0 0)).length + 4, 0) else (rc0 0, 0, 49)
theorem decR_D (s : ByteArray) (a : Nat) (h : a < s.size) : decR s a = ((decD ((sb s).drop a)).1, (if (decD ((sb s).drop a)).2.2 = 0 then ((a + (decD ((sb s).drop a)).2.1 : Nat) : Int) else 0), (decD ((sb s).drop a)).2.2) := by
 have e1 : decR s a = decN s a := by rw [decR, if_neg (by omega), if_neg (by omega)]; rfl
 rw [e1]
 have g0 : ((sb s).drop a).getD 0 0 = (sb s).getD a 0 := by simp [List.getD_eq_getElem?_getD]
 have g1 : ((sb s).drop a).length = s.size - a := by rw [List.length_drop, sb_length]
 have g2 : ∀ j k, getL ((((sb s).drop a).drop j).take k) = getS s (a + j) k := fun j k => by rw [List.drop_drop]; rfl
 have g3 : ∀ j, sumL (((sb s).drop a).take j) = sumS (s.extract a (a + j)) := fun j => by rw [sumS_sb, sb_extract, Nat.add_sub_cancel_left]
 have g4 : ∀ n, numsD ((sb s).drop a) n = numsAt s a n := fun n => by
  simp only [numsD, numsAt]
  refine List.map_congr_left fun i _ => ?_
  rw [g2, Nat.add_assoc]
 simp only [decD, decN, g0, g1, g2, g3, g4]
 generalize (sb s).getD a 0 = k
 by_cases c1 : offs k = []
 ·simp [c1]
 rw [if_neg c1, if_neg c1]
 by_cases c2 : s.size < a + 1 + 5 * (offs k).length + 4
 ·have c2' : s.size - a < 1 + 5 * (offs k).length + 4 := by omega
  rw [if_pos c2, if_pos c2']; simp
 have c2' : ¬ s.size - a < 1 + 5 * (offs k).length + 4 := by omega
 rw [if_neg c2, if_neg c2']
 rw [show a + (1 + 5 * (offs k).length) = a + 1 + 5 * (offs k).length by omega]
 by_cases c3 : getS s (a + 1 + 5 * (offs k).length) 4 ≠ sumS (s.extract a (a + 1 + 5 * (offs k).length))
 ·rw [if_pos c3, if_pos c3]; simp
 rw [if_neg c3, if_neg c3]
 by_cases c4 : (numsAt s a (offs k).length).all vB = true
 ·rw [if_pos c4, if_pos c4]
  simp only [if_true]
  congr 2
  omega
 ·rw [if_neg c4, if_neg c4]; simp
theorem vB_bd {n : Int} (h : vB n = true) : 0 ≤ n ∧ n ≤ 274877906944 := by simpa [vB] using h
theorem flat_drop : ∀ (l : List Int) (i : Nat), (l.flatMap fun n => putB n 5).drop (5 * i) = (l.drop i).flatMap fun n => putB n 5
 | l, 0 => by simp
 | [], i + 1 => by simp
 | x :: l, i + 1 => by
  simp only [List.flatMap_cons, List.drop_succ_cons]
  rw [show 5 * (i + 1) = (putB x 5).length + 5 * i by rw [putB_length]; omega, List.drop_append, List.drop_of_length_le (by omega), List.nil_append, Nat.add_sub_cancel_left, flat_drop l i]
theorem encL_drop (r : Rc) (i : Nat) : (encL r).drop (1 + 5 * i) = ((numsR r).drop i).flatMap fun n => putB n 5 := by
 rw [encL, ← List.drop_drop, List.drop_left' (putB_length _ _), flat_drop]
theorem nums_enc {r : Rc} (h : validR r = true) (Q : List Int) : numsD (encL r ++ Q) (offs r.k).length = numsR r := by
 obtain ⟨h1, h2, h3⟩ := validR_parts h
 have hl : (numsR r).length = (offs r.k).length := by rw [numsR, List.length_map]
 apply List.ext_getElem
 ·simp [numsD, hl]
 ·intro i hi hi'
  simp only [numsD, List.getElem_map, List.getElem_range]
  have hb := vB_bd (List.all_eq_true.1 h2 _ (List.getElem_mem hi'))
  refine getL_pre (r := ((numsR r).drop (i + 1)).flatMap (fun n => putB n 5) ++ Q) hb.1 (by omega) ?_
  rw [List.drop_append_of_le_length (by rw [encL_length]; omega), encL_drop, List.drop_eq_getElem_cons hi', List.flatMap_cons, List.append_assoc]
theorem encL_k {r : Rc} (h : validR r = true) (Q : List Int) : (encL r ++ Q).getD 0 0 = r.k := by
 have hk := offs_kind (validR_parts h).1
 simp only [encL, putB, List.cons_append, List.nil_append, List.getD_cons_zero]
 omega
theorem decD_ok {r : Rc} (h : validR r = true) (Q : List Int) : decD (encA r ++ Q) = (r, (encA r).length, 0) := by
 obtain ⟨h1, h2, h3⟩ := validR_parts h
 have hs := sumL_bd (encL r)
 have hA : encA r ++ Q = encL r ++ (putB (sumL (encL r)) 4 ++ Q) := by rw [encA, List.append_assoc]
 have hll := encL_length r
 have hlen : (encA r ++ Q).length = 1 + 5 * (offs r.k).length + 4 + Q.length := by rw [List.length_append, encA_length]; omega
 have d1 : (encA r ++ Q).drop (1 + 5 * (offs r.k).length) = putB (sumL (encL r)) 4 ++ Q := by rw [hA]; exact List.drop_left' hll
 have d2 : (encA r ++ Q).take (1 + 5 * (offs r.k).length) = encL r := by rw [hA]; exact List.take_left' hll
 have d3 : (encA r ++ Q).getD 0 0 = r.k := by rw [hA]; exact encL_k h _
 have d4 : numsD (encA r ++ Q) (offs r.k).length = numsR r := by rw [hA]; exact nums_enc h _
 have d5 : getL ((putB (sumL (encL r)) 4 ++ Q).take 4) = sumL (encL r) := getL_pre hs.1 (by omega) rfl
 unfold decD
 rw [d3, if_neg h1, if_neg (by omega), d1, d2, d5, if_neg (by simp), d4, if_pos h2, madeR_nums, h3, encA_length]
 congr 2
 omega
def flA (l : List Rc) : List Int := l.flatMap encA
theorem flA_cons (l : List Rc) (r : Rc) : flA (r :: l) = encA r ++ flA l := by simp [flA]
theorem openG_stop {s : ByteArray} {a : Int} (h : (decR s a).2.2 ≠ 0) : ∀ f, openG s f a = ([], a)
 | 0 => rfl
 | f + 1 => by rw [openG, if_pos h]
theorem openG_run (s : ByteArray) (Q : List Int) : ∀ (l : List Rc) (f : Nat) (A : List Int), (∀ q ∈ l, validR q = true) → l.length ≤ f → sb s = A ++ (flA l ++ Q) →
  openG s f (A.length : Int) = (l ++ (openG s (f - l.length) ((A ++ flA l).length : Int)).1, (openG s (f - l.length) ((A ++ flA l).length : Int)).2)
 | [], f, A, _, _, _ => by simp [flA]
 | r :: l, f + 1, A, hv, hf, hs => by
  have hr := hv r (by simp)
  have hal := encA_length r
  have hsz : A.length < s.size := by
   rw [← sb_length, hs, flA_cons]; simp only [List.length_append]; omega
  have hd : (sb s).drop A.length = encA r ++ (flA l ++ Q) := by rw [hs, List.drop_left' rfl, flA_cons, List.append_assoc]
  have hD := decR_D s A.length hsz
  rw [hd, decD_ok hr] at hD
  simp only [if_true] at hD
  have hs2 : sb s = (A ++ encA r) ++ (flA l ++ Q) := by rw [hs, flA_cons]; simp
  have ih := openG_run s Q l f (A ++ encA r) (fun q hq => hv q (by simp [hq])) (by simpa using hf) hs2
  rw [openG, if_neg (by rw [hD]; simp), hD]
  simp only
  rw [show ((A.length + (encA r).length : Nat) : Int) = ((A ++ encA r).length : Nat) by rw [List.length_append], ih]
  rw [show f + 1 - (r :: l).length = f - l.length by simp, show A ++ encA r ++ flA l = A ++ flA (r :: l) by rw [flA_cons]; simp]
  rfl
theorem flA_le (l : List Rc) : l.length ≤ (flA l).length := by
 induction l with
 | nil => simp
 | cons r l ih => rw [flA_cons, List.length_append, encA_length, List.length_cons]; omega
theorem openS_run {s : ByteArray} {Q : List Int} {l : List Rc} (hv : ∀ q ∈ l, validR q = true) (hs : sb s = flA l ++ Q) :
  openS s = (l ++ (openG s (s.size - l.length) ((flA l).length : Int)).1, (openG s (s.size - l.length) ((flA l).length : Int)).2) := by
 have h1 := flA_le l
 have h2 : (sb s).length = s.size := sb_length s
 rw [hs, List.length_append] at h2
 exact openG_run s Q l s.size [] hv (by omega) (by simpa using hs)
theorem openS_of {s : ByteArray} {Q : List Int} {l : List Rc} (hv : ∀ q ∈ l, validR q = true) (hs : sb s = flA l ++ Q) (hQ : Q = [] ∨ (decD Q).2.2 ≠ 0) : openS s = (l, ((flA l).length : Int)) := by
 have h2 : (sb s).length = s.size := sb_length s
 have hd : (decR s ((flA l).length : Nat)).2.2 ≠ 0 := by
  rcases hQ with rfl | hQ
  ·rw [hs, List.append_nil] at h2
   rw [decR, if_neg (by omega), if_pos (by rw [h2])]; simp
  ·by_cases e : Q = []
   ·subst e
    rw [hs, List.append_nil] at h2
    rw [decR, if_neg (by omega), if_pos (by rw [h2])]; simp
   ·have hQl : 0 < Q.length := List.length_pos_iff.2 e
    rw [hs, List.length_append] at h2
    rw [decR_D s (flA l).length (by omega), hs, List.drop_left' rfl]
    exact hQ
 rw [openS_run hv hs, openG_stop hd, List.append_nil]
theorem decD_none {b : Int} (h : 7 ≤ b) (Q : List Int) : (decD (b :: Q)).2.2 ≠ 0 := by
 have : offs b = [] := by
  rcases offs_cases b with e | ⟨h1, e⟩ | ⟨h1, e⟩ | ⟨h1, e⟩ | ⟨h1, e⟩ | ⟨h1, e⟩
  ·exact e
  all_goals omega
 unfold decD
 simp only [List.getD_cons_zero]
 rw [if_pos this]
 simp
def wrB (l : List Rc) : ByteArray := l.foldl (fun s r => s ++ (encR r).1) ⟨#[]⟩
theorem wrB_snoc (l : List Rc) (r : Rc) : wrB (l ++ [r]) = wrB l ++ (encR r).1 := by simp [wrB, List.foldl_append]
theorem encR_size (r : Rc) : (encR r).1.size ≤ 35 := by
 unfold encR
 split
 ·exact encS_size r
 ·exact Nat.zero_le _
theorem wrB_fold (l : List Rc) (s : ByteArray) : (l.foldl (fun s r => s ++ (encR r).1) s).size ≤ s.size + 35 * l.length := by
 induction l generalizing s with
 | nil => simp
 | cons r l ih =>
  have h1 := ih (s ++ (encR r).1)
  have h2 := encR_size r
  rw [ByteArray.size_append] at h1
  simp only [List.foldl_cons, List.length_cons]
  omega
theorem wrB_size (l : List Rc) : (wrB l).size ≤ 35 * l.length := by
 have := wrB_fold l ⟨#[]⟩
 have e : (⟨#[]⟩ : ByteArray).size = 0 := rfl
 rw [e] at this
 simpa [wrB] using this
theorem sb_fold (l : List Rc) (hv : ∀ q ∈ l, validR q = true) (s : ByteArray) : sb (l.foldl (fun s r => s ++ (encR r).1) s) = sb s ++ flA l := by
 induction l generalizing s with
 | nil => simp [flA]
 | cons r l ih =>
  simp only [List.foldl_cons]
  rw [ih (fun q hq => hv q (by simp [hq])), sb_append, encR, if_pos (hv r (by simp)), sb_encS, flA_cons, List.append_assoc]
theorem sb_wrB {l : List Rc} (hv : ∀ q ∈ l, validR q = true) : sb (wrB l) = flA l := by
 have := sb_fold l hv ⟨#[]⟩
 simpa [wrB, sb] using this
theorem rcv_rep (q p : Rc) : setc 0 (rcv q) (rcX .nil p) = rcv q := rfl
theorem rcv_tk (q : Rc) : AV.agg ((rcv q).cells.take 21) = rcv q := rfl
theorem rcv_dt (q : Rc) : AV.agg (((rcv q).cells.drop 0).take 21) = rcv q := rfl
theorem rcv_flat (q : Rc) : (rcv q).flat = true := rfl
theorem rcv_len (q : Rc) : (rcv q).cells.length = 21 := rfl
theorem rcv_ct (q : Rc) : (rcv q).cells.take 21 = (rcv q).cells := rfl
theorem rcv_ca (q : Rc) : AV.agg (rcv q).cells = rcv q := rfl
theorem rcv_one (q : Rc) : (rcv q).cells.all AV.one = true := rfl
theorem rcz_fold : AV.agg [AV.int IntKind.i64 0, AV.int IntKind.i64 0, AV.int IntKind.i64 0, AV.int IntKind.i64 0, AV.int IntKind.i64 0, AV.int IntKind.i64 0, AV.int IntKind.i64 0, AV.int IntKind.i64 0, AV.int IntKind.i64 0, AV.int IntKind.i64 0, AV.int IntKind.i64 0, AV.int IntKind.i64 0, AV.nil, AV.bool false, AV.int IntKind.i64 0, AV.int IntKind.i64 0, AV.int IntKind.i64 0, AV.int IntKind.i64 0, AV.int IntKind.i64 0, AV.int IntKind.i64 0, AV.int IntKind.i64 0] = rcX .nil (rc0 0) := rfl
theorem ok_law32_same (a b : List Rc) (ha : ∀ q ∈ a, q.sg.length ≤ 9223372036854775807) (hl : a.length ≤ 4611686018427387904) : PC prog n_law32_same [.list 21 (rcs a), .list 21 (rcs b)] (.bool (decide (a = b))) := by
 refine PC_of_body b_law32_same (by simp) ?_
 simp only [c_law32_same]
 try simp (disch := omega) only [go_sem, jA, jB, jC, jD, jE, jF, jG, jH, jI, jJ, ↓reduceIte, reduceCtorEq, jO, jM, jN, jK, jL, rcs_length]
 refine cond_n (fun h1 => ?_) (fun h1 => ?_) <;> try simp (disch := omega) only [go_sem, jA, jB, jC, jD, jE, jF, jG, jH, jI, jJ, ↓reduceIte, reduceCtorEq, jO, jM, jN, jK, jL, rcs_length]
 ·exact Pub.of_eq (by rw [decide_eq_false fun e => h1 (by rw [e])]) rfl
 have hab : a.length = b.length := by omega
 refine awp_upF [4, 5, 13, 14, 15, 16, 17, 18, 19, 20, 21, 22, 23, 24, 25, 26] (by kernel_rfl) a.length (fun i e _ => e 13 = .int .i64 i ∧ a.take i = b.take i) ?_ ?_
 ·exact ⟨(by first | rfl | (simp (disch := omega) only [go_sem, jA, jB, jC, jD, jE, jF, jG, jH, jI, jJ, ↓reduceIte, reduceCtorEq, jP, jO, jM, jN]; try rfl)), rfl⟩
 rintro i fe ob c hi ⟨h13, ht⟩
 simp (maxSteps := 1000000) only [go_sem, jA, jB, jC, jD, jE, jF, jG, jH, jI, jJ, ↓reduceIte, reduceCtorEq, jP] at h13
 try simp (disch := omega) only [go_sem, jA, jB, jC, jD, jE, jF, jG, jH, jI, jJ, ↓reduceIte, reduceCtorEq, jO, jM, jN, jK, jL, h13]
 refine cond_d (fun hlt => ?_) (fun hge => ?_)
 ·have hil : i < a.length := by omega
  have hil2 : i < b.length := by omega
  have g1 : a[i]? = some a[i] := List.getElem?_eq_getElem hil
  have g2 : b[i]? = some b[i] := List.getElem?_eq_getElem hil2
  have t1 := take_snocA a i hil
  have t2 := take_snocA b i hil2
  have hm := ha _ (List.getElem_mem hil)
  have hne : a[i] ≠ b[i] → a ≠ b := fun h e => h (by subst e; rfl)
  generalize a[i] = x at *
  generalize b[i] = y at *
  try simp (disch := omega) only [go_sem, jA, jB, jC, jD, jE, jF, jG, jH, jI, jJ, ↓reduceIte, reduceCtorEq, jO, jM, jN, jK, jL, h13, rcs_length, rcs_get, g1, g2, Option.map_some, rcv_tk, rcv_dt, rcv_flat, rcv_len]
  refine ⟨by omega, by omega, by omega, by omega, ?_⟩
  refine call_pc (ok_ref32_Same x y hm) (by simp [rcv_pur]) ?_
  by_cases e : x = y
  ·rw [decide_eq_true e]
   try simp (disch := omega) only [go_sem, jA, jB, jC, jD, jE, jF, jG, jH, jI, jJ, ↓reduceIte, reduceCtorEq, jO, jM, jN, jK, jL, h13]
   exact up_next hil ⟨(by first | rfl | (simp (disch := omega) only [go_sem, jA, jB, jC, jD, jE, jF, jG, jH, jI, jJ, ↓reduceIte, reduceCtorEq, jP, jO, jM, jN]; try rfl)), by rw [t1, t2, ht, e]⟩
  ·rw [decide_eq_false e]
   try simp (disch := omega) only [go_sem, jA, jB, jC, jD, jE, jF, jG, jH, jI, jJ, ↓reduceIte, reduceCtorEq, jO, jM, jN, jK, jL]
   exact Pub.of_eq (by rw [decide_eq_false (hne e)]) rfl
 obtain rfl : i = a.length := by omega
 rw [List.take_length, List.take_of_length_le (by omega)] at ht
 try simp (disch := omega) only [go_sem, jA, jB, jC, jD, jE, jF, jG, jH, jI, jJ, ↓reduceIte, reduceCtorEq, jO, jM, jN, jK, jL]
 exact Pub.of_eq (by rw [decide_eq_true ht]) rfl
theorem ok_law32_written (l : List Rc) (hl : l.length ≤ 1000000) (ha : ∀ q ∈ l, q.sg.length ≤ 9223372036854775807) : PC prog n_law32_written [.list 21 (rcs l)] (.str (wrB l)) := by
 refine PC_of_body b_law32_written (by simp) ?_
 simp only [c_law32_written]
 try simp (disch := omega) only [go_sem, jA, jB, jC, jD, jE, jF, jG, jH, jI, jJ, ↓reduceIte, reduceCtorEq, jO, jM, jN, jK, jL, rcs_length]
 refine awp_upG [3, 5, 6, 7, 10, 11, 12, 13, 14, 15, 16, 17, 18, 19, 20, 21, 22] (by kernel_rfl) l.length (fun i e _ => e 10 = .int .i64 i ∧ e 3 = .str (wrB (l.take i))) ?_ ?_
 ·exact ⟨(by first | rfl | (simp (disch := omega) only [go_sem, jA, jB, jC, jD, jE, jF, jG, jH, jI, jJ, ↓reduceIte, reduceCtorEq, jP, jO, jM, jN]; try rfl)), by try simp (disch := omega) only [go_sem, jA, jB, jC, jD, jE, jF, jG, jH, jI, jJ, ↓reduceIte, reduceCtorEq, jO, jM, jN, jK, jL]; rfl⟩
 rintro i fe ob m c hi hm ⟨h10, h3⟩
 simp (maxSteps := 1000000) only [go_sem, jA, jB, jC, jD, jE, jF, jG, jH, jI, jJ, ↓reduceIte, reduceCtorEq, jP] at h10 h3
 try simp (disch := omega) only [go_sem, jA, jB, jC, jD, jE, jF, jG, jH, jI, jJ, ↓reduceIte, reduceCtorEq, jO, jM, jN, jK, jL, h10]
 refine cond_d (fun hlt => ?_) (fun hge => ?_)
 ·have hil : i < l.length := by omega
  have g1 : l[i]? = some l[i] := List.getElem?_eq_getElem hil
  have t1 := take_snocA l i hil
  have hmm := ha _ (List.getElem_mem hil)
  generalize l[i] = x at *
  have hw := wrB_size (l.take i)
  have he := encR_size x
  rw [List.length_take] at hw
  try simp (disch := omega) only [go_sem, jA, jB, jC, jD, jE, jF, jG, jH, jI, jJ, ↓reduceIte, reduceCtorEq, jO, jM, jN, jK, jL, h10, h3, rcs_length, rcs_get, g1, Option.map_some, rcz_fold, rcv_rep, rcv_tk, rcv_dt, rcv_flat, rcv_len, rcv_ct, rcv_ca, rcv_one]
  refine ⟨by omega, by omega, ?_⟩
  refine call_pc (ok_ref32_Encode x hmm) (by simp [rcv_pur]) ?_
  try simp (disch := omega) only [go_sem, jA, jB, jC, jD, jE, jF, jG, jH, jI, jJ, ↓reduceIte, reduceCtorEq, jO, jM, jN, jK, jL, h3, h10]
  refine ⟨by omega, up_nextG (m + 1) hil (by omega) ⟨(by first | rfl | (simp (disch := omega) only [go_sem, jA, jB, jC, jD, jE, jF, jG, jH, jI, jJ, ↓reduceIte, reduceCtorEq, jP, jO, jM, jN]; try rfl)), by try simp (disch := omega) only [go_sem, jA, jB, jC, jD, jE, jF, jG, jH, jI, jJ, ↓reduceIte, reduceCtorEq, jO, jM, jN, jK, jL]; rw [t1, wrB_snoc]⟩⟩
 obtain rfl : i = l.length := by omega
 rw [List.take_length] at h3
 try simp (disch := omega) only [go_sem, jA, jB, jC, jD, jE, jF, jG, jH, jI, jJ, ↓reduceIte, reduceCtorEq, jO, jM, jN, jK, jL, h3]
 exact Pub.pure rfl
def rS : Rc := ⟨6, 0, 0, 0, 0, 0, 0, 0, 0, 0, 0, 0, [], false, 0, 0, 0, 5, 0, 0, 0⟩
theorem rS_fold : AV.agg [AV.int IntKind.i64 6, AV.int IntKind.i64 0, AV.int IntKind.i64 0, AV.int IntKind.i64 0, AV.int IntKind.i64 0, AV.int IntKind.i64 0, AV.int IntKind.i64 0, AV.int IntKind.i64 0, AV.int IntKind.i64 0, AV.int IntKind.i64 0, AV.int IntKind.i64 0, AV.int IntKind.i64 0, AV.nil, AV.bool false, AV.int IntKind.i64 0, AV.int IntKind.i64 0, AV.int IntKind.i64 0, AV.int IntKind.i64 5, AV.int IntKind.i64 0, AV.int IntKind.i64 0, AV.int IntKind.i64 0] = rcX .nil rS := rfl
theorem rS_v : validR rS = true := by simp [validR, rS, offs, numsR, cI, bareR, sI, rc0, vB]
theorem rS_len : (encA rS).length = 10 := by rw [encA_length]; rfl
theorem sb_S : sb (encS rS) = encA rS := sb_encS rS
theorem rS_size : (encS rS).size = 10 := by rw [← sb_length, sb_S, rS_len]
theorem rS_b0 : (sb (encS rS)).getD 0 0 = 6 := by
 rw [sb_S]; have := encL_k rS_v (putB (sumL (encL rS)) 4); exact this
theorem rS_b1 : (sb (encS rS)).getD 1 0 = 5 := by
 rw [sb_S]
 have e : encA rS = [6, 5, 0, 0, 0, 0] ++ putB (sumL (encL rS)) 4 := by
  rw [encA]; congr 1
 rw [e]; rfl
theorem open_S : openS (encS rS ++ encS rS ++ ⟨#[120]⟩) = ([rS, rS], 20) := by
 have h := openS_of (l := [rS, rS]) (s := encS rS ++ encS rS ++ ⟨#[120]⟩) (Q := [120]) (by simp [rS_v]) (by rw [sb_append, sb_append, sb_S]; simp [flA, sb]) (.inr (decD_none (by omega) []))
 rw [h]
 have : (flA [rS, rS]).length = 20 := by simp [flA, rS_len]
 rw [this]; rfl
theorem ok_law32_sane : PC prog n_law32_sane [] (.bool true) := by
 refine PC_of_body b_law32_sane (by simp) ?_
 simp only [c_law32_sane]
 have hE := pc_nl (ok_journal_Encode rS (by simp [rS])) (.cons (rcN_nl (r := rS) rfl) .nil)
 have hr : encR rS = (encS rS, 0) := by rw [encR, if_pos rS_v]
 have hfl : (rcX .nil rS).flat = true := rcX_flat rS rfl
 have hsz := rS_size
 try simp (disch := omega) only [go_sem, jA, jB, jC, jD, jE, jF, jG, jH, jI, jJ, ↓reduceIte, reduceCtorEq, jO, jM, jN, jK, jL, rcz_fold, rS_fold, hfl, rcX_cells, rcX_rep, rcX_dt, rcX_tk]
 refine call_pc hE (by simp [rcN_pur]) ?_
 rw [hr]
 try simp (disch := omega) only [go_sem, jA, jB, jC, jD, jE, jF, jG, jH, jI, jJ, ↓reduceIte, reduceCtorEq, jO, jM, jN, jK, jL]
 have hx : (#[120] : Array UInt8).size = 1 := rfl
 have hSs : (encS rS ++ encS rS ++ (⟨#[120]⟩ : ByteArray)).size ≤ 100 := by rw [ByteArray.size_append, ByteArray.size_append, hsz]; decide
 refine ⟨by omega, by rw [hx]; omega, ?_⟩
 have hO := ok_journal_Open (encS rS ++ encS rS ++ ⟨#[120]⟩) (by omega)
 rw [open_S] at hO
 refine call_pc hO (by simp [go_sem]) ?_
 have s0 := sidxN (encS rS) 0 (by omega)
 have s1 := sidxN (encS rS) 1 (by omega)
 rw [rS_b0] at s0
 rw [rS_b1] at s1
 have hl2 : (rcs [rS, rS]).length = 2 := rfl
 have hg1 : (rcs [rS, rS])[1]? = some (rcv rS) := rfl
 have s0' : Option.map (fun b => AV.int IntKind.u8 ↑b.toNat) (encS rS)[0]? = some (AV.int IntKind.u8 6) := by simpa using s0
 have s1' : Option.map (fun b => AV.int IntKind.u8 ↑b.toNat) (encS rS)[1]? = some (AV.int IntKind.u8 5) := by simpa using s1
 try simp (disch := omega) only [go_sem, jA, jB, jC, jD, jE, jF, jG, jH, jI, jJ, ↓reduceIte, reduceCtorEq, jO, jM, jN, jK, jL, hsz, hl2]
 refine ⟨_, s0', ?_⟩
 try simp (disch := omega) only [go_sem, jA, jB, jC, jD, jE, jF, jG, jH, jI, jJ, ↓reduceIte, reduceCtorEq, jO, jM, jN, jK, jL, hsz, hl2]
 refine ⟨_, s1', ?_⟩
 try simp (disch := omega) only [go_sem, jA, jB, jC, jD, jE, jF, jG, jH, jI, jJ, ↓reduceIte, reduceCtorEq, jO, jM, jN, jK, jL, hsz, hl2, hg1, rcX_cells, rcX_tk, rcX_dt, hfl, rcv_flat, rcv_len, rcv_tk]
 refine call_pc (pc_nl (ok_journal_Same rS rS (by simp [rS])) (.cons .rfl (.cons (rcN_nl (r := rS) rfl) .nil))) (by simp [rcv_pur, rcN_pur]) ?_
 rw [decide_eq_true rfl]
 try simp (disch := omega) only [go_sem, jA, jB, jC, jD, jE, jF, jG, jH, jI, jJ, ↓reduceIte, reduceCtorEq, jO, jM, jN, jK, jL, hsz]
 have h20 : (encS rS ++ encS rS).size = 20 := by rw [ByteArray.size_append, hsz]
 refine call_pc (ok_journal_Crash (encS rS ++ encS rS) 10 3 (by omega)) (by simp [go_sem]) ?_
 have hc : (crashS (encS rS ++ encS rS) 10 3).size = 13 := by
  have c1 : (cutS (encS rS ++ encS rS) 10).size = 10 := by simp only [cutS, ByteArray.size_extract, h20]; decide
  rw [crashS, ByteArray.size_append, c1]
  have c2 : ((encS rS ++ encS rS).extract 10 (encS rS ++ encS rS).size).size = 10 := by simp only [ByteArray.size_extract, h20]; decide
  have c3 : (cutS ((encS rS ++ encS rS).extract 10 (encS rS ++ encS rS).size) 3).size = 3 := by rw [cutS, ByteArray.size_extract, c2]; decide
  rw [c3]
 try simp (disch := omega) only [go_sem, jA, jB, jC, jD, jE, jF, jG, jH, jI, jJ, ↓reduceIte, reduceCtorEq, jO, jM, jN, jK, jL, hc]
 exact Pub.of_eq rfl rfl
theorem strL_sb2 (s : ByteArray) : strL s = u8s (sb s) := by simp [strL, u8s, sb]
theorem u8s_set2 (l : List Int) (k : Nat) (y : Int) : (u8s l).set k (.int .u8 y) = u8s (l.set k y) := by simp [u8s, List.map_set]
theorem u8s_get2 (l : List Int) (i : Nat) : (u8s l)[i]? = (l[i]?).map (AV.int .u8) := by simp [u8s]
theorem bytes_all2 (L : List Int) : bytesL (List.take L.length (u8s L)) = some (L.map fun n => UInt8.ofNat n.toNat) := by
 rw [List.take_of_length_le (by rw [u8s_length]; exact Nat.le_refl _), bytesL_u8]
theorem decR_sg (s : ByteArray) (a : Int) : (decR s a).1.sg = [] := by
 unfold decR
 split
 ·rfl
 split
 ·rfl
 unfold decN
 simp only
 split
 ·rfl
 split
 ·rfl
 split
 ·rfl
 split
 ·exact putR_sg _ _ _ rfl fun o ho => offs_ok ho
 ·rfl
theorem openG_sg (s : ByteArray) : ∀ (f : Nat) (a : Int), ∀ q ∈ (openG s f a).1, q.sg = []
 | 0, _ => by simp [openG]
 | f + 1, a => by
  rw [openG]
  split
  ·simp
  ·intro q hq
   rcases List.mem_cons.1 hq with rfl | hq
   ·exact decR_sg s a
   ·exact openG_sg s f _ q hq
theorem ok_law32_JournalBytes (t : List Int) (raw : Rc) (s : ByteArray) (at' safe torn by' : Int) (hby : 0 ≤ by' ∧ by' ≤ 255) : PC prog n_law32_JournalBytes [.list 1 (ints t), rcv raw, .str s, .int .i64 at', .int .i64 safe, .int .i64 torn, .int .u8 by'] (.bool true) := by
 refine PC_of_body b_law32_JournalBytes (by simp) ?_
 simp only [c_law32_JournalBytes]
 have r5 : (rcv raw).cells.getD 12 .junk = .list 1 (ints raw.sg) := rfl
 try simp (disch := omega) only [go_sem, jA, jB, jC, jD, jE, jF, jG, jH, jI, jJ, ↓reduceIte, reduceCtorEq, jO, jM, jN, jK, jL, rcv_flat, rcv_len]
 refine call_pc ok_law32_sane (by simp) ?_
 try simp (disch := omega) only [go_sem, jA, jB, jC, jD, jE, jF, jG, jH, jI, jJ, ↓reduceIte, reduceCtorEq, jO, jM, jN, jK, jL]
 refine call_pc (ok_mk_Few t) (by simp [go_sem]) ?_
 try simp (disch := omega) only [go_sem, jA, jB, jC, jD, jE, jF, jG, jH, jI, jJ, ↓reduceIte, reduceCtorEq, jO, jM, jN, jK, jL]
 cases hfew : fewB t
 ·try simp (disch := omega) only [go_sem, jA, jB, jC, jD, jE, jF, jG, jH, jI, jJ, ↓reduceIte, reduceCtorEq, jO, jM, jN, jK, jL]
  exact Pub.of_eq rfl rfl
 have hlt : t.length ≤ 9223372036854775807 := by simp [fewB] at hfew; omega
 try simp (disch := omega) only [go_sem, jA, jB, jC, jD, jE, jF, jG, jH, jI, jJ, ↓reduceIte, reduceCtorEq, jO, jM, jN, jK, jL]
 refine gd_fd rfl (fun hs => ?_) (fun hs => ?_) <;> try simp (disch := omega) only [go_sem, jA, jB, jC, jD, jE, jF, jG, jH, jI, jJ, ↓reduceIte, reduceCtorEq, jO, jM, jN, jK, jL, r5, ints_length]
 ·exact Pub.of_eq rfl rfl
 refine cond_d (fun hr => ?_) (fun hr => ?_) <;> try simp (disch := omega) only [go_sem, jA, jB, jC, jD, jE, jF, jG, jH, jI, jJ, ↓reduceIte, reduceCtorEq, jO, jM, jN, jK, jL]
 ·exact Pub.of_eq rfl rfl
 refine call_hc (ok_mk_New _ t) ?_
 try simp (disch := omega) only [go_sem, jA, jB, jC, jD, jE, jF, jG, jH, jI, jJ, ↓reduceIte, reduceCtorEq, jO, jM, jN, jK, jL]
 refine (hcO_law32_records _ 1 1 t 0 hlt (by simp only; omega) (by try simp (disch := omega) only [go_sem, jA, jB, jC, jD, jE, jF, jG, jH, jI, jJ, ↓reduceIte, reduceCtorEq, jO, jM, jN, jK, jL])).mono ?_
 rintro X ⟨ob1, n1, c1⟩ ⟨l, at2, hX, hll, hB, hd, hfr, hn1, hoX⟩
 have hv : ∀ q ∈ l, validR q = true := fun q hq => (hB q hq).1
 have hsg : ∀ q ∈ l, q.sg.length ≤ 9223372036854775807 := fun q hq => by rw [(hB q hq).2]; simp
 simp only at hn1 hd hfr hoX
 have u0 := hfr 0 (by omega) (by omega)
 try simp (disch := omega) only [go_sem, jA, jB, jC, jD, jE, jF, jG, jH, jI, jJ, ↓reduceIte, reduceCtorEq, jO, jM, jN, jK, jL] at u0
 try simp (disch := omega) only [go_sem, jA, jB, jC, jD, jE, jF, jG, jH, jI, jJ, ↓reduceIte, reduceCtorEq, jO, jM, jN, jK, jL]
 have hPX := hX.pub (τ := ⟨ob1, n1, c1⟩) (fun _ _ _ => rfl) (rcs_pur l) (rcs_ok l)
 refine call_lent (ok_law32_written l (by omega) hsg) (.cons hPX .nil) rfl ?_
 have hw := wrB_size l
 generalize wrB l = w at *
 try simp (disch := omega) only [go_sem, jA, jB, jC, jD, jE, jF, jG, jH, jI, jJ, ↓reduceIte, reduceCtorEq, jO, jM, jN, jK, jL]
 have hl7 : w.size ≤ 210 := by omega
 have hwf : (w ++ s).size = w.size + s.size := ByteArray.size_append
 have hsl := sb_length (w ++ s)
 refine ⟨by omega, by omega, ?_⟩
 refine cond_cut [73, 74, 75, 76, 77, 78, 79] (by kernel_rfl) (fun e σ => n1 + 1 ≤ σ.n ∧ (∀ i, i < n1 → σ.ob i = ob1 i) ∧ ∃ L : List Int, L.length = w.size + s.size ∧ σ.ob n1 = some ⟨c1, 1, 5, false, false, u8s L⟩) ?_ ?_
 ·refine cond_d (fun hz => ?_) (fun hz => ?_)
  ·try simp (disch := omega) only [go_sem, jA, jB, jC, jD, jE, jF, jG, jH, jI, jJ, ↓reduceIte, reduceCtorEq, jO, jM, jN, jK, jL, strL_sb2, u8s_length, hsl, hwf]
   refine call_pc (ok_mk_Mod at' ((w.size + s.size : Nat) : Int) (by omega) (by omega)) (by simp [go_sem]) ?_
   have q2 := Int.emod_nonneg at' (show ((w.size + s.size : Nat) : Int) ≠ 0 by omega)
   have q3 := Int.emod_lt_of_pos at' (show (0 : Int) < ((w.size + s.size : Nat) : Int) by omega)
   generalize at' % ((w.size + s.size : Nat) : Int) = k at *
   obtain ⟨k, rfl⟩ := Int.eq_ofNat_of_zero_le q2
   have hkl : k < (sb (w ++ s)).length := by omega
   have hg : (sb (w ++ s))[k]? = some (sb (w ++ s))[k] := List.getElem?_eq_getElem hkl
   try simp (disch := omega) only [go_sem, jA, jB, jC, jD, jE, jF, jG, jH, jI, jJ, ↓reduceIte, reduceCtorEq, jO, jM, jN, jK, jL, strL_sb2, u8s_length, hsl, hwf, u8s_get2, hg, Option.map_some, u8s_set2]
   refine ⟨by omega, by omega, Nat.le_refl _, fun i hi => ?_, (sb (w ++ s)).set k by', by rw [List.length_set]; omega, ?_⟩
   ·rw [if_neg (by omega)]
   ·rfl
  ·try simp (disch := omega) only [go_sem, jA, jB, jC, jD, jE, jF, jG, jH, jI, jJ, ↓reduceIte, reduceCtorEq, jO, jM, jN, jK, jL, strL_sb2]
   exact ⟨Nat.le_refl _, fun i hi => by rw [if_neg (by omega)], sb (w ++ s), by omega, rfl⟩
 rintro f1 ⟨ob2, n2, c2⟩ ⟨hn2, hf2, L, hLl, hbo⟩
 simp only at hn2 hf2 hbo
 try simp (disch := omega) only [go_sem, jA, jB, jC, jD, jE, jF, jG, jH, jI, jJ, ↓reduceIte, reduceCtorEq, jO, jM, jN, jK, jL]
 refine cond_cut [18, 19, 83, 84, 85, 86, 87, 88, 89, 90, 91, 92, 93, 94, 95, 96, 97, 98] (by kernel_rfl) (fun e σ => n2 ≤ σ.n ∧ (∀ i, i < n2 → σ.ob i = ob2 i) ∧ ∃ F, At e 18 (.str F) ∧ F.size ≤ 100) ?_ ?_
 ·refine cond_d (fun hz => ?_) (fun hz => ?_)
  ·have hsw := sb_length w
   have hex : (w.extract 0 11).size = 11 := by rw [ByteArray.size_extract]; omega
   have hse := sb_length (w.extract 0 11)
   try simp (disch := omega) only [go_sem, jA, jB, jC, jD, jE, jF, jG, jH, jI, jJ, ↓reduceIte, reduceCtorEq, jO, jM, jN, jK, jL, strL_sb2, u8s_length, hse, hex]
   refine ⟨by omega, ?_⟩
   refine call_pc (ok_mk_Mod at' 11 (by omega) (by omega)) (by simp [go_sem]) ?_
   have q2 := Int.emod_nonneg at' (show (11 : Int) ≠ 0 by omega)
   have q3 := Int.emod_lt_of_pos at' (show (0 : Int) < 11 by omega)
   generalize at' % 11 = k at *
   obtain ⟨k, rfl⟩ := Int.eq_ofNat_of_zero_le q2
   have hkl : k < (sb (w.extract 0 11)).length := by omega
   have hg : (sb (w.extract 0 11))[k]? = some (sb (w.extract 0 11))[k] := List.getElem?_eq_getElem hkl
   try simp (disch := omega) only [go_sem, jA, jB, jC, jD, jE, jF, jG, jH, jI, jJ, ↓reduceIte, reduceCtorEq, jO, jM, jN, jK, jL, strL_sb2, u8s_length, hse, hex, u8s_get2, hg, Option.map_some, u8s_set2]
   have hCl : ((sb (w.extract 0 11)).set k by').length = 11 := by rw [List.length_set]; omega
   generalize (sb (w.extract 0 11)).set k by' = CL at *
   have hby2 := bytes_all2 CL
   rw [hCl] at hby2
   refine ⟨by omega, by omega, by omega, _, hby2, by omega, _, hby2, ?_⟩
   rw [bs_u8]
   have hbz : (bs CL).size = CL.length := by simp [bs, ByteArray.size]
   refine call_pc (ok_ref28_Sum (bs CL) (by omega)) (by simp [go_sem]) ?_
   try simp (disch := omega) only [go_sem, jA, jB, jC, jD, jE, jF, jG, jH, jI, jJ, ↓reduceIte, reduceCtorEq, jO, jM, jN, jK, jL]
   refine call_pc (rputB CL (sumS (bs CL)) 4 (by omega) (by omega)) (by simp [go_sem]) ?_
   try simp (disch := omega) only [go_sem, jA, jB, jC, jD, jE, jF, jG, jH, jI, jJ, ↓reduceIte, reduceCtorEq, jO, jM, jN, jK, jL]
   refine ⟨by omega, fun i hi => ?_, bs (CL ++ putB (sumS (bs CL)) 4), by simp only [At]; try simp (disch := omega) only [go_sem, jA, jB, jC, jD, jE, jF, jG, jH, jI, jJ, ↓reduceIte, reduceCtorEq, jO, jM, jN, jK, jL], ?_⟩
   ·rw [if_neg (by omega)]
   ·rw [show (bs (CL ++ putB (sumS (bs CL)) 4)).size = (CL ++ putB (sumS (bs CL)) 4).length by simp [bs, ByteArray.size], List.length_append, putB_length]; omega
  ·try simp (disch := omega) only [go_sem, jA, jB, jC, jD, jE, jF, jG, jH, jI, jJ, ↓reduceIte, reduceCtorEq, jO, jM, jN, jK, jL]
   exact ⟨Nat.le_refl _, ⟨#[]⟩, by simp only [At]; try simp (disch := omega) only [go_sem, jA, jB, jC, jD, jE, jF, jG, jH, jI, jJ, ↓reduceIte, reduceCtorEq, jO, jM, jN, jK, jL], by decide⟩
 rintro f2 ⟨ob3, n3, c3⟩ ⟨hn3, hf3, F, h18, hF⟩
 simp (maxSteps := 1000000) only [go_sem, jA, jB, jC, jD, jE, jF, jG, jH, jI, jJ, ↓reduceIte, reduceCtorEq, jP, At] at hn3 hf3 h18
 have hbo3 := (hf3 n1 (by omega)).trans hbo
 have v0 := (hf3 0 (by omega)).trans ((hf2 0 (by omega)).trans u0)
 try simp (disch := omega) only [go_sem, jA, jB, jC, jD, jE, jF, jG, jH, jI, jJ, ↓reduceIte, reduceCtorEq, jO, jM, jN, jK, jL, h18, hbo3, u8s_length, hLl]
 have hby3 := bytes_all2 L
 rw [hLl] at hby3
 refine ⟨by omega, _, hby3, by omega, ?_⟩
 rw [bs_u8]
 have hbL : (bs L).size = L.length := by simp [bs, ByteArray.size]
 obtain ⟨VL, hVL, hV5, hVs⟩ : ∃ VL : List ByteArray, [AV.str s, .str w, .str (bs L), .str (w ++ s), .str F] = VL.map AV.str ∧ VL.length = 5 ∧ ∀ v ∈ VL, v.size ≤ 2000 := by
  refine ⟨[s, w, bs L, w ++ s, F], rfl, rfl, fun v hv => ?_⟩
  simp only [List.mem_cons, List.not_mem_nil, or_false] at hv
  rcases hv with rfl | rfl | rfl | rfl | rfl <;> omega
 rw [hVL]
 refine awp_upG [14, 21, 22, 23, 24, 25, 27, 28, 29, 30, 31, 32, 33, 109, 110, 111, 112, 113, 114, 115, 116, 117, 118, 119, 120, 121, 122, 123, 124, 125, 126, 127, 128, 129, 130, 131, 132, 133, 134, 135, 136, 137, 138, 139, 140, 141, 142, 143, 144, 145, 146, 147, 148, 149, 150, 151, 152, 153, 154, 155, 156, 157, 158, 159, 160, 161, 162, 163, 164, 165, 166, 167, 168, 169, 170, 171, 172, 173, 174, 175, 176, 177, 178, 179, 180, 181, 182, 183, 184, 185] (by kernel_rfl) 5 (fun i e σ => e 109 = .int .i64 i ∧ n3 ≤ σ.n ∧ ∀ i, i < n3 → σ.ob i = ob3 i) ?_ ?_
 ·exact ⟨(by first | rfl | (simp (disch := omega) only [go_sem, jA, jB, jC, jD, jE, jF, jG, jH, jI, jJ, ↓reduceIte, reduceCtorEq, jP, jO, jM, jN]; try rfl)), Nat.le_refl _, fun i _ => rfl⟩
 rintro i fe ob4 m4 c4 hi hm4 ⟨h109, hm5, hf4⟩
 simp (maxSteps := 1000000) only [go_sem, jA, jB, jC, jD, jE, jF, jG, jH, jI, jJ, ↓reduceIte, reduceCtorEq, jP] at h109 hm4 hm5 hf4
 try simp (disch := omega) only [go_sem, jA, jB, jC, jD, jE, jF, jG, jH, jI, jJ, ↓reduceIte, reduceCtorEq, jO, jM, jN, jK, jL, h109]
 refine cond_d (fun hlt5 => ?_) (fun hge5 => ?_)
 ·have hil : i < VL.length := by omega
  have hgv : (VL.map AV.str)[i]? = some (.str VL[i]) := by rw [List.getElem?_map, List.getElem?_eq_getElem hil]; rfl
  have hvz := hVs _ (List.getElem_mem hil)
  generalize VL[i] = v at *
  try simp (disch := omega) only [go_sem, jA, jB, jC, jD, jE, jF, jG, jH, jI, jJ, ↓reduceIte, reduceCtorEq, jO, jM, jN, jK, jL, h109, hgv, List.length_map, hV5]
  refine ⟨by omega, by omega, ?_⟩
  refine call_pc (ok_journal_Open v (by omega)) (by simp [go_sem]) ?_
  try simp (disch := omega) only [go_sem, jA, jB, jC, jD, jE, jF, jG, jH, jI, jJ, ↓reduceIte, reduceCtorEq, jO, jM, jN, jK, jL]
  refine call_pc (ok_ref32_Open v (by omega)) (by simp [go_sem]) ?_
  try simp (disch := omega) only [go_sem, jA, jB, jC, jD, jE, jF, jG, jH, jI, jJ, ↓reduceIte, reduceCtorEq, jO, jM, jN, jK, jL, decide_true, Bool.not_true]
  have hob := openG_bd v v.size 0 (by omega) (by omega)
  have hOl : (openS v).1.length ≤ 4611686018427387904 := by have h9 : openS v = openG v v.size 0 := rfl; rw [h9]; simp at hob; omega
  have hSo := ok_law32_same (openS v).1 (openS v).1 (fun q hq => by rw [openG_sg v _ _ q hq]; simp) hOl
  rw [decide_eq_true rfl] at hSo
  refine call_pc hSo (by simp [go_sem, rcs_pur]) ?_
  try simp (disch := omega) only [go_sem, jA, jB, jC, jD, jE, jF, jG, jH, jI, jJ, ↓reduceIte, reduceCtorEq, jO, jM, jN, jK, jL, decide_true, Bool.not_true]
  refine call_pc (ok_journal_Crash v safe torn (by omega)) (by simp [go_sem]) ?_
  try simp (disch := omega) only [go_sem, jA, jB, jC, jD, jE, jF, jG, jH, jI, jJ, ↓reduceIte, reduceCtorEq, jO, jM, jN, jK, jL, decide_true, Bool.not_true]
  refine call_pc (ok_ref32_Crash v safe torn (by omega)) (by simp [go_sem]) ?_
  try simp (disch := omega) only [go_sem, jA, jB, jC, jD, jE, jF, jG, jH, jI, jJ, ↓reduceIte, reduceCtorEq, jO, jM, jN, jK, jL, decide_true, Bool.not_true]
  refine call_pc (ok_mk_Mod at' ((v.size : Int) + 2) (by omega) (by omega)) (by simp [go_sem]) ?_
  try simp (disch := omega) only [go_sem, jA, jB, jC, jD, jE, jF, jG, jH, jI, jJ, ↓reduceIte, reduceCtorEq, jO, jM, jN, jK, jL, decide_true, Bool.not_true]
  obtain ⟨IL, hIL, hI4⟩ : ∃ IL : List Int, [AV.int .i64 at', .int .i64 (at' % ((v.size : Int) + 2)), .int .i64 0, .int .i64 (openS v).2] = ints IL ∧ IL.length = 4 := ⟨[at', at' % ((v.size : Int) + 2), 0, (openS v).2], rfl, rfl⟩
  rw [hIL]
  refine awp_upG [14, 27, 28, 29, 30, 31, 32, 33, 152, 153, 154, 155, 156, 157, 158, 159, 160, 161, 162, 163, 164, 165, 166, 167, 168, 169, 170, 171, 172, 173, 174, 175, 176, 177, 178, 179, 180, 181, 182, 183, 184] (by kernel_rfl) 4 (fun i e σ => e 152 = .int .i64 i ∧ m4 ≤ σ.n ∧ ∀ i, i < n3 → σ.ob i = ob3 i) ?_ ?_
  ·exact ⟨(by first | rfl | (simp (disch := omega) only [go_sem, jA, jB, jC, jD, jE, jF, jG, jH, jI, jJ, ↓reduceIte, reduceCtorEq, jP, jO, jM, jN]; try rfl)), Nat.le_refl _, hf4⟩
  rintro j fe2 ob5 m5 c5 hj hm5' ⟨h152, hm6, hf5⟩
  simp (maxSteps := 1000000) only [go_sem, jA, jB, jC, jD, jE, jF, jG, jH, jI, jJ, ↓reduceIte, reduceCtorEq, jP] at h152 hm5' hm6 hf5
  try simp (disch := omega) only [go_sem, jA, jB, jC, jD, jE, jF, jG, jH, jI, jJ, ↓reduceIte, reduceCtorEq, jO, jM, jN, jK, jL, h152]
  refine cond_d (fun hlt6 => ?_) (fun hge6 => ?_)
  ·have hjl : j < IL.length := by omega
   have hgj := ints_get IL j
   rw [List.getElem?_eq_getElem hjl] at hgj
   generalize IL[j] = a at *
   try simp (disch := omega) only [go_sem, jA, jB, jC, jD, jE, jF, jG, jH, jI, jJ, ↓reduceIte, reduceCtorEq, jO, jM, jN, jK, jL, h152, hgj, ints_length, hI4, Option.map_some]
   refine ⟨by omega, by omega, ?_⟩
   refine call_pc (ok_journal_Decode v a (by omega)) (by simp [go_sem]) ?_
   rw [decV]
   try simp (disch := omega) only [go_sem, jA, jB, jC, jD, jE, jF, jG, jH, jI, jJ, ↓reduceIte, reduceCtorEq, jO, jM, jN, jK, jL, rcz_fold, rcv_rep, rcv_tk, rcv_dt, rcv_flat, rcv_len, rcv_ct, rcv_ca, rcv_one]
   refine call_pc (ok_ref32_Decode v a (by omega)) (by simp [go_sem]) ?_
   rw [decV]
   have w1 : ¬ m5 = m5 + 1 := by omega
   try simp (disch := omega) only [go_sem, jA, jB, jC, jD, jE, jF, jG, jH, jI, jJ, ↓reduceIte, reduceCtorEq, jO, jM, jN, jK, jL, rcz_fold, rcv_rep, rcv_tk, rcv_dt, rcv_flat, rcv_len, rcv_ct, rcv_ca, rcv_one, decide_true, Bool.not_true, w1]
   have hSd := ok_ref32_Same (decR v a).1 (decR v a).1 (by rw [decR_sg]; simp)
   rw [decide_eq_true rfl] at hSd
   refine call_pc hSd (by simp [rcv_pur]) ?_
   try simp (disch := omega) only [go_sem, jA, jB, jC, jD, jE, jF, jG, jH, jI, jJ, ↓reduceIte, reduceCtorEq, jO, jM, jN, jK, jL, decide_true, Bool.not_true, h152]
   refine up_nextG (m5 + 2) (by omega) (by omega) ⟨(by first | rfl | (simp (disch := omega) only [go_sem, jA, jB, jC, jD, jE, jF, jG, jH, jI, jJ, ↓reduceIte, reduceCtorEq, jP, jO, jM, jN]; try rfl)), by simp only [St.trunc]; omega, fun i hi => ?_⟩
   rw [tr_ob (by omega), upd_ne _ _ _ _ (by omega), upd_ne _ _ _ _ (by omega), upd_ne _ _ _ _ (by omega), upd_ne _ _ _ _ (by omega)]; exact hf5 i hi
  ·try simp (disch := omega) only [go_sem, jA, jB, jC, jD, jE, jF, jG, jH, jI, jJ, ↓reduceIte, reduceCtorEq, jO, jM, jN, jK, jL, h109]
   refine up_nextG m5 (by omega) (by omega) ⟨(by first | rfl | (simp (disch := omega) only [go_sem, jA, jB, jC, jD, jE, jF, jG, jH, jI, jJ, ↓reduceIte, reduceCtorEq, jP, jO, jM, jN]; try rfl)), by simp only [St.trunc]; omega, fun i hi => ?_⟩
   rw [tr_ob (by omega)]; exact hf5 i hi
 have hXm : SlR 21 41 ⟨ob4, m4, c4⟩ (rcs l) X := hX.move (by simp only; omega) fun i hi hh => by
  simp only at hi ⊢
  rw [hf4 i (by omega), hf3 i (by omega), hf2 i hi]
 have v4 := (hf4 0 (by omega)).trans v0
 try simp (disch := omega) only [go_sem, jA, jB, jC, jD, jE, jF, jG, jH, jI, jJ, ↓reduceIte, reduceCtorEq, jO, jM, jN, jK, jL, v4, rcv_flat, rcv_len, rcv_tk, rcv_dt]
 refine ⟨⟨rfl, rfl, rfl⟩, ?_⟩
 refine app_slr (b := 184) hXm (by rw [rcs_length]; omega) (by rw [rcs_length]; omega) fun Y τ7 hY kY => ?_
 obtain ⟨ob7, n7, c7⟩ := τ7
 have hn7 : m4 ≤ n7 := kY.1
 have v7 := (kY.2.1 0 (by simp only; omega) (hoX 0 (by omega))).trans v4
 have hoY : Oth Y 0 := kY.2.2 0 (by simp only; omega) (hoX 0 (by omega))
 have hap : rcs l ++ [rcv raw] = rcs (l ++ [raw]) := by simp [rcs]
 rw [hap] at hY
 have hll2 : (l ++ [raw]).length = l.length + 1 := by simp
 have hsg2 : ∀ q ∈ l ++ [raw], q.sg.length ≤ 9223372036854775807 := fun q hq => by
  rcases List.mem_append.1 hq with hq | hq
  ·exact hsg q hq
  ·obtain rfl : q = raw := by simpa using hq
   omega
 generalize l ++ [raw] = RL at *
 refine hY.lenC ?_
 try simp (disch := omega) only [go_sem, jA, jB, jC, jD, jE, jF, jG, jH, jI, jJ, ↓reduceIte, reduceCtorEq, jO, jM, jN, jK, jL, rcs_length]
 refine awp_upG [14, 35, 36, 37, 38, 39, 40, 41, 42, 43, 191, 192, 193, 194, 195, 196, 197, 198, 199, 200, 201, 202, 203, 204, 205, 206, 207, 208, 209, 210, 211, 212, 213, 214, 215, 216, 217, 218, 219, 220, 221, 222, 223, 224, 225, 226, 227, 228, 229, 230, 231, 232, 233, 234, 235, 236, 237, 238, 239, 240, 241, 242, 243, 244] (by kernel_rfl) RL.length (fun i e σ => e 191 = .int .i64 i ∧ n7 ≤ σ.n ∧ ∀ i, i < n7 → σ.ob i = ob7 i) ?_ ?_
 ·exact ⟨(by first | rfl | (simp (disch := omega) only [go_sem, jA, jB, jC, jD, jE, jF, jG, jH, jI, jJ, ↓reduceIte, reduceCtorEq, jP, jO, jM, jN]; try rfl)), Nat.le_refl _, fun i _ => rfl⟩
 rintro j fe8 ob8 m8 c8 hj hm8 ⟨h191, hm9, hf8⟩
 simp (maxSteps := 1000000) only [go_sem, jA, jB, jC, jD, jE, jF, jG, jH, jI, jJ, ↓reduceIte, reduceCtorEq, jP] at h191 hm8 hm9 hf8
 try simp (disch := omega) only [go_sem, jA, jB, jC, jD, jE, jF, jG, jH, jI, jJ, ↓reduceIte, reduceCtorEq, jO, jM, jN, jK, jL, h191]
 refine cond_d (fun hlt7 => ?_) (fun hge7 => ?_)
 ·have hjl : j < RL.length := by omega
  have g1 : RL[j]? = some RL[j] := List.getElem?_eq_getElem hjl
  have hmm := hsg2 _ (List.getElem_mem hjl)
  generalize RL[j] = x at *
  rcases hY with ⟨_, hz⟩ | ⟨iy, gy, rfl, hiy, hoy⟩
  ·have : (rcs RL).length = 0 := by rw [hz]; rfl
   rw [rcs_length] at this; omega
  simp only at hiy hoy
  have v8 := (hf8 0 (by omega)).trans v7
  have y8 := (hf8 iy hiy).trans hoy
  have w0 : ¬ 0 = m8 := by omega
  try simp (disch := omega) only [go_sem, jA, jB, jC, jD, jE, jF, jG, jH, jI, jJ, ↓reduceIte, reduceCtorEq, jO, jM, jN, jK, jL, h191, y8, rcs_length, rcs_get, g1, Option.map_some, rcz_fold, rcv_rep, rcv_tk, rcv_dt, rcv_flat, rcv_len, rcv_ct, rcv_ca, rcv_one]
  refine ⟨by omega, by omega, ?_⟩
  refine call_pc (ok_journal_Encode x hmm) (by simp [rcv_pur]) ?_
  try simp (disch := omega) only [go_sem, jA, jB, jC, jD, jE, jF, jG, jH, jI, jJ, ↓reduceIte, reduceCtorEq, jO, jM, jN, jK, jL, rcv_tk, rcv_dt, rcv_flat, rcv_len, rcv_ct, rcv_ca, rcv_one]
  refine call_pc (ok_ref32_Encode x hmm) (by simp [rcv_pur]) ?_
  try simp (disch := omega) only [go_sem, jA, jB, jC, jD, jE, jF, jG, jH, jI, jJ, ↓reduceIte, reduceCtorEq, jO, jM, jN, jK, jL, rcv_tk, rcv_dt, rcv_flat, rcv_len, rcv_ct, rcv_ca, rcv_one]
  refine call_pc (ok_journal_Append s x (by omega) hmm) (by simp [rcv_pur, go_sem]) ?_
  try simp (disch := omega) only [go_sem, jA, jB, jC, jD, jE, jF, jG, jH, jI, jJ, ↓reduceIte, reduceCtorEq, jO, jM, jN, jK, jL, rcv_tk, rcv_dt, rcv_flat, rcv_len, rcv_ct, rcv_ca, rcv_one]
  refine call_pc (ok_ref32_Append s x (by omega) hmm) (by simp [rcv_pur, go_sem]) ?_
  try simp (disch := omega) only [go_sem, jA, jB, jC, jD, jE, jF, jG, jH, jI, jJ, ↓reduceIte, reduceCtorEq, jO, jM, jN, jK, jL, rcv_tk, rcv_dt, rcv_flat, rcv_len, rcv_ct, rcv_ca, rcv_one, decide_true, Bool.not_true, w0, v8]
  refine call_pc (ok_journal_Same x raw hmm) (by simp [rcv_pur]) ?_
  try simp (disch := omega) only [go_sem, jA, jB, jC, jD, jE, jF, jG, jH, jI, jJ, ↓reduceIte, reduceCtorEq, jO, jM, jN, jK, jL]
  refine call_pc (ok_ref32_Same x raw hmm) (by simp [rcv_pur]) ?_
  cases decide (x = raw)
  ·try simp (disch := omega) only [go_sem, jA, jB, jC, jD, jE, jF, jG, jH, jI, jJ, ↓reduceIte, reduceCtorEq, jO, jM, jN, jK, jL, h191]
   refine up_nextG (m8 + 1) hjl (by omega) ⟨(by first | rfl | (simp (disch := omega) only [go_sem, jA, jB, jC, jD, jE, jF, jG, jH, jI, jJ, ↓reduceIte, reduceCtorEq, jP, jO, jM, jN]; try rfl)), by simp only [St.trunc]; omega, fun i hi => ?_⟩
   rw [tr_ob (by omega), upd_ne _ _ _ _ (by omega), upd_ne _ _ _ _ (by omega)]; exact hf8 i hi
  ·try simp (disch := omega) only [go_sem, jA, jB, jC, jD, jE, jF, jG, jH, jI, jJ, ↓reduceIte, reduceCtorEq, jO, jM, jN, jK, jL, h191]
   refine up_nextG (m8 + 1) hjl (by omega) ⟨(by first | rfl | (simp (disch := omega) only [go_sem, jA, jB, jC, jD, jE, jF, jG, jH, jI, jJ, ↓reduceIte, reduceCtorEq, jP, jO, jM, jN]; try rfl)), by simp only [St.trunc]; omega, fun i hi => ?_⟩
   rw [tr_ob (by omega), upd_ne _ _ _ _ (by omega), upd_ne _ _ _ _ (by omega)]; exact hf8 i hi
 ·try simp (disch := omega) only [go_sem, jA, jB, jC, jD, jE, jF, jG, jH, jI, jJ, ↓reduceIte, reduceCtorEq, jO, jM, jN, jK, jL]
  exact Pub.of_eq rfl rfl
abbrev shBd2 : Sh := .struct (.fc (.int .i64) (.fc (.int .i64) .f0))
abbrev shRp2 : Sh := .struct (.fc (.int .i64) (.fc (.int .i64) (.fc (.int .i64) (.fc (.int .i64) (.fc shBd2 .f0)))))
abbrev shDv2 : Sh := .struct (.fc (.int .i64) (.fc (.int .i64) (.fc (.int .i64) (.fc (.int .i64) (.fc (.int .i64) (.fc (.slice 1 (.int .i64)) (.fc .bool .f0)))))))
abbrev shOd2 : Sh := .struct (.fc (.int .i64) (.fc (.int .i64) (.fc (.int .i64) (.fc (.int .i64) .f0))))
abbrev shRc2 : Sh := .struct (.fc (.int .i64) (.fc shRp2 (.fc shDv2 (.fc (.int .i64) (.fc (.int .i64) (.fc (.int .i64) (.fc shOd2 .f0)))))))
theorem shRc2R {c : List AV} (h : shRc2.R c) : ∃ r : Rc, shRc2.mk1 c = rcv r := by
 obtain ⟨_, _, rfl, ⟨k, rfl, _⟩, _, _, rfl, hRp, _, _, rfl, hDv, _, _, rfl, ⟨per, rfl, _⟩, _, _, rfl, ⟨code, rfl, _⟩, _, _, rfl, ⟨tm, rfl, _⟩, _, _, rfl, hOd, rfl⟩ := h
 obtain ⟨_, _, rfl, ⟨nu, rfl, _⟩, _, _, rfl, ⟨ac, rfl, _⟩, _, _, rfl, ⟨fd, rfl, _⟩, _, _, rfl, ⟨t1, rfl, _⟩, _, _, rfl, hBd, rfl⟩ := hRp
 obtain ⟨_, _, rfl, ⟨lo, rfl, _⟩, _, _, rfl, ⟨hi, rfl, _⟩, rfl⟩ := hBd
 obtain ⟨_, _, rfl, ⟨id, rfl, _⟩, _, _, rfl, ⟨st, rfl, _⟩, _, _, rfl, ⟨fr, rfl, _⟩, _, _, rfl, ⟨to, rfl, _⟩, _, _, rfl, ⟨rel, rfl, _⟩, _, _, rfl, hs, _, _, rfl, ⟨wd, rfl⟩, rfl⟩ := hDv
 obtain ⟨_, _, rfl, ⟨o1, rfl, _⟩, _, _, rfl, ⟨o2, rfl, _⟩, _, _, rfl, ⟨o3, rfl, _⟩, _, _, rfl, ⟨o4, rfl, _⟩, rfl⟩ := hOd
 obtain ⟨sg, rfl, _, _⟩ := shInts hs
 exact ⟨⟨k, nu, ac, fd, t1, lo, hi, id, st, fr, to, rel, sg, wd, per, code, tm, o1, o2, o3, o4⟩, rfl⟩
theorem law_law32_JournalBytes {c0 c1 c2 c3 c4 c5 c6 : List AV} (s0 : (Sh.slice 1 (.int .i64)).R c0) (s1 : shRc2.R c1) (s2 : Sh.str.R c2) (s3 : (Sh.int .i64).R c3) (s4 : (Sh.int .i64).R c4) (s5 : (Sh.int .i64).R c5) (s6 : (Sh.int .u8).R c6) :
  PC prog n_law32_JournalBytes [(Sh.slice 1 (.int .i64)).mk1 c0, shRc2.mk1 c1, Sh.str.mk1 c2, (Sh.int .i64).mk1 c3, (Sh.int .i64).mk1 c4, (Sh.int .i64).mk1 c5, (Sh.int .u8).mk1 c6] (.bool true) := by
 obtain ⟨l0, rfl, _, _⟩ := shInts s0
 obtain ⟨r, hr⟩ := shRc2R s1
 obtain ⟨s, rfl, _⟩ := s2
 obtain ⟨a3, rfl, _⟩ := s3
 obtain ⟨a4, rfl, _⟩ := s4
 obtain ⟨a5, rfl, _⟩ := s5
 obtain ⟨a6, rfl, w6⟩ := s6
 rw [hr]
 exact ok_law32_JournalBytes l0 r s a3 a4 a5 a6 (wf_u8 w6)
end Go.Proofs.Try
