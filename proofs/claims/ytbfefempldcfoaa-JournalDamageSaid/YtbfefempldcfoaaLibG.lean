/- OWN WORK, put together by tools/asm.py, seat.py, mini.py. -/
import Derived.Test.YtbfefempldcfoaaLibF
set_option linter.unusedSimpArgs false
set_option linter.unusedVariables false
set_option maxRecDepth 100000
set_option maxHeartbeats 1000000
namespace Go.Proofs.Try
open Go.Ab Go
open Int renaming reduceEq → jA, reduceLT → jB, reduceLE → jC, reduceToNat → jD
open Go.Ab renaming w_ite_ne → jM, w_ite_lt → jN, wrap_id → jO, w_app_nl → jP
open Nat renaming reduceLT → jE, reduceEqDiff → jF, reduceAdd → jG, reduceLeDiff → jH, reduceSub → jI, reduceMul → jJ, sub_zero → jK, sub_self → jL
theorem first_g {a : Ac} {t : Tr} (hT : TrA a t) (h : (firstS a).2 = 0) : TrG a ⟨(firstS a).1.1, (firstS a).1.2.1, (firstS a).1.2.2⟩ := by
 have hG := hT.g
 have hok := hG.ok
 have ht : (tightS a).2 = 0 := by
  unfold firstS at h
  split at h
  ·exact h
  ·rename_i h1; simpa using h1
 obtain ⟨_, hv, ht1⟩ := tightS_ok ht
 have hF := first_hi hok hv
 have e : firstS a = ((mkI (a.ins.length + 1) (sq a (tgt a)), mkI a.ins.length (cm a (tgt a)), mkI a.ins.length (og a (tgt a))), 0) := by
  unfold firstS
  rw [if_neg (by simp [ht]), ht1]
 obtain ⟨n, hD⟩ := hT
 have hn := hD.hi.1
 have h5 := hD.n5
 have ls := hD.h.ls
 have li := hD.h.li
 have lo := hD.h.lo
 rw [e]
 refine ⟨?_, mkI_length _ _, mkI_length _ _, mkI_length _ _, hok, fun i hi => ?_, fun i hi => ?_, fun i hi => ?_⟩
 ·refine ⟨fun i hi => ?_, fun i hi => ?_, fun i hi => ?_, fun i hi => ?_⟩
  ·simp only; rw [mkI_getD _ (by omega)]; exact hF.st i hi
  ·simp only; rw [mkI_getD _ hi]; exact hF.ins i hi
  ·simp only; rw [mkI_getD _ hi]; exact hF.outs i hi
  ·simp only; rw [mkI_getD _ (by omega), mkI_getD _ (by omega), mkI_getD _ hi, mkI_getD _ hi]; exact hF.bal i hi
 ·simp only; rw [mkI_getD _ (by omega)]
  have h1 := hF.st i hi
  have h2 := hD.s.b i (by omega)
  have h3 := hD.h.s i (by omega)
  simp only [inB, arB] at h1 h2; omega
 ·simp only; rw [mkI_getD _ hi]
  have h1 := hF.ins i hi
  have h2 := hD.i.b i (by omega)
  have h3 := hD.h.i i (by omega)
  simp only [inB, arB] at h1 h2; omega
 ·simp only; rw [mkI_getD _ hi]
  have h1 := hF.outs i hi
  have h2 := hD.o.b i (by omega)
  have h3 := hD.h.o i (by omega)
  simp only [inB, arB] at h1 h2; omega
theorem vB_of {n : Int} (h0 : 0 ≤ n) (h1 : n ≤ 274877906944) : vB n = true := by simp [vB, h0, h1]
def RcB (q : Rc) : Prop := validR q = true ∧ q.sg = []
theorem rcB1 {nu ac fd tm lo hi : Int} (h : vB nu = true ∧ vB ac = true ∧ vB fd = true ∧ vB tm = true ∧ vB lo = true ∧ vB hi = true) : RcB ⟨1, nu, ac, fd, tm, lo, hi, 0, 0, 0, 0, 0, [], false, 0, 0, 0, 0, 0, 0, 0⟩ := by
 refine ⟨?_, rfl⟩
 simp [validR, offs, numsR, cI, bareR, sI, rc0, h]
theorem rcB2 {st fr to rl : Int} (h : vB st = true ∧ vB fr = true ∧ vB to = true ∧ vB rl = true) : RcB ⟨2, 0, 0, 0, 0, 0, 0, 0, st, fr, to, rl, [], false, 0, 0, 0, 0, 0, 0, 0⟩ := by
 refine ⟨?_, rfl⟩
 simp [validR, offs, numsR, cI, bareR, sI, rc0, h]
theorem rcB34 {k a b c tm : Int} (hk : k = 3 ∨ k = 4) (h : vB a = true ∧ vB b = true ∧ vB c = true ∧ vB tm = true) : RcB ⟨k, 0, 0, 0, 0, 0, 0, a, 0, 0, 0, 0, [], false, b, c, tm, 0, 0, 0, 0⟩ := by
 refine ⟨?_, rfl⟩
 rcases hk with rfl | rfl <;> simp [validR, offs, numsR, cI, bareR, sI, rc0, h]
theorem rcB5 {k i v : Int} (h : vB k = true ∧ vB i = true ∧ vB v = true) : RcB ⟨5, 0, 0, 0, 0, 0, 0, 0, 0, 0, 0, 0, [], false, 0, 0, 0, 0, k, i, v⟩ := by
 refine ⟨?_, rfl⟩
 simp [validR, offs, numsR, cI, bareR, sI, rc0, h]
theorem rcB6 {n : Int} (h : vB n = true) : RcB ⟨6, 0, 0, 0, 0, 0, 0, 0, 0, 0, 0, 0, [], false, 0, 0, 0, n, 0, 0, 0⟩ := by
 refine ⟨?_, rfl⟩
 simp [validR, offs, numsR, cI, bareR, sI, rc0, h]
theorem kpv_c0 (B : Bk) (K : Dk) (s : Sd) : (kpv B K s).cells.getD 0 .junk = .list 4 (acs B.op) := rfl
theorem kpv_c5 (B : Bk) (K : Dk) (s : Sd) : (kpv B K s).cells.getD 5 .junk = .int .i64 s.n := rfl
theorem kpv_len (B : Bk) (K : Dk) (s : Sd) : (kpv B K s).cells.length = 7 := rfl
theorem kpv_flat (B : Bk) (K : Dk) (s : Sd) : (kpv B K s).flat = true := rfl
theorem kpv_dk (B : Bk) (K : Dk) (s : Sd) : AV.agg (((kpv B K s).cells.drop 2).take 3) = dkv K := rfl
theorem hc_flow_Record (σ : St) (id g : Nat) (t : List Int) (at' : Nat) (B : Bk) (T : List Tr) (K : Dk) (s : Sd) (hT : TrB B T) (hK : DkB K) (hs : SdW s) (hl : t.length ≤ 9223372036854775807) (hid : id < σ.n) (hob : σ.ob id = some ⟨g, 2, ty_Deck, false, true, [deckV t at']⟩) :
  HC prog n_flow_Record [.ptr id g 2 0 0, kpv B K s] σ (DeckR σ id g t fun r => ∃ q : Rc, r = rcv q ∧ RcB q) := by
 refine HC.deck hid ?_
 obtain ⟨ob0, n0, c0⟩ := σ
 simp only at hob hid
 refine HC_of_body b_flow_Record (by simp) ?_
 simp only [c_flow_Record]
 have z0 : ¬ id = n0 := by omega
 have z1 : ¬ n0 = id := by omega
 have z2 : ¬ n0 + 1 = id := by omega
 have z3 : ¬ id = n0 + 1 := by omega
 have z4 : ¬ n0 + 1 + 1 = id := by omega
 have z5 : ¬ id = n0 + 1 + 1 := by omega
 have hbk := rck_fold
 have hfl : ∀ q, (rcX .nil q).flat = true := fun q => rcX_flat q rfl
 try simp (disch := omega) only [go_sem, jA, jB, jC, jD, jE, jF, jG, jH, jI, jJ, ↓reduceIte, reduceCtorEq, jO, jM, jN, jK, jL, kpv_flat, kpv_len, z0, z1, z2, z3]
 refine call_hc (ok_mk_Deck_Next _ id g ty_Deck true t at' 6 (by try simp (disch := omega) only [go_sem, jA, jB, jC, jD, jE, jF, jG, jH, jI, jJ, ↓reduceIte, reduceCtorEq, jO, jM, jN, jK, jL, z0, z3]; exact hob) (by omega) hl) ?_
 have hx1 := deckR_bd t at' 6
 generalize deckR t at' 6 = dr at *
 obtain ⟨x0, at1⟩ := dr
 simp only at hx1
 try simp (disch := omega) only [go_sem, jA, jB, jC, jD, jE, jF, jG, jH, jI, jJ, ↓reduceIte, reduceCtorEq, jO, jM, jN, jK, jL, z0, z1, z2, z3, z4, z5]
 have fin : ∀ (q : Rc) (hq : RcB q) (ob' : Nat → Option AObj) (c' m' at2 : Nat), ob' id = some ⟨g, 2, ty_Deck, false, true, [deckV t at2]⟩ → (∀ i, i < n0 → i ≠ id → ob' i = ob0 i) → Deck0 ⟨ob0, n0, c0⟩ id g t (fun r => ∃ q : Rc, r = rcv q ∧ RcB q) (rcX .nil q) ⟨ob', m', c'⟩ :=
  fun q hq ob' c' m' at2 h1 h2 => ⟨rcv q, at2, rcN_pub hq.2, ⟨q, rfl, hq⟩, h1, h2⟩
 have b0 := hT.n1
 have b1 := hT.n2
 have y1 : ¬ n0 = n0 + 1 := by omega
 have y2 : ¬ n0 = n0 + 1 + 1 := by omega
 have y3 : ¬ id = n0 + 1 + 1 + 1 := by omega
 have y4 : ¬ n0 + 1 + 1 + 1 = id := by omega
 have y5 : ¬ n0 + 1 = n0 + 1 + 1 := by omega
 have y6 : ¬ n0 + 1 = n0 + 1 + 1 + 1 := by omega
 have y7 : ¬ n0 + 1 + 1 = n0 + 1 + 1 + 1 := by omega
 refine cond_d (fun k1 => ?_) (fun k1 => ?_)
 ·try simp (disch := omega) only [go_sem, jA, jB, jC, jD, jE, jF, jG, jH, jI, jJ, ↓reduceIte, reduceCtorEq, jO, jM, jN, jK, jL, y1, y2, z0, z1, z2, z3, z4, z5, kpv_c0, acs_length]
  refine cond_d (fun q1 => ?_) (fun q1 => ?_)
  ·try simp (disch := omega) only [go_sem, jA, jB, jC, jD, jE, jF, jG, jH, jI, jJ, ↓reduceIte, reduceCtorEq, jO, jM, jN, jK, jL, y1, y2, z0, z1, z2, z3, z4, z5, kpv_c0, acs_length]
   refine call_hc (ok_mk_Deck_Next _ id g ty_Deck true t at1 B.op.length (by try simp (disch := omega) only [go_sem, jA, jB, jC, jD, jE, jF, jG, jH, jI, jJ, ↓reduceIte, reduceCtorEq, jO, jM, jN, jK, jL]) (by omega) hl) ?_
   have hx2 := deckR_bd t at1 B.op.length
   generalize deckR t at1 B.op.length = dr at *
   obtain ⟨x1, at2⟩ := dr
   simp only at hx2
   obtain ⟨i, hi⟩ : ∃ i : Nat, (i : Int) = x1 ∧ i < B.op.length := ⟨x1.toNat, by omega, by omega⟩
   obtain ⟨rfl, hi⟩ := hi
   have hA := hT.tr i hi
   have hg := gA_get hi
   have hFg := first_g hA
   have hok := hA.g.ok
   generalize gA B.op i = a at *
   try simp (disch := omega) only [go_sem, jA, jB, jC, jD, jE, jF, jG, jH, jI, jJ, ↓reduceIte, reduceCtorEq, jO, jM, jN, jK, jL, y1, y2, z0, z1, z2, z3, z4, z5, kpv_c0, acs_length, acs_get, hg, Option.map_some, acv]
   refine ⟨by omega, by omega, ?_⟩
   refine call_pc (ok_ref30_First a hok.l) (by simp [go_sem, acv, bds_pur]) ?_
   try simp (disch := omega) only [go_sem, jA, jB, jC, jD, jE, jF, jG, jH, jI, jJ, ↓reduceIte, reduceCtorEq, jO, jM, jN, jK, jL]
   refine cond_d (fun q2 => ?_) (fun q2 => ?_)
   ·try simp (disch := omega) only [go_sem, jA, jB, jC, jD, jE, jF, jG, jH, jI, jJ, ↓reduceIte, reduceCtorEq, jO, jM, jN, jK, jL, y1, y2, z0, z1, z2, z3, z4, z5]
    refine call_hc (ok_mk_Deck_Next _ id g ty_Deck true t at2 30 (by try simp (disch := omega) only [go_sem, jA, jB, jC, jD, jE, jF, jG, jH, jI, jJ, ↓reduceIte, reduceCtorEq, jO, jM, jN, jK, jL, y3]) (by omega) hl) ?_
    have hx3 := deckR_bd t at2 30
    generalize deckR t at2 30 = dr at *
    obtain ⟨x3, at3⟩ := dr
    simp only at hx3
    try simp (disch := omega) only [go_sem, jA, jB, jC, jD, jE, jF, jG, jH, jI, jJ, ↓reduceIte, reduceCtorEq, jO, jM, jN, jK, jL, y1, y2, y3, y4, z0, z1, z2, z3, z4, z5]
    refine (hc_flow_ReportG _ id g t at3 a ⟨(firstS a).1.1, (firstS a).1.2.1, (firstS a).1.2.2⟩ (hFg q2) i (1 + x3) hl (by simp only; omega) (by try simp (disch := omega) only [go_sem, jA, jB, jC, jD, jE, jF, jG, jH, jI, jJ, ↓reduceIte, reduceCtorEq, jO, jM, jN, jK, jL])).mono ?_
    intro r τ hDR
    obtain ⟨⟨q, rfl, hq1, hq2, hq3, hq4, hq5⟩, hn, ⟨at4, hd⟩, hf⟩ := hDR.use (by simp only; omega)
    obtain ⟨ob1, n1, c1⟩ := τ
    simp only at hn hd hf
    subst hn
    have u1 := hf (n0 + 1) (by omega) z2
    have u2 := hf (n0 + 1 + 1) (by omega) z4
    try simp (disch := omega) only [go_sem, jA, jB, jC, jD, jE, jF, jG, jH, jI, jJ, ↓reduceIte, reduceCtorEq, jO, jM, jN, jK, jL, y1, y2, y3, y4, y5, y6, y7, z0, z1, z2, z3, z4, z5] at u1
    try simp (disch := omega) only [go_sem, jA, jB, jC, jD, jE, jF, jG, jH, jI, jJ, ↓reduceIte, reduceCtorEq, jO, jM, jN, jK, jL, y1, y2, y3, y4, y5, y6, y7, z0, z1, z2, z3, z4, z5] at u2
    try simp (disch := omega) only [go_sem, jA, jB, jC, jD, jE, jF, jG, jH, jI, jJ, ↓reduceIte, reduceCtorEq, jO, jM, jN, jK, jL, rpv, u1, u2, y1, y2, y3, y4, y5, y6, y7, z0, z1, z2, z3, z4, z5]
    rw [k1]
    have hb4 := hq3.b
    have hfl9 := fld_len hok hq3.fd
    have hf1 := hok.f1
    have hn2 := hok.n2
    have hf0 := hok.f0
    have ht0 := hq3.t0
    have ht1 := hq3.t1
    have hfd := hq3.fd
    simp only [fitB] at hb4
    have htm : q.tm ≤ 16777216 := by
     rw [hfl9] at ht1
     split at ht1 <;> omega
    refine fin ⟨1, q.nu, q.ac, q.fd, q.tm, q.b.lo, q.b.hi, 0, 0, 0, 0, 0, [], false, 0, 0, 0, 0, 0, 0, 0⟩ (rcB1 ⟨vB_of (by omega) (by omega), vB_of (by omega) (by omega), vB_of (by omega) (by omega), vB_of (by omega) (by omega), vB_of (by omega) (by omega), vB_of (by omega) (by omega)⟩) _ _ _ at4 (by try simp (disch := omega) only [go_sem, jA, jB, jC, jD, jE, jF, jG, jH, jI, jJ, ↓reduceIte, reduceCtorEq, jO, jM, jN, jK, jL, y1, y2, y3, y4, y5, y6, y7, z0, z1, z2, z3, z4, z5]; exact hd) fun i hi hne => ?_
    have j0 : ¬ i = n0 := by omega
    have j1 : ¬ i = n0 + 1 := by omega
    have j2 : ¬ i = n0 + 1 + 1 := by omega
    have j3 : ¬ i = n0 + 1 + 1 + 1 := by omega
    try simp (disch := omega) only [go_sem, jA, jB, jC, jD, jE, jF, jG, jH, jI, jJ, ↓reduceIte, reduceCtorEq, jO, jM, jN, jK, jL, j0, j1, j2, j3, hne]
    rw [hf i (by omega) hne]
    try simp (disch := omega) only [go_sem, jA, jB, jC, jD, jE, jF, jG, jH, jI, jJ, ↓reduceIte, reduceCtorEq, jO, jM, jN, jK, jL, j0, j1, j2, j3, hne]
   ·try simp (disch := omega) only [go_sem, jA, jB, jC, jD, jE, jF, jG, jH, jI, jJ, ↓reduceIte, reduceCtorEq, jO, jM, jN, jK, jL, y1, y2, y3, y4, y5, y6, y7, z0, z1, z2, z3, z4, z5]
    rw [k1]
    refine fin (rc0 1) (rcB1 ⟨rfl, rfl, rfl, rfl, rfl, rfl⟩) _ _ _ at2 (by try simp (disch := omega) only [go_sem, jA, jB, jC, jD, jE, jF, jG, jH, jI, jJ, ↓reduceIte, reduceCtorEq, jO, jM, jN, jK, jL, y1, y2, y3, y4, y5, y6, y7, z0, z1, z2, z3, z4, z5]) fun i hi hne => ?_
    have j0 : ¬ i = n0 := by omega
    have j1 : ¬ i = n0 + 1 := by omega
    have j2 : ¬ i = n0 + 1 + 1 := by omega
    have j3 : ¬ i = n0 + 1 + 1 + 1 := by omega
    try simp (disch := omega) only [go_sem, jA, jB, jC, jD, jE, jF, jG, jH, jI, jJ, ↓reduceIte, reduceCtorEq, jO, jM, jN, jK, jL, j0, j1, j2, j3, hne]
  ·omega
 try simp (disch := omega) only [go_sem, jA, jB, jC, jD, jE, jF, jG, jH, jI, jJ, ↓reduceIte, reduceCtorEq, jO, jM, jN, jK, jL]
 refine cond_d (fun k2 => ?_) (fun k2 => ?_)
 ·try simp (disch := omega) only [go_sem, jA, jB, jC, jD, jE, jF, jG, jH, jI, jJ, ↓reduceIte, reduceCtorEq, jO, jM, jN, jK, jL, y1, y2, y3, y4, y5, y6, y7, z0, z1, z2, z3, z4, z5]
  refine call_hc (ok_mk_Deck_Next _ id g ty_Deck true t at1 12 (by try simp (disch := omega) only [go_sem, jA, jB, jC, jD, jE, jF, jG, jH, jI, jJ, ↓reduceIte, reduceCtorEq, jO, jM, jN, jK, jL, y1, y2, y3, y4, y5, y6, y7, z0, z1, z2, z3, z4, z5]) (by omega) hl) ?_
  have hx2 := deckR_bd t at1 12
  generalize deckR t at1 12 = dr at *
  obtain ⟨x1, at2⟩ := dr
  simp only at hx2
  try simp (disch := omega) only [go_sem, jA, jB, jC, jD, jE, jF, jG, jH, jI, jJ, ↓reduceIte, reduceCtorEq, jO, jM, jN, jK, jL, y1, y2, y3, y4, y5, y6, y7, z0, z1, z2, z3, z4, z5]
  refine call_hc (ok_mk_Deck_Next _ id g ty_Deck true t at2 3 (by try simp (disch := omega) only [go_sem, jA, jB, jC, jD, jE, jF, jG, jH, jI, jJ, ↓reduceIte, reduceCtorEq, jO, jM, jN, jK, jL, y1, y2, y3, y4, y5, y6, y7, z0, z1, z2, z3, z4, z5]) (by omega) hl) ?_
  have hx3 := deckR_bd t at2 3
  generalize deckR t at2 3 = dr at *
  obtain ⟨x2, at3⟩ := dr
  simp only at hx3
  try simp (disch := omega) only [go_sem, jA, jB, jC, jD, jE, jF, jG, jH, jI, jJ, ↓reduceIte, reduceCtorEq, jO, jM, jN, jK, jL, y1, y2, y3, y4, y5, y6, y7, z0, z1, z2, z3, z4, z5]
  refine call_hc (ok_mk_Deck_Next _ id g ty_Deck true t at3 12 (by try simp (disch := omega) only [go_sem, jA, jB, jC, jD, jE, jF, jG, jH, jI, jJ, ↓reduceIte, reduceCtorEq, jO, jM, jN, jK, jL, y1, y2, y3, y4, y5, y6, y7, z0, z1, z2, z3, z4, z5]) (by omega) hl) ?_
  have hx4 := deckR_bd t at3 12
  generalize deckR t at3 12 = dr at *
  obtain ⟨x3, at4⟩ := dr
  simp only at hx4
  try simp (disch := omega) only [go_sem, jA, jB, jC, jD, jE, jF, jG, jH, jI, jJ, ↓reduceIte, reduceCtorEq, jO, jM, jN, jK, jL, y1, y2, y3, y4, y5, y6, y7, z0, z1, z2, z3, z4, z5]
  refine call_hc (ok_mk_Deck_Next _ id g ty_Deck true t at4 60 (by try simp (disch := omega) only [go_sem, jA, jB, jC, jD, jE, jF, jG, jH, jI, jJ, ↓reduceIte, reduceCtorEq, jO, jM, jN, jK, jL, y1, y2, y3, y4, y5, y6, y7, z0, z1, z2, z3, z4, z5]) (by omega) hl) ?_
  have hx5 := deckR_bd t at4 60
  generalize deckR t at4 60 = dr at *
  obtain ⟨x4, at5⟩ := dr
  simp only at hx5
  try simp (disch := omega) only [go_sem, jA, jB, jC, jD, jE, jF, jG, jH, jI, jJ, ↓reduceIte, reduceCtorEq, jO, jM, jN, jK, jL, y1, y2, y3, y4, y5, y6, y7, z0, z1, z2, z3, z4, z5]
  rw [k2]
  refine fin ⟨2, 0, 0, 0, 0, 0, 0, 0, x2, x1, x1 + x3, x4, [], false, 0, 0, 0, 0, 0, 0, 0⟩ (rcB2 ⟨vB_of (by omega) (by omega), vB_of (by omega) (by omega), vB_of (by omega) (by omega), vB_of (by omega) (by omega)⟩) _ _ _ at5 (by try simp (disch := omega) only [go_sem, jA, jB, jC, jD, jE, jF, jG, jH, jI, jJ, ↓reduceIte, reduceCtorEq, jO, jM, jN, jK, jL, y1, y2, y3, y4, y5, y6, y7, z0, z1, z2, z3, z4, z5]) fun i hi hne => ?_
  have j0 : ¬ i = n0 := by omega
  have j1 : ¬ i = n0 + 1 := by omega
  have j2 : ¬ i = n0 + 1 + 1 := by omega
  have j3 : ¬ i = n0 + 1 + 1 + 1 := by omega
  try simp (disch := omega) only [go_sem, jA, jB, jC, jD, jE, jF, jG, jH, jI, jJ, ↓reduceIte, reduceCtorEq, jO, jM, jN, jK, jL, j0, j1, j2, j3, hne]
 try simp (disch := omega) only [go_sem, jA, jB, jC, jD, jE, jF, jG, jH, jI, jJ, ↓reduceIte, reduceCtorEq, jO, jM, jN, jK, jL]
 refine cond_d (fun k3 => ?_) (fun k3 => ?_)
 ·try simp (disch := omega) only [go_sem, jA, jB, jC, jD, jE, jF, jG, jH, jI, jJ, ↓reduceIte, reduceCtorEq, jO, jM, jN, jK, jL, decide_eq_true k3, y1, y2, y3, y4, y5, y6, y7, z0, z1, z2, z3, z4, z5, kpv_dk, kpv_flat, kpv_len]
  refine (hc_flow_Signed _ id g t at1 K hK 0 hl (by simp only; omega) (by try simp (disch := omega) only [go_sem, jA, jB, jC, jD, jE, jF, jG, jH, jI, jJ, ↓reduceIte, reduceCtorEq, jO, jM, jN, jK, jL, y1, y2, y3, y4, y5, y6, y7, z0, z1, z2, z3, z4, z5])).mono ?_
  intro r τ hDR
  obtain ⟨⟨a, b, c, rfl, hs1, hs2, hs3, hs4, hs5, hs6⟩, hn, ⟨at2, hd⟩, hf⟩ := hDR.use (by simp only; omega)
  obtain ⟨ob1, n1, c1⟩ := τ
  simp only at hn hd hf
  subst hn
  have u1 := hf (n0 + 1) (by omega) z2
  have u2 := hf (n0 + 1 + 1) (by omega) z4
  try simp (disch := omega) only [go_sem, jA, jB, jC, jD, jE, jF, jG, jH, jI, jJ, ↓reduceIte, reduceCtorEq, jO, jM, jN, jK, jL, y1, y2, y3, y4, y5, y6, y7, z0, z1, z2, z3, z4, z5] at u1
  try simp (disch := omega) only [go_sem, jA, jB, jC, jD, jE, jF, jG, jH, jI, jJ, ↓reduceIte, reduceCtorEq, jO, jM, jN, jK, jL, y1, y2, y3, y4, y5, y6, y7, z0, z1, z2, z3, z4, z5] at u2
  try simp (disch := omega) only [go_sem, jA, jB, jC, jD, jE, jF, jG, jH, jI, jJ, ↓reduceIte, reduceCtorEq, jO, jM, jN, jK, jL, u1, u2, y1, y2, y3, y4, y5, y6, y7, z0, z1, z2, z3, z4, z5]
  refine call_hc (ok_mk_Deck_Next _ id g ty_Deck true t at2 12 (by try simp (disch := omega) only [go_sem, jA, jB, jC, jD, jE, jF, jG, jH, jI, jJ, ↓reduceIte, reduceCtorEq, jO, jM, jN, jK, jL, y1, y2, y3, y4, y5, y6, y7, z0, z1, z2, z3, z4, z5]; exact hd) (by omega) hl) ?_
  have hx4 := deckR_bd t at2 12
  generalize deckR t at2 12 = dr at *
  obtain ⟨x4, at4⟩ := dr
  simp only at hx4
  try simp (disch := omega) only [go_sem, jA, jB, jC, jD, jE, jF, jG, jH, jI, jJ, ↓reduceIte, reduceCtorEq, jO, jM, jN, jK, jL, u1, u2, y1, y2, y3, y4, y5, y6, y7, z0, z1, z2, z3, z4, z5]
  rw [k3]
  refine fin ⟨3, 0, 0, 0, 0, 0, 0, a, 0, 0, 0, 0, [], false, b, c, x4, 0, 0, 0, 0⟩ (rcB34 (by omega) ⟨vB_of (by omega) (by omega), vB_of (by omega) (by omega), vB_of (by omega) (by omega), vB_of (by omega) (by omega)⟩) _ _ _ at4 (by try simp (disch := omega) only [go_sem, jA, jB, jC, jD, jE, jF, jG, jH, jI, jJ, ↓reduceIte, reduceCtorEq, jO, jM, jN, jK, jL, y1, y2, y3, y4, y5, y6, y7, z0, z1, z2, z3, z4, z5]) fun i hi hne => ?_
  have j0 : ¬ i = n0 := by omega
  have j1 : ¬ i = n0 + 1 := by omega
  have j2 : ¬ i = n0 + 1 + 1 := by omega
  have j3 : ¬ i = n0 + 1 + 1 + 1 := by omega
  try simp (disch := omega) only [go_sem, jA, jB, jC, jD, jE, jF, jG, jH, jI, jJ, ↓reduceIte, reduceCtorEq, jO, jM, jN, jK, jL, j0, j1, j2, j3, hne]
  rw [hf i (by omega) hne]
  try simp (disch := omega) only [go_sem, jA, jB, jC, jD, jE, jF, jG, jH, jI, jJ, ↓reduceIte, reduceCtorEq, jO, jM, jN, jK, jL, j0, j1, j2, j3, hne]
 try simp (disch := omega) only [go_sem, jA, jB, jC, jD, jE, jF, jG, jH, jI, jJ, ↓reduceIte, reduceCtorEq, jO, jM, jN, jK, jL]
 refine cond_d (fun k4 => ?_) (fun k4 => ?_)
 ·try simp (disch := omega) only [go_sem, jA, jB, jC, jD, jE, jF, jG, jH, jI, jJ, ↓reduceIte, reduceCtorEq, jO, jM, jN, jK, jL, y1, y2, y3, y4, y5, y6, y7, z0, z1, z2, z3, z4, z5, kpv_dk, kpv_flat, kpv_len]
  refine (hc_flow_Signed _ id g t at1 K hK 0 hl (by simp only; omega) (by try simp (disch := omega) only [go_sem, jA, jB, jC, jD, jE, jF, jG, jH, jI, jJ, ↓reduceIte, reduceCtorEq, jO, jM, jN, jK, jL, y1, y2, y3, y4, y5, y6, y7, z0, z1, z2, z3, z4, z5])).mono ?_
  intro r τ hDR
  obtain ⟨⟨a, b, c, rfl, hs1, hs2, hs3, hs4, hs5, hs6⟩, hn, ⟨at2, hd⟩, hf⟩ := hDR.use (by simp only; omega)
  obtain ⟨ob1, n1, c1⟩ := τ
  simp only at hn hd hf
  subst hn
  have u1 := hf (n0 + 1) (by omega) z2
  have u2 := hf (n0 + 1 + 1) (by omega) z4
  try simp (disch := omega) only [go_sem, jA, jB, jC, jD, jE, jF, jG, jH, jI, jJ, ↓reduceIte, reduceCtorEq, jO, jM, jN, jK, jL, y1, y2, y3, y4, y5, y6, y7, z0, z1, z2, z3, z4, z5] at u1
  try simp (disch := omega) only [go_sem, jA, jB, jC, jD, jE, jF, jG, jH, jI, jJ, ↓reduceIte, reduceCtorEq, jO, jM, jN, jK, jL, y1, y2, y3, y4, y5, y6, y7, z0, z1, z2, z3, z4, z5] at u2
  try simp (disch := omega) only [go_sem, jA, jB, jC, jD, jE, jF, jG, jH, jI, jJ, ↓reduceIte, reduceCtorEq, jO, jM, jN, jK, jL, u1, u2, y1, y2, y3, y4, y5, y6, y7, z0, z1, z2, z3, z4, z5]
  refine call_hc (ok_mk_Deck_Next _ id g ty_Deck true t at2 12 (by try simp (disch := omega) only [go_sem, jA, jB, jC, jD, jE, jF, jG, jH, jI, jJ, ↓reduceIte, reduceCtorEq, jO, jM, jN, jK, jL, y1, y2, y3, y4, y5, y6, y7, z0, z1, z2, z3, z4, z5]; exact hd) (by omega) hl) ?_
  have hx4 := deckR_bd t at2 12
  generalize deckR t at2 12 = dr at *
  obtain ⟨x4, at4⟩ := dr
  simp only at hx4
  try simp (disch := omega) only [go_sem, jA, jB, jC, jD, jE, jF, jG, jH, jI, jJ, ↓reduceIte, reduceCtorEq, jO, jM, jN, jK, jL, u1, u2, y1, y2, y3, y4, y5, y6, y7, z0, z1, z2, z3, z4, z5]
  rw [k4]
  refine fin ⟨4, 0, 0, 0, 0, 0, 0, a, 0, 0, 0, 0, [], false, b, c, x4, 0, 0, 0, 0⟩ (rcB34 (by omega) ⟨vB_of (by omega) (by omega), vB_of (by omega) (by omega), vB_of (by omega) (by omega), vB_of (by omega) (by omega)⟩) _ _ _ at4 (by try simp (disch := omega) only [go_sem, jA, jB, jC, jD, jE, jF, jG, jH, jI, jJ, ↓reduceIte, reduceCtorEq, jO, jM, jN, jK, jL, y1, y2, y3, y4, y5, y6, y7, z0, z1, z2, z3, z4, z5]) fun i hi hne => ?_
  have j0 : ¬ i = n0 := by omega
  have j1 : ¬ i = n0 + 1 := by omega
  have j2 : ¬ i = n0 + 1 + 1 := by omega
  have j3 : ¬ i = n0 + 1 + 1 + 1 := by omega
  try simp (disch := omega) only [go_sem, jA, jB, jC, jD, jE, jF, jG, jH, jI, jJ, ↓reduceIte, reduceCtorEq, jO, jM, jN, jK, jL, j0, j1, j2, j3, hne]
  rw [hf i (by omega) hne]
  try simp (disch := omega) only [go_sem, jA, jB, jC, jD, jE, jF, jG, jH, jI, jJ, ↓reduceIte, reduceCtorEq, jO, jM, jN, jK, jL, j0, j1, j2, j3, hne]
 try simp (disch := omega) only [go_sem, jA, jB, jC, jD, jE, jF, jG, jH, jI, jJ, ↓reduceIte, reduceCtorEq, jO, jM, jN, jK, jL]
 refine cond_d (fun k5 => ?_) (fun k5 => ?_)
 ·try simp (disch := omega) only [go_sem, jA, jB, jC, jD, jE, jF, jG, jH, jI, jJ, ↓reduceIte, reduceCtorEq, jO, jM, jN, jK, jL, y1, y2, y3, y4, y5, y6, y7, z0, z1, z2, z3, z4, z5]
  refine (hc_flow_OrderB _ id g t at1 1 hl (by simp only; omega) (by try simp (disch := omega) only [go_sem, jA, jB, jC, jD, jE, jF, jG, jH, jI, jJ, ↓reduceIte, reduceCtorEq, jO, jM, jN, jK, jL, y1, y2, y3, y4, y5, y6, y7, z0, z1, z2, z3, z4, z5])).mono ?_
  intro r τ hDR
  obtain ⟨⟨kk, ii, vv, rfl, hOB⟩, hn, ⟨at2, hd⟩, hf⟩ := hDR.use (by simp only; omega)
  obtain ⟨ob1, n1, c1⟩ := τ
  simp only at hn hd hf
  subst hn
  have u1 := hf (n0 + 1) (by omega) z2
  have u2 := hf (n0 + 1 + 1) (by omega) z4
  try simp (disch := omega) only [go_sem, jA, jB, jC, jD, jE, jF, jG, jH, jI, jJ, ↓reduceIte, reduceCtorEq, jO, jM, jN, jK, jL, y1, y2, y3, y4, y5, y6, y7, z0, z1, z2, z3, z4, z5] at u1
  try simp (disch := omega) only [go_sem, jA, jB, jC, jD, jE, jF, jG, jH, jI, jJ, ↓reduceIte, reduceCtorEq, jO, jM, jN, jK, jL, y1, y2, y3, y4, y5, y6, y7, z0, z1, z2, z3, z4, z5] at u2
  try simp (disch := omega) only [go_sem, jA, jB, jC, jD, jE, jF, jG, jH, jI, jJ, ↓reduceIte, reduceCtorEq, jO, jM, jN, jK, jL, odv, u1, u2, y1, y2, y3, y4, y5, y6, y7, z0, z1, z2, z3, z4, z5]
  rw [k5]
  simp only [OdB] at hOB
  refine fin ⟨5, 0, 0, 0, 0, 0, 0, 0, 0, 0, 0, 0, [], false, 0, 0, 0, 0, kk, ii, vv⟩ (rcB5 ⟨vB_of (by omega) (by omega), vB_of (by omega) (by omega), vB_of (by omega) (by omega)⟩) _ _ _ at2 (by try simp (disch := omega) only [go_sem, jA, jB, jC, jD, jE, jF, jG, jH, jI, jJ, ↓reduceIte, reduceCtorEq, jO, jM, jN, jK, jL, y1, y2, y3, y4, y5, y6, y7, z0, z1, z2, z3, z4, z5]; exact hd) fun i hi hne => ?_
  have j0 : ¬ i = n0 := by omega
  have j1 : ¬ i = n0 + 1 := by omega
  have j2 : ¬ i = n0 + 1 + 1 := by omega
  have j3 : ¬ i = n0 + 1 + 1 + 1 := by omega
  try simp (disch := omega) only [go_sem, jA, jB, jC, jD, jE, jF, jG, jH, jI, jJ, ↓reduceIte, reduceCtorEq, jO, jM, jN, jK, jL, j0, j1, j2, j3, hne]
  rw [hf i (by omega) hne]
  try simp (disch := omega) only [go_sem, jA, jB, jC, jD, jE, jF, jG, jH, jI, jJ, ↓reduceIte, reduceCtorEq, jO, jM, jN, jK, jL, j0, j1, j2, j3, hne]
 have k6 : 1 + x0 = 6 := by omega
 try simp (disch := omega) only [go_sem, jA, jB, jC, jD, jE, jF, jG, jH, jI, jJ, ↓reduceIte, reduceCtorEq, jO, jM, jN, jK, jL, y1, y2, y3, y4, y5, y6, y7, z0, z1, z2, z3, z4, z5, kpv_c5, kpv_len, kpv_flat]
 refine call_hc (ok_mk_Deck_Next _ id g ty_Deck true t at1 s.n (by try simp (disch := omega) only [go_sem, jA, jB, jC, jD, jE, jF, jG, jH, jI, jJ, ↓reduceIte, reduceCtorEq, jO, jM, jN, jK, jL, y1, y2, y3, y4, y5, y6, y7, z0, z1, z2, z3, z4, z5]) (by have := hs.2; omega) hl) ?_
 have hx2 := deckR_bd t at1 s.n
 generalize deckR t at1 s.n = dr at *
 obtain ⟨x1, at2⟩ := dr
 simp only at hx2
 try simp (disch := omega) only [go_sem, jA, jB, jC, jD, jE, jF, jG, jH, jI, jJ, ↓reduceIte, reduceCtorEq, jO, jM, jN, jK, jL, y1, y2, y3, y4, y5, y6, y7, z0, z1, z2, z3, z4, z5]
 rw [k6]
 have hs2 := hs.2
 refine fin ⟨6, 0, 0, 0, 0, 0, 0, 0, 0, 0, 0, 0, [], false, 0, 0, 0, x1, 0, 0, 0⟩ (rcB6 (vB_of (by omega) (by omega))) _ _ _ at2 (by try simp (disch := omega) only [go_sem, jA, jB, jC, jD, jE, jF, jG, jH, jI, jJ, ↓reduceIte, reduceCtorEq, jO, jM, jN, jK, jL, y1, y2, y3, y4, y5, y6, y7, z0, z1, z2, z3, z4, z5]) fun i hi hne => ?_
 have j0 : ¬ i = n0 := by omega
 have j1 : ¬ i = n0 + 1 := by omega
 have j2 : ¬ i = n0 + 1 + 1 := by omega
 have j3 : ¬ i = n0 + 1 + 1 + 1 := by omega
 try simp (disch := omega) only [go_sem, jA, jB, jC, jD, jE, jF, jG, jH, jI, jJ, ↓reduceIte, reduceCtorEq, jO, jM, jN, jK, jL, j0, j1, j2, j3, hne]
theorem kpv_tk (B : Bk) (K : Dk) (s : Sd) : AV.agg ((kpv B K s).cells.take 7) = kpv B K s := rfl
theorem kpv_dt (B : Bk) (K : Dk) (s : Sd) : AV.agg (((kpv B K s).cells.drop 0).take 7) = kpv B K s := rfl
theorem kpv_put (B : Bk) (K : Dk) (s : Sd) : setc 0 (kpv B K s) (.agg [.nil, .nil, .nil, .int .i64 0, .nil, .int .i64 0, .nil]) = kpv B K s := rfl
def RecO (σ : St) (id g : Nat) (t : List Int) (X : AV) (τ : St) : Prop := ∃ (l : List Rc) (at2 : Nat), SlR 21 41 τ (rcs l) X ∧ l.length ≤ 6 ∧ (∀ q ∈ l, RcB q) ∧ τ.ob id = some ⟨g, 2, ty_Deck, false, true, [deckV t at2]⟩ ∧ (∀ i, i < σ.n → i ≠ id → τ.ob i = σ.ob i) ∧ σ.n ≤ τ.n ∧ ∀ i, i < σ.n → Oth X i
theorem hcO_law32_records (σ : St) (id g : Nat) (t : List Int) (at' : Nat) (hl : t.length ≤ 9223372036854775807) (hid : id < σ.n) (hob : σ.ob id = some ⟨g, 2, ty_Deck, false, true, [deckV t at']⟩) :
  HC prog n_law32_records [.ptr id g 2 0 0] σ (RecO σ id g t) := by
 obtain ⟨ob0, n0, c0⟩ := σ
 simp only at hob hid
 refine HC_of_body b_law32_records (by simp) ?_
 simp only [c_law32_records]
 try simp (disch := omega) only [go_sem, jA, jB, jC, jD, jE, jF, jG, jH, jI, jJ, ↓reduceIte, reduceCtorEq, jO, jM, jN, jK, jL]
 refine (hc_flow_Kept _ id g t at' hl (by simp only; omega) (by exact hob)).mono ?_
 intro r τ hDR
 obtain ⟨⟨B, T, K, s, rfl, hT, hK, hs⟩, hn, ⟨at1, hd⟩, hf⟩ := hDR.use (by simp only; omega)
 obtain ⟨ob1, n1, c1⟩ := τ
 simp only at hn hd hf
 subst hn
 have z2 : ¬ n1 = id := by omega
 have z3 : ¬ id = n1 := by omega
 try simp (disch := omega) only [go_sem, jA, jB, jC, jD, jE, jF, jG, jH, jI, jJ, ↓reduceIte, reduceCtorEq, jO, jM, jN, jK, jL, z2, z3, kpv_flat, kpv_len, kpv_put]
 refine call_hc (ok_mk_Deck_Next _ id g ty_Deck true t at1 6 (by try simp (disch := omega) only [go_sem, jA, jB, jC, jD, jE, jF, jG, jH, jI, jJ, ↓reduceIte, reduceCtorEq, jO, jM, jN, jK, jL, z3]; exact hd) (by omega) hl) ?_
 have hx1 := deckR_bd t at1 6
 generalize deckR t at1 6 = dr at *
 obtain ⟨x0, at2⟩ := dr
 simp only at hx1
 try simp (disch := omega) only [go_sem, jA, jB, jC, jD, jE, jF, jG, jH, jI, jJ, ↓reduceIte, reduceCtorEq, jO, jM, jN, jK, jL, z2, z3]
 obtain ⟨N, hN⟩ : ∃ N : Nat, (N : Int) = x0 ∧ N ≤ 5 := ⟨x0.toNat, by omega, by omega⟩
 obtain ⟨rfl, hN⟩ := hN
 refine awp_upG [4, 5, 10, 11, 12, 13, 14, 15, 16, 17, 18, 19] (by kernel_rfl) N (fun k e σ => e 5 = .int .i64 ((N : Int) - k) ∧ n1 + 1 ≤ σ.n ∧ (∃ a, σ.ob id = some ⟨g, 2, ty_Deck, false, true, [deckV t a]⟩) ∧ (∀ i, i < n1 → i ≠ id → σ.ob i = ob0 i) ∧ σ.ob n1 = some ⟨c1, 7, 72, false, true, [kpv B K s]⟩ ∧
   ∃ l X, At e 4 X ∧ l.length = k ∧ (∀ q ∈ l, RcB q) ∧ SlR 21 41 σ (rcs l) X ∧ ∀ i, i < n1 + 1 → Oth X i) ?_ ?_
 ·refine ⟨(by first | rfl | (simp (disch := omega) only [go_sem, jA, jB, jC, jD, jE, jF, jG, jH, jI, jJ, ↓reduceIte, reduceCtorEq, jP, jO, jM, jN]; try rfl)), Nat.le_refl _, ⟨at2, by try simp (disch := omega) only [go_sem, jA, jB, jC, jD, jE, jF, jG, jH, jI, jJ, ↓reduceIte, reduceCtorEq, jO, jM, jN, jK, jL]⟩, fun i hi hne => ?_, by try simp (disch := omega) only [go_sem, jA, jB, jC, jD, jE, jF, jG, jH, jI, jJ, ↓reduceIte, reduceCtorEq, jO, jM, jN, jK, jL, z2], [], .nil, (by simp only [At]; try simp (disch := omega) only [go_sem, jA, jB, jC, jD, jE, jF, jG, jH, jI, jJ, ↓reduceIte, reduceCtorEq, jO, jM, jN, jK, jL]), rfl, fun q hq => by simp at hq, SlR.nil, fun i _ => Oth.nil i⟩
  have j1 : ¬ i = n1 := by omega
  try simp (disch := omega) only [go_sem, jA, jB, jC, jD, jE, jF, jG, jH, jI, jJ, ↓reduceIte, reduceCtorEq, jO, jM, jN, jK, jL, hne, j1]
  exact hf i hi hne
 clear hf hd hDR
 rintro k fe ob m c hk hm ⟨h5, hm1, ⟨at3, hd⟩, hfr, v0, l, X, h4, hll, hB, hX, ho⟩
 simp (maxSteps := 1000000) only [go_sem, jA, jB, jC, jD, jE, jF, jG, jH, jI, jJ, ↓reduceIte, reduceCtorEq, jP, At] at h5 hm hm1 hd hfr v0 h4
 try simp (disch := omega) only [go_sem, jA, jB, jC, jD, jE, jF, jG, jH, jI, jJ, ↓reduceIte, reduceCtorEq, jO, jM, jN, jK, jL, h5]
 refine cond_d (fun hge => ?_) (fun hlt => ?_)
 ·have hkl : k < N := by omega
  try simp (disch := omega) only [go_sem, jA, jB, jC, jD, jE, jF, jG, jH, jI, jJ, ↓reduceIte, reduceCtorEq, jO, jM, jN, jK, jL, z2, z3, v0, kpv_flat, kpv_len, kpv_tk, kpv_dt, h4]
  refine (hc_flow_Record _ id g t at3 B T K s hT hK hs hl (by simp only; omega) (by exact hd)).mono ?_
  intro r τ hDR
  obtain ⟨⟨q, rfl, hq⟩, hn2, ⟨at4, hd4⟩, hf4⟩ := hDR.use (by simp only; omega)
  obtain ⟨ob2, m2, c2⟩ := τ
  simp only at hn2 hd4 hf4
  subst hn2
  try simp (disch := omega) only [go_sem, jA, jB, jC, jD, jE, jF, jG, jH, jI, jJ, ↓reduceIte, reduceCtorEq, jO, jM, jN, jK, jL, h4]
  refine ⟨⟨rfl, rfl, rcv_pur q⟩, ?_⟩
  refine app_slr (b := 184) (hX.move (Nat.le_refl _) fun i hi hno => hf4 i hi fun e => hno (by rw [e]; exact ho id (by omega))) (by rw [rcs_length]; omega) (by rw [rcs_length]; omega) fun Y τ5 hR5 hK5 => ?_
  obtain ⟨ob5, m5, c5⟩ := τ5
  have hn5 : m2 ≤ m5 := hK5.1
  have f5 : ∀ i, i < n1 + 1 → i ≠ id → ob5 i = ob i := fun i hi hne => (hK5.2.1 i (by simp only; omega) (ho i hi)).trans (hf4 i (by omega) hne)
  have d5 := (hK5.2.1 id (by simp only; omega) (ho id (by omega))).trans hd4
  try simp (disch := omega) only [go_sem, jA, jB, jC, jD, jE, jF, jG, jH, jI, jJ, ↓reduceIte, reduceCtorEq, jO, jM, jN, jK, jL, h5]
  refine up_nextG m5 hkl (by omega) ⟨by try simp (disch := omega) only [go_sem, jA, jB, jC, jD, jE, jF, jG, jH, jI, jJ, ↓reduceIte, reduceCtorEq, jO, jM, jN, jK, jL]; congr 1; omega, by simp only [St.trunc]; omega, ⟨at4, by rw [tr_ob (by omega)]; exact d5⟩, fun i hi hne => by rw [tr_ob (by omega), f5 i (by omega) hne]; exact hfr i hi hne, by rw [tr_ob (by omega), f5 n1 (by omega) z2]; exact v0,
   l ++ [q], Y, (by simp only [At]; try simp (disch := omega) only [go_sem, jA, jB, jC, jD, jE, jF, jG, jH, jI, jJ, ↓reduceIte, reduceCtorEq, jO, jM, jN, jK, jL]), by simp [hll], fun p hp => ?_, ?_, fun i hi => hK5.2.2 i (by simp only; omega) (ho i hi)⟩
  ·rcases List.mem_append.1 hp with hp | hp
   ·exact hB p hp
   ·obtain rfl : p = q := by simpa using hp
    exact hq
  ·rw [show rcs (l ++ [q]) = rcs l ++ [rcv q] by simp [rcs]]
   exact hR5.tr
 obtain rfl : k = N := by omega
 try simp (disch := omega) only [go_sem, jA, jB, jC, jD, jE, jF, jG, jH, jI, jJ, ↓reduceIte, reduceCtorEq, jO, jM, jN, jK, jL, h4]
 exact ⟨l, at3, hX, by omega, hB, hd, hfr, by simp only; omega, fun i hi => ho i (by simp only at hi; omega)⟩
theorem hc_law32_records (σ : St) (id g : Nat) (t : List Int) (at' : Nat) (hl : t.length ≤ 9223372036854775807) (hid : id < σ.n) (hob : σ.ob id = some ⟨g, 2, ty_Deck, false, true, [deckV t at']⟩) :
  HC prog n_law32_records [.ptr id g 2 0 0] σ (DeckR σ id g t fun r => ∃ l : List Rc, r = .list 21 (rcs l) ∧ l.length ≤ 6 ∧ ∀ q ∈ l, RcB q) := by
 refine HC.deck hid ((hcO_law32_records σ id g t at' hl hid hob).mono ?_)
 rintro X τ ⟨l, at2, hX, hll, hB, hd, hfr, hn, ho⟩
 exact ⟨.list 21 (rcs l), at2, hX.pub (fun i hi hh => by simp only; rw [if_neg fun h => hh (ho i h)]) (rcs_pur _) (rcs_ok _), ⟨l, rfl, hll, hB⟩, hd, hfr⟩
def sumL (l : List Int) : Int := 65536 * (sumGo l 1 0).2 + (sumGo l 1 0).1
theorem sumS_sb (s : ByteArray) : sumS s = sumL (sb s) := rfl
theorem sumGo_bd : ∀ (l : List Int) (a b : Int), 0 ≤ a → a < 65521 → 0 ≤ b → b < 65521 → 0 ≤ (sumGo l a b).1 ∧ (sumGo l a b).1 < 65521 ∧ 0 ≤ (sumGo l a b).2 ∧ (sumGo l a b).2 < 65521
 | [], a, b, h1, h2, h3, h4 => ⟨h1, h2, h3, h4⟩
 | x :: l, a, b, h1, h2, h3, h4 => by
  simp only [sumGo]
  exact sumGo_bd l _ _ (Int.emod_nonneg _ (by decide)) (Int.emod_lt_of_pos _ (by decide)) (Int.emod_nonneg _ (by decide)) (Int.emod_lt_of_pos _ (by decide))
theorem sumGo_sum : ∀ (l : List Int) (a b : Int), (sumGo l a b).1 % 65521 = (a + l.sum) % 65521
 | [], a, b => by simp [sumGo]
 | x :: l, a, b => by
  simp only [sumGo, List.sum_cons]
  rw [sumGo_sum l, Int.emod_add_emod, Int.add_assoc]
theorem sumL_bd (l : List Int) : 0 ≤ sumL l ∧ sumL l < 4294967296 := by
 have := sumGo_bd l 1 0 (by omega) (by omega) (by omega) (by omega)
 unfold sumL; omega
theorem sum_set : ∀ (l : List Int) (k : Nat) (y : Int) (h : k < l.length), (l.set k y).sum = l.sum - l[k] + y
 | x :: l, 0, y, h => by simp; omega
 | x :: l, k + 1, y, h => by
  have := sum_set l k y (by simpa using h)
  simp only [List.set_cons_succ, List.sum_cons, List.getElem_cons_succ]
  omega
theorem sumL_set (l : List Int) (k : Nat) (y : Int) (h : k < l.length) (h0 : 0 ≤ l[k] ∧ l[k] ≤ 255) (hy : 0 ≤ y ∧ y ≤ 255) (hne : l[k] ≠ y) : sumL (l.set k y) ≠ sumL l := by
 have b1 := sumGo_bd l 1 0 (by omega) (by omega) (by omega) (by omega)
 have b2 := sumGo_bd (l.set k y) 1 0 (by omega) (by omega) (by omega) (by omega)
 have s1 := sumGo_sum l 1 0
 have s2 := sumGo_sum (l.set k y) 1 0
 rw [sum_set l k y h] at s2
 unfold sumL
 omega
theorem getL_putB : ∀ (k : Nat) (n : Int), 0 ≤ n → n < 256 ^ k → getL (putB n k) = n
 | 0, n, h0, h1 => by simp at h1; simp [putB, getL]; omega
 | k + 1, n, h0, h1 => by
  rw [Int.pow_succ] at h1
  simp only [putB, getL]
  rw [getL_putB k (n / 256) (by omega) (by omega)]
  omega
theorem getL_set : ∀ (l : List Int) (j : Nat) (y : Int) (h : j < l.length), getL (l.set j y) = getL l + 256 ^ j * (y - l[j])
 | x :: l, 0, y, h => by simp [getL]; omega
 | x :: l, j + 1, y, h => by
  have := getL_set l j y (by simpa using h)
  simp only [List.set_cons_succ, getL, this, List.getElem_cons_succ, Int.pow_succ]
  rw [Int.mul_add, Int.add_assoc, Int.mul_comm (256 ^ j) 256, Int.mul_assoc]
theorem getL_pre {a r : List Int} {n : Int} {k : Nat} (h0 : 0 ≤ n) (h1 : n < 256 ^ k) (h : a = putB n k ++ r) : getL (a.take k) = n := by
 subst h
 rw [List.take_append_of_le_length (by rw [putB_length]; exact Nat.le_refl _), List.take_of_length_le (by rw [putB_length]; exact Nat.le_refl _), getL_putB k n h0 h1]
def encA (r : Rc) : List Int := encL r ++ putB (sumL (encL r)) 4
theorem flatL5 : ∀ l : List Int, (l.flatMap fun n => putB n 5).length = 5 * l.length
 | [] => rfl
 | a :: l => by rw [List.flatMap_cons, List.length_append, putB_length, flatL5 l, List.length_cons]; omega
theorem encL_length (r : Rc) : (encL r).length = 1 + 5 * (offs r.k).length := by
 rw [encL, List.length_append, putB_length, flatL5, numsR, List.length_map]
theorem encA_length (r : Rc) : (encA r).length = 5 + 5 * (offs r.k).length := by rw [encA, List.length_append, encL_length, putB_length]; omega
theorem encL_bd (r : Rc) : ∀ x ∈ encL r, 0 ≤ x ∧ x ≤ 255 := by
 intro x hx
 rcases List.mem_append.1 hx with hx | hx
 ·exact putB_bd _ _ x hx
 ·obtain ⟨n, _, hx⟩ := List.mem_flatMap.1 hx
  exact putB_bd _ _ x hx
theorem encA_bd (r : Rc) : ∀ x ∈ encA r, 0 ≤ x ∧ x ≤ 255 := by
 intro x hx
 rcases List.mem_append.1 hx with hx | hx
 ·exact encL_bd r x hx
 ·exact putB_bd _ _ x hx
theorem sb_encS (r : Rc) : sb (encS r) = encA r := by
 have h1 : sumS (bs (encL r)) = sumL (encL r) := by rw [sumS_sb, sb_bs _ (encL_bd r)]
 rw [encS, h1]
 exact sb_bs _ (encA_bd r)
theorem validR_parts {r : Rc} (h : validR r = true) : offs r.k ≠ [] ∧ (numsR r).all vB = true ∧ bareR r (offs r.k) = r := by
 simp only [validR, Bool.and_eq_true, decide_eq_true_eq] at h
 exact ⟨h.1.1, h.1.2, h.2⟩
def numsD (D : List Int) (n : Nat) : List Int := (List.range n).map fun i => getL ((D.drop (1 + 5 * i)).take 5)
def decD (D : List Int) : Rc × Nat × Int :=
 if offs (D.getD 0 0) = [] then (rc0 0, 0, 49) else if D.length < 1 + 5 * (offs (D.getD 0 0)).length + 4 then (rc0 0, 0, 7) else
 if getL ((D.drop (1 + 5 * (offs (D.getD 0 0)).length)).take 4) ≠ sumL (D.take (1 + 5 * (offs (D.getD 0 0)).length)) then (rc0 0, 0, 8) else
 if (numsD D (offs (D.getD 0 0)).length).all vB then (madeR (D.getD 0 0) (numsD D (offs (D.getD 0 0)).length), 1 + 5 * (offs (D.getD 0 0)).length + 4, 0) else (rc0 0, 0, 49)
theorem decR_D (s : ByteArray) (a : Nat) (h : a < s.size) : decR s a = ((decD ((sb s).drop a)).1, (if (decD ((sb s).drop a)).2.2 = 0 then ((a + (decD ((sb s).drop a)).2.1 : Nat) : Int) else 0), (decD ((sb s).drop a)).2.2) := by
 have e1 : decR s a = decN s a := by rw [decR, if_neg (by omega), if_neg (by omega)]; rfl
 rw [e1]
 have g0 : ((sb s).drop a).getD 0 0 = (sb s).getD a 0 := by simp [List.getD_eq_getElem?_getD]
 have g1 : ((sb s).drop a).length = s.size - a := by rw [List.length_drop, sb_length]
 have g2 : ∀ j k, getL ((((sb s).drop a).drop j).take k) = getS s (a + j) k := fun j k => by rw [List.drop_drop]; rfl
 have g3 : ∀ j, sumL (((sb s).drop a).take j) = sumS (s.extract a (a + j)) := fun j => by rw [sumS_sb, sb_extract, Nat.add_sub_cancel_left]
 have g4 : ∀ n, numsD ((sb s).drop a) n = numsAt s a n := fun n => by
  simp only [numsD, numsAt]
  refine List.map_congr_left fun i _ => ?_
  rw [g2, Nat.add_assoc]
 simp only [decD, decN, g0, g1, g2, g3, g4]
 generalize (sb s).getD a 0 = k
 by_cases c1 : offs k = []
 ·simp [c1]
 rw [if_neg c1, if_neg c1]
 by_cases c2 : s.size < a + 1 + 5 * (offs k).length + 4
 ·have c2' : s.size - a < 1 + 5 * (offs k).length + 4 := by omega
  rw [if_pos c2, if_pos c2']; simp
 have c2' : ¬ s.size - a < 1 + 5 * (offs k).length + 4 := by omega
 rw [if_neg c2, if_neg c2']
 rw [show a + (1 + 5 * (offs k).length) = a + 1 + 5 * (offs k).length by omega]
 by_cases c3 : getS s (a + 1 + 5 * (offs k).length) 4 ≠ sumS (s.extract a (a + 1 + 5 * (offs k).length))
 ·rw [if_pos c3, if_pos c3]; simp
 rw [if_neg c3, if_neg c3]
 by_cases c4 : (numsAt s a (offs k).length).all vB = true
 ·rw [if_pos c4, if_pos c4]
  simp only [if_true]
  congr 2
  omega
 ·rw [if_neg c4, if_neg c4]; simp
theorem vB_bd {n : Int} (h : vB n = true) : 0 ≤ n ∧ n ≤ 274877906944 := by simpa [vB] using h
theorem flat_drop : ∀ (l : List Int) (i : Nat), (l.flatMap fun n => putB n 5).drop (5 * i) = (l.drop i).flatMap fun n => putB n 5
 | l, 0 => by simp
 | [], i + 1 => by simp
 | x :: l, i + 1 => by
  simp only [List.flatMap_cons, List.drop_succ_cons]
  rw [show 5 * (i + 1) = (putB x 5).length + 5 * i by rw [putB_length]; omega, List.drop_append, List.drop_of_length_le (by omega), List.nil_append, Nat.add_sub_cancel_left, flat_drop l i]
theorem encL_drop (r : Rc) (i : Nat) : (encL r).drop (1 + 5 * i) = ((numsR r).drop i).flatMap fun n => putB n 5 := by
 rw [encL, ← List.drop_drop, List.drop_left' (putB_length _ _), flat_drop]
theorem nums_enc {r : Rc} (h : validR r = true) (Q : List Int) : numsD (encL r ++ Q) (offs r.k).length = numsR r := by
 obtain ⟨h1, h2, h3⟩ := validR_parts h
 have hl : (numsR r).length = (offs r.k).length := by rw [numsR, List.length_map]
 apply List.ext_getElem
 ·simp [numsD, hl]
 ·intro i hi hi'
  simp only [numsD, List.getElem_map, List.getElem_range]
  have hb := vB_bd (List.all_eq_true.1 h2 _ (List.getElem_mem hi'))
  refine getL_pre (r := ((numsR r).drop (i + 1)).flatMap (fun n => putB n 5) ++ Q) hb.1 (by omega) ?_
  rw [List.drop_append_of_le_length (by rw [encL_length]; omega), encL_drop, List.drop_eq_getElem_cons hi', List.flatMap_cons, List.append_assoc]
theorem encL_k {r : Rc} (h : validR r = true) (Q : List Int) : (encL r ++ Q).getD 0 0 = r.k := by
 have hk := offs_kind (validR_parts h).1
 simp only [encL, putB, List.cons_append, List.nil_append, List.getD_cons_zero]
 omega
theorem decD_ok {r : Rc} (h : validR r = true) (Q : List Int) : decD (encA r ++ Q) = (r, (encA r).length, 0) := by
 obtain ⟨h1, h2, h3⟩ := validR_parts h
 have hs := sumL_bd (encL r)
 have hA : encA r ++ Q = encL r ++ (putB (sumL (encL r)) 4 ++ Q) := by rw [encA, List.append_assoc]
 have hll := encL_length r
 have hlen : (encA r ++ Q).length = 1 + 5 * (offs r.k).length + 4 + Q.length := by rw [List.length_append, encA_length]; omega
 have d1 : (encA r ++ Q).drop (1 + 5 * (offs r.k).length) = putB (sumL (encL r)) 4 ++ Q := by rw [hA]; exact List.drop_left' hll
 have d2 : (encA r ++ Q).take (1 + 5 * (offs r.k).length) = encL r := by rw [hA]; exact List.take_left' hll
 have d3 : (encA r ++ Q).getD 0 0 = r.k := by rw [hA]; exact encL_k h _
 have d4 : numsD (encA r ++ Q) (offs r.k).length = numsR r := by rw [hA]; exact nums_enc h _
 have d5 : getL ((putB (sumL (encL r)) 4 ++ Q).take 4) = sumL (encL r) := getL_pre hs.1 (by omega) rfl
 unfold decD
 rw [d3, if_neg h1, if_neg (by omega), d1, d2, d5, if_neg (by simp), d4, if_pos h2, madeR_nums, h3, encA_length]
 congr 2
 omega
theorem decD_bad {r : Rc} (h : validR r = true) {k : Nat} (h0 : 1 ≤ k) (hk : k < (encA r).length) {y : Int} (hy : 0 ≤ y ∧ y ≤ 255) (hne : (encA r)[k] ≠ y) (Q : List Int) : (decD ((encA r).set k y ++ Q)).2.2 ≠ 0 := by
 obtain ⟨h1, h2, h3⟩ := validR_parts h
 have hs := sumL_bd (encL r)
 have hll := encL_length r
 have hal := encA_length r
 have d3 : ((encA r).set k y ++ Q).getD 0 0 = r.k := by
  have := encL_k h (putB (sumL (encL r)) 4)
  rw [List.getD_eq_getElem?_getD, List.getElem?_append_left (by rw [List.length_set]; omega), List.getElem?_set_ne (by omega), ← List.getD_eq_getElem?_getD]
  exact this
 have hlen : ((encA r).set k y ++ Q).length = 1 + 5 * (offs r.k).length + 4 + Q.length := by rw [List.length_append, List.length_set, encA_length]; omega
 have t1 : (encA r).take (1 + 5 * (offs r.k).length) = encL r := List.take_left' hll
 have t2 : (encA r).drop (1 + 5 * (offs r.k).length) = putB (sumL (encL r)) 4 := List.drop_left' hll
 unfold decD
 rw [d3, if_neg h1, if_neg (by omega), if_pos ?_]
 ·simp
 rw [List.take_append_of_le_length (by rw [List.length_set]; omega), List.drop_append_of_le_length (by rw [List.length_set]; omega)]
 by_cases e6 : k < 1 + 5 * (offs r.k).length
 ·rw [List.drop_set_of_lt e6, t2, List.take_left' (putB_length _ _), getL_putB 4 _ hs.1 (by omega), List.take_set, t1]
  have hkb : k < (encL r).length := by omega
  have hg : (encA r)[k] = (encL r)[k] := by simp only [encA]; exact List.getElem_append_left hkb
  rw [hg] at hne
  exact Ne.symm (sumL_set (encL r) k y hkb (encL_bd r _ (List.getElem_mem hkb)) hy hne)
 ·have e7 : k - (1 + 5 * (offs r.k).length) < (putB (sumL (encL r)) 4).length := by rw [putB_length]; omega
  rw [List.drop_set, if_neg e6, t2, List.take_set_of_le (by omega), t1]
  rw [List.take_left' (by rw [List.length_set, putB_length]), getL_set _ _ _ e7, getL_putB 4 _ hs.1 (by omega)]
  have hg : (putB (sumL (encL r)) 4)[k - (1 + 5 * (offs r.k).length)] = (encA r)[k] := by
   have q1 : (encA r)[k]? = (putB (sumL (encL r)) 4)[k - (1 + 5 * (offs r.k).length)]? := by
    rw [← t2, List.getElem?_drop]; congr 1; omega
   rw [List.getElem?_eq_getElem hk, List.getElem?_eq_getElem e7] at q1
   exact (Option.some.inj q1).symm
  rw [hg]
  have hp : (256 : Int) ^ (k - (1 + 5 * (offs r.k).length)) ≠ 0 := by
   have : (0 : Int) < 256 ^ (k - (1 + 5 * (offs r.k).length)) := Int.pow_pos (by decide)
   omega
  intro hh
  have : (256 : Int) ^ (k - (1 + 5 * (offs r.k).length)) * (y - (encA r)[k]) = 0 := by omega
  rcases Int.mul_eq_zero.1 this with h | h
  ·exact hp h
  ·exact hne (by omega)
def flA (l : List Rc) : List Int := l.flatMap encA
theorem flA_snoc (l : List Rc) (r : Rc) : flA (l ++ [r]) = flA l ++ encA r := by simp [flA]
theorem flA_cons (l : List Rc) (r : Rc) : flA (r :: l) = encA r ++ flA l := by simp [flA]
theorem openG_stop {s : ByteArray} {a : Int} (h : (decR s a).2.2 ≠ 0) : ∀ f, openG s f a = ([], a)
 | 0 => rfl
 | f + 1 => by rw [openG, if_pos h]
theorem openG_run (s : ByteArray) (Q : List Int) : ∀ (l : List Rc) (f : Nat) (A : List Int), (∀ q ∈ l, validR q = true) → l.length ≤ f → sb s = A ++ (flA l ++ Q) →
  openG s f (A.length : Int) = (l ++ (openG s (f - l.length) ((A ++ flA l).length : Int)).1, (openG s (f - l.length) ((A ++ flA l).length : Int)).2)
 | [], f, A, _, _, _ => by simp [flA]
 | r :: l, f + 1, A, hv, hf, hs => by
  have hr := hv r (by simp)
  have hal := encA_length r
  have hsz : A.length < s.size := by
   rw [← sb_length, hs, flA_cons]; simp only [List.length_append]; omega
  have hd : (sb s).drop A.length = encA r ++ (flA l ++ Q) := by rw [hs, List.drop_left' rfl, flA_cons, List.append_assoc]
  have hD := decR_D s A.length hsz
  rw [hd, decD_ok hr] at hD
  simp only [if_true] at hD
  have hs2 : sb s = (A ++ encA r) ++ (flA l ++ Q) := by rw [hs, flA_cons]; simp
  have ih := openG_run s Q l f (A ++ encA r) (fun q hq => hv q (by simp [hq])) (by simpa using hf) hs2
  rw [openG, if_neg (by rw [hD]; simp), hD]
  simp only
  rw [show ((A.length + (encA r).length : Nat) : Int) = ((A ++ encA r).length : Nat) by rw [List.length_append], ih]
  rw [show f + 1 - (r :: l).length = f - l.length by simp, show A ++ encA r ++ flA l = A ++ flA (r :: l) by rw [flA_cons]; simp]
  rfl
theorem flA_le (l : List Rc) : l.length ≤ (flA l).length := by
 induction l with
 | nil => simp
 | cons r l ih => rw [flA_cons, List.length_append, encA_length, List.length_cons]; omega
theorem openS_run {s : ByteArray} {Q : List Int} {l : List Rc} (hv : ∀ q ∈ l, validR q = true) (hs : sb s = flA l ++ Q) :
  openS s = (l ++ (openG s (s.size - l.length) ((flA l).length : Int)).1, (openG s (s.size - l.length) ((flA l).length : Int)).2) := by
 have h1 := flA_le l
 have h2 : (sb s).length = s.size := sb_length s
 rw [hs, List.length_append] at h2
 exact openG_run s Q l s.size [] hv (by omega) (by simpa using hs)
theorem openS_of {s : ByteArray} {Q : List Int} {l : List Rc} (hv : ∀ q ∈ l, validR q = true) (hs : sb s = flA l ++ Q) (hQ : Q = [] ∨ (decD Q).2.2 ≠ 0) : openS s = (l, ((flA l).length : Int)) := by
 have h2 : (sb s).length = s.size := sb_length s
 have hd : (decR s ((flA l).length : Nat)).2.2 ≠ 0 := by
  rcases hQ with rfl | hQ
  ·rw [hs, List.append_nil] at h2
   rw [decR, if_neg (by omega), if_pos (by rw [h2])]; simp
  ·by_cases e : Q = []
   ·subst e
    rw [hs, List.append_nil] at h2
    rw [decR, if_neg (by omega), if_pos (by rw [h2])]; simp
   ·have hQl : 0 < Q.length := List.length_pos_iff.2 e
    rw [hs, List.length_append] at h2
    rw [decR_D s (flA l).length (by omega), hs, List.drop_left' rfl]
    exact hQ
 rw [openS_run hv hs, openG_stop hd, List.append_nil]
theorem decD_none {b : Int} (h : 7 ≤ b) (Q : List Int) : (decD (b :: Q)).2.2 ≠ 0 := by
 have : offs b = [] := by
  rcases offs_cases b with e | ⟨h1, e⟩ | ⟨h1, e⟩ | ⟨h1, e⟩ | ⟨h1, e⟩ | ⟨h1, e⟩
  ·exact e
  all_goals omega
 unfold decD
 simp only [List.getD_cons_zero]
 rw [if_pos this]
 simp
def wrB (l : List Rc) : ByteArray := l.foldl (fun s r => s ++ (encR r).1) ⟨#[]⟩
theorem wrB_snoc (l : List Rc) (r : Rc) : wrB (l ++ [r]) = wrB l ++ (encR r).1 := by simp [wrB, List.foldl_append]
theorem encR_size (r : Rc) : (encR r).1.size ≤ 35 := by
 unfold encR
 split
 ·exact encS_size r
 ·exact Nat.zero_le _
theorem wrB_fold (l : List Rc) (s : ByteArray) : (l.foldl (fun s r => s ++ (encR r).1) s).size ≤ s.size + 35 * l.length := by
 induction l generalizing s with
 | nil => simp
 | cons r l ih =>
  have h1 := ih (s ++ (encR r).1)
  have h2 := encR_size r
  rw [ByteArray.size_append] at h1
  simp only [List.foldl_cons, List.length_cons]
  omega
theorem wrB_size (l : List Rc) : (wrB l).size ≤ 35 * l.length := by
 have := wrB_fold l ⟨#[]⟩
 have e : (⟨#[]⟩ : ByteArray).size = 0 := rfl
 rw [e] at this
 simpa [wrB] using this
theorem sb_fold (l : List Rc) (hv : ∀ q ∈ l, validR q = true) (s : ByteArray) : sb (l.foldl (fun s r => s ++ (encR r).1) s) = sb s ++ flA l := by
 induction l generalizing s with
 | nil => simp [flA]
 | cons r l ih =>
  simp only [List.foldl_cons]
  rw [ih (fun q hq => hv q (by simp [hq])), sb_append, encR, if_pos (hv r (by simp)), sb_encS, flA_cons, List.append_assoc]
theorem sb_wrB {l : List Rc} (hv : ∀ q ∈ l, validR q = true) : sb (wrB l) = flA l := by
 have := sb_fold l hv ⟨#[]⟩
 simpa [wrB, sb] using this
theorem rcv_rep (q p : Rc) : setc 0 (rcv q) (rcX .nil p) = rcv q := rfl
theorem rcv_tk (q : Rc) : AV.agg ((rcv q).cells.take 21) = rcv q := rfl
theorem rcv_dt (q : Rc) : AV.agg (((rcv q).cells.drop 0).take 21) = rcv q := rfl
theorem rcv_flat (q : Rc) : (rcv q).flat = true := rfl
theorem rcv_len (q : Rc) : (rcv q).cells.length = 21 := rfl
theorem rcv_ct (q : Rc) : (rcv q).cells.take 21 = (rcv q).cells := rfl
theorem rcv_ca (q : Rc) : AV.agg (rcv q).cells = rcv q := rfl
theorem rcv_one (q : Rc) : (rcv q).cells.all AV.one = true := rfl
theorem rcz_fold : AV.agg [AV.int IntKind.i64 0, AV.int IntKind.i64 0, AV.int IntKind.i64 0, AV.int IntKind.i64 0, AV.int IntKind.i64 0, AV.int IntKind.i64 0, AV.int IntKind.i64 0, AV.int IntKind.i64 0, AV.int IntKind.i64 0, AV.int IntKind.i64 0, AV.int IntKind.i64 0, AV.int IntKind.i64 0, AV.nil, AV.bool false, AV.int IntKind.i64 0, AV.int IntKind.i64 0, AV.int IntKind.i64 0, AV.int IntKind.i64 0, AV.int IntKind.i64 0, AV.int IntKind.i64 0, AV.int IntKind.i64 0] = rcX .nil (rc0 0) := rfl
theorem ok_law32_same (a b : List Rc) (ha : ∀ q ∈ a, q.sg.length ≤ 9223372036854775807) (hl : a.length ≤ 4611686018427387904) : PC prog n_law32_same [.list 21 (rcs a), .list 21 (rcs b)] (.bool (decide (a = b))) := by
 refine PC_of_body b_law32_same (by simp) ?_
 simp only [c_law32_same]
 try simp (disch := omega) only [go_sem, jA, jB, jC, jD, jE, jF, jG, jH, jI, jJ, ↓reduceIte, reduceCtorEq, jO, jM, jN, jK, jL, rcs_length]
 refine cond_n (fun h1 => ?_) (fun h1 => ?_) <;> try simp (disch := omega) only [go_sem, jA, jB, jC, jD, jE, jF, jG, jH, jI, jJ, ↓reduceIte, reduceCtorEq, jO, jM, jN, jK, jL, rcs_length]
 ·exact Pub.of_eq (by rw [decide_eq_false fun e => h1 (by rw [e])]) rfl
 have hab : a.length = b.length := by omega
 refine awp_upF [4, 5, 13, 14, 15, 16, 17, 18, 19, 20, 21, 22, 23, 24, 25, 26] (by kernel_rfl) a.length (fun i e _ => e 13 = .int .i64 i ∧ a.take i = b.take i) ?_ ?_
 ·exact ⟨(by first | rfl | (simp (disch := omega) only [go_sem, jA, jB, jC, jD, jE, jF, jG, jH, jI, jJ, ↓reduceIte, reduceCtorEq, jP, jO, jM, jN]; try rfl)), rfl⟩
 rintro i fe ob c hi ⟨h13, ht⟩
 simp (maxSteps := 1000000) only [go_sem, jA, jB, jC, jD, jE, jF, jG, jH, jI, jJ, ↓reduceIte, reduceCtorEq, jP] at h13
 try simp (disch := omega) only [go_sem, jA, jB, jC, jD, jE, jF, jG, jH, jI, jJ, ↓reduceIte, reduceCtorEq, jO, jM, jN, jK, jL, h13]
 refine cond_d (fun hlt => ?_) (fun hge => ?_)
 ·have hil : i < a.length := by omega
  have hil2 : i < b.length := by omega
  have g1 : a[i]? = some a[i] := List.getElem?_eq_getElem hil
  have g2 : b[i]? = some b[i] := List.getElem?_eq_getElem hil2
  have t1 := take_snocA a i hil
  have t2 := take_snocA b i hil2
  have hm := ha _ (List.getElem_mem hil)
  have hne : a[i] ≠ b[i] → a ≠ b := fun h e => h (by subst e; rfl)
  generalize a[i] = x at *
  generalize b[i] = y at *
  try simp (disch := omega) only [go_sem, jA, jB, jC, jD, jE, jF, jG, jH, jI, jJ, ↓reduceIte, reduceCtorEq, jO, jM, jN, jK, jL, h13, rcs_length, rcs_get, g1, g2, Option.map_some, rcv_tk, rcv_dt, rcv_flat, rcv_len]
  refine ⟨by omega, by omega, by omega, by omega, ?_⟩
  refine call_pc (ok_ref32_Same x y hm) (by simp [rcv_pur]) ?_
  by_cases e : x = y
  ·rw [decide_eq_true e]
   try simp (disch := omega) only [go_sem, jA, jB, jC, jD, jE, jF, jG, jH, jI, jJ, ↓reduceIte, reduceCtorEq, jO, jM, jN, jK, jL, h13]
   exact up_next hil ⟨(by first | rfl | (simp (disch := omega) only [go_sem, jA, jB, jC, jD, jE, jF, jG, jH, jI, jJ, ↓reduceIte, reduceCtorEq, jP, jO, jM, jN]; try rfl)), by rw [t1, t2, ht, e]⟩
  ·rw [decide_eq_false e]
   try simp (disch := omega) only [go_sem, jA, jB, jC, jD, jE, jF, jG, jH, jI, jJ, ↓reduceIte, reduceCtorEq, jO, jM, jN, jK, jL]
   exact Pub.of_eq (by rw [decide_eq_false (hne e)]) rfl
 obtain rfl : i = a.length := by omega
 rw [List.take_length, List.take_of_length_le (by omega)] at ht
 try simp (disch := omega) only [go_sem, jA, jB, jC, jD, jE, jF, jG, jH, jI, jJ, ↓reduceIte, reduceCtorEq, jO, jM, jN, jK, jL]
 exact Pub.of_eq (by rw [decide_eq_true ht]) rfl
theorem ok_law32_written (l : List Rc) (hl : l.length ≤ 1000000) (ha : ∀ q ∈ l, q.sg.length ≤ 9223372036854775807) : PC prog n_law32_written [.list 21 (rcs l)] (.str (wrB l)) := by
 refine PC_of_body b_law32_written (by simp) ?_
 simp only [c_law32_written]
 try simp (disch := omega) only [go_sem, jA, jB, jC, jD, jE, jF, jG, jH, jI, jJ, ↓reduceIte, reduceCtorEq, jO, jM, jN, jK, jL, rcs_length]
 refine awp_upG [3, 5, 6, 7, 10, 11, 12, 13, 14, 15, 16, 17, 18, 19, 20, 21, 22] (by kernel_rfl) l.length (fun i e _ => e 10 = .int .i64 i ∧ e 3 = .str (wrB (l.take i))) ?_ ?_
 ·exact ⟨(by first | rfl | (simp (disch := omega) only [go_sem, jA, jB, jC, jD, jE, jF, jG, jH, jI, jJ, ↓reduceIte, reduceCtorEq, jP, jO, jM, jN]; try rfl)), by try simp (disch := omega) only [go_sem, jA, jB, jC, jD, jE, jF, jG, jH, jI, jJ, ↓reduceIte, reduceCtorEq, jO, jM, jN, jK, jL]; rfl⟩
 rintro i fe ob m c hi hm ⟨h10, h3⟩
 simp (maxSteps := 1000000) only [go_sem, jA, jB, jC, jD, jE, jF, jG, jH, jI, jJ, ↓reduceIte, reduceCtorEq, jP] at h10 h3
 try simp (disch := omega) only [go_sem, jA, jB, jC, jD, jE, jF, jG, jH, jI, jJ, ↓reduceIte, reduceCtorEq, jO, jM, jN, jK, jL, h10]
 refine cond_d (fun hlt => ?_) (fun hge => ?_)
 ·have hil : i < l.length := by omega
  have g1 : l[i]? = some l[i] := List.getElem?_eq_getElem hil
  have t1 := take_snocA l i hil
  have hmm := ha _ (List.getElem_mem hil)
  generalize l[i] = x at *
  have hw := wrB_size (l.take i)
  have he := encR_size x
  rw [List.length_take] at hw
  try simp (disch := omega) only [go_sem, jA, jB, jC, jD, jE, jF, jG, jH, jI, jJ, ↓reduceIte, reduceCtorEq, jO, jM, jN, jK, jL, h10, h3, rcs_length, rcs_get, g1, Option.map_some, rcz_fold, rcv_rep, rcv_tk, rcv_dt, rcv_flat, rcv_len, rcv_ct, rcv_ca, rcv_one]
  refine ⟨by omega, by omega, ?_⟩
  refine call_pc (ok_ref32_Encode x hmm) (by simp [rcv_pur]) ?_
  try simp (disch := omega) only [go_sem, jA, jB, jC, jD, jE, jF, jG, jH, jI, jJ, ↓reduceIte, reduceCtorEq, jO, jM, jN, jK, jL, h3, h10]
  refine ⟨by omega, up_nextG (m + 1) hil (by omega) ⟨(by first | rfl | (simp (disch := omega) only [go_sem, jA, jB, jC, jD, jE, jF, jG, jH, jI, jJ, ↓reduceIte, reduceCtorEq, jP, jO, jM, jN]; try rfl)), by try simp (disch := omega) only [go_sem, jA, jB, jC, jD, jE, jF, jG, jH, jI, jJ, ↓reduceIte, reduceCtorEq, jO, jM, jN, jK, jL]; rw [t1, wrB_snoc]⟩⟩
 obtain rfl : i = l.length := by omega
 rw [List.take_length] at h3
 try simp (disch := omega) only [go_sem, jA, jB, jC, jD, jE, jF, jG, jH, jI, jJ, ↓reduceIte, reduceCtorEq, jO, jM, jN, jK, jL, h3]
 exact Pub.pure rfl
def rS : Rc := ⟨6, 0, 0, 0, 0, 0, 0, 0, 0, 0, 0, 0, [], false, 0, 0, 0, 5, 0, 0, 0⟩
theorem rS_fold : AV.agg [AV.int IntKind.i64 6, AV.int IntKind.i64 0, AV.int IntKind.i64 0, AV.int IntKind.i64 0, AV.int IntKind.i64 0, AV.int IntKind.i64 0, AV.int IntKind.i64 0, AV.int IntKind.i64 0, AV.int IntKind.i64 0, AV.int IntKind.i64 0, AV.int IntKind.i64 0, AV.int IntKind.i64 0, AV.nil, AV.bool false, AV.int IntKind.i64 0, AV.int IntKind.i64 0, AV.int IntKind.i64 0, AV.int IntKind.i64 5, AV.int IntKind.i64 0, AV.int IntKind.i64 0, AV.int IntKind.i64 0] = rcX .nil rS := rfl
theorem rS_v : validR rS = true := by simp [validR, rS, offs, numsR, cI, bareR, sI, rc0, vB]
theorem rS_len : (encA rS).length = 10 := by rw [encA_length]; rfl
theorem sb_S : sb (encS rS) = encA rS := sb_encS rS
theorem rS_size : (encS rS).size = 10 := by rw [← sb_length, sb_S, rS_len]
theorem rS_b0 : (sb (encS rS)).getD 0 0 = 6 := by
 rw [sb_S]; have := encL_k rS_v (putB (sumL (encL rS)) 4); exact this
theorem rS_b1 : (sb (encS rS)).getD 1 0 = 5 := by
 rw [sb_S]
 have e : encA rS = [6, 5, 0, 0, 0, 0] ++ putB (sumL (encL rS)) 4 := by
  rw [encA]; congr 1
 rw [e]; rfl
theorem open_S : openS (encS rS ++ encS rS ++ ⟨#[120]⟩) = ([rS, rS], 20) := by
 have h := openS_of (l := [rS, rS]) (s := encS rS ++ encS rS ++ ⟨#[120]⟩) (Q := [120]) (by simp [rS_v]) (by rw [sb_append, sb_append, sb_S]; simp [flA, sb]) (.inr (decD_none (by omega) []))
 rw [h]
 have : (flA [rS, rS]).length = 20 := by simp [flA, rS_len]
 rw [this]; rfl
theorem ok_law32_sane : PC prog n_law32_sane [] (.bool true) := by
 refine PC_of_body b_law32_sane (by simp) ?_
 simp only [c_law32_sane]
 have hE := pc_nl (ok_journal_Encode rS (by simp [rS])) (.cons (rcN_nl (r := rS) rfl) .nil)
 have hr : encR rS = (encS rS, 0) := by rw [encR, if_pos rS_v]
 have hfl : (rcX .nil rS).flat = true := rcX_flat rS rfl
 have hsz := rS_size
 try simp (disch := omega) only [go_sem, jA, jB, jC, jD, jE, jF, jG, jH, jI, jJ, ↓reduceIte, reduceCtorEq, jO, jM, jN, jK, jL, rcz_fold, rS_fold, hfl, rcX_cells, rcX_rep, rcX_dt, rcX_tk]
 refine call_pc hE (by simp [rcN_pur]) ?_
 rw [hr]
 try simp (disch := omega) only [go_sem, jA, jB, jC, jD, jE, jF, jG, jH, jI, jJ, ↓reduceIte, reduceCtorEq, jO, jM, jN, jK, jL]
 have hx : (#[120] : Array UInt8).size = 1 := rfl
 have hSs : (encS rS ++ encS rS ++ (⟨#[120]⟩ : ByteArray)).size ≤ 100 := by rw [ByteArray.size_append, ByteArray.size_append, hsz]; decide
 refine ⟨by omega, by rw [hx]; omega, ?_⟩
 have hO := ok_journal_Open (encS rS ++ encS rS ++ ⟨#[120]⟩) (by omega)
 rw [open_S] at hO
 refine call_pc hO (by simp [go_sem]) ?_
 have s0 := sidxN (encS rS) 0 (by omega)
 have s1 := sidxN (encS rS) 1 (by omega)
 rw [rS_b0] at s0
 rw [rS_b1] at s1
 have hl2 : (rcs [rS, rS]).length = 2 := rfl
 have hg1 : (rcs [rS, rS])[1]? = some (rcv rS) := rfl
 have s0' : Option.map (fun b => AV.int IntKind.u8 ↑b.toNat) (encS rS)[0]? = some (AV.int IntKind.u8 6) := by simpa using s0
 have s1' : Option.map (fun b => AV.int IntKind.u8 ↑b.toNat) (encS rS)[1]? = some (AV.int IntKind.u8 5) := by simpa using s1
 try simp (disch := omega) only [go_sem, jA, jB, jC, jD, jE, jF, jG, jH, jI, jJ, ↓reduceIte, reduceCtorEq, jO, jM, jN, jK, jL, hsz, hl2]
 refine ⟨_, s0', ?_⟩
 try simp (disch := omega) only [go_sem, jA, jB, jC, jD, jE, jF, jG, jH, jI, jJ, ↓reduceIte, reduceCtorEq, jO, jM, jN, jK, jL, hsz, hl2]
 refine ⟨_, s1', ?_⟩
 try simp (disch := omega) only [go_sem, jA, jB, jC, jD, jE, jF, jG, jH, jI, jJ, ↓reduceIte, reduceCtorEq, jO, jM, jN, jK, jL, hsz, hl2, hg1, rcX_cells, rcX_tk, rcX_dt, hfl, rcv_flat, rcv_len, rcv_tk]
 refine call_pc (pc_nl (ok_journal_Same rS rS (by simp [rS])) (.cons .rfl (.cons (rcN_nl (r := rS) rfl) .nil))) (by simp [rcv_pur, rcN_pur]) ?_
 rw [decide_eq_true rfl]
 try simp (disch := omega) only [go_sem, jA, jB, jC, jD, jE, jF, jG, jH, jI, jJ, ↓reduceIte, reduceCtorEq, jO, jM, jN, jK, jL, hsz]
 have h20 : (encS rS ++ encS rS).size = 20 := by rw [ByteArray.size_append, hsz]
 refine call_pc (ok_journal_Crash (encS rS ++ encS rS) 10 3 (by omega)) (by simp [go_sem]) ?_
 have hc : (crashS (encS rS ++ encS rS) 10 3).size = 13 := by
  have c1 : (cutS (encS rS ++ encS rS) 10).size = 10 := by simp only [cutS, ByteArray.size_extract, h20]; decide
  rw [crashS, ByteArray.size_append, c1]
  have c2 : ((encS rS ++ encS rS).extract 10 (encS rS ++ encS rS).size).size = 10 := by simp only [ByteArray.size_extract, h20]; decide
  have c3 : (cutS ((encS rS ++ encS rS).extract 10 (encS rS ++ encS rS).size) 3).size = 3 := by rw [cutS, ByteArray.size_extract, c2]; decide
  rw [c3]
 try simp (disch := omega) only [go_sem, jA, jB, jC, jD, jE, jF, jG, jH, jI, jJ, ↓reduceIte, reduceCtorEq, jO, jM, jN, jK, jL, hc]
 exact Pub.of_eq rfl rfl
theorem strL_sb (s : ByteArray) : strL s = u8s (sb s) := by simp [strL, u8s, sb]
theorem u8s_set (l : List Int) (k : Nat) (y : Int) : (u8s l).set k (.int .u8 y) = u8s (l.set k y) := by simp [u8s, List.map_set]
theorem u8s_get (l : List Int) (i : Nat) : (u8s l)[i]? = (l[i]?).map (AV.int .u8) := by simp [u8s]
theorem bytes_all (L : List Int) : bytesL (List.take L.length (u8s L)) = some (L.map fun n => UInt8.ofNat n.toNat) := by
 rw [List.take_of_length_le (by rw [u8s_length]; exact Nat.le_refl _), bytesL_u8]
theorem ok_law32_JournalDamage (t : List Int) (at' by' : Int) (hat : 0 ≤ at' ∧ at' ≤ 65535) (hby : 0 ≤ by' ∧ by' ≤ 255) : PC prog n_law32_JournalDamage [.list 1 (ints t), .int .u16 at', .int .u8 by'] (.bool true) := by
 refine PC_of_body b_law32_JournalDamage (by simp) ?_
 simp only [c_law32_JournalDamage, go_sem, jA, jB, jC, jD, jE, jF, jG, jH, jI, jJ, ↓reduceIte, reduceCtorEq, jP]
 refine call_pc ok_law32_sane (by simp) ?_
 try simp (disch := omega) only [go_sem, jA, jB, jC, jD, jE, jF, jG, jH, jI, jJ, ↓reduceIte, reduceCtorEq, jO, jM, jN, jK, jL]
 refine call_pc (ok_mk_Few t) (by simp [go_sem]) ?_
 try simp (disch := omega) only [go_sem, jA, jB, jC, jD, jE, jF, jG, jH, jI, jJ, ↓reduceIte, reduceCtorEq, jO, jM, jN, jK, jL]
 cases hfew : fewB t
 ·try simp (disch := omega) only [go_sem, jA, jB, jC, jD, jE, jF, jG, jH, jI, jJ, ↓reduceIte, reduceCtorEq, jO, jM, jN, jK, jL]
  exact Pub.of_eq rfl rfl
 have hlt : t.length ≤ 9223372036854775807 := by simp [fewB] at hfew; omega
 try simp (disch := omega) only [go_sem, jA, jB, jC, jD, jE, jF, jG, jH, jI, jJ, ↓reduceIte, reduceCtorEq, jO, jM, jN, jK, jL]
 refine call_hc (ok_mk_New _ t) ?_
 try simp (disch := omega) only [go_sem, jA, jB, jC, jD, jE, jF, jG, jH, jI, jJ, ↓reduceIte, reduceCtorEq, jO, jM, jN, jK, jL]
 refine (hc_law32_records _ 0 0 t 0 hlt (by simp) (by first | rfl | simp (maxSteps := 1000000) only [go_sem, jA, jB, jC, jD, jE, jF, jG, jH, jI, jJ, ↓reduceIte, reduceCtorEq, jP])).mono ?_
 rintro _ _ ⟨at2, c, ⟨l, rfl, hll, hB⟩, rfl⟩
 have hv : ∀ q ∈ l, validR q = true := fun q hq => (hB q hq).1
 have hsg : ∀ q ∈ l, q.sg.length ≤ 9223372036854775807 := fun q hq => by rw [(hB q hq).2]; simp
 try simp (disch := omega) only [go_sem, jA, jB, jC, jD, jE, jF, jG, jH, jI, jJ, ↓reduceIte, reduceCtorEq, jO, jM, jN, jK, jL]
 refine call_pc (ok_law32_written l (by omega) hsg) (by simp [go_sem, rcs_pur]) ?_
 have hsb := sb_wrB hv
 have hws : (wrB l).size = (flA l).length := by rw [← sb_length, hsb]
 have hw := wrB_size l
 try simp (disch := omega) only [go_sem, jA, jB, jC, jD, jE, jF, jG, jH, jI, jJ, ↓reduceIte, reduceCtorEq, jO, jM, jN, jK, jL]
 refine cond_d (fun hz => ?_) (fun hz => ?_)
 ·try simp (disch := omega) only [go_sem, jA, jB, jC, jD, jE, jF, jG, jH, jI, jJ, ↓reduceIte, reduceCtorEq, jO, jM, jN, jK, jL]
  exact Pub.of_eq rfl rfl
 obtain ⟨k, hk1, hk2⟩ : ∃ k : Nat, at'.tmod ((wrB l).size : Int) = k ∧ k < (wrB l).size := by
  have q1 := Int.tmod_eq_emod_of_nonneg (b := ((wrB l).size : Int)) hat.1
  have q2 := Int.emod_nonneg at' hz
  have q3 := Int.emod_lt_of_pos at' (show (0 : Int) < (wrB l).size by omega)
  exact ⟨(at' % ((wrB l).size : Int)).toNat, by rw [q1]; omega, by omega⟩
 have hkl : k < (flA l).length := by omega
 have hg : (flA l)[k]? = some (flA l)[k] := List.getElem?_eq_getElem hkl
 try simp (disch := omega) only [go_sem, jA, jB, jC, jD, jE, jF, jG, jH, jI, jJ, ↓reduceIte, reduceCtorEq, jO, jM, jN, jK, jL, strL_sb, u8s_length, hsb, hk1, u8s_get, hg, Option.map_some, hz]
 refine ⟨by omega, by omega, by omega, ?_⟩
 refine cond_d (fun heq => ?_) (fun hne => ?_)
 ·try simp (disch := omega) only [go_sem, jA, jB, jC, jD, jE, jF, jG, jH, jI, jJ, ↓reduceIte, reduceCtorEq, jO, jM, jN, jK, jL]
  exact Pub.of_eq rfl rfl
 have hset : ((flA l).set k by').length = (flA l).length := by rw [List.length_set]
 try simp (disch := omega) only [go_sem, jA, jB, jC, jD, jE, jF, jG, jH, jI, jJ, ↓reduceIte, reduceCtorEq, jO, jM, jN, jK, jL, u8s_set, u8s_length, hset, hg, rcs_length, u8s_get, Option.map_some]
 refine ⟨by omega, by omega, ?_⟩
 have hbd : ∀ x ∈ (flA l).set k by', 0 ≤ x ∧ x ≤ 255 := fun x hx => by
  rcases List.mem_or_eq_of_mem_set hx with hx | rfl
  ·obtain ⟨r, _, hx⟩ := List.mem_flatMap.1 hx
   exact encA_bd r x hx
  ·exact hby
 have hsD := sb_bs _ hbd
 have hDs : (bs ((flA l).set k by')).size = (flA l).length := by rw [← sb_length, hsD, hset]
 have hby2 := bytes_all ((flA l).set k by')
 rw [hset, ← hws] at hby2
 refine awp_upG [11, 12, 14, 15, 16, 51, 52, 53, 54, 55, 56, 57, 58, 59, 60, 61, 62, 63, 64, 65, 66, 67, 68, 69, 70, 71, 72] (by kernel_rfl) l.length (fun i e σ => e 51 = .int .i64 i ∧ e 11 = .int .i64 i ∧ e 12 = .int .i64 ((flA (l.take i)).length : Int) ∧ (flA (l.take i)).length ≤ k ∧ 2 ≤ σ.n ∧ σ.ob 1 = some ⟨c, 1, 5, false, false, u8s ((flA l).set k by')⟩) ?_ ?_
 ·exact ⟨(by first | rfl | (simp (disch := omega) only [go_sem, jA, jB, jC, jD, jE, jF, jG, jH, jI, jJ, ↓reduceIte, reduceCtorEq, jP, jO, jM, jN]; try rfl)), (by first | rfl | (simp (disch := omega) only [go_sem, jA, jB, jC, jD, jE, jF, jG, jH, jI, jJ, ↓reduceIte, reduceCtorEq, jP, jO, jM, jN]; try rfl)), by try simp (disch := omega) only [go_sem, jA, jB, jC, jD, jE, jF, jG, jH, jI, jJ, ↓reduceIte, reduceCtorEq, jO, jM, jN, jK, jL]; rfl, Nat.zero_le _, Nat.le_refl _, by try simp (disch := omega) only [go_sem, jA, jB, jC, jD, jE, jF, jG, jH, jI, jJ, ↓reduceIte, reduceCtorEq, jO, jM, jN, jK, jL]⟩
 rintro i fe ob m c2 hi hm ⟨h51, h11, h12, hEk, hm1, hob⟩
 simp (maxSteps := 1000000) only [go_sem, jA, jB, jC, jD, jE, jF, jG, jH, jI, jJ, ↓reduceIte, reduceCtorEq, jP] at h51 h11 h12 hm hm1 hob
 try simp (disch := omega) only [go_sem, jA, jB, jC, jD, jE, jF, jG, jH, jI, jJ, ↓reduceIte, reduceCtorEq, jO, jM, jN, jK, jL, h51]
 refine cond_d (fun hlt2 => ?_) (fun hge => ?_)
 ·have hil : i < l.length := by omega
  have g1 : l[i]? = some l[i] := List.getElem?_eq_getElem hil
  have t1 := take_snocA l i hil
  have hmm := hsg _ (List.getElem_mem hil)
  have hvx := hv _ (List.getElem_mem hil)
  have hdec : l = l.take i ++ l[i] :: l.drop (i + 1) := by rw [← List.drop_eq_getElem_cons hil, List.take_append_drop]
  generalize l[i] = x at *
  have hfd : flA l = flA (l.take i) ++ (encA x ++ flA (l.drop (i + 1))) := by
   conv => lhs; rw [hdec]
   simp [flA]
  have hel : (encS x).size = (encA x).length := by rw [← sb_length, sb_encS]
  have hf1 : (flA (l.take (i + 1))).length = (flA (l.take i)).length + (encA x).length := by rw [t1, flA_snoc, List.length_append]
  have hfl : (flA l).length ≤ 210 := by omega
  have hal := encA_length x
  have hol := offs_len x.k
  try simp (disch := omega) only [go_sem, jA, jB, jC, jD, jE, jF, jG, jH, jI, jJ, ↓reduceIte, reduceCtorEq, jO, jM, jN, jK, jL, h51, h11, h12, rcs_length, rcs_get, g1, Option.map_some, rcz_fold, rcv_rep, rcv_tk, rcv_dt, rcv_flat, rcv_len, rcv_ct, rcv_ca, rcv_one]
  refine ⟨by omega, by omega, ?_⟩
  refine call_pc (ok_ref32_Encode x hmm) (by simp [rcv_pur, go_sem]) ?_
  have hen : encR x = (encS x, 0) := by rw [encR, if_pos hvx]
  rw [hen]
  try simp (disch := omega) only [go_sem, jA, jB, jC, jD, jE, jF, jG, jH, jI, jJ, ↓reduceIte, reduceCtorEq, jO, jM, jN, jK, jL, h12, hel]
  refine cond_d (fun q1 => ?_) (fun q1 => ?_)
  ·have z1 : ¬ 1 = m := by omega
   have hvt : ∀ q ∈ l.take i, validR q = true := fun q hq => hv q (List.mem_of_mem_take hq)
   have hli : (l.take i).length = i := by rw [List.length_take]; omega
   have hDD : (flA l).set k by' = flA (l.take i) ++ ((encA x).set (k - (flA (l.take i)).length) by' ++ flA (l.drop (i + 1))) := by
    conv => lhs; rw [hfd]
    rw [List.set_append_right _ _ hEk, List.set_append_left _ _ (by omega)]
   have hrt : ∀ X : List Rc, (rcs (l.take i ++ X)).take i = rcs (l.take i) := fun X => by
    rw [show rcs (l.take i ++ X) = rcs (l.take i) ++ rcs X by simp [rcs], List.take_left' (by rw [rcs_length, hli])]
   have hrt2 : (rcs l).take i = rcs (l.take i) := by simp [rcs]
   have hS := ok_law32_same (l.take i) (l.take i) (fun q hq => hsg q (List.mem_of_mem_take hq)) (by omega)
   rw [decide_eq_true rfl] at hS
   have hSp : ∀ y ∈ [AV.list 21 (rcs (l.take i)), AV.list 21 (rcs (l.take i))], y.pur = true := by simp [go_sem, rcs_pur]
   have hP := ok_journal_Open (bs ((flA l).set k by')) (by omega)
   try simp (disch := omega) only [go_sem, jA, jB, jC, jD, jE, jF, jG, jH, jI, jJ, ↓reduceIte, reduceCtorEq, jO, jM, jN, jK, jL, hob, u8s_length, hset, hby2, z1, Option.some.injEq, exists_eq_left', bs_u8]
   by_cases hkE : k = (flA (l.take i)).length
   ·obtain ⟨X, n, hO⟩ : ∃ X n, openS (bs ((flA l).set k by')) = (l.take i ++ X, n) := ⟨_, _, openS_run hvt (hsD.trans hDD)⟩
    rw [hO] at hP
    refine ⟨by omega, call_pc hP (by simp [go_sem]) ?_⟩
    have d1 : decide ((k : Int) = ((flA (l.take i)).length : Int)) = true := decide_eq_true (by omega)
    have d2 : decide ((i : Int) ≤ ((l.take i ++ X).length : Int)) = true := decide_eq_true (by rw [List.length_append, hli]; omega)
    try simp (disch := omega) only [go_sem, jA, jB, jC, jD, jE, jF, jG, jH, jI, jJ, ↓reduceIte, reduceCtorEq, jO, jM, jN, jK, jL, h11, h12, d1, d2, rcs_length, hrt, hrt2]
    refine ⟨by omega, by omega, by omega, by rw [List.length_append, hli]; omega, call_pc hS hSp ?_⟩
    try simp (disch := omega) only [go_sem, jA, jB, jC, jD, jE, jF, jG, jH, jI, jJ, ↓reduceIte, reduceCtorEq, jO, jM, jN, jK, jL]
    exact Pub.of_eq rfl rfl
   ·have hbad : (decD ((encA x).set (k - (flA (l.take i)).length) by' ++ flA (l.drop (i + 1)))).2.2 ≠ 0 := by
     refine decD_bad hvx (by omega) (by omega) hby ?_ _
     intro e
     apply hne
     rw [← e]
     have q2 : (flA l)[k]? = (encA x)[k - (flA (l.take i)).length]? := by
      conv => lhs; rw [hfd]
      rw [List.getElem?_append_right hEk, List.getElem?_append_left (by omega)]
     rw [List.getElem?_eq_getElem hkl, List.getElem?_eq_getElem (by omega)] at q2
     exact Option.some.inj q2
    have hO := openS_of hvt (hsD.trans hDD) (.inr hbad)
    rw [hO] at hP
    refine ⟨by omega, call_pc hP (by simp [go_sem]) ?_⟩
    have d1 : decide ((k : Int) = ((flA (l.take i)).length : Int)) = false := decide_eq_false (by omega)
    try simp (disch := omega) only [go_sem, jA, jB, jC, jD, jE, jF, jG, jH, jI, jJ, ↓reduceIte, reduceCtorEq, jO, jM, jN, jK, jL, h11, h12, d1, rcs_length, hli, hrt2]
    refine ⟨by omega, by omega, call_pc hS hSp ?_⟩
    try simp (disch := omega) only [go_sem, jA, jB, jC, jD, jE, jF, jG, jH, jI, jJ, ↓reduceIte, reduceCtorEq, jO, jM, jN, jK, jL]
    exact Pub.of_eq rfl rfl
  ·try simp (disch := omega) only [go_sem, jA, jB, jC, jD, jE, jF, jG, jH, jI, jJ, ↓reduceIte, reduceCtorEq, jO, jM, jN, jK, jL, h51, h11, h12]
   refine up_nextG (m + 1) hil (by omega) ⟨(by first | rfl | (simp (disch := omega) only [go_sem, jA, jB, jC, jD, jE, jF, jG, jH, jI, jJ, ↓reduceIte, reduceCtorEq, jP, jO, jM, jN]; try rfl)), by try simp (disch := omega) only [go_sem, jA, jB, jC, jD, jE, jF, jG, jH, jI, jJ, ↓reduceIte, reduceCtorEq, jO, jM, jN, jK, jL]; congr 1, by try simp (disch := omega) only [go_sem, jA, jB, jC, jD, jE, jF, jG, jH, jI, jJ, ↓reduceIte, reduceCtorEq, jO, jM, jN, jK, jL]; rw [hf1]; congr 1; omega, by omega, by simp only [St.trunc]; omega, ?_⟩
   rw [tr_ob (by omega), upd_ne _ _ _ _ (by omega), upd_ne _ _ _ _ (by omega)]; exact hob
 obtain rfl : i = l.length := by omega
 rw [List.take_length] at hEk
 omega
theorem law_law32_JournalDamage {c0 c1 c2 : List AV} (s0 : (Sh.slice 1 (.int .i64)).R c0) (s1 : (Sh.int .u16).R c1) (s2 : (Sh.int .u8).R c2) : PC prog n_law32_JournalDamage [(Sh.slice 1 (.int .i64)).mk1 c0, (Sh.int .u16).mk1 c1, (Sh.int .u8).mk1 c2] (.bool true) := by
 obtain ⟨l0, rfl, _, _⟩ := shInts s0
 obtain ⟨a1, rfl, w1⟩ := s1
 obtain ⟨a2, rfl, w2⟩ := s2
 exact ok_law32_JournalDamage l0 a1 a2 (wf_u16 w1) (wf_u8 w2)
end Go.Proofs.Try
