/- OWN WORK, put together by tools/asm.py, seat.py, mini.py. -/
import Derived.Test.YtkbpllahboofgaaLibD
set_option linter.unusedSimpArgs false
set_option linter.unusedVariables false
set_option maxRecDepth 100000
set_option maxHeartbeats 1000000
namespace Go.Proofs.Try
open Go.Ab Go
open Int renaming reduceEq → jA, reduceLT → jB, reduceLE → jC, reduceToNat → jD
open Go.Ab renaming w_ite_ne → jM, w_ite_lt → jN, wrap_id → jO, w_app_nl → jP
open Nat renaming reduceLT → jE, reduceEqDiff → jF, reduceAdd → jG, reduceLeDiff → jH, reduceSub → jI, reduceMul → jJ, sub_zero → jK, sub_self → jL
theorem rp_eqb (a b : Rp) : (decide (a.nu = b.nu) && (decide (a.ac = b.ac) && (decide (a.fd = b.fd) && (decide (a.tm = b.tm) && (decide (a.b.lo = b.b.lo) && decide (a.b.hi = b.b.hi)))))) = decide (a = b) := by
 obtain ⟨_, _, _, _, ⟨_, _⟩⟩ := a
 obtain ⟨_, _, _, _, ⟨_, _⟩⟩ := b
 rw [Bool.eq_iff_iff]
 simp
theorem ok_revision_copied (op : List Ac) (rp l : List Rp) (h : ∀ a ∈ op, AcOK a) (hn : op.length ≤ 16) (hl : l.length ≤ 5000) : PC prog n_revision_copied [bkv ⟨op, rp⟩, .list 6 (rps l)] (bkv ⟨op, l⟩) := by
 have hC := okl_slices_Clone__Report (rps l) (by rw [rps_length]; omega) (rps_pur _) (rps_ok _)
 refine PC_of_body b_revision_copied (by simp) ?_
 simp only [c_revision_copied, go_sem, jA, jB, jC, jD, jE, jF, jG, jH, jI, jJ, ↓reduceIte, reduceCtorEq, jP, bkv]
 try simp (disch := omega) only [go_sem, jA, jB, jC, jD, jE, jF, jG, jH, jI, jJ, ↓reduceIte, reduceCtorEq, jO, jM, jN, jK, jL]
 refine call_pc hC (by simp [go_sem, rps_pur]) ?_
 try simp (disch := omega) only [go_sem, jA, jB, jC, jD, jE, jF, jG, jH, jI, jJ, ↓reduceIte, reduceCtorEq, jO, jM, jN, jK, jL, acs_length]
 refine awp_upG [7, 14, 15, 16, 17, 18, 19, 20, 21, 22, 23, 24, 25] (by kernel_rfl) op.length (fun k e σ => e 14 = .int .i64 k ∧ σ.ob 1 = some ⟨1, 2, 30, false, true, [.agg [.nil, .nil]]⟩ ∧
   ∃ X, σ.ob 2 = some ⟨2, 2, 30, false, true, [.agg [X, .list 6 (rps l)]]⟩ ∧ SlR 4 41 σ (acs (op.take k)) X ∧ Oth X 1 ∧ Oth X 2) ?_ ?_
 ·exact ⟨(by first | rfl | (simp (disch := omega) only [go_sem, jA, jB, jC, jD, jE, jF, jG, jH, jI, jJ, ↓reduceIte, reduceCtorEq, jP, jO, jM, jN]; try rfl)), by try simp (disch := omega) only [go_sem, jA, jB, jC, jD, jE, jF, jG, jH, jI, jJ, ↓reduceIte, reduceCtorEq, jO, jM, jN, jK, jL], .nil, by try simp (disch := omega) only [go_sem, jA, jB, jC, jD, jE, jF, jG, jH, jI, jJ, ↓reduceIte, reduceCtorEq, jO, jM, jN, jK, jL], SlR.nil, Oth.nil _, Oth.nil _⟩
 rintro k fe ob m c hk hm ⟨h14, u1, X, u2, hR, o1, o2⟩
 simp (maxSteps := 1000000) only [go_sem, jA, jB, jC, jD, jE, jF, jG, jH, jI, jJ, ↓reduceIte, reduceCtorEq, jP] at h14 u1 u2 hR hm
 try simp (disch := omega) only [go_sem, jA, jB, jC, jD, jE, jF, jG, jH, jI, jJ, ↓reduceIte, reduceCtorEq, jO, jM, jN, jK, jL, h14]
 refine cond_d (fun hlt => ?_) (fun hge => ?_)
 ·have hkl : k < op.length := by omega
  have e1 := gA_get hkl
  have ha := h _ (List.mem_of_getElem? e1)
  have hT := ok_revision_twin (gA op k) ha
  have htk : op.take (k + 1) = op.take k ++ [gA op k] := by rw [List.take_add_one, e1]; rfl
  generalize gA op k = a at *
  simp only [acv] at hT
  have z1 : ¬ 1 = m := by omega
  have z2 : ¬ 2 = m := by omega
  try simp (disch := omega) only [go_sem, jA, jB, jC, jD, jE, jF, jG, jH, jI, jJ, ↓reduceIte, reduceCtorEq, jO, jM, jN, jK, jL, h14, acs_length, acs_get, e1, Option.map_some, acv, z2, u2]
  refine ⟨by omega, by omega, ?_⟩
  refine call_pc hT (by simp [go_sem, bds_pur]) ?_
  try simp (disch := omega) only [go_sem, jA, jB, jC, jD, jE, jF, jG, jH, jI, jJ, ↓reduceIte, reduceCtorEq, jO, jM, jN, jK, jL]
  have hlen : (acs (op.take k)).length ≤ 16 := by rw [acs_length, List.length_take]; omega
  refine app_slr (b := 80) (hR.move (by simp only; omega) fun i hi _ => by
   simp only at hi ⊢
   rw [upd_ne _ _ _ _ (by omega), upd_ne _ _ _ _ (by omega)]) (by omega) (by omega) fun X2 τ2 hR2 hK2 => ?_
  have hn2 := hK2.1
  have r1 := hK2.2.1 1 (by simp only; omega) o1
  have r2 := hK2.2.1 2 (by simp only; omega) o2
  have p1 := hK2.2.2 1 (by simp only; omega) o1
  have p2 := hK2.2.2 2 (by simp only; omega) o2
  simp only at r1 r2 hn2
  try simp (disch := omega) only [go_sem, jA, jB, jC, jD, jE, jF, jG, jH, jI, jJ, ↓reduceIte, reduceCtorEq, jO, jM, jN, jK, jL, z1, u1] at r1
  try simp (disch := omega) only [go_sem, jA, jB, jC, jD, jE, jF, jG, jH, jI, jJ, ↓reduceIte, reduceCtorEq, jO, jM, jN, jK, jL, z2, u2] at r2
  try simp (disch := omega) only [go_sem, jA, jB, jC, jD, jE, jF, jG, jH, jI, jJ, ↓reduceIte, reduceCtorEq, jO, jM, jN, jK, jL, h14, hR2.one, hR2.flat, hR2.cells, r2]
  refine up_nextG τ2.n hkl (by omega) ⟨(by first | rfl | (simp (disch := omega) only [go_sem, jA, jB, jC, jD, jE, jF, jG, jH, jI, jJ, ↓reduceIte, reduceCtorEq, jP, jO, jM, jN]; try rfl)), ?_, X2, ?_, ?_, p1, p2⟩
  ·simp only [St.trunc, St.put]; rw [if_pos (by omega), upd_ne _ _ _ _ (by omega)]; exact r1
  ·simp only [St.trunc, St.put]; rw [if_pos (by omega), upd_same]
  ·rw [htk, show acs (op.take k ++ [a]) = acs (op.take k) ++ [.agg [.int .i64 a.fr, .list 2 (bds a.st), .list 2 (bds a.ins), .list 2 (bds a.outs)]] by simp [acs, acv]]
   refine hR2.move (Nat.le_refl _) fun i hi hno => ?_
   have : ¬ i = 2 := fun e => hno (e ▸ p2)
   simp only [St.trunc, St.put]; rw [if_pos hi, upd_ne _ _ _ _ this]
 ·try simp (disch := omega) only [go_sem, jA, jB, jC, jD, jE, jF, jG, jH, jI, jJ, ↓reduceIte, reduceCtorEq, jO, jM, jN, jK, jL, u1, u2, hR.one, hR.flat, hR.cells]
  obtain rfl : op.length = k := by omega
  rw [List.take_length] at hR
  refine Pub.ag (.cons (hR.pub (fun i hi hno => ?_) (acs_pur _) (acs_ok _)) (.cons (.pure (by simp [go_sem, rps_pur])) .nil))
  have : ¬ i = 1 := fun e => hno (e ▸ o1)
  simp only
  rw [upd_ne _ _ _ _ this]
theorem ok_revision_File (B : Bk) (h : BkOK B) (r : Rp) (hr : RpOK B.op r) : PC prog n_revision_File [bkv B, rpv r] (.tuple [bkv (fileS B r).1, .int .i64 (fileS B r).2]) := by
 have hm := h.m
 have hC := ok_revision_Check B h
 have hN := ok_revision_numbered r hr.n1 hr.n2
 have hR := ok_revision_report B.op r h.ao hr
 have hP := ok_revision_place__Report B h r hr.n1 hr.n2
 have hk := bsI_le (nus B.rp) r.nu
 rw [List.length_map] at hk
 have hI := ok_revision_inserted__Report B.rp (bsI (nus B.rp) r.nu) r hk hm
 have hc1 := ok_revision_copied B.op B.rp B.rp h.ao h.n (by omega)
 have hc2 := ok_revision_copied B.op B.rp (B.rp.take (bsI (nus B.rp) r.nu) ++ r :: B.rp.drop (bsI (nus B.rp) r.nu)) h.ao h.n (by simp; omega)
 have hfs : fileS B r = if (nus B.rp)[bsI (nus B.rp) r.nu]? = some r.nu then (if gR B.rp (bsI (nus B.rp) r.nu) = r then (B, 0) else (bkZ, 46))
  else if B.rp.length = 4096 then (bkZ, 10) else (⟨B.op, B.rp.take (bsI (nus B.rp) r.nu) ++ r :: B.rp.drop (bsI (nus B.rp) r.nu)⟩, 0) := rfl
 have hlt : (nus B.rp)[bsI (nus B.rp) r.nu]? = some r.nu → bsI (nus B.rp) r.nu < B.rp.length := fun e => by
  have := (List.getElem?_eq_some_iff.1 e).1
  rwa [List.length_map] at this
 have htb : ∃ tb, decide ((nus B.rp)[bsI (nus B.rp) r.nu]? = some r.nu) = tb := ⟨_, rfl⟩
 obtain ⟨tb, htb⟩ := htb
 rw [htb] at hP
 generalize fileS B r = FS at *
 generalize bsI (nus B.rp) r.nu = k at *
 simp only [bkv, rpv] at hC hN hR hP hI hc1 hc2
 refine PC_of_body b_revision_File (by simp) ?_
 simp only [c_revision_File, go_sem, jA, jB, jC, jD, jE, jF, jG, jH, jI, jJ, ↓reduceIte, reduceCtorEq, jP, bkv, rpv]
 refine call_pc hC (by simp [go_sem, acs_pur, rps_pur]) ?_
 try simp (disch := omega) only [go_sem, jA, jB, jC, jD, jE, jF, jG, jH, jI, jJ, ↓reduceIte, reduceCtorEq, jO, jM, jN, jK, jL]
 refine call_pc hN (by simp [go_sem]) ?_
 try simp (disch := omega) only [go_sem, jA, jB, jC, jD, jE, jF, jG, jH, jI, jJ, ↓reduceIte, reduceCtorEq, jO, jM, jN, jK, jL]
 refine call_pc hR (by simp [go_sem, acs_pur]) ?_
 try simp (disch := omega) only [go_sem, jA, jB, jC, jD, jE, jF, jG, jH, jI, jJ, ↓reduceIte, reduceCtorEq, jO, jM, jN, jK, jL]
 refine call_pc hP (by simp [go_sem, rps_pur]) ?_
 try simp (disch := omega) only [go_sem, jA, jB, jC, jD, jE, jF, jG, jH, jI, jJ, ↓reduceIte, reduceCtorEq, jO, jM, jN, jK, jL]
 cases tb
 ·have hat : ¬ (nus B.rp)[k]? = some r.nu := of_decide_eq_false htb
  rw [if_neg hat] at hfs
  try simp (disch := omega) only [go_sem, jA, jB, jC, jD, jE, jF, jG, jH, jI, jJ, ↓reduceIte, reduceCtorEq, jO, jM, jN, jK, jL, rps_length]
  refine cond_d (fun hfull => ?_) (fun hroom => ?_)
  ·rw [if_pos (by omega)] at hfs
   try simp (disch := omega) only [go_sem, jA, jB, jC, jD, jE, jF, jG, jH, jI, jJ, ↓reduceIte, reduceCtorEq, jO, jM, jN, jK, jL]
   rw [hfs]
   exact Pub.tu (.cons (Pub.ag (.cons (.nl 4) (.cons (.nl 6) .nil))) (.cons (.pure rfl) .nil))
  ·rw [if_neg (by omega)] at hfs
   try simp (disch := omega) only [go_sem, jA, jB, jC, jD, jE, jF, jG, jH, jI, jJ, ↓reduceIte, reduceCtorEq, jO, jM, jN, jK, jL]
   refine call_pc hI (by simp [go_sem, rps_pur]) ?_
   try simp (disch := omega) only [go_sem, jA, jB, jC, jD, jE, jF, jG, jH, jI, jJ, ↓reduceIte, reduceCtorEq, jO, jM, jN, jK, jL]
   refine call_pc hc2 (by simp [go_sem, acs_pur, rps_pur]) ?_
   try simp (disch := omega) only [go_sem, jA, jB, jC, jD, jE, jF, jG, jH, jI, jJ, ↓reduceIte, reduceCtorEq, jO, jM, jN, jK, jL]
   rw [hfs]
   exact Pub.tu (.cons (.pure (bkv_pur ⟨B.op, B.rp.take k ++ r :: B.rp.drop k⟩)) (.cons (.pure rfl) .nil))
 ·have hat : (nus B.rp)[k]? = some r.nu := of_decide_eq_true htb
  rw [if_pos hat] at hfs
  have hkl := hlt hat
  have e1 := gR_get hkl
  try simp (disch := omega) only [go_sem, jA, jB, jC, jD, jE, jF, jG, jH, jI, jJ, ↓reduceIte, reduceCtorEq, jO, jM, jN, jK, jL, rps_length, rps_get, e1, Option.map_some, rpv]
  refine ⟨by omega, by omega, ?_⟩
  rw [rp_eqb]
  refine cond_d (fun heq => ?_) (fun hne => ?_)
  ·rw [if_pos heq] at hfs
   try simp (disch := omega) only [go_sem, jA, jB, jC, jD, jE, jF, jG, jH, jI, jJ, ↓reduceIte, reduceCtorEq, jO, jM, jN, jK, jL]
   refine call_pc hc1 (by simp [go_sem, acs_pur, rps_pur]) ?_
   try simp (disch := omega) only [go_sem, jA, jB, jC, jD, jE, jF, jG, jH, jI, jJ, ↓reduceIte, reduceCtorEq, jO, jM, jN, jK, jL]
   rw [hfs]
   exact Pub.tu (.cons (.pure (bkv_pur B)) (.cons (.pure rfl) .nil))
  ·rw [if_neg hne] at hfs
   try simp (disch := omega) only [go_sem, jA, jB, jC, jD, jE, jF, jG, jH, jI, jJ, ↓reduceIte, reduceCtorEq, jO, jM, jN, jK, jL]
   rw [hfs]
   exact Pub.tu (.cons (Pub.ag (.cons (.nl 4) (.cons (.nl 6) .nil))) (.cons (.pure rfl) .nil))
theorem curL_l {i : Int} : ∀ (l : List Rp) {a : Ac}, AcL a → AcL (curL i l a).1
 | [], _, h => h
 | r :: l, a, h => by
  simp only [curL]
  split
  ·split
   ·exact curL_l l (fixS_l h _ _ _)
   ·simp [acZ, AcL]
  ·exact curL_l l h
theorem drop_cons {l : List Rp} {k : Nat} (h : k < l.length) : l.drop k = gR l k :: l.drop (k + 1) := by
 rw [List.drop_eq_getElem_cons h]
 have := gR_get h
 rw [List.getElem?_eq_getElem h] at this
 rw [Option.some.inj this]
theorem ok_revision_Current (B : Bk) (h : BkOK B) (i : Nat) (hi : i < B.op.length) : PC prog n_revision_Current [bkv B, .int .i64 i] (.tuple [acv (curS B i).1, .int .i64 (curS B i).2.1, .int .i64 (curS B i).2.2]) := by
 have hm := h.m
 have hC := ok_revision_Check B h
 have e1 := gA_get hi
 have ha := h.acc hi
 have hT := ok_revision_twin (gA B.op i) ha
 have haL := ha.l
 have hcu : curS B i = curL i B.rp (gA B.op i) := rfl
 have hro := h.ro
 generalize curS B i = CU at *
 generalize gA B.op i = a at *
 simp only [bkv, acv] at hC hT
 refine PC_of_body b_revision_Current (by simp) ?_
 simp only [c_revision_Current, go_sem, jA, jB, jC, jD, jE, jF, jG, jH, jI, jJ, ↓reduceIte, reduceCtorEq, jP, bkv]
 refine call_pc hC (by simp [go_sem, acs_pur, rps_pur]) ?_
 have q1 : ¬ ((i : Int) < 0) := by omega
 have q2 : ¬ ((B.op.length : Int) ≤ (i : Int)) := by omega
 try simp (disch := omega) only [go_sem, jA, jB, jC, jD, jE, jF, jG, jH, jI, jJ, ↓reduceIte, reduceCtorEq, jO, jM, jN, jK, jL, acs_length, q1, q2, decide_false, acs_get, e1, Option.map_some, acv]
 refine ⟨by omega, by omega, ?_⟩
 refine call_pc hT (by simp [go_sem, bds_pur]) ?_
 try simp (disch := omega) only [go_sem, jA, jB, jC, jD, jE, jF, jG, jH, jI, jJ, ↓reduceIte, reduceCtorEq, jO, jM, jN, jK, jL, rps_length]
 refine awp_upG [5, 6, 9, 10, 11, 35, 36, 37, 38, 39, 40, 41, 42, 43, 44, 45, 46, 47, 48, 49, 50, 51, 52, 53, 54, 55, 56, 57, 58, 59, 60] (by kernel_rfl) B.rp.length (fun k e σ => e 35 = .int .i64 k ∧ σ.ob 1 = some ⟨1, 4, 41, false, true, [.agg [.int .i64 0, .nil, .nil, .nil]]⟩ ∧ e 5 = .int .i64 0 ∧ e 6 = .int .i64 0 ∧
   ∃ c, AcL c ∧ CU = curL i (B.rp.drop k) c ∧ σ.ob 2 = some ⟨2, 4, 41, false, true, [.agg [.int .i64 c.fr, .list 2 (bds c.st), .list 2 (bds c.ins), .list 2 (bds c.outs)]]⟩) ?_ ?_
 ·exact ⟨(by first | rfl | (simp (disch := omega) only [go_sem, jA, jB, jC, jD, jE, jF, jG, jH, jI, jJ, ↓reduceIte, reduceCtorEq, jP, jO, jM, jN]; try rfl)), by try simp (disch := omega) only [go_sem, jA, jB, jC, jD, jE, jF, jG, jH, jI, jJ, ↓reduceIte, reduceCtorEq, jO, jM, jN, jK, jL], (by first | rfl | (simp (disch := omega) only [go_sem, jA, jB, jC, jD, jE, jF, jG, jH, jI, jJ, ↓reduceIte, reduceCtorEq, jP, jO, jM, jN]; try rfl)), (by first | rfl | (simp (disch := omega) only [go_sem, jA, jB, jC, jD, jE, jF, jG, jH, jI, jJ, ↓reduceIte, reduceCtorEq, jP, jO, jM, jN]; try rfl)), a, haL, hcu, by try simp (disch := omega) only [go_sem, jA, jB, jC, jD, jE, jF, jG, jH, jI, jJ, ↓reduceIte, reduceCtorEq, jO, jM, jN, jK, jL]⟩
 clear hcu hT
 rintro k fe ob m cc hk hm2 ⟨h35, u1, h5, h6, c, hcL, hcu, u2⟩
 simp (maxSteps := 1000000) only [go_sem, jA, jB, jC, jD, jE, jF, jG, jH, jI, jJ, ↓reduceIte, reduceCtorEq, jP] at h35 u1 h5 h6 u2 hm2
 try simp (disch := omega) only [go_sem, jA, jB, jC, jD, jE, jF, jG, jH, jI, jJ, ↓reduceIte, reduceCtorEq, jO, jM, jN, jK, jL, h35]
 have z1 : ¬ 1 = m := by omega
 have z2 : ¬ 2 = m := by omega
 have z1a : ¬ 1 = m + 1 := by omega
 have z2a : ¬ 2 = m + 1 := by omega
 have zm : ¬ m = m + 1 := by omega
 refine cond_d (fun hlt => ?_) (fun hge => ?_)
 ·have hkl : k < B.rp.length := by omega
  have e2 := gR_get hkl
  have hr := hro _ (List.mem_of_getElem? e2)
  rw [drop_cons hkl] at hcu
  have f1 := hr.a.fd
  have t0 := hr.a.t0
  have hF := ok_ledger_Fix c hcL (gR B.rp k).fd (gR B.rp k).tm (gR B.rp k).b (by omega) (by
   have := hr.a.t1
   have hac := h.ao _ (List.mem_of_getElem? (gA_get (l := B.op) (i := (gR B.rp k).ac.toNat) (by have := hr.a1; have := hr.a0; omega)))
   have h1 := hac.f0
   have h2 := hac.f1
   have h3 := hac.n2
   have h4 := fld_len hac hr.a.fd
   rw [h4] at this
   split at this <;> omega)
  generalize gR B.rp k = r at *
  simp only [acv, bdv] at hF
  try simp (disch := omega) only [go_sem, jA, jB, jC, jD, jE, jF, jG, jH, jI, jJ, ↓reduceIte, reduceCtorEq, jO, jM, jN, jK, jL, h35, rps_length, rps_get, e2, Option.map_some, rpv]
  refine ⟨by omega, by omega, ?_⟩
  refine cond_n (fun hne => ?_) (fun heq => ?_)
  ·try simp (disch := omega) only [go_sem, jA, jB, jC, jD, jE, jF, jG, jH, jI, jJ, ↓reduceIte, reduceCtorEq, jO, jM, jN, jK, jL, h35]
   rw [curL, if_neg hne] at hcu
   refine up_nextG (m + 1) hkl (by omega) ⟨(by first | rfl | (simp (disch := omega) only [go_sem, jA, jB, jC, jD, jE, jF, jG, jH, jI, jJ, ↓reduceIte, reduceCtorEq, jP, jO, jM, jN]; try rfl)), ?_, ?_, ?_, c, hcL, hcu, ?_⟩
   rotate_left
   ·try simp (disch := omega) only [go_sem, jA, jB, jC, jD, jE, jF, jG, jH, jI, jJ, ↓reduceIte, reduceCtorEq, jO, jM, jN, jK, jL, h5]
   ·try simp (disch := omega) only [go_sem, jA, jB, jC, jD, jE, jF, jG, jH, jI, jJ, ↓reduceIte, reduceCtorEq, jO, jM, jN, jK, jL, h6]
   rotate_left
   ·try simp (disch := omega) only [go_sem, jA, jB, jC, jD, jE, jF, jG, jH, jI, jJ, ↓reduceIte, reduceCtorEq, jO, jM, jN, jK, jL, St.trunc, z1, u1]
   ·try simp (disch := omega) only [go_sem, jA, jB, jC, jD, jE, jF, jG, jH, jI, jJ, ↓reduceIte, reduceCtorEq, jO, jM, jN, jK, jL, St.trunc, z2, u2]
  ·try simp (disch := omega) only [go_sem, jA, jB, jC, jD, jE, jF, jG, jH, jI, jJ, ↓reduceIte, reduceCtorEq, jO, jM, jN, jK, jL, z2, u2]
   rw [curL, if_pos heq] at hcu
   refine call_pc hF (by simp [go_sem, bds_pur]) ?_
   try simp (disch := omega) only [go_sem, jA, jB, jC, jD, jE, jF, jG, jH, jI, jJ, ↓reduceIte, reduceCtorEq, jO, jM, jN, jK, jL]
   refine cond_n (fun hbad => ?_) (fun hgood => ?_)
   ·rw [if_neg hbad] at hcu
    try simp (disch := omega) only [go_sem, jA, jB, jC, jD, jE, jF, jG, jH, jI, jJ, ↓reduceIte, reduceCtorEq, jO, jM, jN, jK, jL, zm, z1, z1a, u1]
    rw [hcu]
    exact Pub.tu (.cons (Pub.ag (.cons (.pure rfl) (.cons (.nl 2) (.cons (.nl 2) (.cons (.nl 2) .nil))))) (.cons (.pure rfl) (.cons (.pure rfl) .nil)))
   ·rw [if_pos hgood] at hcu
    try simp (disch := omega) only [go_sem, jA, jB, jC, jD, jE, jF, jG, jH, jI, jJ, ↓reduceIte, reduceCtorEq, jO, jM, jN, jK, jL, h35, z2, z2a, u2]
    refine up_nextG (m + 1 + 1) hkl (by omega) ⟨(by first | rfl | (simp (disch := omega) only [go_sem, jA, jB, jC, jD, jE, jF, jG, jH, jI, jJ, ↓reduceIte, reduceCtorEq, jP, jO, jM, jN]; try rfl)), ?_, ?_, ?_, _, fixS_l hcL _ _ _, hcu, ?_⟩
    rotate_left
    ·try simp (disch := omega) only [go_sem, jA, jB, jC, jD, jE, jF, jG, jH, jI, jJ, ↓reduceIte, reduceCtorEq, jO, jM, jN, jK, jL, h5]
    ·try simp (disch := omega) only [go_sem, jA, jB, jC, jD, jE, jF, jG, jH, jI, jJ, ↓reduceIte, reduceCtorEq, jO, jM, jN, jK, jL, h6]
    rotate_left
    ·try simp (disch := omega) only [go_sem, jA, jB, jC, jD, jE, jF, jG, jH, jI, jJ, ↓reduceIte, reduceCtorEq, jO, jM, jN, jK, jL, St.trunc, z1, z1a, u1]
    ·try simp (disch := omega) only [go_sem, jA, jB, jC, jD, jE, jF, jG, jH, jI, jJ, ↓reduceIte, reduceCtorEq, jO, jM, jN, jK, jL, St.trunc, z2, z2a, u2]
 ·try simp (disch := omega) only [go_sem, jA, jB, jC, jD, jE, jF, jG, jH, jI, jJ, ↓reduceIte, reduceCtorEq, jO, jM, jN, jK, jL, u1, u2]
  obtain rfl : B.rp.length = k := by omega
  rw [List.drop_length] at hcu
  rw [hcu]
  exact Pub.tu (.cons (.pure (acv_pur c)) (.cons (.pure rfl) (.cons (.pure rfl) .nil)))
theorem ok_revision_Tight (B : Bk) (h : BkOK B) (i : Nat) (hi : i < B.op.length) : PC prog n_revision_Tight [bkv B, .int .i64 i] (.tuple [acv (tigS B i).1, .int .i64 (tigS B i).2]) := by
 have hC := ok_revision_Current B h i hi
 have hcl : AcL (curS B i).1 := curL_l _ (h.acc hi).l
 have ht : tigS B i = if (curS B i).2.2 ≠ 0 then (acZ, (curS B i).2.2) else tightS (curS B i).1 := rfl
 have hT := ok_ledger_Tighten (curS B i).1 hcl
 generalize tigS B i = TG at *
 generalize curS B i = CU at *
 simp only [bkv, acv] at hC hT
 refine PC_of_body b_revision_Tight (by simp) ?_
 simp only [c_revision_Tight, go_sem, jA, jB, jC, jD, jE, jF, jG, jH, jI, jJ, ↓reduceIte, reduceCtorEq, jP, bkv]
 refine call_pc hC (by simp [go_sem, acs_pur, rps_pur]) ?_
 try simp (disch := omega) only [go_sem, jA, jB, jC, jD, jE, jF, jG, jH, jI, jJ, ↓reduceIte, reduceCtorEq, jO, jM, jN, jK, jL]
 refine cond_n (fun hbad => ?_) (fun hok => ?_)
 ·rw [if_pos hbad] at ht
  subst ht
  try simp (disch := omega) only [go_sem, jA, jB, jC, jD, jE, jF, jG, jH, jI, jJ, ↓reduceIte, reduceCtorEq, jO, jM, jN, jK, jL]
  exact Pub.tu (.cons (Pub.ag (.cons (.pure rfl) (.cons (.nl 2) (.cons (.nl 2) (.cons (.nl 2) .nil))))) (.cons (.pure rfl) .nil))
 ·rw [if_neg (by simp [hok])] at ht
  subst ht
  try simp (disch := omega) only [go_sem, jA, jB, jC, jD, jE, jF, jG, jH, jI, jJ, ↓reduceIte, reduceCtorEq, jO, jM, jN, jK, jL]
  refine call_pc hT (by simp [go_sem, bds_pur]) ?_
  try simp (disch := omega) only [go_sem, jA, jB, jC, jD, jE, jF, jG, jH, jI, jJ, ↓reduceIte, reduceCtorEq, jO, jM, jN, jK, jL]
  exact Pub.tu (.cons (.pure (acv_pur (tightS CU.1).1)) (.cons (.pure rfl) .nil))
theorem ok_ref31_fits (op : List Ac) (r : Rp) (hop : ∀ a ∈ op, AcOK a) (h : RpOK op r) : PC prog n_ref31_fits [.list 4 (acs op), rpv r] (.int .i64 0) := by
 obtain ⟨i, hi⟩ : ∃ i : Nat, r.ac = i := ⟨r.ac.toNat, by have := h.a0; omega⟩
 have hil : i < op.length := by have := h.a1; omega
 have e1 := gA_get hil
 have ha := hop _ (List.mem_of_getElem? e1)
 have hr := h.a
 rw [hi, Int.toNat_natCast] at hr
 have h1 := ha.n1
 have h2 := ha.n2
 have h3 := ha.f0
 have h4 := ha.f1
 have hfl := fld_len ha hr.fd
 have t0 := hr.t0
 have t1 := hr.t1
 rw [hfl] at t1
 obtain ⟨b0, b1, b2⟩ := hr.b
 simp only [mxV] at b2
 have hfd := hr.fd
 have g1 := h.n1
 have g2 := h.n2
 generalize gA op i = a at *
 obtain ⟨nu, ac, fd, tm, b⟩ := r
 simp only at hi t0 t1 b0 b1 b2 hfd g1 g2
 subst hi
 refine PC_of_body b_ref31_fits (by simp) ?_
 simp only [c_ref31_fits, go_sem, jA, jB, jC, jD, jE, jF, jG, jH, jI, jJ, ↓reduceIte, reduceCtorEq, jP, rpv]
 have q1 : ¬ ((i : Int) < 0) := by omega
 have q2 : ¬ ((op.length : Int) ≤ (i : Int)) := by omega
 have q3 : ¬ (nu < 1) := by omega
 have q4 : ¬ (1073741824 < nu) := by omega
 have q5 : ¬ (tm < a.fr) := by omega
 have q6 : ¬ (b.lo < 0) := by omega
 have q7 : ¬ (274877906944 < b.hi) := by omega
 have q8 : ¬ (b.hi < b.lo) := by omega
 have q10 : ¬ (274877906944 < b.lo) := by omega
 have q11 : ¬ (b.hi < 0) := by omega
 try simp (disch := omega) only [go_sem, jA, jB, jC, jD, jE, jF, jG, jH, jI, jJ, ↓reduceIte, reduceCtorEq, jO, jM, jN, jK, jL, acs_length, q1, q2, q3, q4, decide_false, acs_get, e1, Option.map_some, acv, bds_length]
 refine ⟨by omega, by omega, ?_⟩
 rcases hfd with rfl | rfl | rfl
 ·rw [if_pos rfl] at t1
  have q9 : ¬ (a.fr + ((a.ins.length : Int) + 1) ≤ tm) := by omega
  try simp (disch := omega) only [go_sem, jA, jB, jC, jD, jE, jF, jG, jH, jI, jJ, ↓reduceIte, reduceCtorEq, jO, jM, jN, jK, jL, q5, q6, q7, q8, q9, q10, q11, decide_false, decide_true]
  exact Pub.of_eq rfl rfl
 ·rw [if_neg (by omega)] at t1
  have q9 : ¬ (a.fr + (a.ins.length : Int) ≤ tm) := by omega
  try simp (disch := omega) only [go_sem, jA, jB, jC, jD, jE, jF, jG, jH, jI, jJ, ↓reduceIte, reduceCtorEq, jO, jM, jN, jK, jL, q5, q6, q7, q8, q9, q10, q11, decide_false, decide_true]
  exact Pub.of_eq rfl rfl
 ·rw [if_neg (by omega)] at t1
  have q9 : ¬ (a.fr + (a.ins.length : Int) ≤ tm) := by omega
  try simp (disch := omega) only [go_sem, jA, jB, jC, jD, jE, jF, jG, jH, jI, jJ, ↓reduceIte, reduceCtorEq, jO, jM, jN, jK, jL, q5, q6, q7, q8, q9, q10, q11, decide_false, decide_true]
  exact Pub.of_eq rfl rfl
theorem ok_ref31_Check (B : Bk) (h : BkOK B) : PC prog n_ref31_Check [bkv B] (.int .i64 0) := by
 have hm := h.m
 have hn := h.n
 refine PC_of_body b_ref31_Check (by simp) ?_
 simp only [c_ref31_Check, go_sem, jA, jB, jC, jD, jE, jF, jG, jH, jI, jJ, ↓reduceIte, reduceCtorEq, jP, bkv]
 try simp (disch := omega) only [go_sem, jA, jB, jC, jD, jE, jF, jG, jH, jI, jJ, ↓reduceIte, reduceCtorEq, jO, jM, jN, jK, jL, acs_length]
 refine cond_d (fun hgt => by omega) (fun hle => ?_)
 try simp (disch := omega) only [go_sem, jA, jB, jC, jD, jE, jF, jG, jH, jI, jJ, ↓reduceIte, reduceCtorEq, jO, jM, jN, jK, jL, acs_length]
 refine awp_upG [2, 4, 5, 16, 17, 18, 19, 20, 21, 22, 23, 24, 25] (by kernel_rfl) B.op.length (fun k e σ => e 16 = .int .i64 k ∧ σ.ob 0 = some ⟨0, 2, 30, false, true, [.agg [.list 4 (acs B.op), .list 6 (rps B.rp)]]⟩) ?_ ?_
 ·exact ⟨(by first | rfl | (simp (disch := omega) only [go_sem, jA, jB, jC, jD, jE, jF, jG, jH, jI, jJ, ↓reduceIte, reduceCtorEq, jP, jO, jM, jN]; try rfl)), by try simp (disch := omega) only [go_sem, jA, jB, jC, jD, jE, jF, jG, jH, jI, jJ, ↓reduceIte, reduceCtorEq, jO, jM, jN, jK, jL]⟩
 rintro k fe ob m c hk hm1 ⟨h16, u0⟩
 simp (maxSteps := 1000000) only [go_sem, jA, jB, jC, jD, jE, jF, jG, jH, jI, jJ, ↓reduceIte, reduceCtorEq, jP] at h16 u0 hm1
 try simp (disch := omega) only [go_sem, jA, jB, jC, jD, jE, jF, jG, jH, jI, jJ, ↓reduceIte, reduceCtorEq, jO, jM, jN, jK, jL, h16]
 refine cond_d (fun hlt => ?_) (fun hge => ?_)
 ·have hkl : k < B.op.length := by omega
  have e1 := gA_get hkl
  have ha := h.acc hkl
  have hC := ok_ref30_Check (gA B.op k) ha.l
  rw [chk_ok.2 ha] at hC
  have z0 : ¬ 0 = m := by omega
  generalize gA B.op k = a at *
  try simp (disch := omega) only [go_sem, jA, jB, jC, jD, jE, jF, jG, jH, jI, jJ, ↓reduceIte, reduceCtorEq, jO, jM, jN, jK, jL, h16, acs_length, acs_get, e1, Option.map_some, acv]
  refine ⟨by omega, by omega, ?_⟩
  simp only [acv] at hC
  refine call_pc hC (by simp [go_sem, bds_pur]) ?_
  try simp (disch := omega) only [go_sem, jA, jB, jC, jD, jE, jF, jG, jH, jI, jJ, ↓reduceIte, reduceCtorEq, jO, jM, jN, jK, jL, h16]
  refine up_nextG (m + 1) hkl (by omega) ⟨(by first | rfl | (simp (disch := omega) only [go_sem, jA, jB, jC, jD, jE, jF, jG, jH, jI, jJ, ↓reduceIte, reduceCtorEq, jP, jO, jM, jN]; try rfl)), ?_⟩
  try simp (disch := omega) only [go_sem, jA, jB, jC, jD, jE, jF, jG, jH, jI, jJ, ↓reduceIte, reduceCtorEq, jO, jM, jN, jK, jL, St.trunc, z0, u0]
 try simp (disch := omega) only [go_sem, jA, jB, jC, jD, jE, jF, jG, jH, jI, jJ, ↓reduceIte, reduceCtorEq, jO, jM, jN, jK, jL, u0, rps_length]
 refine cond_d (fun hgt => by omega) (fun hle => ?_)
 try simp (disch := omega) only [go_sem, jA, jB, jC, jD, jE, jF, jG, jH, jI, jJ, ↓reduceIte, reduceCtorEq, jO, jM, jN, jK, jL, u0, rps_length]
 refine awp_upG [2, 6, 7, 8, 33, 34, 35, 36, 37, 38, 39, 40, 41, 42, 43, 44, 45, 46, 47, 48, 49, 50, 51, 52, 53, 54, 55, 56, 57, 58, 59, 60, 61, 62, 63, 64, 65, 66, 67] (by kernel_rfl) B.rp.length (fun k e σ => e 33 = .int .i64 k ∧ σ.ob 0 = some ⟨0, 2, 30, false, true, [.agg [.list 4 (acs B.op), .list 6 (rps B.rp)]]⟩) ?_ ?_
 ·exact ⟨(by first | rfl | (simp (disch := omega) only [go_sem, jA, jB, jC, jD, jE, jF, jG, jH, jI, jJ, ↓reduceIte, reduceCtorEq, jP, jO, jM, jN]; try rfl)), by try simp (disch := omega) only [go_sem, jA, jB, jC, jD, jE, jF, jG, jH, jI, jJ, ↓reduceIte, reduceCtorEq, jO, jM, jN, jK, jL, u0]⟩
 clear u0 h16
 rintro k fe ob m c hk hm2 ⟨h20, u0⟩
 simp (maxSteps := 1000000) only [go_sem, jA, jB, jC, jD, jE, jF, jG, jH, jI, jJ, ↓reduceIte, reduceCtorEq, jP] at h20 u0 hm2
 try simp (disch := omega) only [go_sem, jA, jB, jC, jD, jE, jF, jG, jH, jI, jJ, ↓reduceIte, reduceCtorEq, jO, jM, jN, jK, jL, h20]
 refine cond_d (fun hlt => ?_) (fun hge => ?_)
 ·have hkl : k < B.rp.length := by omega
  have e1 := gR_get hkl
  have hr := h.ro _ (List.mem_of_getElem? e1)
  have hR := ok_ref31_fits B.op (gR B.rp k) h.ao hr
  have z0 : ¬ 0 = m := by omega
  have q3 : ¬ ((gR B.rp k).nu < 1) := by have := hr.n1; omega
  have q4 : ¬ (1073741824 < (gR B.rp k).nu) := by have := hr.n2; omega
  simp only [rpv] at hR
  try simp (disch := omega) only [go_sem, jA, jB, jC, jD, jE, jF, jG, jH, jI, jJ, ↓reduceIte, reduceCtorEq, jO, jM, jN, jK, jL, h20, rps_length, rps_get, e1, Option.map_some, rpv, q3, q4, decide_false]
  refine ⟨by omega, by omega, ?_⟩
  rcases Nat.eq_zero_or_pos k with rfl | hk0
  ·try simp (disch := omega) only [go_sem, jA, jB, jC, jD, jE, jF, jG, jH, jI, jJ, ↓reduceIte, reduceCtorEq, jO, jM, jN, jK, jL, z0, u0]
   refine call_pc hR (by simp [go_sem, acs_pur]) ?_
   try simp (disch := omega) only [go_sem, jA, jB, jC, jD, jE, jF, jG, jH, jI, jJ, ↓reduceIte, reduceCtorEq, jO, jM, jN, jK, jL, h20]
   refine up_nextG (m + 1) hkl (by omega) ⟨(by first | rfl | (simp (disch := omega) only [go_sem, jA, jB, jC, jD, jE, jF, jG, jH, jI, jJ, ↓reduceIte, reduceCtorEq, jP, jO, jM, jN]; try rfl)), ?_⟩
   try simp (disch := omega) only [go_sem, jA, jB, jC, jD, jE, jF, jG, jH, jI, jJ, ↓reduceIte, reduceCtorEq, jO, jM, jN, jK, jL, St.trunc, z0, u0]
  ·have e2 := gR_get (l := B.rp) (i := k - 1) (by omega)
   have hlt2 := pw_get h.asc (show k - 1 < k by omega) e2 e1
   have q1 : (0 : Int) < (k : Int) := by omega
   have q2 : ((k : Int) - 1).toNat = k - 1 := by omega
   have q5 : ¬ (gR B.rp k).nu ≤ (gR B.rp (k - 1)).nu := by omega
   try simp (disch := omega) only [go_sem, jA, jB, jC, jD, jE, jF, jG, jH, jI, jJ, ↓reduceIte, reduceCtorEq, jO, jM, jN, jK, jL, z0, u0, q1, decide_true, q2, rps_length, rps_get, e2, Option.map_some, rpv, q5, decide_false]
   refine ⟨by omega, by omega, ?_⟩
   refine call_pc hR (by simp [go_sem, acs_pur]) ?_
   try simp (disch := omega) only [go_sem, jA, jB, jC, jD, jE, jF, jG, jH, jI, jJ, ↓reduceIte, reduceCtorEq, jO, jM, jN, jK, jL, h20]
   refine up_nextG (m + 1) hkl (by omega) ⟨(by first | rfl | (simp (disch := omega) only [go_sem, jA, jB, jC, jD, jE, jF, jG, jH, jI, jJ, ↓reduceIte, reduceCtorEq, jP, jO, jM, jN]; try rfl)), ?_⟩
   try simp (disch := omega) only [go_sem, jA, jB, jC, jD, jE, jF, jG, jH, jI, jJ, ↓reduceIte, reduceCtorEq, jO, jM, jN, jK, jL, St.trunc, z0, u0]
 ·try simp (disch := omega) only [go_sem, jA, jB, jC, jD, jE, jF, jG, jH, jI, jJ, ↓reduceIte, reduceCtorEq, jO, jM, jN, jK, jL]
  exact Pub.of_eq rfl rfl
theorem pc_ref30_Copy (a : Ac) (h : AcOK a) : PC prog n_ref30_Copy [acv a] (acv a) := by
 have h1 := h.n2
 have h2 := h.no
 have h3 := h.ns
 have h4 := h.n1
 have hc := hc_ref30_Copy St.empty a (by omega) (by omega) (by omega) (by intro e; rw [e] at h3; simp at h3) (by intro e; rw [e] at h4; simp at h4) (by intro e; rw [e] at h2; simp at h2; omega)
 refine PC_of_HC b_ref30_Copy (hc.mono ?_)
 rintro r τ ⟨o1, o2, o3, rfl, hO, -⟩
 exact Pub.ag (.cons (.pure rfl) (.cons (Pub.of_sl hO.h1 (by rw [bds_length]) (bds_pur _) (bds_ok _)) (.cons (Pub.of_sl hO.h2 (by rw [bds_length]) (bds_pur _) (bds_ok _)) (.cons (Pub.of_sl hO.h3 (by rw [bds_length]) (bds_pur _) (bds_ok _)) .nil))))
theorem ok_ref31_Copy (B : Bk) (h : BkOK B) : PC prog n_ref31_Copy [bkv B] (bkv B) := by
 have hm := h.m
 have hn := h.n
 refine PC_of_body b_ref31_Copy (by simp) ?_
 simp only [c_ref31_Copy, go_sem, jA, jB, jC, jD, jE, jF, jG, jH, jI, jJ, ↓reduceIte, reduceCtorEq, jP, bkv]
 try simp (disch := omega) only [go_sem, jA, jB, jC, jD, jE, jF, jG, jH, jI, jJ, ↓reduceIte, reduceCtorEq, jO, jM, jN, jK, jL, acs_length]
 refine awp_upG [3, 5, 9, 10, 11, 12, 13, 14, 15, 16, 17, 18] (by kernel_rfl) B.op.length (fun k e σ => e 9 = .int .i64 k ∧ σ.ob 0 = some ⟨0, 2, 30, false, true, [.agg [.list 4 (acs B.op), .list 6 (rps B.rp)]]⟩ ∧ σ.ob 1 = some ⟨1, 2, 30, false, true, [.agg [.nil, .nil]]⟩ ∧
   SlR 4 41 σ (acs (B.op.take k)) (e 3) ∧ Oth (e 3) 0 ∧ Oth (e 3) 1) ?_ ?_
 ·exact ⟨(by first | rfl | (simp (disch := omega) only [go_sem, jA, jB, jC, jD, jE, jF, jG, jH, jI, jJ, ↓reduceIte, reduceCtorEq, jP, jO, jM, jN]; try rfl)), by try simp (disch := omega) only [go_sem, jA, jB, jC, jD, jE, jF, jG, jH, jI, jJ, ↓reduceIte, reduceCtorEq, jO, jM, jN, jK, jL], by try simp (disch := omega) only [go_sem, jA, jB, jC, jD, jE, jF, jG, jH, jI, jJ, ↓reduceIte, reduceCtorEq, jO, jM, jN, jK, jL], by try simp (disch := omega) only [go_sem, jA, jB, jC, jD, jE, jF, jG, jH, jI, jJ, ↓reduceIte, reduceCtorEq, jO, jM, jN, jK, jL]; exact SlR.nil, by try simp (disch := omega) only [go_sem, jA, jB, jC, jD, jE, jF, jG, jH, jI, jJ, ↓reduceIte, reduceCtorEq, jO, jM, jN, jK, jL]; exact Oth.nil _, by try simp (disch := omega) only [go_sem, jA, jB, jC, jD, jE, jF, jG, jH, jI, jJ, ↓reduceIte, reduceCtorEq, jO, jM, jN, jK, jL]; exact Oth.nil _⟩
 rintro k fe ob m c hk hm1 ⟨h9, u0, u1, hR, o0, o1⟩
 simp (maxSteps := 1000000) only [go_sem, jA, jB, jC, jD, jE, jF, jG, jH, jI, jJ, ↓reduceIte, reduceCtorEq, jP] at h9 u0 u1 hR o0 o1 hm1
 obtain ⟨X, h3⟩ : ∃ X, fe 3 = X := ⟨_, rfl⟩
 rw [h3] at hR o0 o1
 try simp (disch := omega) only [go_sem, jA, jB, jC, jD, jE, jF, jG, jH, jI, jJ, ↓reduceIte, reduceCtorEq, jO, jM, jN, jK, jL, h9]
 have z0 : ¬ 0 = m := by omega
 have z1 : ¬ 1 = m := by omega
 refine cond_d (fun hlt => ?_) (fun hge => ?_)
 ·have hkl : k < B.op.length := by omega
  have e1 := gA_get hkl
  have ha := h.acc hkl
  have hC := pc_ref30_Copy (gA B.op k) ha
  have htk : B.op.take (k + 1) = B.op.take k ++ [gA B.op k] := by rw [List.take_add_one, e1]; rfl
  generalize gA B.op k = a at *
  simp only [acv] at hC
  try simp (disch := omega) only [go_sem, jA, jB, jC, jD, jE, jF, jG, jH, jI, jJ, ↓reduceIte, reduceCtorEq, jO, jM, jN, jK, jL, h9, acs_length, acs_get, e1, Option.map_some, acv]
  refine ⟨by omega, by omega, ?_⟩
  refine call_pc hC (by simp [go_sem, bds_pur]) ?_
  try simp (disch := omega) only [go_sem, jA, jB, jC, jD, jE, jF, jG, jH, jI, jJ, ↓reduceIte, reduceCtorEq, jO, jM, jN, jK, jL, h3]
  have hlen : (acs (B.op.take k)).length ≤ 16 := by rw [acs_length, List.length_take]; omega
  refine app_slr (b := 80) (hR.move (by simp only; omega) fun i hi _ => by
   simp only at hi ⊢
   rw [upd_ne _ _ _ _ (by omega), upd_ne _ _ _ _ (by omega)]) (by omega) (by omega) fun X2 τ2 hR2 hK2 => ?_
  have hn2 := hK2.1
  have r0 := hK2.2.1 0 (by simp only; omega) o0
  have r1 := hK2.2.1 1 (by simp only; omega) o1
  have p0 := hK2.2.2 0 (by simp only; omega) o0
  have p1 := hK2.2.2 1 (by simp only; omega) o1
  simp only at r0 r1 hn2
  try simp (disch := omega) only [go_sem, jA, jB, jC, jD, jE, jF, jG, jH, jI, jJ, ↓reduceIte, reduceCtorEq, jO, jM, jN, jK, jL, z0, u0] at r0
  try simp (disch := omega) only [go_sem, jA, jB, jC, jD, jE, jF, jG, jH, jI, jJ, ↓reduceIte, reduceCtorEq, jO, jM, jN, jK, jL, z1, u1] at r1
  try simp (disch := omega) only [go_sem, jA, jB, jC, jD, jE, jF, jG, jH, jI, jJ, ↓reduceIte, reduceCtorEq, jO, jM, jN, jK, jL, h9]
  refine up_nextG τ2.n hkl (by omega) ⟨(by first | rfl | (simp (disch := omega) only [go_sem, jA, jB, jC, jD, jE, jF, jG, jH, jI, jJ, ↓reduceIte, reduceCtorEq, jP, jO, jM, jN]; try rfl)), ?_, ?_, ?_, ?_, ?_⟩
  ·simp only [St.trunc]; rw [if_pos (by omega)]; exact r0
  ·simp only [St.trunc]; rw [if_pos (by omega)]; exact r1
  ·try simp (disch := omega) only [go_sem, jA, jB, jC, jD, jE, jF, jG, jH, jI, jJ, ↓reduceIte, reduceCtorEq, jO, jM, jN, jK, jL]
   rw [htk, show acs (B.op.take k ++ [a]) = acs (B.op.take k) ++ [.agg [.int .i64 a.fr, .list 2 (bds a.st), .list 2 (bds a.ins), .list 2 (bds a.outs)]] by simp [acs, acv]]
   exact hR2.move (Nat.le_refl _) fun i hi _ => by simp [St.trunc, hi]
  ·try simp (disch := omega) only [go_sem, jA, jB, jC, jD, jE, jF, jG, jH, jI, jJ, ↓reduceIte, reduceCtorEq, jO, jM, jN, jK, jL]
   exact p0
  ·try simp (disch := omega) only [go_sem, jA, jB, jC, jD, jE, jF, jG, jH, jI, jJ, ↓reduceIte, reduceCtorEq, jO, jM, jN, jK, jL]
   exact p1
 ·try simp (disch := omega) only [go_sem, jA, jB, jC, jD, jE, jF, jG, jH, jI, jJ, ↓reduceIte, reduceCtorEq, jO, jM, jN, jK, jL, h3, u0, u1, hR.one, hR.flat, hR.cells]
  obtain rfl : B.op.length = k := by omega
  rw [List.take_length] at hR
  refine app_slrs (b := 48) (σ := ⟨ob, m, c⟩) (L := []) SlR.nil (by simp only [List.length_nil, rps_length]; omega) (by simp only [List.length_nil, rps_length]; omega) fun Y τ hY hKY => ?_
  rw [List.nil_append] at hY
  have hnY := hKY.1
  have r1 := hKY.2.1 1 (by simp only; omega) (Oth.nil _)
  have hR' := hR.move hKY.1 fun i hi _ => hKY.2.1 i hi (Oth.nil _)
  have hY1 := hKY.2.2 1 (by simp only; omega) (Oth.nil _)
  simp only at r1 hnY
  rw [u1] at r1
  try simp (disch := omega) only [go_sem, jA, jB, jC, jD, jE, jF, jG, jH, jI, jJ, ↓reduceIte, reduceCtorEq, jO, jM, jN, jK, jL, hR'.one, hR'.flat, hR'.cells, hY.one, hY.flat, hY.cells, r1, St.put]
  refine Pub.ag (.cons (hR'.pub (fun i hi hno => ?_) (acs_pur _) (acs_ok _)) (.cons (hY.pub (fun i hi hno => ?_) (rps_pur _) (rps_ok _)) .nil))
  ·have : ¬ i = 1 := fun e => hno (e ▸ o1)
   simp only
   rw [upd_ne _ _ _ _ this]
  ·have : ¬ i = 1 := fun e => hno (e ▸ hY1)
   simp only
   rw [upd_ne _ _ _ _ this]
theorem rp_neb (a b : Rp) (h : a.nu = b.nu) : (!(decide (a.ac = b.ac) && (decide (a.fd = b.fd) && (decide (a.tm = b.tm) && (decide (a.b.lo = b.b.lo) && decide (a.b.hi = b.b.hi)))))) = decide (a ≠ b) := by
 obtain ⟨_, _, _, _, ⟨_, _⟩⟩ := a
 obtain ⟨_, _, _, _, ⟨_, _⟩⟩ := b
 simp only at h
 subst h
 rw [Bool.eq_iff_iff]
 simp
theorem ok_ref31_File (B : Bk) (h : BkOK B) (r : Rp) (hr : RpOK B.op r) : PC prog n_ref31_File [bkv B, rpv r] (.tuple [bkv (fileS B r).1, .int .i64 (fileS B r).2]) := by
 have hm := h.m
 have hC := ok_ref31_Check B h
 have hR := ok_ref31_fits B.op r h.ao hr
 have hP := ok_ref31_Copy B h
 have hasc := h.asc
 have hbs : ∀ k, k ≤ B.rp.length → (∀ j, j < k → (gR B.rp j).nu < r.nu) → (k < B.rp.length → ¬ (gR B.rp k).nu < r.nu) → bsI (nus B.rp) r.nu = k := fun k hk h1 h2 =>
  bsI_eq _ _ k (by simpa using hk) (fun j hj y hy => by
   obtain ⟨q, hq, rfl⟩ := nus_get.1 hy
   have := h1 j hj
   rw [gR_get (by omega)] at hq
   obtain rfl := Option.some.inj hq
   omega) (fun j hj y hy => by
   obtain ⟨q, hq, rfl⟩ := nus_get.1 hy
   have hjl := (List.getElem?_eq_some_iff.1 hq).1
   have h3 := h2 (by omega)
   rcases Nat.eq_or_lt_of_le hj with rfl | h4
   ·rw [gR_get (by omega)] at hq
    obtain rfl := Option.some.inj hq
    omega
   ·have := pw_get hasc h4 (gR_get (by omega)) hq
    omega)
 have hfs : fileS B r = if (nus B.rp)[bsI (nus B.rp) r.nu]? = some r.nu then (if gR B.rp (bsI (nus B.rp) r.nu) = r then (B, 0) else (bkZ, 46))
  else if B.rp.length = 4096 then (bkZ, 10) else (⟨B.op, B.rp.take (bsI (nus B.rp) r.nu) ++ r :: B.rp.drop (bsI (nus B.rp) r.nu)⟩, 0) := rfl
 generalize fileS B r = FS at *
 simp only [bkv, rpv] at hC hR hP
 refine PC_of_body b_ref31_File (by simp) ?_
 simp only [c_ref31_File, go_sem, jA, jB, jC, jD, jE, jF, jG, jH, jI, jJ, ↓reduceIte, reduceCtorEq, jP, bkv, rpv]
 refine call_pc hC (by simp [go_sem, acs_pur, rps_pur]) ?_
 try simp (disch := omega) only [go_sem, jA, jB, jC, jD, jE, jF, jG, jH, jI, jJ, ↓reduceIte, reduceCtorEq, jO, jM, jN, jK, jL]
 refine call_pc hR (by simp [go_sem, acs_pur]) ?_
 try simp (disch := omega) only [go_sem, jA, jB, jC, jD, jE, jF, jG, jH, jI, jJ, ↓reduceIte, reduceCtorEq, jO, jM, jN, jK, jL]
 refine call_pc hP (by simp [go_sem, acs_pur, rps_pur]) ?_
 try simp (disch := omega) only [go_sem, jA, jB, jC, jD, jE, jF, jG, jH, jI, jJ, ↓reduceIte, reduceCtorEq, jO, jM, jN, jK, jL]
 refine awp_upG [8, 24, 25, 26, 27, 28, 29, 30, 31, 32, 33, 34, 35, 36, 37, 38, 39, 40, 41] (by kernel_rfl) B.rp.length (fun k e σ => e 8 = .int .i64 k ∧ σ.ob 0 = some ⟨0, 2, 30, false, true, [.agg [.list 4 (acs B.op), .list 6 (rps B.rp)]]⟩ ∧ σ.ob 1 = some ⟨1, 6, 37, false, true, [rpv r]⟩ ∧
   σ.ob 2 = some ⟨2, 2, 30, false, true, [.agg [.nil, .nil]]⟩ ∧ σ.ob 3 = some ⟨3, 2, 30, false, true, [.agg [.list 4 (acs B.op), .list 6 (rps B.rp)]]⟩ ∧ ∀ j, j < k → (gR B.rp j).nu < r.nu) ?_ ?_
 ·exact ⟨(by first | rfl | (simp (disch := omega) only [go_sem, jA, jB, jC, jD, jE, jF, jG, jH, jI, jJ, ↓reduceIte, reduceCtorEq, jP, jO, jM, jN]; try rfl)), by try simp (disch := omega) only [go_sem, jA, jB, jC, jD, jE, jF, jG, jH, jI, jJ, ↓reduceIte, reduceCtorEq, jO, jM, jN, jK, jL], by try simp (disch := omega) only [go_sem, jA, jB, jC, jD, jE, jF, jG, jH, jI, jJ, ↓reduceIte, reduceCtorEq, jO, jM, jN, jK, jL, rpv], by try simp (disch := omega) only [go_sem, jA, jB, jC, jD, jE, jF, jG, jH, jI, jJ, ↓reduceIte, reduceCtorEq, jO, jM, jN, jK, jL], by try simp (disch := omega) only [go_sem, jA, jB, jC, jD, jE, jF, jG, jH, jI, jJ, ↓reduceIte, reduceCtorEq, jO, jM, jN, jK, jL], fun j hj => by omega⟩
 rintro k fe ob m cc hk hm2 ⟨h8, u0, u1, u2, u3, hj⟩
 simp (maxSteps := 1000000) only [go_sem, jA, jB, jC, jD, jE, jF, jG, jH, jI, jJ, ↓reduceIte, reduceCtorEq, jP, rpv] at h8 u0 u1 u2 u3 hm2
 try simp (disch := omega) only [go_sem, jA, jB, jC, jD, jE, jF, jG, jH, jI, jJ, ↓reduceIte, reduceCtorEq, jO, jM, jN, jK, jL, h8, u0, u1, rps_length]
 by_cases hkl : k < B.rp.length
 ·have q1 : (k : Int) < (B.rp.length : Int) := by omega
  have e1 := gR_get hkl
  by_cases hle : (gR B.rp k).nu < r.nu
  ·try simp (disch := omega) only [go_sem, jA, jB, jC, jD, jE, jF, jG, jH, jI, jJ, ↓reduceIte, reduceCtorEq, jO, jM, jN, jK, jL, h8, u0, u1, q1, decide_true, rps_length, rps_get, e1, Option.map_some, rpv, hle]
   refine ⟨by omega, ?_⟩
   refine up_nextG m hkl (by omega) ⟨(by first | rfl | (simp (disch := omega) only [go_sem, jA, jB, jC, jD, jE, jF, jG, jH, jI, jJ, ↓reduceIte, reduceCtorEq, jP, jO, jM, jN]; try rfl)), ?_, ?_, ?_, ?_, fun j hj2 => ?_⟩
   ·try simp (disch := omega) only [go_sem, jA, jB, jC, jD, jE, jF, jG, jH, jI, jJ, ↓reduceIte, reduceCtorEq, jO, jM, jN, jK, jL, St.trunc, u0]
   ·try simp (disch := omega) only [go_sem, jA, jB, jC, jD, jE, jF, jG, jH, jI, jJ, ↓reduceIte, reduceCtorEq, jO, jM, jN, jK, jL, St.trunc, u1, rpv]
   ·try simp (disch := omega) only [go_sem, jA, jB, jC, jD, jE, jF, jG, jH, jI, jJ, ↓reduceIte, reduceCtorEq, jO, jM, jN, jK, jL, St.trunc, u2]
   ·try simp (disch := omega) only [go_sem, jA, jB, jC, jD, jE, jF, jG, jH, jI, jJ, ↓reduceIte, reduceCtorEq, jO, jM, jN, jK, jL, St.trunc, u3]
   ·rcases (by omega : j < k ∨ j = k) with h9 | rfl
    ·exact hj j h9
    ·exact hle
  ·have hb := hbs k (by omega) hj (fun _ => hle)
   rw [hb] at hfs
   by_cases hq : (gR B.rp k).nu = r.nu
   ·rw [if_pos (nus_get.2 ⟨_, e1, hq⟩)] at hfs
    have hqd : decide ((gR B.rp k).nu = r.nu) = true := decide_eq_true hq
    try simp (disch := omega) only [go_sem, jA, jB, jC, jD, jE, jF, jG, jH, jI, jJ, ↓reduceIte, reduceCtorEq, jO, jM, jN, jK, jL, h8, u0, u1, q1, decide_true, rps_length, rps_get, e1, Option.map_some, rpv, hle, hqd, decide_false]
    refine ⟨by omega, by omega, by omega, ?_⟩
    rw [rp_neb _ _ hq]
    refine cond_d (fun hne => ?_) (fun heq => ?_)
    ·rw [if_neg hne] at hfs
     try simp (disch := omega) only [go_sem, jA, jB, jC, jD, jE, jF, jG, jH, jI, jJ, ↓reduceIte, reduceCtorEq, jO, jM, jN, jK, jL, u2]
     rw [hfs]
     exact Pub.tu (.cons (Pub.ag (.cons (.nl 4) (.cons (.nl 6) .nil))) (.cons (.pure rfl) .nil))
    ·rw [if_pos (Classical.not_not.1 heq)] at hfs
     try simp (disch := omega) only [go_sem, jA, jB, jC, jD, jE, jF, jG, jH, jI, jJ, ↓reduceIte, reduceCtorEq, jO, jM, jN, jK, jL, u2, u3]
     rw [hfs]
     exact Pub.tu (.cons (.pure (bkv_pur B)) (.cons (.pure rfl) .nil))
   ·rw [if_neg (fun h9 => by obtain ⟨q, h10, h11⟩ := nus_get.1 h9; rw [e1] at h10; obtain rfl := Option.some.inj h10; exact hq h11)] at hfs
    try simp (disch := omega) only [go_sem, jA, jB, jC, jD, jE, jF, jG, jH, jI, jJ, ↓reduceIte, reduceCtorEq, jO, jM, jN, jK, jL, h8, u0, u1, q1, decide_true, rps_length, rps_get, e1, Option.map_some, rpv, hle, hq, decide_false]
    refine ⟨by omega, by omega, ?_⟩
    refine cond_d (fun hfull => ?_) (fun hroom => ?_)
    ·rw [if_pos (by omega)] at hfs
     try simp (disch := omega) only [go_sem, jA, jB, jC, jD, jE, jF, jG, jH, jI, jJ, ↓reduceIte, reduceCtorEq, jO, jM, jN, jK, jL, u2]
     rw [hfs]
     exact Pub.tu (.cons (Pub.ag (.cons (.nl 4) (.cons (.nl 6) .nil))) (.cons (.pure rfl) .nil))
    ·rw [if_neg (by omega)] at hfs
     try simp (disch := omega) only [go_sem, jA, jB, jC, jD, jE, jF, jG, jH, jI, jJ, ↓reduceIte, reduceCtorEq, jO, jM, jN, jK, jL, h8, u0, u1, rps_length, rpv]
     refine ⟨by omega, by omega, by omega, by omega, ?_⟩
     refine app_slrs (b := 48) (σ := ⟨ob, m, cc⟩) (L := []) SlR.nil (by simp only [List.length_nil, List.length_take, rps_length]; omega) (by simp only [List.length_nil, List.length_take, rps_length]; omega) fun Y1 τ1 hY1 hK1 => ?_
     rw [List.nil_append] at hY1
     have hn1 := hK1.1
     have f1 : ∀ j, j < 4 → τ1.ob j = ob j := fun j hj => hK1.2.1 j (by simp only; omega) (Oth.nil _)
     have o1 : ∀ j, j < 4 → Oth Y1 j := fun j hj => hK1.2.2 j (by simp only; omega) (Oth.nil _)
     simp only at hn1
     try simp (disch := omega) only [go_sem, jA, jB, jC, jD, jE, jF, jG, jH, jI, jJ, ↓reduceIte, reduceCtorEq, jO, jM, jN, jK, jL]
     refine ⟨⟨f1 0 (by omega), f1 1 (by omega)⟩, ?_⟩
     have hl1 : (List.take k (rps B.rp)).length ≤ 4096 := by rw [List.length_take, rps_length]; omega
     refine app_slr (b := 48) hY1 (by omega) (by omega) fun Y2 τ2 hY2 hK2 => ?_
     have hn2 := hK2.1
     have f2 : ∀ j, j < 4 → τ2.ob j = ob j := fun j hj => (hK2.2.1 j (by omega) (o1 j hj)).trans (f1 j hj)
     have o2 : ∀ j, j < 4 → Oth Y2 j := fun j hj => hK2.2.2 j (by omega) (o1 j hj)
     try simp (disch := omega) only [go_sem, jA, jB, jC, jD, jE, jF, jG, jH, jI, jJ, ↓reduceIte, reduceCtorEq, jO, jM, jN, jK, jL]
     refine ⟨hK2.2.1 0 (by omega) (o1 0 (by omega)), ?_⟩
     refine app_slrs (b := 48) hY2 (by simp only [List.length_append, List.length_take, List.length_drop, rps_length, List.length_cons, List.length_nil]; omega) (by simp only [List.length_append, List.length_take, List.length_drop, rps_length, List.length_cons, List.length_nil]; omega) fun Y3 τ3 hY3 hK3 => ?_
     have hn3 := hK3.1
     have f3 : ∀ j, j < 4 → τ3.ob j = ob j := fun j hj => (hK3.2.1 j (by omega) (o2 j hj)).trans (f2 j hj)
     have o3 : ∀ j, j < 4 → Oth Y3 j := fun j hj => hK3.2.2 j (by omega) (o2 j hj)
     have g2 := f3 2 (by omega)
     have g3 := f3 3 (by omega)
     rw [u2] at g2
     rw [u3] at g3
     try simp (disch := omega) only [go_sem, jA, jB, jC, jD, jE, jF, jG, jH, jI, jJ, ↓reduceIte, reduceCtorEq, jO, jM, jN, jK, jL, hY3.one, hY3.flat, hY3.cells, g2, g3, St.put]
     rw [hfs]
     rw [show List.take k (rps B.rp) ++ [.agg [.int .i64 r.nu, .int .i64 r.ac, .int .i64 r.fd, .int .i64 r.tm, .int .i64 r.b.lo, .int .i64 r.b.hi]] ++ List.drop k (rps B.rp) = rps (B.rp.take k ++ r :: B.rp.drop k) by simp [rps, rpv]] at hY3
     refine Pub.tu (.cons (Pub.ag (.cons (.pure (by simp [go_sem, acs_pur])) (.cons (hY3.pub (fun i hi hno => ?_) (rps_pur _) (rps_ok _)) .nil))) (.cons (.pure rfl) .nil))
     have z2 : ¬ i = 2 := fun e => hno (e ▸ o3 2 (by omega))
     have z3 : ¬ i = 3 := fun e => hno (e ▸ o3 3 (by omega))
     simp [upd, z2, z3]
 ·have q1 : ¬ (k : Int) < (B.rp.length : Int) := by omega
  have hb := hbs k (by omega) hj (fun h => absurd h hkl)
  rw [hb, if_neg (fun h9 => by have := (List.getElem?_eq_some_iff.1 h9).1; rw [List.length_map] at this; exact hkl this)] at hfs
  try simp (disch := omega) only [go_sem, jA, jB, jC, jD, jE, jF, jG, jH, jI, jJ, ↓reduceIte, reduceCtorEq, jO, jM, jN, jK, jL, h8, u0, u1, q1, decide_false, rps_length]
  refine cond_d (fun hfull => ?_) (fun hroom => ?_)
  ·rw [if_pos (by omega)] at hfs
   try simp (disch := omega) only [go_sem, jA, jB, jC, jD, jE, jF, jG, jH, jI, jJ, ↓reduceIte, reduceCtorEq, jO, jM, jN, jK, jL, u2]
   rw [hfs]
   exact Pub.tu (.cons (Pub.ag (.cons (.nl 4) (.cons (.nl 6) .nil))) (.cons (.pure rfl) .nil))
  ·rw [if_neg (by omega)] at hfs
   try simp (disch := omega) only [go_sem, jA, jB, jC, jD, jE, jF, jG, jH, jI, jJ, ↓reduceIte, reduceCtorEq, jO, jM, jN, jK, jL, h8, u0, u1, rps_length, rpv]
   refine ⟨by omega, by omega, by omega, by omega, ?_⟩
   refine app_slrs (b := 48) (σ := ⟨ob, m, cc⟩) (L := []) SlR.nil (by simp only [List.length_nil, List.length_take, rps_length]; omega) (by simp only [List.length_nil, List.length_take, rps_length]; omega) fun Y1 τ1 hY1 hK1 => ?_
   rw [List.nil_append] at hY1
   have hn1 := hK1.1
   have f1 : ∀ j, j < 4 → τ1.ob j = ob j := fun j hj => hK1.2.1 j (by simp only; omega) (Oth.nil _)
   have o1 : ∀ j, j < 4 → Oth Y1 j := fun j hj => hK1.2.2 j (by simp only; omega) (Oth.nil _)
   simp only at hn1
   try simp (disch := omega) only [go_sem, jA, jB, jC, jD, jE, jF, jG, jH, jI, jJ, ↓reduceIte, reduceCtorEq, jO, jM, jN, jK, jL]
   refine ⟨⟨f1 0 (by omega), f1 1 (by omega)⟩, ?_⟩
   have hl1 : (List.take k (rps B.rp)).length ≤ 4096 := by rw [List.length_take, rps_length]; omega
   refine app_slr (b := 48) hY1 (by omega) (by omega) fun Y2 τ2 hY2 hK2 => ?_
   have hn2 := hK2.1
   have f2 : ∀ j, j < 4 → τ2.ob j = ob j := fun j hj => (hK2.2.1 j (by omega) (o1 j hj)).trans (f1 j hj)
   have o2 : ∀ j, j < 4 → Oth Y2 j := fun j hj => hK2.2.2 j (by omega) (o1 j hj)
   try simp (disch := omega) only [go_sem, jA, jB, jC, jD, jE, jF, jG, jH, jI, jJ, ↓reduceIte, reduceCtorEq, jO, jM, jN, jK, jL]
   refine ⟨hK2.2.1 0 (by omega) (o1 0 (by omega)), ?_⟩
   refine app_slrs (b := 48) hY2 (by simp only [List.length_append, List.length_take, List.length_drop, rps_length, List.length_cons, List.length_nil]; omega) (by simp only [List.length_append, List.length_take, List.length_drop, rps_length, List.length_cons, List.length_nil]; omega) fun Y3 τ3 hY3 hK3 => ?_
   have hn3 := hK3.1
   have f3 : ∀ j, j < 4 → τ3.ob j = ob j := fun j hj => (hK3.2.1 j (by omega) (o2 j hj)).trans (f2 j hj)
   have o3 : ∀ j, j < 4 → Oth Y3 j := fun j hj => hK3.2.2 j (by omega) (o2 j hj)
   have g2 := f3 2 (by omega)
   have g3 := f3 3 (by omega)
   rw [u2] at g2
   rw [u3] at g3
   try simp (disch := omega) only [go_sem, jA, jB, jC, jD, jE, jF, jG, jH, jI, jJ, ↓reduceIte, reduceCtorEq, jO, jM, jN, jK, jL, hY3.one, hY3.flat, hY3.cells, g2, g3, St.put]
   rw [hfs]
   rw [show List.take k (rps B.rp) ++ [.agg [.int .i64 r.nu, .int .i64 r.ac, .int .i64 r.fd, .int .i64 r.tm, .int .i64 r.b.lo, .int .i64 r.b.hi]] ++ List.drop k (rps B.rp) = rps (B.rp.take k ++ r :: B.rp.drop k) by simp [rps, rpv]] at hY3
   refine Pub.tu (.cons (Pub.ag (.cons (.pure (by simp [go_sem, acs_pur])) (.cons (hY3.pub (fun i hi hno => ?_) (rps_pur _) (rps_ok _)) .nil))) (.cons (.pure rfl) .nil))
   have z2 : ¬ i = 2 := fun e => hno (e ▸ o3 2 (by omega))
   have z3 : ¬ i = 3 := fun e => hno (e ▸ o3 3 (by omega))
   simp [upd, z2, z3]
theorem hc_flow_ReportG (σ : St) (id g : Nat) (t : List Int) (at' : Nat) (a : Ac) (tr : Tr) (hT : TrG a tr) (ac nu : Int) (hl : t.length ≤ 9223372036854775807) (hid : id < σ.n) (hob : σ.ob id = some ⟨g, 2, ty_Deck, false, true, [deckV t at']⟩) :
  HC prog n_flow_Report [.ptr id g 2 0 0, acv a, trv tr, .int .i64 ac, .int .i64 nu] σ (DeckR σ id g t fun r => ∃ q : Rp, r = rpv q ∧ q.nu = nu ∧ q.ac = ac ∧ RpA a q ∧ RpT a q tr ∧ q.b.hi ≤ 1000) := by
 obtain ⟨hH, hS, hI, hO, hok, bS, bI, bO⟩ := hT
 have n1 := hok.n1
 have n2 := hok.n2
 have f0 := hok.f0
 have f1 := hok.f1
 have hls := hok.ns
 have hlo := hok.no
 refine HC.deck hid ?_
 obtain ⟨ob0, n0, c0⟩ := σ
 simp only at hob hid
 refine HC_of_body b_flow_Report (by simp) ?_
 simp only [c_flow_Report, go_sem, jA, jB, jC, jD, jE, jF, jG, jH, jI, jJ, ↓reduceIte, reduceCtorEq, jP, acv, trv]
 have h0 : ¬ id = n0 := by omega
 have h1 : ¬ id = n0 + 1 := by omega
 have h2 : ¬ id = n0 + 1 + 1 := by omega
 have h3 : ¬ id = n0 + 1 + 1 + 1 := by omega
 have i0 : ¬ n0 = id := by omega
 have i1 : ¬ n0 + 1 = id := by omega
 have i2 : ¬ n0 + 1 + 1 = id := by omega
 have i3 : ¬ n0 + 1 + 1 + 1 = id := by omega
 refine call_hc (ok_mk_Deck_Next _ id g ty_Deck true t at' 3 (by try simp (disch := omega) only [go_sem, jA, jB, jC, jD, jE, jF, jG, jH, jI, jJ, ↓reduceIte, reduceCtorEq, jO, jM, jN, jK, jL, h0, h1, h2]; exact hob) (by omega) hl) ?_
 have hx1 := deckR_bd t at' 3
 generalize deckR t at' 3 = dr at *
 obtain ⟨x1, at1⟩ := dr
 simp only at hx1
 have hx : x1 = 0 ∨ x1 = 1 ∨ x1 = 2 := by omega
 rcases hx with rfl | rfl | rfl
 ·try simp (disch := omega) only [go_sem, jA, jB, jC, jD, jE, jF, jG, jH, jI, jJ, ↓reduceIte, reduceCtorEq, jO, jM, jN, jK, jL, h0, h1, h2, h3, i0, i1, i2, i3, ints_length, hS, Int.reduceAdd, Int.reduceSub]
  refine call_hc (ok_mk_Deck_Next _ id g ty_Deck true t at1 _ (by try simp (disch := omega) only [go_sem, jA, jB, jC, jD, jE, jF, jG, jH, jI, jJ, ↓reduceIte, reduceCtorEq, jO, jM, jN, jK, jL, h2, h3]) (by omega) hl) ?_
  have hx2 := deckR_bd t at1 ((a.ins.length + 1 : Nat) : Int)
  generalize deckR t at1 ((a.ins.length + 1 : Nat) : Int) = dr at *
  obtain ⟨x2, at2⟩ := dr
  simp only at hx2
  obtain ⟨Y, hY⟩ : ∃ Y : Nat, (Y : Int) = x2 ∧ Y < a.ins.length + 1 := ⟨x2.toNat, by omega, by omega⟩
  obtain ⟨rfl, hY⟩ := hY
  have e1 := get_getD (L := tr.S) (i := Y) (by omega)
  have hv : 0 ≤ tr.S.getD Y 0 ∧ tr.S.getD Y 0 ≤ 900 := by
   exact bS Y (by omega)
  have hRpT : ∀ b : Bd, arB (tr.S.getD Y 0) b → inB b (nth3 1 (fun i => tr.S.getD i 0) (fun i => tr.I.getD i 0) (fun i => tr.O.getD i 0) Y) := fun b hb => by
   simp only [nth3, if_true, if_false, Nat.reduceEqDiff]
   exact ⟨hb.2.1, hb.2.2.1⟩
  generalize tr.S.getD Y 0 = v at *
  try simp (disch := omega) only [go_sem, jA, jB, jC, jD, jE, jF, jG, jH, jI, jJ, ↓reduceIte, reduceCtorEq, jO, jM, jN, jK, jL, h0, h1, h2, h3, i0, i1, i2, i3, ints_length, hS, ints_get, e1, Option.map_some]
  refine ⟨by omega, by omega, ?_⟩
  refine (hc_flow_Bounds _ id g t at2 v hl (by simp only; omega) (by try simp (disch := omega) only [go_sem, jA, jB, jC, jD, jE, jF, jG, jH, jI, jJ, ↓reduceIte, reduceCtorEq, jO, jM, jN, jK, jL, h2, h3]) hv.1 (by omega)).mono ?_
  intro r τ hDR
  obtain ⟨⟨b, rfl, hb⟩, hn4, ⟨at4, hd4⟩, hf4⟩ := hDR.use (by simp only; omega)
  obtain ⟨ob4, m4, c4⟩ := τ
  simp only at hn4 hd4 hf4
  subst hn4
  have g2 := hf4 (n0 + 1 + 1) (by omega) i2
  have g3 := hf4 (n0 + 1 + 1 + 1) (by omega) i3
  try simp (disch := omega) only [go_sem, jA, jB, jC, jD, jE, jF, jG, jH, jI, jJ, ↓reduceIte, reduceCtorEq, jO, jM, jN, jK, jL, i0, i1, i2, i3] at g2 g3
  try simp (disch := omega) only [go_sem, jA, jB, jC, jD, jE, jF, jG, jH, jI, jJ, ↓reduceIte, reduceCtorEq, jO, jM, jN, jK, jL, bdv, g2, g3, i0, i1, i2, i3]
  have g0 := hf4 n0 (by omega) i0
  try simp (disch := omega) only [go_sem, jA, jB, jC, jD, jE, jF, jG, jH, jI, jJ, ↓reduceIte, reduceCtorEq, jO, jM, jN, jK, jL, i0] at g0
  refine ⟨g0, .agg [.int .i64 nu, .int .i64 ac, .int .i64 1, .int .i64 (a.fr + (Y : Int)), .int .i64 b.lo, .int .i64 b.hi], at4, .pure rfl, ⟨⟨nu, ac, 1, a.fr + (Y : Int), b⟩, rfl, rfl, rfl, ⟨by simp, by simp only; omega, ?_, ?_⟩, ?_, ?_⟩, ?_, fun j hj hne => ?_⟩
  ·simp [fldL]; omega
  ·have := hb; simp only [arB] at this; simp only [fitB, mxV]; omega
  ·simp only [RpT, RpH]
   rw [show (a.fr + (Y : Int) - a.fr).toNat = Y by omega]
   exact hRpT b hb
  ·have := hb; simp only [arB] at this; simp only; omega
  ·try simp (disch := omega) only [go_sem, jA, jB, jC, jD, jE, jF, jG, jH, jI, jJ, ↓reduceIte, reduceCtorEq, jO, jM, jN, jK, jL, h0, h1, h2, h3]
   exact hd4
  ·simp only at hj
   simp only
   rw [upd_ne _ _ _ _ (by omega), upd_ne _ _ _ _ (by omega), upd_ne _ _ _ _ (by omega), hf4 j (by omega) hne]
   have k0 : ¬ j = n0 := by omega
   have k1 : ¬ j = n0 + 1 := by omega
   have k2 : ¬ j = n0 + 1 + 1 := by omega
   have k3 : ¬ j = n0 + 1 + 1 + 1 := by omega
   simp only [upd, k0, k1, k2, k3, hne, if_false]
 ·try simp (disch := omega) only [go_sem, jA, jB, jC, jD, jE, jF, jG, jH, jI, jJ, ↓reduceIte, reduceCtorEq, jO, jM, jN, jK, jL, h0, h1, h2, h3, i0, i1, i2, i3, ints_length, hI, Int.reduceAdd, Int.reduceSub]
  refine call_hc (ok_mk_Deck_Next _ id g ty_Deck true t at1 _ (by try simp (disch := omega) only [go_sem, jA, jB, jC, jD, jE, jF, jG, jH, jI, jJ, ↓reduceIte, reduceCtorEq, jO, jM, jN, jK, jL, h2, h3]) (by omega) hl) ?_
  have hx2 := deckR_bd t at1 ((a.ins.length : Nat) : Int)
  generalize deckR t at1 ((a.ins.length : Nat) : Int) = dr at *
  obtain ⟨x2, at2⟩ := dr
  simp only at hx2
  obtain ⟨Y, hY⟩ : ∃ Y : Nat, (Y : Int) = x2 ∧ Y < a.ins.length := ⟨x2.toNat, by omega, by omega⟩
  obtain ⟨rfl, hY⟩ := hY
  have e1 := get_getD (L := tr.I) (i := Y) (by omega)
  have hv : 0 ≤ tr.I.getD Y 0 ∧ tr.I.getD Y 0 ≤ 900 := by
   exact bI Y (by omega)
  have hRpT : ∀ b : Bd, arB (tr.I.getD Y 0) b → inB b (nth3 2 (fun i => tr.S.getD i 0) (fun i => tr.I.getD i 0) (fun i => tr.O.getD i 0) Y) := fun b hb => by
   simp only [nth3, if_true, if_false, Nat.reduceEqDiff]
   exact ⟨hb.2.1, hb.2.2.1⟩
  generalize tr.I.getD Y 0 = v at *
  try simp (disch := omega) only [go_sem, jA, jB, jC, jD, jE, jF, jG, jH, jI, jJ, ↓reduceIte, reduceCtorEq, jO, jM, jN, jK, jL, h0, h1, h2, h3, i0, i1, i2, i3, ints_length, hI, ints_get, e1, Option.map_some]
  refine ⟨by omega, by omega, ?_⟩
  refine (hc_flow_Bounds _ id g t at2 v hl (by simp only; omega) (by try simp (disch := omega) only [go_sem, jA, jB, jC, jD, jE, jF, jG, jH, jI, jJ, ↓reduceIte, reduceCtorEq, jO, jM, jN, jK, jL, h2, h3]) hv.1 (by omega)).mono ?_
  intro r τ hDR
  obtain ⟨⟨b, rfl, hb⟩, hn4, ⟨at4, hd4⟩, hf4⟩ := hDR.use (by simp only; omega)
  obtain ⟨ob4, m4, c4⟩ := τ
  simp only at hn4 hd4 hf4
  subst hn4
  have g2 := hf4 (n0 + 1 + 1) (by omega) i2
  have g3 := hf4 (n0 + 1 + 1 + 1) (by omega) i3
  try simp (disch := omega) only [go_sem, jA, jB, jC, jD, jE, jF, jG, jH, jI, jJ, ↓reduceIte, reduceCtorEq, jO, jM, jN, jK, jL, i0, i1, i2, i3] at g2 g3
  try simp (disch := omega) only [go_sem, jA, jB, jC, jD, jE, jF, jG, jH, jI, jJ, ↓reduceIte, reduceCtorEq, jO, jM, jN, jK, jL, bdv, g2, g3, i0, i1, i2, i3]
  have g0 := hf4 n0 (by omega) i0
  try simp (disch := omega) only [go_sem, jA, jB, jC, jD, jE, jF, jG, jH, jI, jJ, ↓reduceIte, reduceCtorEq, jO, jM, jN, jK, jL, i0] at g0
  refine ⟨g0, .agg [.int .i64 nu, .int .i64 ac, .int .i64 2, .int .i64 (a.fr + (Y : Int)), .int .i64 b.lo, .int .i64 b.hi], at4, .pure rfl, ⟨⟨nu, ac, 2, a.fr + (Y : Int), b⟩, rfl, rfl, rfl, ⟨by simp, by simp only; omega, ?_, ?_⟩, ?_, ?_⟩, ?_, fun j hj hne => ?_⟩
  ·simp [fldL]; omega
  ·have := hb; simp only [arB] at this; simp only [fitB, mxV]; omega
  ·simp only [RpT, RpH]
   rw [show (a.fr + (Y : Int) - a.fr).toNat = Y by omega]
   exact hRpT b hb
  ·have := hb; simp only [arB] at this; simp only; omega
  ·try simp (disch := omega) only [go_sem, jA, jB, jC, jD, jE, jF, jG, jH, jI, jJ, ↓reduceIte, reduceCtorEq, jO, jM, jN, jK, jL, h0, h1, h2, h3]
   exact hd4
  ·simp only at hj
   simp only
   rw [upd_ne _ _ _ _ (by omega), upd_ne _ _ _ _ (by omega), upd_ne _ _ _ _ (by omega), hf4 j (by omega) hne]
   have k0 : ¬ j = n0 := by omega
   have k1 : ¬ j = n0 + 1 := by omega
   have k2 : ¬ j = n0 + 1 + 1 := by omega
   have k3 : ¬ j = n0 + 1 + 1 + 1 := by omega
   simp only [upd, k0, k1, k2, k3, hne, if_false]
 ·try simp (disch := omega) only [go_sem, jA, jB, jC, jD, jE, jF, jG, jH, jI, jJ, ↓reduceIte, reduceCtorEq, jO, jM, jN, jK, jL, h0, h1, h2, h3, i0, i1, i2, i3, ints_length, hO, Int.reduceAdd, Int.reduceSub]
  refine call_hc (ok_mk_Deck_Next _ id g ty_Deck true t at1 _ (by try simp (disch := omega) only [go_sem, jA, jB, jC, jD, jE, jF, jG, jH, jI, jJ, ↓reduceIte, reduceCtorEq, jO, jM, jN, jK, jL, h2, h3]) (by omega) hl) ?_
  have hx2 := deckR_bd t at1 ((a.ins.length : Nat) : Int)
  generalize deckR t at1 ((a.ins.length : Nat) : Int) = dr at *
  obtain ⟨x2, at2⟩ := dr
  simp only at hx2
  obtain ⟨Y, hY⟩ : ∃ Y : Nat, (Y : Int) = x2 ∧ Y < a.ins.length := ⟨x2.toNat, by omega, by omega⟩
  obtain ⟨rfl, hY⟩ := hY
  have e1 := get_getD (L := tr.O) (i := Y) (by omega)
  have hv : 0 ≤ tr.O.getD Y 0 ∧ tr.O.getD Y 0 ≤ 900 := by
   exact bO Y (by omega)
  have hRpT : ∀ b : Bd, arB (tr.O.getD Y 0) b → inB b (nth3 3 (fun i => tr.S.getD i 0) (fun i => tr.I.getD i 0) (fun i => tr.O.getD i 0) Y) := fun b hb => by
   simp only [nth3, if_true, if_false, Nat.reduceEqDiff]
   exact ⟨hb.2.1, hb.2.2.1⟩
  generalize tr.O.getD Y 0 = v at *
  try simp (disch := omega) only [go_sem, jA, jB, jC, jD, jE, jF, jG, jH, jI, jJ, ↓reduceIte, reduceCtorEq, jO, jM, jN, jK, jL, h0, h1, h2, h3, i0, i1, i2, i3, ints_length, hO, ints_get, e1, Option.map_some]
  refine ⟨by omega, by omega, ?_⟩
  refine (hc_flow_Bounds _ id g t at2 v hl (by simp only; omega) (by try simp (disch := omega) only [go_sem, jA, jB, jC, jD, jE, jF, jG, jH, jI, jJ, ↓reduceIte, reduceCtorEq, jO, jM, jN, jK, jL, h2, h3]) hv.1 (by omega)).mono ?_
  intro r τ hDR
  obtain ⟨⟨b, rfl, hb⟩, hn4, ⟨at4, hd4⟩, hf4⟩ := hDR.use (by simp only; omega)
  obtain ⟨ob4, m4, c4⟩ := τ
  simp only at hn4 hd4 hf4
  subst hn4
  have g2 := hf4 (n0 + 1 + 1) (by omega) i2
  have g3 := hf4 (n0 + 1 + 1 + 1) (by omega) i3
  try simp (disch := omega) only [go_sem, jA, jB, jC, jD, jE, jF, jG, jH, jI, jJ, ↓reduceIte, reduceCtorEq, jO, jM, jN, jK, jL, i0, i1, i2, i3] at g2 g3
  try simp (disch := omega) only [go_sem, jA, jB, jC, jD, jE, jF, jG, jH, jI, jJ, ↓reduceIte, reduceCtorEq, jO, jM, jN, jK, jL, bdv, g2, g3, i0, i1, i2, i3]
  have g0 := hf4 n0 (by omega) i0
  try simp (disch := omega) only [go_sem, jA, jB, jC, jD, jE, jF, jG, jH, jI, jJ, ↓reduceIte, reduceCtorEq, jO, jM, jN, jK, jL, i0] at g0
  refine ⟨g0, .agg [.int .i64 nu, .int .i64 ac, .int .i64 3, .int .i64 (a.fr + (Y : Int)), .int .i64 b.lo, .int .i64 b.hi], at4, .pure rfl, ⟨⟨nu, ac, 3, a.fr + (Y : Int), b⟩, rfl, rfl, rfl, ⟨by simp, by simp only; omega, ?_, ?_⟩, ?_, ?_⟩, ?_, fun j hj hne => ?_⟩
  ·simp [fldL]; omega
  ·have := hb; simp only [arB] at this; simp only [fitB, mxV]; omega
  ·simp only [RpT, RpH]
   rw [show (a.fr + (Y : Int) - a.fr).toNat = Y by omega]
   exact hRpT b hb
  ·have := hb; simp only [arB] at this; simp only; omega
  ·try simp (disch := omega) only [go_sem, jA, jB, jC, jD, jE, jF, jG, jH, jI, jJ, ↓reduceIte, reduceCtorEq, jO, jM, jN, jK, jL, h0, h1, h2, h3]
   exact hd4
  ·simp only at hj
   simp only
   rw [upd_ne _ _ _ _ (by omega), upd_ne _ _ _ _ (by omega), upd_ne _ _ _ _ (by omega), hf4 j (by omega) hne]
   have k0 : ¬ j = n0 := by omega
   have k1 : ¬ j = n0 + 1 := by omega
   have k2 : ¬ j = n0 + 1 + 1 := by omega
   have k3 : ¬ j = n0 + 1 + 1 + 1 := by omega
   simp only [upd, k0, k1, k2, k3, hne, if_false]
theorem hc_flow_Report (σ : St) (id g : Nat) (t : List Int) (at' : Nat) (a : Ac) (tr : Tr) (hT : TrA a tr) (ac nu : Int) (hl : t.length ≤ 9223372036854775807) (hid : id < σ.n) (hob : σ.ob id = some ⟨g, 2, ty_Deck, false, true, [deckV t at']⟩) :
  HC prog n_flow_Report [.ptr id g 2 0 0, acv a, trv tr, .int .i64 ac, .int .i64 nu] σ (DeckR σ id g t fun r => ∃ q : Rp, r = rpv q ∧ q.nu = nu ∧ q.ac = ac ∧ RpA a q ∧ RpT a q tr ∧ q.b.hi ≤ 1000) :=
 hc_flow_ReportG σ id g t at' a tr hT.g ac nu hl hid hob
theorem gA_snl {l : List Ac} {a : Ac} {i : Nat} (h : i < l.length) : gA (l ++ [a]) i = gA l i := by simp [gA, List.getElem?_append_left h]
theorem gA_snr {l : List Ac} {a : Ac} {i : Nat} (h : i = l.length) : gA (l ++ [a]) i = a := by subst h; simp [gA]
theorem gT_snl {l : List Tr} {a : Tr} {i : Nat} (h : i < l.length) : gT (l ++ [a]) i = gT l i := by simp [gT, List.getD_eq_getElem?_getD, List.getElem?_append_left h]
theorem gT_snr {l : List Tr} {a : Tr} {i : Nat} (h : i = l.length) : gT (l ++ [a]) i = a := by subst h; simp [gT, List.getD_eq_getElem?_getD]
theorem call_ro1 {P : Program} {σ : St} {f : Nat} {args args' : List AV} {r : AV} {K : AV → St → Prop} (d : Nat) (o : AObj) (ho : σ.ob d = some o) (h : PC P f args' r) (hp : Lent ⟨fun i => if decide (i ≠ d) then none else σ.ob i, σ.n, σ.c⟩ args args') (ha : ∀ a ∈ args', a.pur = true)
  (hK : ∀ ob', (∀ j, j ≠ d → ob' j = σ.ob j) → ob' d = some { o with ro := true } → K r ⟨ob', σ.n, σ.c⟩) : HC P f args σ K :=
 call_ro (fun i => decide (i ≠ d)) h hp ha (hK _ (fun j hj => by simp [hj]) (by simp [ho]))
theorem hc_flow_Book (σ : St) (id g : Nat) (t : List Int) (at' : Nat) (hl : t.length ≤ 9223372036854775807) (hid : id < σ.n) (hob : σ.ob id = some ⟨g, 2, ty_Deck, false, true, [deckV t at']⟩) :
  HC prog n_flow_Book [.ptr id g 2 0 0] σ (DeckR σ id g t fun r => ∃ B T, r = .tuple [bkv B, .list 3 (trs T)] ∧ TrB B T) := by
 refine HC.deck hid ?_
 obtain ⟨ob0, n0, c0⟩ := σ
 simp only at hob hid
 refine HC_of_body b_flow_Book (by simp) ?_
 simp only [c_flow_Book, go_sem, jA, jB, jC, jD, jE, jF, jG, jH, jI, jJ, ↓reduceIte, reduceCtorEq, jP]
 have h0 : ¬ id = n0 := by omega
 have i0 : ¬ n0 = id := by omega
 refine call_hc (ok_mk_Deck_Next _ id g ty_Deck true t at' 2 (by try simp (disch := omega) only [go_sem, jA, jB, jC, jD, jE, jF, jG, jH, jI, jJ, ↓reduceIte, reduceCtorEq, jO, jM, jN, jK, jL, h0]; exact hob) (by omega) hl) ?_
 have hx2 := deckR_bd t at' 2
 generalize deckR t at' 2 = dr at *
 obtain ⟨x2, at2⟩ := dr
 simp only at hx2
 try simp (disch := omega) only [go_sem, jA, jB, jC, jD, jE, jF, jG, jH, jI, jJ, ↓reduceIte, reduceCtorEq, jO, jM, jN, jK, jL, h0, i0]
 obtain ⟨K, hK⟩ : ∃ K : Nat, (K : Int) = x2 ∧ K ≤ 1 := ⟨x2.toNat, by omega, by omega⟩
 obtain ⟨rfl, hK⟩ := hK
 refine awp_upG [4, 5, 6, 7, 8, 9, 10, 18, 19, 20, 21, 22, 23, 24, 25, 26, 27, 28, 29, 30, 31, 32, 33, 34, 35, 36, 37, 38, 39] (by kernel_rfl) (K + 1) (fun k e σ => e 6 = .int .i64 ((K : Int) - k) ∧ (∃ a, σ.ob id = some ⟨g, 2, ty_Deck, false, true, [deckV t a]⟩) ∧ (∀ i, i < n0 → i ≠ id → σ.ob i = ob0 i) ∧ σ.ob n0 = some ⟨c0, 2, 30, false, true, [.agg [.nil, .nil]]⟩ ∧
   ∃ op T, op.length = k ∧ T.length = k ∧ (∀ i, i < k → TrA (gA op i) (gT T i)) ∧ SlR 4 41 σ (acs op) (e 4) ∧ SlR 3 43 σ (trs T) (e 5) ∧ (∀ i, i < n0 + 1 → Oth (e 4) i) ∧ (∀ i, i < n0 + 1 → Oth (e 5) i) ∧ Dj (e 4) (e 5)) ?_ ?_
 ·refine ⟨(by first | rfl | (simp (disch := omega) only [go_sem, jA, jB, jC, jD, jE, jF, jG, jH, jI, jJ, ↓reduceIte, reduceCtorEq, jP, jO, jM, jN]; try rfl)), ⟨at2, by try simp (disch := omega) only [go_sem, jA, jB, jC, jD, jE, jF, jG, jH, jI, jJ, ↓reduceIte, reduceCtorEq, jO, jM, jN, jK, jL, h0]⟩, fun i hi hne => ?_, ?_, [], [], rfl, rfl, fun i hi => by omega, ?_, ?_, ?_, ?_, ?_⟩
  ·have : ¬ i = n0 := by omega
   try simp (disch := omega) only [go_sem, jA, jB, jC, jD, jE, jF, jG, jH, jI, jJ, ↓reduceIte, reduceCtorEq, jO, jM, jN, jK, jL, hne, this]
  ·try simp (disch := omega) only [go_sem, jA, jB, jC, jD, jE, jF, jG, jH, jI, jJ, ↓reduceIte, reduceCtorEq, jO, jM, jN, jK, jL, i0]
  ·try simp (disch := omega) only [go_sem, jA, jB, jC, jD, jE, jF, jG, jH, jI, jJ, ↓reduceIte, reduceCtorEq, jO, jM, jN, jK, jL]
   exact SlR.nil
  ·try simp (disch := omega) only [go_sem, jA, jB, jC, jD, jE, jF, jG, jH, jI, jJ, ↓reduceIte, reduceCtorEq, jO, jM, jN, jK, jL]
   exact SlR.nil
  ·try simp (disch := omega) only [go_sem, jA, jB, jC, jD, jE, jF, jG, jH, jI, jJ, ↓reduceIte, reduceCtorEq, jO, jM, jN, jK, jL]
   exact fun i _ => Oth.nil i
  ·try simp (disch := omega) only [go_sem, jA, jB, jC, jD, jE, jF, jG, jH, jI, jJ, ↓reduceIte, reduceCtorEq, jO, jM, jN, jK, jL]
   exact fun i _ => Oth.nil i
  ·try simp (disch := omega) only [go_sem, jA, jB, jC, jD, jE, jF, jG, jH, jI, jJ, ↓reduceIte, reduceCtorEq, jO, jM, jN, jK, jL]
   exact Dj.nil _
 rintro k fe ob m c hk hm ⟨h6, ⟨at3, hd⟩, hfr, u0, op, T, hop, hT, hTr, r4, r5, o4, o5, d45⟩
 simp (maxSteps := 1000000) only [go_sem, jA, jB, jC, jD, jE, jF, jG, jH, jI, jJ, ↓reduceIte, reduceCtorEq, jP] at h6 hd hfr u0 r4 r5 o4 o5 d45 hm
 obtain ⟨X4, h4⟩ : ∃ X, fe 4 = X := ⟨_, rfl⟩
 obtain ⟨X5, h5⟩ : ∃ X, fe 5 = X := ⟨_, rfl⟩
 rw [h4] at r4 o4 d45
 rw [h5] at r5 o5 d45
 try simp (disch := omega) only [go_sem, jA, jB, jC, jD, jE, jF, jG, jH, jI, jJ, ↓reduceIte, reduceCtorEq, jO, jM, jN, jK, jL, h6]
 refine cond_d (fun hge => ?_) (fun hlt => ?_)
 ·have hkl : k < K + 1 := by omega
  try simp (disch := omega) only [go_sem, jA, jB, jC, jD, jE, jF, jG, jH, jI, jJ, ↓reduceIte, reduceCtorEq, jO, jM, jN, jK, jL]
  refine (deck_flow_Account _ id g t at3 hl (by simp only; omega) hd).mono ?_
  intro r τ hDR
  obtain ⟨⟨a, n, S, I, O, rfl, hA⟩, hn, ⟨at4, hd4⟩, hf4⟩ := hDR.use (by simp only; omega)
  obtain ⟨ob4, m4, c4⟩ := τ
  simp only at hn hd4 hf4
  subst hn
  have hacs : acs (op ++ [a]) = acs op ++ [.agg [.int .i64 a.fr, .list 2 (bds a.st), .list 2 (bds a.ins), .list 2 (bds a.outs)]] := by simp [acs, acv]
  have htrs : trs (T ++ [⟨S, I, O⟩]) = trs T ++ [.agg [.list 1 (ints S), .list 1 (ints I), .list 1 (ints O)]] := by simp [trs, trv]
  have hla : (acs op).length ≤ 2 := by rw [acs_length]; omega
  have hlt2 : (trs T).length ≤ 2 := by rw [trs_length]; omega
  try simp (disch := omega) only [go_sem, jA, jB, jC, jD, jE, jF, jG, jH, jI, jJ, ↓reduceIte, reduceCtorEq, jO, jM, jN, jK, jL, acv, h4, h5]
  have fS : ∀ i, i < m4 → i ≠ id → (upd (upd ob4 m4 (some ⟨c4, 4, 41, false, true, [.agg [.int .i64 0, .nil, .nil, .nil]]⟩)) m4 (some ⟨c4, 4, 41, false, true, [.agg [.int .i64 a.fr, .list 2 (bds a.st), .list 2 (bds a.ins), .list 2 (bds a.outs)]]⟩)) i = ob i := fun i hi hne => by
   rw [upd_ne _ _ _ _ (by omega), upd_ne _ _ _ _ (by omega)]; exact hf4 i hi hne
  have ni4 : ∀ {Y : AV} {i : Nat}, (∀ j, j < n0 + 1 → Oth Y j) → ¬ Oth Y i → i ≠ id := fun ho hno e => hno (e ▸ ho id (by omega))
  have r5S := r5.move (τ := ⟨upd (upd ob4 m4 (some ⟨c4, 4, 41, false, true, [.agg [.int .i64 0, .nil, .nil, .nil]]⟩)) m4 (some ⟨c4, 4, 41, false, true, [.agg [.int .i64 a.fr, .list 2 (bds a.st), .list 2 (bds a.ins), .list 2 (bds a.outs)]]⟩), m4 + 1, c4 + 1⟩) (by simp only; omega) fun i hi hno => fS i hi (ni4 o5 hno)
  refine app_slr (b := 80) (r4.move (by simp only; omega) fun i hi hno => fS i hi (ni4 o4 hno)) (by omega) (by omega) fun Y4 τ4 hR4 hK4 => ?_
  rw [← hacs] at hR4
  have hn4 := hK4.1
  have r5' := r5S.dj d45 hK4
  have d45' := d45.kp r5S hK4
  have p4 : ∀ i, i < n0 + 1 → Oth Y4 i := fun i hi => hK4.2.2 i (by simp only; omega) (o4 i hi)
  have q4 : ∀ i, i < n0 + 1 → τ4.ob i = ob4 i := fun i hi => by
   rw [hK4.2.1 i (by simp only; omega) (o4 i hi)]
   simp only
   rw [upd_ne _ _ _ _ (by omega), upd_ne _ _ _ _ (by omega)]
  simp only at hn4
  try simp (disch := omega) only [go_sem, jA, jB, jC, jD, jE, jF, jG, jH, jI, jJ, ↓reduceIte, reduceCtorEq, jO, jM, jN, jK, jL, h5]
  refine app_slr (b := 72) r5' (by omega) (by omega) fun Y5 τ5 hR5 hK5 => ?_
  rw [← htrs] at hR5
  have hn5 := hK5.1
  have hR4' := hR4.dj d45'.symm hK5
  have d' := (d45'.symm.kp hR4 hK5).symm
  have p5 : ∀ i, i < n0 + 1 → Oth Y5 i := fun i hi => hK5.2.2 i (by omega) (o5 i hi)
  have q5 : ∀ i, i < n0 + 1 → τ5.ob i = ob4 i := fun i hi => (hK5.2.1 i (by omega) (o5 i hi)).trans (q4 i hi)
  try simp (disch := omega) only [go_sem, jA, jB, jC, jD, jE, jF, jG, jH, jI, jJ, ↓reduceIte, reduceCtorEq, jO, jM, jN, jK, jL, h6]
  refine up_nextG τ5.n hkl (by omega) ⟨by try simp (disch := omega) only [go_sem, jA, jB, jC, jD, jE, jF, jG, jH, jI, jJ, ↓reduceIte, reduceCtorEq, jO, jM, jN, jK, jL]; congr 1; omega, ⟨at4, ?_⟩, fun i hi hne => ?_, ?_, op ++ [a], T ++ [⟨S, I, O⟩], by simp [hop], by simp [hT], fun i hi => ?_, ?_, ?_, ?_, ?_, ?_⟩
  ·simp only [St.trunc]; rw [if_pos (by omega), q5 id (by omega)]; exact hd4
  ·simp only [St.trunc]; rw [if_pos (by omega), q5 i (by omega), hf4 i (by omega) hne]; exact hfr i hi hne
  ·simp only [St.trunc]; rw [if_pos (by omega), q5 n0 (by omega), hf4 n0 (by omega) i0]; exact u0
  ·rcases Nat.lt_or_ge i k with h9 | h9
   ·rw [gA_snl (by omega), gT_snl (by omega)]; exact hTr i h9
   ·rw [gA_snr (by omega), gT_snr (by omega)]; exact ⟨n, hA⟩
  ·try simp (disch := omega) only [go_sem, jA, jB, jC, jD, jE, jF, jG, jH, jI, jJ, ↓reduceIte, reduceCtorEq, jO, jM, jN, jK, jL]
   exact hR4'.move (Nat.le_refl _) fun i hi _ => by simp [St.trunc, hi]
  ·try simp (disch := omega) only [go_sem, jA, jB, jC, jD, jE, jF, jG, jH, jI, jJ, ↓reduceIte, reduceCtorEq, jO, jM, jN, jK, jL]
   exact hR5.move (Nat.le_refl _) fun i hi _ => by simp [St.trunc, hi]
  ·try simp (disch := omega) only [go_sem, jA, jB, jC, jD, jE, jF, jG, jH, jI, jJ, ↓reduceIte, reduceCtorEq, jO, jM, jN, jK, jL]
   exact p4
  ·try simp (disch := omega) only [go_sem, jA, jB, jC, jD, jE, jF, jG, jH, jI, jJ, ↓reduceIte, reduceCtorEq, jO, jM, jN, jK, jL]
   exact p5
  ·try simp (disch := omega) only [go_sem, jA, jB, jC, jD, jE, jF, jG, jH, jI, jJ, ↓reduceIte, reduceCtorEq, jO, jM, jN, jK, jL]
   exact d'
 ·have hk1 : 1 ≤ k ∧ k ≤ 2 := by omega
  rcases r4 with ⟨-, hnil⟩ | ⟨a4, b4, rfl, ha4, w4⟩
  ·have := acs_length op; rw [hnil] at this; simp at this; omega
  rcases r5 with ⟨-, hnil⟩ | ⟨a5, b5, rfl, ha5, w5⟩
  ·have := trs_length T; rw [hnil] at this; simp at this; omega
  simp only at ha4 ha5 w4 w5
  have e4 := (o4 id (by omega)).ne
  have e5 := (o5 id (by omega)).ne
  have g4 := (o4 n0 (by omega)).ne
  have g5 := (o5 n0 (by omega)).ne
  have c45 : ¬ a4 = a5 := (d45 a5).elim (fun h => h.ne) (fun h => absurd rfl h.ne)
  have l4 : n0 < a4 := by
   rcases Nat.lt_or_ge n0 a4 with h | h
   ·exact h
   ·exact absurd rfl (o4 a4 (by omega)).ne
  have l5 : n0 < a5 := by
   rcases Nat.lt_or_ge n0 a5 with h | h
   ·exact h
   ·exact absurd rfl (o5 a5 (by omega)).ne
  clear d45 o4 o5
  rw [acs_length, hop] at h4
  rw [trs_length, hT] at h5
  have him : ¬ id = m := by omega
  have hmi : ¬ m = id := by omega
  try simp (disch := omega) only [go_sem, jA, jB, jC, jD, jE, jF, jG, jH, jI, jJ, ↓reduceIte, reduceCtorEq, jO, jM, jN, jK, jL, h4, h5]
  refine call_hc (ok_mk_Deck_Next _ id g ty_Deck true t at3 9 (by try simp (disch := omega) only [go_sem, jA, jB, jC, jD, jE, jF, jG, jH, jI, jJ, ↓reduceIte, reduceCtorEq, jO, jM, jN, jK, jL, him]; exact hd) (by omega) hl) ?_
  have hx3 := deckR_bd t at3 9
  generalize deckR t at3 9 = dr at *
  obtain ⟨x3, at5⟩ := dr
  simp only at hx3
  try simp (disch := omega) only [go_sem, jA, jB, jC, jD, jE, jF, jG, jH, jI, jJ, ↓reduceIte, reduceCtorEq, jO, jM, jN, jK, jL]
  obtain ⟨K2, hK2⟩ : ∃ K2 : Nat, (K2 : Int) = x3 ∧ K2 ≤ 8 := ⟨x3.toNat, by omega, by omega⟩
  obtain ⟨rfl, hK2⟩ := hK2
  have jn : ¬ n0 = m := by omega
  have j4 : ¬ a4 = m := by omega
  have j5 : ¬ a5 = m := by omega
  have jm4 : ¬ m = a4 := by omega
  have hao : ∀ a ∈ op, AcOK a := fun a hm2 => by
   obtain ⟨i, hi⟩ := List.getElem?_of_mem hm2
   have hil := (List.getElem?_eq_some_iff.1 hi).1
   have := (hTr i (by omega)).hi.2.2.2.2
   rw [gA_get hil] at hi
   obtain rfl := Option.some.inj hi
   exact this
  have hB0 : TrB ⟨op, []⟩ T := ⟨⟨by simp only; omega, hao, by simp, by simp, fun r hr => by simp at hr⟩, by simp only; omega, by simp only; omega, by simp only; omega, fun i hi => hTr i (by simp only at hi; omega), fun r hr => by simp at hr, fun r hr => by simp at hr⟩
  refine awp_upG [12, 13, 14, 15, 44, 45, 46, 47, 48, 49, 50, 51, 52, 53, 54, 55, 56, 57, 58, 59, 60, 61, 62, 63, 64, 65, 66, 67, 68, 69, 70, 71, 72, 73] (by kernel_rfl) K2 (fun r e σ => e 12 = .int .i64 ((K2 : Int) - r) ∧ (∃ a, σ.ob id = some ⟨g, 2, ty_Deck, false, true, [deckV t a]⟩) ∧ (∀ i, i < n0 → i ≠ id → σ.ob i = ob0 i) ∧ σ.ob n0 = some ⟨c0, 2, 30, false, true, [.agg [.nil, .nil]]⟩ ∧
   (∃ ro4, σ.ob a4 = some ⟨b4, 4, 41, ro4, true, acs op⟩) ∧ σ.ob a5 = some ⟨b5, 3, 43, false, true, trs T⟩ ∧
   ∃ rp XO XR, σ.ob m = some ⟨c, 2, 30, false, true, [.agg [XO, XR]]⟩ ∧ TrB ⟨op, rp⟩ T ∧ ((XO = .sl a4 b4 4 0 k ∧ XR = .nil ∧ rp = []) ∨ (XO = .list 4 (acs op) ∧ XR = .list 6 (rps rp)))) ?_ ?_
  ·refine ⟨(by first | rfl | (simp (disch := omega) only [go_sem, jA, jB, jC, jD, jE, jF, jG, jH, jI, jJ, ↓reduceIte, reduceCtorEq, jP, jO, jM, jN]; try rfl)), ⟨at5, by try simp (disch := omega) only [go_sem, jA, jB, jC, jD, jE, jF, jG, jH, jI, jJ, ↓reduceIte, reduceCtorEq, jO, jM, jN, jK, jL]⟩, fun i hi hne => ?_, ?_, ⟨false, ?_⟩, ?_, [], .sl a4 b4 4 0 k, .nil, ?_, hB0, .inl ⟨rfl, rfl, rfl⟩⟩
   ·have : ¬ i = m := by omega
    try simp (disch := omega) only [go_sem, jA, jB, jC, jD, jE, jF, jG, jH, jI, jJ, ↓reduceIte, reduceCtorEq, jO, jM, jN, jK, jL, hne, this]
    exact hfr i hi hne
   ·try simp (disch := omega) only [go_sem, jA, jB, jC, jD, jE, jF, jG, jH, jI, jJ, ↓reduceIte, reduceCtorEq, jO, jM, jN, jK, jL, i0, jn]
    exact u0
   ·try simp (disch := omega) only [go_sem, jA, jB, jC, jD, jE, jF, jG, jH, jI, jJ, ↓reduceIte, reduceCtorEq, jO, jM, jN, jK, jL, e4, j4]
    exact w4
   ·try simp (disch := omega) only [go_sem, jA, jB, jC, jD, jE, jF, jG, jH, jI, jJ, ↓reduceIte, reduceCtorEq, jO, jM, jN, jK, jL, e5, j5]
    exact w5
   ·try simp (disch := omega) only [go_sem, jA, jB, jC, jD, jE, jF, jG, jH, jI, jJ, ↓reduceIte, reduceCtorEq, jO, jM, jN, jK, jL, hmi]
  clear hd hfr u0 w4 w5 h6
  rintro r fe2 ob2 m2 c2 hr hm2 ⟨h12, ⟨at6, hd⟩, hfr, u0, ⟨ro4, w4⟩, w5, rp, XO, XR, um, hTB, hX⟩
  simp (maxSteps := 1000000) only [go_sem, jA, jB, jC, jD, jE, jF, jG, jH, jI, jJ, ↓reduceIte, reduceCtorEq, jP] at h12 hd hfr u0 w4 w5 um hm2
  have hXo : XO.flat = true ∧ XO.cells = [XO] ∧ XO.one = true ∧ XR.flat = true ∧ XR.cells = [XR] ∧ XR.one = true := by
   rcases hX with ⟨rfl, rfl, _⟩ | ⟨rfl, rfl⟩ <;> exact ⟨rfl, rfl, rfl, rfl, rfl, rfl⟩
  obtain ⟨x1f, x1c, x1o, x2f, x2c, x2o⟩ := hXo
  try simp (disch := omega) only [go_sem, jA, jB, jC, jD, jE, jF, jG, jH, jI, jJ, ↓reduceIte, reduceCtorEq, jO, jM, jN, jK, jL, h12]
  refine cond_d (fun hgt => ?_) (fun hle => ?_)
  ·have hrl : r < K2 := by omega
   try simp (disch := omega) only [go_sem, jA, jB, jC, jD, jE, jF, jG, jH, jI, jJ, ↓reduceIte, reduceCtorEq, jO, jM, jN, jK, jL]
   refine call_hc (ok_mk_Deck_Next _ id g ty_Deck true t at6 _ hd (by omega) hl) ?_
   have hx7 := deckR_bd t at6 (k : Int)
   generalize deckR t at6 (k : Int) = dr at *
   obtain ⟨x7, at7⟩ := dr
   simp only at hx7
   obtain ⟨i, hi⟩ : ∃ i : Nat, (i : Int) = x7 ∧ i < k := ⟨x7.toNat, by omega, by omega⟩
   obtain ⟨rfl, hi⟩ := hi
   have eA := gA_get (l := op) (i := i) (by omega)
   have eT := gT_get (l := T) (i := i) (by omega)
   have hTi := hTr i hi
   try simp (disch := omega) only [go_sem, jA, jB, jC, jD, jE, jF, jG, jH, jI, jJ, ↓reduceIte, reduceCtorEq, jO, jM, jN, jK, jL, e4, e5, hmi, w4, w5, um, x1f, x1c, x1o, x2f, x2c, x2o, acs_length, trs_length, acs_get, trs_get, eA, eT, Option.map_some, hop, hT, acv, trv]
   refine ⟨by omega, by omega, by omega, by omega, ?_⟩
   refine call_hc (ok_mk_Deck_Next _ id g ty_Deck true t at7 20 (by try simp (disch := omega) only [go_sem, jA, jB, jC, jD, jE, jF, jG, jH, jI, jJ, ↓reduceIte, reduceCtorEq, jO, jM, jN, jK, jL]) (by omega) hl) ?_
   have hx8 := deckR_bd t at7 20
   generalize deckR t at7 20 = dr at *
   obtain ⟨x8, at8⟩ := dr
   simp only at hx8
   try simp (disch := omega) only [go_sem, jA, jB, jC, jD, jE, jF, jG, jH, jI, jJ, ↓reduceIte, reduceCtorEq, jO, jM, jN, jK, jL, e4, e5, hmi]
   refine (hc_flow_Report _ id g t at8 (gA op i) (gT T i) hTi i (1 + x8) hl (by simp only; omega) (by try simp (disch := omega) only [go_sem, jA, jB, jC, jD, jE, jF, jG, jH, jI, jJ, ↓reduceIte, reduceCtorEq, jO, jM, jN, jK, jL])).mono ?_
   intro r' τ hDR
   obtain ⟨⟨q, rfl, q1, q2, q3, q4, q5⟩, hn9, ⟨at9, hd9⟩, hf9⟩ := hDR.use (by simp only; omega)
   obtain ⟨ob9, m9, c9⟩ := τ
   simp only at hn9 hd9 hf9
   subst hn9
   have v4 := hf9 a4 (by omega) e4
   have v5 := hf9 a5 (by omega) e5
   have vm := hf9 m (by omega) hmi
   have v0 := hf9 n0 (by omega) i0
   try simp (disch := omega) only [go_sem, jA, jB, jC, jD, jE, jF, jG, jH, jI, jJ, ↓reduceIte, reduceCtorEq, jO, jM, jN, jK, jL, e4, w4] at v4
   try simp (disch := omega) only [go_sem, jA, jB, jC, jD, jE, jF, jG, jH, jI, jJ, ↓reduceIte, reduceCtorEq, jO, jM, jN, jK, jL, e5, w5] at v5
   try simp (disch := omega) only [go_sem, jA, jB, jC, jD, jE, jF, jG, jH, jI, jJ, ↓reduceIte, reduceCtorEq, jO, jM, jN, jK, jL, hmi, um] at vm
   try simp (disch := omega) only [go_sem, jA, jB, jC, jD, jE, jF, jG, jH, jI, jJ, ↓reduceIte, reduceCtorEq, jO, jM, jN, jK, jL, i0, u0] at v0
   try simp (disch := omega) only [go_sem, jA, jB, jC, jD, jE, jF, jG, jH, jI, jJ, ↓reduceIte, reduceCtorEq, jO, jM, jN, jK, jL, v4, v5, vm, w4, w5, um, e4, e5, hmi]
   have hqOK : RpOK op q := ⟨by omega, by omega, by omega, by omega, by rw [q2, Int.toNat_natCast]; exact q3⟩
   have hF := ok_ref31_File ⟨op, rp⟩ hTB.ok q hqOK
   have hFA := fun h0 => file_any hTB.ok hqOK h0
   generalize fileS ⟨op, rp⟩ q = FS at *
   refine call_ro1 a4 _ v4 hF (.cons (Pub.ag (.cons ?_ (.cons ?_ .nil))) (.cons (.pure (by simp [go_sem, rpv])) .nil)) (by simp [bkv, rpv, go_sem, acs_pur, rps_pur]) fun ob10 F F4 => ?_
   ·rcases hX with ⟨rfl, _, _⟩ | ⟨rfl, _⟩
    ·refine Pub.of_sl (ty := 41) (ro := ro4) (ap := true) ?_ (by rw [acs_length, hop]) (acs_pur _) (acs_ok _)
     simp
     exact v4
    ·exact .pure (by simp [go_sem, acs_pur])
   ·rcases hX with ⟨_, rfl, rfl⟩ | ⟨_, rfl⟩
    ·exact .nl 6
    ·exact .pure (by simp [go_sem, rps_pur])
   simp only at F F4
   have t5 := (F a5 (fun e => c45 e.symm)).trans v5
   have tm := (F m jm4).trans vm
   have t0 := (F n0 (fun e => g4 e.symm)).trans v0
   have ti := (F id (fun e => e4 e.symm)).trans hd9
   have y4 : ¬ a4 = m9 := by omega
   have y5 : ¬ a5 = m9 := by omega
   have ym : ¬ m = m9 := by omega
   have y0 : ¬ n0 = m9 := by omega
   have yi : ¬ id = m9 := by omega
   try simp (disch := omega) only [go_sem, jA, jB, jC, jD, jE, jF, jG, jH, jI, jJ, ↓reduceIte, reduceCtorEq, jO, jM, jN, jK, jL, bkv]
   refine cond_d (fun hz => ?_) (fun hnz => ?_)
   ·try simp (disch := omega) only [go_sem, jA, jB, jC, jD, jE, jF, jG, jH, jI, jJ, ↓reduceIte, reduceCtorEq, jO, jM, jN, jK, jL, ym, tm, h12]
    obtain ⟨z1, z2, z3⟩ := hFA hz
    have z4 : FS.1 = ⟨op, FS.1.rp⟩ := by
     obtain ⟨⟨zo, zr⟩, zz⟩ := FS
     simp only at z2 ⊢
     rw [z2]
    have hTB2 : TrB ⟨op, FS.1.rp⟩ T := ⟨by rw [← z4]; exact z1, hTB.n1, hTB.n2, hTB.len, hTB.tr, fun p hp => by
      rcases (z3 p).1 hp with h9 | rfl
      ·exact hTB.rt p h9
      ·simp only; rw [q2, Int.toNat_natCast]; exact q4, fun p hp => by
      rcases (z3 p).1 hp with h9 | rfl
      ·exact hTB.nu p h9
      ·omega⟩
    refine up_nextG (m9 + 1) hrl (by omega) ⟨by try simp (disch := omega) only [go_sem, jA, jB, jC, jD, jE, jF, jG, jH, jI, jJ, ↓reduceIte, reduceCtorEq, jO, jM, jN, jK, jL]; congr 1; omega, ⟨at9, ?_⟩, fun j hj hne => ?_, ?_, ⟨true, ?_⟩, ?_, FS.1.rp, _, _, ?_, hTB2, .inr ⟨rfl, rfl⟩⟩
    ·try simp (disch := omega) only [go_sem, jA, jB, jC, jD, jE, jF, jG, jH, jI, jJ, ↓reduceIte, reduceCtorEq, jO, jM, jN, jK, jL, St.trunc, yi, him, ti]
    ·have : ¬ j = m9 := by omega
     have : ¬ j = m := by omega
     simp only [St.trunc]
     rw [if_pos (by omega), upd_ne _ _ _ _ (by omega), upd_ne _ _ _ _ (by omega), upd_ne _ _ _ _ (by omega), F j (by omega), hf9 j (by omega) hne, upd_ne _ _ _ _ hne, upd_ne _ _ _ _ hne]
     exact hfr j hj hne
    ·try simp (disch := omega) only [go_sem, jA, jB, jC, jD, jE, jF, jG, jH, jI, jJ, ↓reduceIte, reduceCtorEq, jO, jM, jN, jK, jL, St.trunc, y0, jn, t0]
    ·try simp (disch := omega) only [go_sem, jA, jB, jC, jD, jE, jF, jG, jH, jI, jJ, ↓reduceIte, reduceCtorEq, jO, jM, jN, jK, jL, St.trunc, y4, j4, F4]
    ·try simp (disch := omega) only [go_sem, jA, jB, jC, jD, jE, jF, jG, jH, jI, jJ, ↓reduceIte, reduceCtorEq, jO, jM, jN, jK, jL, St.trunc, y5, j5, t5]
    ·try simp (disch := omega) only [go_sem, jA, jB, jC, jD, jE, jF, jG, jH, jI, jJ, ↓reduceIte, reduceCtorEq, jO, jM, jN, jK, jL, St.trunc, ym, z2]
   ·try simp (disch := omega) only [go_sem, jA, jB, jC, jD, jE, jF, jG, jH, jI, jJ, ↓reduceIte, reduceCtorEq, jO, jM, jN, jK, jL, h12]
    refine up_nextG (m9 + 1) hrl (by omega) ⟨by try simp (disch := omega) only [go_sem, jA, jB, jC, jD, jE, jF, jG, jH, jI, jJ, ↓reduceIte, reduceCtorEq, jO, jM, jN, jK, jL]; congr 1; omega, ⟨at9, ?_⟩, fun j hj hne => ?_, ?_, ⟨true, ?_⟩, ?_, rp, XO, XR, ?_, hTB, hX⟩
    ·try simp (disch := omega) only [go_sem, jA, jB, jC, jD, jE, jF, jG, jH, jI, jJ, ↓reduceIte, reduceCtorEq, jO, jM, jN, jK, jL, St.trunc, yi, ti]
    ·have : ¬ j = m9 := by omega
     simp only [St.trunc]
     rw [if_pos (by omega), upd_ne _ _ _ _ this, upd_ne _ _ _ _ this, F j (by omega), hf9 j (by omega) hne, upd_ne _ _ _ _ hne, upd_ne _ _ _ _ hne]
     exact hfr j hj hne
    ·try simp (disch := omega) only [go_sem, jA, jB, jC, jD, jE, jF, jG, jH, jI, jJ, ↓reduceIte, reduceCtorEq, jO, jM, jN, jK, jL, St.trunc, y0, t0]
    ·try simp (disch := omega) only [go_sem, jA, jB, jC, jD, jE, jF, jG, jH, jI, jJ, ↓reduceIte, reduceCtorEq, jO, jM, jN, jK, jL, St.trunc, y4, F4]
    ·try simp (disch := omega) only [go_sem, jA, jB, jC, jD, jE, jF, jG, jH, jI, jJ, ↓reduceIte, reduceCtorEq, jO, jM, jN, jK, jL, St.trunc, y5, t5]
    ·try simp (disch := omega) only [go_sem, jA, jB, jC, jD, jE, jF, jG, jH, jI, jJ, ↓reduceIte, reduceCtorEq, jO, jM, jN, jK, jL, St.trunc, ym, tm]
  ·try simp (disch := omega) only [go_sem, jA, jB, jC, jD, jE, jF, jG, jH, jI, jJ, ↓reduceIte, reduceCtorEq, jO, jM, jN, jK, jL, um, u0]
   refine ⟨by rw [x1o, x2o]; rfl, .tuple [bkv ⟨op, rp⟩, .list 3 (trs T)], at6, Pub.tu (.cons (Pub.ag (.cons ?_ (.cons ?_ .nil))) (.cons ?_ .nil)), ⟨⟨op, rp⟩, T, rfl, hTB⟩, ?_, fun j hj hne => ?_⟩
   ·rcases hX with ⟨rfl, _, _⟩ | ⟨rfl, _⟩
    ·have y1 : ¬ a4 < n0 := by omega
     refine Pub.of_sl (ty := 41) (ro := ro4) (ap := true) ?_ (by rw [acs_length, hop]) (acs_pur _) (acs_ok _)
     simp only
     rw [if_neg y1, upd_ne _ _ _ _ g4]
     exact w4
    ·exact .pure (by simp [go_sem, acs_pur])
   ·rcases hX with ⟨_, rfl, rfl⟩ | ⟨_, rfl⟩
    ·exact .nl 6
    ·exact .pure (by simp [go_sem, rps_pur])
   ·have y1 : ¬ a5 < n0 := by omega
    refine Pub.of_sl (ty := 43) (ro := false) (ap := true) ?_ (by rw [trs_length, hT]) (trs_pur _) (trs_ok _)
    simp only
    rw [if_neg y1, upd_ne _ _ _ _ g5]
    exact w5
   ·simp only
    rw [upd_ne _ _ _ _ h0]
    exact hd
   ·simp only at hj
    simp only
    rw [upd_ne _ _ _ _ (by omega)]
    exact hfr j hj hne
theorem ok_revision_Open (l : List Ac) (hn : l.length ≤ 16) (h : ∀ a ∈ l, AcOK a) : PC prog n_revision_Open [.list 4 (acs l)] (.tuple [bkv ⟨l, []⟩, .int .i64 0]) := by
 have hO := ok_revision_opened l hn h
 have hC := ok_revision_copied l [] [] h hn (by simp)
 have hC2 : PC prog n_revision_copied [.agg [.list 4 (acs l), .nil], .nil] (bkv ⟨l, []⟩) := pc_nl hC (.cons (NlR.agg (.cons .rfl (.cons (.nil 6) .nil))) (.cons (.nil 6) .nil))
 simp only [bkv] at hC2
 refine PC_of_body b_revision_Open (by simp) ?_
 simp only [c_revision_Open, go_sem, jA, jB, jC, jD, jE, jF, jG, jH, jI, jJ, ↓reduceIte, reduceCtorEq, jP]
 refine call_pc hO (by simp [go_sem, acs_pur]) ?_
 try simp (disch := omega) only [go_sem, jA, jB, jC, jD, jE, jF, jG, jH, jI, jJ, ↓reduceIte, reduceCtorEq, jO, jM, jN, jK, jL]
 refine call_pc hC2 (by simp [go_sem, acs_pur]) ?_
 try simp (disch := omega) only [go_sem, jA, jB, jC, jD, jE, jF, jG, jH, jI, jJ, ↓reduceIte, reduceCtorEq, jO, jM, jN, jK, jL]
 exact Pub.tu (.cons (.pure (bkv_pur ⟨l, []⟩)) (.cons (.pure rfl) .nil))
def vA : Ac := ⟨0, [⟨10, 10⟩, ⟨0, 50⟩], [⟨0, 50⟩], [⟨0, 50⟩]⟩
def vZ : Ac := ⟨0, [⟨10, 10⟩, ⟨14, 14⟩], [⟨7, 7⟩], [⟨3, 3⟩]⟩
def v1 : Rp := ⟨1, 0, 2, 0, ⟨7, 7⟩⟩
def v2 : Rp := ⟨2, 0, 3, 0, ⟨3, 3⟩⟩
theorem vA_ok : AcOK vA := chk_ok.1 rfl
theorem v_op : ∀ a ∈ [vA], AcOK a := fun a ha => by simp at ha; subst ha; exact vA_ok
theorem v1_ok : RpOK [vA] v1 := ⟨by decide, by decide, by decide, by decide, ⟨.inr (.inl rfl), by decide, by decide, by simp [fitB, v1, mxV]⟩⟩
theorem v2_ok : RpOK [vA] v2 := ⟨by decide, by decide, by decide, by decide, ⟨.inr (.inr rfl), by decide, by decide, by simp [fitB, v2, mxV]⟩⟩
theorem vB0 : BkOK ⟨[vA], []⟩ := ⟨by simp, v_op, by simp, by simp, fun r hr => by simp at hr⟩
theorem vB1 : BkOK ⟨[vA], [v2]⟩ := ⟨by simp, v_op, by simp, by simp, fun r hr => by simp at hr; subst hr; exact v2_ok⟩
theorem vB2 : BkOK ⟨[vA], [v1, v2]⟩ := ⟨by simp, v_op, by simp, by simp [v1, v2], fun r hr => by
 simp at hr
 rcases hr with rfl | rfl
 ·exact v1_ok
 ·exact v2_ok⟩
theorem vF1 : fileS ⟨[vA], []⟩ v2 = (⟨[vA], [v2]⟩, 0) := by rfl
theorem vF2 : fileS ⟨[vA], [v2]⟩ v1 = (⟨[vA], [v1, v2]⟩, 0) := by rfl
theorem vT : tigS ⟨[vA], [v1, v2]⟩ 0 = (vZ, 0) := by rfl
theorem ok_law31_sane : PC prog n_law31_sane [] (.bool true) := by
 have h1 := ok_revision_Open [vA] (by simp) v_op
 have h2 := ok_revision_File ⟨[vA], []⟩ vB0 v2 v2_ok
 have h3 := ok_revision_File ⟨[vA], [v2]⟩ vB1 v1 v1_ok
 have h4 := ok_revision_Tight ⟨[vA], [v1, v2]⟩ vB2 0 (by simp)
 rw [vF1] at h2
 rw [vF2] at h3
 rw [vT] at h4
 simp only [bkv, acs, rps, List.map_cons, List.map_nil, acv, rpv, bds, bdv, vA, v1, v2, vZ] at h1 h2 h3 h4
 refine PC_of_body b_law31_sane (by simp) ?_
 simp only [c_law31_sane, go_sem, jA, jB, jC, jD, jE, jF, jG, jH, jI, jJ, ↓reduceIte, reduceCtorEq, jP]
 try simp (disch := omega) only [go_sem, jA, jB, jC, jD, jE, jF, jG, jH, jI, jJ, ↓reduceIte, reduceCtorEq, jO, jM, jN, jK, jL]
 refine call_pc h1 (by simp [go_sem]) ?_
 try simp (disch := omega) only [go_sem, jA, jB, jC, jD, jE, jF, jG, jH, jI, jJ, ↓reduceIte, reduceCtorEq, jO, jM, jN, jK, jL]
 refine call_pc h2 (by simp [go_sem]) ?_
 try simp (disch := omega) only [go_sem, jA, jB, jC, jD, jE, jF, jG, jH, jI, jJ, ↓reduceIte, reduceCtorEq, jO, jM, jN, jK, jL]
 refine call_pc h3 (by simp [go_sem]) ?_
 try simp (disch := omega) only [go_sem, jA, jB, jC, jD, jE, jF, jG, jH, jI, jJ, ↓reduceIte, reduceCtorEq, jO, jM, jN, jK, jL]
 refine call_pc h4 (by simp [go_sem]) ?_
 try simp (disch := omega) only [go_sem, jA, jB, jC, jD, jE, jF, jG, jH, jI, jJ, ↓reduceIte, reduceCtorEq, jO, jM, jN, jK, jL]
 exact Pub.of_eq rfl rfl
end Go.Proofs.Try
