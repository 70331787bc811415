/- OWN WORK, put together by tools/asm.py, seat.py, mini.py. -/
import Derived.Test.YtpdfbkeholfdaaaLibD
set_option linter.unusedSimpArgs false
set_option linter.unusedVariables false
set_option maxRecDepth 100000
set_option maxHeartbeats 1000000
namespace Go.Proofs.Try
open Go.Ab Go
open Int renaming reduceEq → jA, reduceLT → jB, reduceLE → jC, reduceToNat → jD
open Go.Ab renaming w_ite_ne → jM, w_ite_lt → jN, wrap_id → jO, w_app_nl → jP
open Nat renaming reduceLT → jE, reduceEqDiff → jF, reduceAdd → jG, reduceLeDiff → jH, reduceSub → jI, reduceMul → jJ, sub_zero → jK, sub_self → jL
def kS0 : Dk := ⟨[⟨1, 1, 5⟩, ⟨2, 2, 6⟩], 1, []⟩
def xS0 : Dv := ⟨1, 0, 3, 9, 40, [], false⟩
def kS1 : Dk := ⟨[⟨1, 1, 5⟩, ⟨2, 2, 6⟩], 2, [xS0]⟩
def kS2 : Dk := ⟨[⟨1, 1, 5⟩, ⟨2, 2, 6⟩], 2, [⟨1, 0, 3, 9, 40, [1], false⟩]⟩
def kS3 : Dk := ⟨[⟨1, 1, 5⟩, ⟨2, 2, 6⟩], 2, [⟨1, 0, 3, 9, 40, [1, 2], false⟩]⟩
theorem sS1 : reqS kS0 0 3 9 40 = (kS1, 1, 0) := by decide +kernel
theorem sS2 : infS kS1 0 5 = (dv0, false) := by decide +kernel
theorem sS3 : sgnS kS1 1 1 (codeS 5 1 xS0) 3 = (kS2, 0) := by decide +kernel
theorem sS4 : sgnS kS2 1 2 (codeS 6 1 xS0) 3 = (kS3, 0) := by decide +kernel
theorem sS5 : infS kS3 0 5 = (⟨1, 0, 3, 9, 40, [1, 2], false⟩, true) := by decide +kernel
theorem sS6 : codeS 1 1 dv0 = 230903379 := by decide +kernel
theorem dv0_nl : NlR (.agg [.int .i64 0, .int .i64 0, .int .i64 0, .int .i64 0, .int .i64 0, .nil, .bool false]) (dvv dv0) :=
 .agg (.cons .rfl (.cons .rfl (.cons .rfl (.cons .rfl (.cons .rfl (.cons (.nil 1) (.cons .rfl .nil)))))))
theorem ok_law26_sane : PC prog n_law26_sane [] (.bool true) := by
 have h1 := ok_deviation_Request kS0 ⟨by decide, by decide⟩ 0 3 9 40
 have h2 := ok_deviation_InForce kS1 ⟨by decide, by decide⟩ 0 5
 have h3 := ok_deviation_Code 5 1 xS0
 have h4 := ok_deviation_Sign kS1 ⟨by decide, by decide⟩ 1 1 (codeS 5 1 xS0) 3
 have h5 := ok_deviation_Code 6 1 xS0
 have h6 := ok_deviation_Sign kS2 ⟨by decide, by decide⟩ 1 2 (codeS 6 1 xS0) 3
 have h7 := ok_deviation_InForce kS3 ⟨by decide, by decide⟩ 0 5
 have h8 := pc_nl (ok_deviation_Code 1 1 dv0) (.cons .rfl (.cons .rfl (.cons dv0_nl .nil)))
 rw [sS1] at h1
 rw [sS2] at h2
 rw [sS3] at h4
 rw [sS4] at h6
 rw [sS5] at h7
 rw [sS6] at h8
 have h1 := pc_nl (args := [.agg [.list 3 [.agg [.int .i64 1, .int .i64 1, .int .i64 5], .agg [.int .i64 2, .int .i64 2, .int .i64 6]], .int .i64 1, .nil], .int .i64 0, .int .i64 3, .int .i64 9, .int .i64 40]) h1 (.cons (.agg (.cons .rfl (.cons .rfl (.cons (.nil 7) .nil)))) (NlRs.refl _))
 generalize codeS 5 1 xS0 = k1 at *
 generalize codeS 6 1 xS0 = k2 at *
 simp only [dkv, kS1, kS2, kS3, xS0, pns, dvs, dvv, dvX, pnv, ints, List.map_cons, List.map_nil, dv0] at h1 h2 h3 h4 h5 h6 h7
 refine PC_of_body b_law26_sane (by simp) ?_
 simp only [c_law26_sane, go_sem, jA, jB, jC, jD, jE, jF, jG, jH, jI, jJ, ↓reduceIte, reduceCtorEq, jP]
 try simp (disch := omega) only [go_sem, jA, jB, jC, jD, jE, jF, jG, jH, jI, jJ, ↓reduceIte, reduceCtorEq, jO, jM, jN, jK, jL]
 refine call_pc h1 (by simp [go_sem]) ?_
 try simp (disch := omega) only [go_sem, jA, jB, jC, jD, jE, jF, jG, jH, jI, jJ, ↓reduceIte, reduceCtorEq, jO, jM, jN, jK, jL]
 refine call_pc h2 (by simp [go_sem]) ?_
 try simp (disch := omega) only [go_sem, jA, jB, jC, jD, jE, jF, jG, jH, jI, jJ, ↓reduceIte, reduceCtorEq, jO, jM, jN, jK, jL]
 refine call_pc h3 (by simp [go_sem]) ?_
 try simp (disch := omega) only [go_sem, jA, jB, jC, jD, jE, jF, jG, jH, jI, jJ, ↓reduceIte, reduceCtorEq, jO, jM, jN, jK, jL]
 refine call_pc h4 (by simp [go_sem]) ?_
 try simp (disch := omega) only [go_sem, jA, jB, jC, jD, jE, jF, jG, jH, jI, jJ, ↓reduceIte, reduceCtorEq, jO, jM, jN, jK, jL]
 refine call_pc h5 (by simp [go_sem]) ?_
 try simp (disch := omega) only [go_sem, jA, jB, jC, jD, jE, jF, jG, jH, jI, jJ, ↓reduceIte, reduceCtorEq, jO, jM, jN, jK, jL]
 refine call_pc h6 (by simp [go_sem]) ?_
 try simp (disch := omega) only [go_sem, jA, jB, jC, jD, jE, jF, jG, jH, jI, jJ, ↓reduceIte, reduceCtorEq, jO, jM, jN, jK, jL]
 refine call_pc h7 (by simp [go_sem]) ?_
 try simp (disch := omega) only [go_sem, jA, jB, jC, jD, jE, jF, jG, jH, jI, jJ, ↓reduceIte, reduceCtorEq, jO, jM, jN, jK, jL]
 refine call_pc h8 (by simp [go_sem]) ?_
 try simp (disch := omega) only [go_sem, jA, jB, jC, jD, jE, jF, jG, jH, jI, jJ, ↓reduceIte, reduceCtorEq, jO, jM, jN, jK, jL]
 exact Pub.pure rfl
theorem codeL_app : ∀ (l : List Int) (c : Int) (r : List Int), codeL c (l ++ r) = codeL (codeL c l) r
 | [], _, _ => rfl
 | n :: l, c, r => by rw [List.cons_append, codeL, codeL, codeL_app l]
theorem codeL_rng : ∀ (l : List Int) (c : Int), 0 ≤ c ∧ c < 2147483647 → 0 ≤ codeL c l ∧ codeL c l < 2147483647
 | [], _, h => h
 | n :: l, c, h => by
  rw [codeL]
  have b1 := tmod_bdP n
  have b2 := tmod_bd0 (n.tmod 2147483647 + 2147483647) (by omega)
  exact codeL_rng l _ (tmod_bd0 _ (by omega))
theorem step_inj {c c' x : Int} (h1 : 0 ≤ c ∧ c < 2147483647) (h2 : 0 ≤ c' ∧ c' < 2147483647) (hx : 0 ≤ x) (h : (31 * c + x).tmod 2147483647 = (31 * c' + x).tmod 2147483647) : c = c' := by
 rw [Int.tmod_eq_emod_of_nonneg (by omega), Int.tmod_eq_emod_of_nonneg (by omega)] at h
 omega
theorem codeL_inj : ∀ (l : List Int) (c c' : Int), 0 ≤ c ∧ c < 2147483647 → 0 ≤ c' ∧ c' < 2147483647 → codeL c l = codeL c' l → c = c'
 | [], _, _, _, _, h => h
 | n :: l, c, c', h1, h2, h => by
  rw [codeL, codeL] at h
  have b1 := tmod_bdP n
  have b2 := tmod_bd0 (n.tmod 2147483647 + 2147483647) (by omega)
  exact step_inj h1 h2 b2.1 (codeL_inj l _ _ (tmod_bd0 _ (by omega)) (tmod_bd0 _ (by omega)) h)
theorem red_id {n : Int} (h0 : 0 ≤ n) (h1 : n < 2147483647) : (n.tmod 2147483647 + 2147483647).tmod 2147483647 = n := by
 rw [Int.tmod_eq_emod_of_nonneg h0, Int.tmod_eq_emod_of_nonneg (by omega)]
 omega
theorem step_val {c x y : Int} (h1 : 0 ≤ c ∧ c < 2147483647) (hx : 0 ≤ x ∧ x < 2147483647) (hy : 0 ≤ y ∧ y < 2147483647) (h : (31 * c + x).tmod 2147483647 = (31 * c + y).tmod 2147483647) : x = y := by
 rw [Int.tmod_eq_emod_of_nonneg (by omega), Int.tmod_eq_emod_of_nonneg (by omega)] at h
 omega
theorem code_rel {key kind : Int} {d e : Dv} (hd : 0 ≤ d.rel ∧ d.rel < 1073741824) (he : 0 ≤ e.rel ∧ e.rel < 1073741824) (h1 : e.id = d.id) (h2 : e.site = d.site) (h3 : e.fr = d.fr) (h4 : e.to = d.to) : codeS key kind e = codeS key kind d ↔ e.rel = d.rel := by
 constructor
 ·intro h
  rw [codeS, codeS, codeI, codeI, h1, h2, h3, h4] at h
  rw [show [key, kind, d.id, d.site, d.fr, d.to, e.rel] = [key, kind, d.id, d.site, d.fr, d.to] ++ [e.rel] from rfl, show [key, kind, d.id, d.site, d.fr, d.to, d.rel] = [key, kind, d.id, d.site, d.fr, d.to] ++ [d.rel] from rfl, codeL_app, codeL_app] at h
  have hr := codeL_rng [key, kind, d.id, d.site, d.fr, d.to] 7 (by omega)
  generalize codeL 7 [key, kind, d.id, d.site, d.fr, d.to] = c at *
  simp only [codeL] at h
  rw [red_id he.1 (by omega), red_id hd.1 (by omega)] at h
  exact step_val hr (by omega) (by omega) h
 ·intro h
  rw [codeS, codeS, codeI, codeI, h1, h2, h3, h4, h]
theorem codeS_eq (key kind : Int) (d : Dv) : codeS key kind d = codeL ((31 * ((31 * 7 + (key.tmod 2147483647 + 2147483647).tmod 2147483647).tmod 2147483647) + (kind.tmod 2147483647 + 2147483647).tmod 2147483647).tmod 2147483647) [d.id, d.site, d.fr, d.to, d.rel] := rfl
theorem code_kind {key : Int} {d : Dv} : codeS key 2 d ≠ codeS key 1 d := by
 intro h
 rw [codeS_eq, codeS_eq] at h
 have b1 := tmod_bdP key
 have b2 := tmod_bd0 (key.tmod 2147483647 + 2147483647) (by omega)
 have b3 := tmod_bd0 (31 * 7 + (key.tmod 2147483647 + 2147483647).tmod 2147483647) (by omega)
 rw [red_id (n := 2) (by omega) (by omega), red_id (n := 1) (by omega) (by omega)] at h
 generalize (31 * 7 + (key.tmod 2147483647 + 2147483647).tmod 2147483647).tmod 2147483647 = c at *
 have := step_val b3 (x := 2) (y := 1) (by omega) (by omega) (codeL_inj _ _ _ (tmod_bd0 _ (by omega)) (tmod_bd0 _ (by omega)) h)
 omega
theorem code_key {key : Int} {d : Dv} (hk : 0 ≤ key ∧ key < 1073741824) : codeS (key + 1) 1 d ≠ codeS key 1 d := by
 intro h
 rw [codeS_eq, codeS_eq, red_id (n := key + 1) (by omega) (by omega), red_id (n := key) (by omega) (by omega), red_id (n := 1) (by omega) (by omega)] at h
 have b1 := tmod_bd0 (31 * 7 + (key + 1)) (by omega)
 have b2 := tmod_bd0 (31 * 7 + key) (by omega)
 have h2 := codeL_inj _ _ _ (tmod_bd0 _ (by omega)) (tmod_bd0 _ (by omega)) h
 have h3 := step_inj b1 b2 (by omega) h2
 have := step_val (c := 7) (by omega) (x := key + 1) (y := key) (by omega) (by omega) h3
 omega
theorem ok_law26_DeviationCodes (d : Dv) (key rel : Int) : PC prog n_law26_DeviationCodes [dvv d, .int .i64 key, .int .i64 rel] (.bool true) := by
 obtain ⟨id, site, fr, to, rl, sg, wd⟩ := d
 have m1 := Int.emod_nonneg rl (b := 1073741824) (by omega)
 have m2 := Int.emod_lt_of_pos rl (b := 1073741824) (by omega)
 have m3 := Int.emod_nonneg key (b := 1073741824) (by omega)
 have m4 := Int.emod_lt_of_pos key (b := 1073741824) (by omega)
 have m5 := Int.emod_nonneg rel (b := 1073741824) (by omega)
 have m6 := Int.emod_lt_of_pos rel (b := 1073741824) (by omega)
 have c1 := ok_mk_Mod rl 1073741824 (by omega) (by omega)
 have c2 := ok_mk_Mod key 1073741824 (by omega) (by omega)
 have c3 := ok_mk_Mod rel 1073741824 (by omega) (by omega)
 generalize rl % 1073741824 = r at *
 generalize key % 1073741824 = k at *
 generalize rel % 1073741824 = q at *
 have d1 := ok_deviation_Code k 1 ⟨id, site, fr, to, r, sg, wd⟩
 have d2 := ok_deviation_Code k 1 ⟨id, site, fr, to, q, sg, wd⟩
 have d3 := ok_deviation_Code k 2 ⟨id, site, fr, to, r, sg, wd⟩
 have d4 := ok_deviation_Code (k + 1) 1 ⟨id, site, fr, to, r, sg, wd⟩
 have e1 := code_rel (key := k) (kind := 1) (d := ⟨id, site, fr, to, r, sg, wd⟩) (e := ⟨id, site, fr, to, q, sg, wd⟩) ⟨m1, m2⟩ ⟨m5, m6⟩ rfl rfl rfl rfl
 have e2 := code_kind (key := k) (d := ⟨id, site, fr, to, r, sg, wd⟩)
 have e3 := code_key (key := k) (d := ⟨id, site, fr, to, r, sg, wd⟩) ⟨m3, m4⟩
 have e4 := codeL_rng (codeI k 1 ⟨id, site, fr, to, r, sg, wd⟩) 7 (by omega)
 rw [← codeS] at e4
 generalize codeS k 1 ⟨id, site, fr, to, r, sg, wd⟩ = a at *
 generalize codeS k 1 ⟨id, site, fr, to, q, sg, wd⟩ = b at *
 generalize codeS k 2 ⟨id, site, fr, to, r, sg, wd⟩ = b2 at *
 generalize codeS (k + 1) 1 ⟨id, site, fr, to, r, sg, wd⟩ = b3 at *
 simp only at e1
 simp only [dvv, dvX] at d1 d2 d3 d4
 refine PC_of_body b_law26_DeviationCodes (by simp) ?_
 simp only [c_law26_DeviationCodes, dvv, dvX]
 try simp (disch := omega) only [go_sem, jA, jB, jC, jD, jE, jF, jG, jH, jI, jJ, ↓reduceIte, reduceCtorEq, jO, jM, jN, jK, jL]
 refine call_pc ok_law26_sane (by simp) ?_
 try simp (disch := omega) only [go_sem, jA, jB, jC, jD, jE, jF, jG, jH, jI, jJ, ↓reduceIte, reduceCtorEq, jO, jM, jN, jK, jL]
 refine call_pc c1 (by simp [go_sem]) ?_
 try simp (disch := omega) only [go_sem, jA, jB, jC, jD, jE, jF, jG, jH, jI, jJ, ↓reduceIte, reduceCtorEq, jO, jM, jN, jK, jL]
 refine call_pc c2 (by simp [go_sem]) ?_
 try simp (disch := omega) only [go_sem, jA, jB, jC, jD, jE, jF, jG, jH, jI, jJ, ↓reduceIte, reduceCtorEq, jO, jM, jN, jK, jL]
 refine call_pc c3 (by simp [go_sem]) ?_
 try simp (disch := omega) only [go_sem, jA, jB, jC, jD, jE, jF, jG, jH, jI, jJ, ↓reduceIte, reduceCtorEq, jO, jM, jN, jK, jL]
 refine call_pc d1 (by simp [go_sem, ints_pur]) ?_
 try simp (disch := omega) only [go_sem, jA, jB, jC, jD, jE, jF, jG, jH, jI, jJ, ↓reduceIte, reduceCtorEq, jO, jM, jN, jK, jL]
 refine gd_td rfl (fun g1 => ?_) (fun g1 => absurd e4.1 (by omega))
 try simp (disch := omega) only [go_sem, jA, jB, jC, jD, jE, jF, jG, jH, jI, jJ, ↓reduceIte, reduceCtorEq, jO, jM, jN, jK, jL]
 refine gd_td rfl (fun g2 => ?_) (fun g2 => absurd e4.2 (by omega))
 try simp (disch := omega) only [go_sem, jA, jB, jC, jD, jE, jF, jG, jH, jI, jJ, ↓reduceIte, reduceCtorEq, jO, jM, jN, jK, jL]
 refine call_pc d2 (by simp [go_sem, ints_pur]) ?_
 have e5 : decide (b = a) = decide (q = r) := decide_eq_decide.2 e1
 try simp (disch := omega) only [go_sem, jA, jB, jC, jD, jE, jF, jG, jH, jI, jJ, ↓reduceIte, reduceCtorEq, jO, jM, jN, jK, jL, e5]
 refine call_pc d3 (by simp [go_sem, ints_pur]) ?_
 have e2' : ¬ b2 = a := e2
 have e3' : ¬ b3 = a := e3
 try simp (disch := omega) only [go_sem, jA, jB, jC, jD, jE, jF, jG, jH, jI, jJ, ↓reduceIte, reduceCtorEq, jO, jM, jN, jK, jL, e2', decide_false, Bool.not_false]
 refine call_pc d4 (by simp [go_sem, ints_pur]) ?_
 try simp (disch := omega) only [go_sem, jA, jB, jC, jD, jE, jF, jG, jH, jI, jJ, ↓reduceIte, reduceCtorEq, jO, jM, jN, jK, jL, e3', decide_false, Bool.not_false]
 exact Pub.pure rfl
abbrev shI26 : Sh := .int .i64
abbrev shDv : Sh := .struct (.fc shI26 (.fc shI26 (.fc shI26 (.fc shI26 (.fc shI26 (.fc (.slice 1 shI26) (.fc .bool .f0)))))))
theorem shDvR {c : List AV} (h : shDv.R c) : ∃ b : Dv, b.sg.length ≤ 9223372036854775807 ∧ shDv.mk1 c = dvv b := by
 obtain ⟨x1, y1, rfl, ⟨a1, rfl, _⟩, x2, y2, rfl, ⟨a2, rfl, _⟩, x3, y3, rfl, ⟨a3, rfl, _⟩, x4, y4, rfl, ⟨a4, rfl, _⟩, x5, y5, rfl, ⟨a5, rfl, _⟩, x6, y6, rfl, h6, x7, y7, rfl, ⟨a7, rfl⟩, rfl⟩ := h
 obtain ⟨l, rfl, hl, _⟩ := shInts h6
 exact ⟨⟨a1, a2, a3, a4, a5, l, a7⟩, hl, rfl⟩
theorem law_law26_DeviationCodes {c0 c1 c2 : List AV} (s0 : shDv.R c0) (s1 : (Sh.int .i64).R c1) (s2 : (Sh.int .i64).R c2) : PC prog n_law26_DeviationCodes [shDv.mk1 c0, (Sh.int .i64).mk1 c1, (Sh.int .i64).mk1 c2] (.bool true) := by
 obtain ⟨d, _, hd⟩ := shDvR s0
 obtain ⟨a1, rfl, w1⟩ := s1
 obtain ⟨a2, rfl, w2⟩ := s2
 rw [hd]
 exact ok_law26_DeviationCodes d a1 a2
end Go.Proofs.Try
