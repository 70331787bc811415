/- OWN WORK, put together by tools/asm.py, seat.py, mini.py. -/
import Derived.Test.YtbfefempldcfoaaLibB
set_option linter.unusedSimpArgs false
set_option linter.unusedVariables false
set_option maxRecDepth 100000
set_option maxHeartbeats 1000000
namespace Go.Proofs.Try
open Go.Ab Go
open Int renaming reduceEq → jA, reduceLT → jB, reduceLE → jC, reduceToNat → jD
open Go.Ab renaming w_ite_ne → jM, w_ite_lt → jN, wrap_id → jO, w_app_nl → jP
open Nat renaming reduceLT → jE, reduceEqDiff → jF, reduceAdd → jG, reduceLeDiff → jH, reduceSub → jI, reduceMul → jJ, sub_zero → jK, sub_self → jL
theorem hc_ref30_Copy (σ : St) (a : Ac) (h1 : a.st.length ≤ 4611686018427) (h2 : a.ins.length ≤ 4611686018427) (h3 : a.outs.length ≤ 4611686018427) (e1 : a.st ≠ []) (e2 : a.ins ≠ []) (e3 : a.outs ≠ []) : HC prog n_ref30_Copy [acv a] σ (Twin σ a 33) := by
 obtain ⟨ob, n, c⟩ := σ
 refine HC_of_body b_ref30_Copy (by simp) ?_
 simp only [c_ref30_Copy, go_sem, jA, jB, jC, jD, jE, jF, jG, jH, jI, jJ, ↓reduceIte, reduceCtorEq, jP, acv]
 have b1 : bds a.st ≠ [] := by simpa [bds] using e1
 have b2 : bds a.ins ≠ [] := by simpa [bds] using e2
 have b3 : bds a.outs ≠ [] := by simpa [bds] using e3
 have l1 : (bds a.st).length = a.st.length := bds_length _
 have l2 : (bds a.ins).length = a.ins.length := bds_length _
 have l3 : (bds a.outs).length = a.outs.length := bds_length _
 try simp (disch := omega) only [go_sem, jA, jB, jC, jD, jE, jF, jG, jH, jI, jJ, ↓reduceIte, reduceCtorEq, jO, jM, jN, jK, jL]
 refine ⟨fun _ _ h => (by cases h; rfl), fun _ _ _ _ _ h => (by rcases h with h | ⟨_, h⟩ <;> cases h), by rw [mxL]; omega, by omega, fun h => absurd h b1, fun _ => ?_⟩
 try simp (disch := omega) only [go_sem, jA, jB, jC, jD, jE, jF, jG, jH, jI, jJ, ↓reduceIte, reduceCtorEq, jO, jM, jN, jK, jL]
 refine ⟨fun _ _ h => (by cases h; rfl), fun _ _ _ _ _ h => (by rcases h with h | ⟨_, h⟩ <;> cases h), by rw [mxL]; omega, by omega, fun h => absurd h b2, fun _ => ?_⟩
 try simp (disch := omega) only [go_sem, jA, jB, jC, jD, jE, jF, jG, jH, jI, jJ, ↓reduceIte, reduceCtorEq, jO, jM, jN, jK, jL]
 refine ⟨fun _ _ h => (by cases h; rfl), fun _ _ _ _ _ h => (by rcases h with h | ⟨_, h⟩ <;> cases h), by rw [mxL]; omega, by omega, fun h => absurd h b3, fun _ => ?_⟩
 try simp (disch := omega) only [go_sem, jA, jB, jC, jD, jE, jF, jG, jH, jI, jJ, ↓reduceIte, reduceCtorEq, jO, jM, jN, jK, jL]
 refine ⟨(n + 1 + 1, c + 1 + 1), (n + 1 + 1 + 1, c + 1 + 1 + 1), (n + 1 + 1 + 1 + 1, c + 1 + 1 + 1 + 1), ?_⟩
 have d1 : ¬ n + 1 + 1 = n := by omega
 have d2 : ¬ n + 1 + 1 + 1 = n := by omega
 have d3 : ¬ n + 1 + 1 + 1 + 1 = n := by omega
 refine ⟨by simp only [acO, l1, l2, l3], ⟨by simp [upd, d1, d2, d3], by simp [upd, d1, d2, d3], by simp [upd, d1, d2, d3], by simp only; omega, by simp only; omega, by simp only; omega, by simp only; omega, by simp only; omega, by simp only; omega⟩, by simp only; omega, by simp only; omega, by simp only; omega, by simp only; omega, fun k hk => ?_⟩
 simp only at hk
 have y0 : ¬ k = n := by omega
 have y1 : ¬ k = n + 1 := by omega
 have y2 : ¬ k = n + 1 + 1 := by omega
 have y3 : ¬ k = n + 1 + 1 + 1 := by omega
 have y4 : ¬ k = n + 1 + 1 + 1 + 1 := by omega
 try simp (disch := omega) only [go_sem, jA, jB, jC, jD, jE, jF, jG, jH, jI, jJ, ↓reduceIte, reduceCtorEq, jO, jM, jN, jK, jL, y0, y1, y2, y3, y4]
theorem bds_set (L : List Bd) (i : Nat) (b : Bd) : (bds L).set i (bdv b) = bds (L.set i b) := by simp [bds, List.map_set]
theorem ok_ref30_Tighten (a : Ac) (hl : AcL a) : PC prog n_ref30_Tighten [acv a] (.tuple [acv (tightS a).1, .int .i64 (tightS a).2]) := by
 have no : ∀ {σ : St} {e : Int}, tightS a = (acZ, e) → Pub σ (.tuple [.agg [.int .i64 0, .nil, .nil, .nil], .int .i64 e]) (.tuple [acv (tightS a).1, .int .i64 (tightS a).2]) := by
  intro σ e h
  rw [h]
  exact Pub.pair (Pub.ag (.cons (.pure rfl) (.cons (.nl 2) (.cons (.nl 2) (.cons (.nl 2) .nil))))) (.pure rfl)
 refine PC_of_body b_ref30_Tighten (by simp) ?_
 simp only [c_ref30_Tighten, go_sem, jA, jB, jC, jD, jE, jF, jG, jH, jI, jJ, ↓reduceIte, reduceCtorEq, jP, acv]
 refine call_pc (ok_ref30_Check a hl) (by simp [go_sem, acv, bds_pur]) ?_
 try simp (disch := omega) only [go_sem, jA, jB, jC, jD, jE, jF, jG, jH, jI, jJ, ↓reduceIte, reduceCtorEq, jO, jM, jN, jK, jL]
 refine cond_n (fun h => ?_) (fun h => ?_) <;> try simp (disch := omega) only [go_sem, jA, jB, jC, jD, jE, jF, jG, jH, jI, jJ, ↓reduceIte, reduceCtorEq, jO, jM, jN, jK, jL]
 ·exact no (by simp only [tightS, if_pos h])
 have hok := chk_ok.1 h
 have hlen := hok.lens
 obtain ⟨n, hn⟩ : ∃ n, a.ins.length = n := ⟨_, rfl⟩
 rw [hn] at hlen
 have hn4 : 1 ≤ n ∧ n ≤ 400 := by have := hok.n1; have := hok.n2; omega
 have htS : tightS a = if vdB a.st a.ins a.outs n then (tgt a, 0) else (acZ, 48) := by simp only [tightS]; rw [if_neg (by simp [h]), hn]
 have hLs := hlen.s
 have hLy := hlen.y
 have nz : ∀ {L : List Bd}, 1 ≤ L.length → L ≠ [] := fun h e => by subst e; simp at h
 refine (hc_ref30_Copy _ a (by omega) (by omega) (by omega) (nz (by omega)) (nz (by omega)) (nz (by omega))).mono ?_
 rintro _ τ ⟨o1, o2, o3, rfl, hO, g1, g2, g3, hA⟩
 obtain ⟨ob, m, c⟩ := τ
 have hm : 2 ≤ m := by have := hA.1; simpa [go_sem] using this
 have w0 := hA.2 0 (by simp [go_sem])
 have w1 := hA.2 1 (by simp [go_sem])
 simp (maxSteps := 1000000) only [go_sem, jA, jB, jC, jD, jE, jF, jG, jH, jI, jJ, ↓reduceIte, reduceCtorEq, jP] at w0 w1 g1 g2 g3
 have l1 := hO.l1
 have l2 := hO.l2
 have l3 := hO.l3
 have n12 := hO.n12
 have n13 := hO.n13
 have n23 := hO.n23
 have p1 := hO.h1
 have p2 := hO.h2
 have p3 := hO.h3
 simp only at l1 l2 l3 p1 p2 p3
 have hm0 : 0 < m := by omega
 have z0 : ¬ 0 = m := by omega
 have z1 : ¬ 1 = m := by omega
 have x1 : ¬ o1.1 = m := by omega
 have x2 : ¬ o2.1 = m := by omega
 have x3 : ¬ o3.1 = m := by omega
 have y0 : ¬ 0 = o1.1 := by omega
 have y1 : ¬ 1 = o1.1 := by omega
 have ym : ¬ m = o1.1 := by omega
 have y2 : ¬ o2.1 = o1.1 := by omega
 have y3 : ¬ o3.1 = o1.1 := by omega
 try simp (disch := omega) only [go_sem, jA, jB, jC, jD, jE, jF, jG, jH, jI, jJ, ↓reduceIte, reduceCtorEq, jO, jM, jN, jK, jL, acO, w0, bds_length, hn]
 refine awp_upF [3, 7, 23, 24, 25, 26, 27, 28, 29, 30, 31, 32, 33, 34, 35, 36, 37, 38, 39, 40, 41, 42, 43, 44, 45, 46, 47, 48, 49, 50, 51, 52, 53, 54, 55, 56, 57, 58, 59, 60, 61, 62, 63, 64, 65, 66, 67, 68, 69, 70, 71, 72, 73, 74, 75, 76, 77, 78, 79, 80, 81, 82, 83, 84, 85, 86, 87, 88, 89] (by kernel_rfl) n (fun k e σ => e 23 = .int .i64 k ∧ σ.ob 0 = some ⟨0, 4, 103, false, true, [.agg [.int .i64 a.fr, .list 2 (bds a.st), .list 2 (bds a.ins), .list 2 (bds a.outs)]]⟩ ∧ σ.ob 1 = some ⟨1, 4, 103, false, true, [.agg [.int .i64 0, .nil, .nil, .nil]]⟩ ∧
  σ.ob m = some ⟨c, 4, 103, false, true, [acO a.fr o1 o2 o3 (n + 1) n n]⟩ ∧ σ.ob o1.1 = some ⟨o1.2, 2, 33, false, true, bds (atF a.st a.ins a.outs n k)⟩ ∧ σ.ob o2.1 = some ⟨o2.2, 2, 33, false, true, bds a.ins⟩ ∧ σ.ob o3.1 = some ⟨o3.2, 2, 33, false, true, bds a.outs⟩ ∧
  ∀ i, i ≤ k → valB (cF a.st a.ins a.outs i)) ?_ ?_
 ·refine ⟨(by first | rfl | (simp (disch := omega) only [go_sem, jA, jB, jC, jD, jE, jF, jG, jH, jI, jJ, ↓reduceIte, reduceCtorEq, jP, jO, jM, jN]; try rfl)), by try simp (disch := omega) only [go_sem, jA, jB, jC, jD, jE, jF, jG, jH, jI, jJ, ↓reduceIte, reduceCtorEq, jO, jM, jN, jK, jL, z0]; exact w0, by try simp (disch := omega) only [go_sem, jA, jB, jC, jD, jE, jF, jG, jH, jI, jJ, ↓reduceIte, reduceCtorEq, jO, jM, jN, jK, jL, z1]; exact w1, by simp [upd, acO, hLs, hLy], by try simp (disch := omega) only [go_sem, jA, jB, jC, jD, jE, jF, jG, jH, jI, jJ, ↓reduceIte, reduceCtorEq, jO, jM, jN, jK, jL, x1, atF_zero hlen]; exact p1, by try simp (disch := omega) only [go_sem, jA, jB, jC, jD, jE, jF, jG, jH, jI, jJ, ↓reduceIte, reduceCtorEq, jO, jM, jN, jK, jL, x2]; exact p2, by try simp (disch := omega) only [go_sem, jA, jB, jC, jD, jE, jF, jG, jH, jI, jJ, ↓reduceIte, reduceCtorEq, jO, jM, jN, jK, jL, x3]; exact p3, fun i hi => ?_⟩
  obtain rfl : i = 0 := by omega
  exact (hlen.gs (Nat.zero_le _)).val
 rintro k fe ob2 c2 hk ⟨h23, v0, v1, vm, q1, q2, q3, hv⟩
 simp (maxSteps := 1000000) only [go_sem, jA, jB, jC, jD, jE, jF, jG, jH, jI, jJ, ↓reduceIte, reduceCtorEq, jP, acO] at h23 v0 v1 vm q1 q2 q3
 try simp (disch := omega) only [go_sem, jA, jB, jC, jD, jE, jF, jG, jH, jI, jJ, ↓reduceIte, reduceCtorEq, jO, jM, jN, jK, jL, h23]
 refine cond_d (fun hlt => ?_) (fun hge => ?_)
 ·have hkn : k < n := by omega
  have e1 := gB_get (L := atF a.st a.ins a.outs n k) (i := k) (by rw [atF, mkL_length]; omega)
  have e2 := gB_get (L := atF a.st a.ins a.outs n k) (i := k + 1) (by rw [atF, mkL_length]; omega)
  rw [atF_get (by omega), if_pos (Nat.le_refl _)] at e1
  rw [atF_get (by omega), if_neg (by omega)] at e2
  have e3 := gB_get (L := a.ins) (i := k) (by omega)
  have e4 := gB_get (L := a.outs) (i := k) (by omega)
  have f1 := cF_fit hlen (by omega) (hv k (Nat.le_refl _))
  have f2 := hlen.gs (show k + 1 ≤ n by omega)
  have f3 := hlen.gx hkn
  have f4 := hlen.gy hkn
  have hcf : cF a.st a.ins a.outs (k + 1) = meetB (gB a.st (k + 1)) (fwB (cF a.st a.ins a.outs k) (gB a.ins k) (gB a.outs k)) := rfl
  have hsuc := atF_succ (S := a.st) (X := a.ins) (Y := a.outs) hkn
  generalize hcs : cF a.st a.ins a.outs (k + 1) = d at *
  generalize cF a.st a.ins a.outs k = s at *
  generalize gB a.st (k + 1) = t at *
  generalize gB a.ins k = x at *
  generalize gB a.outs k = y at *
  have f1 := fit_bd f1
  have f2 := fit_bd f2
  have f3 := fit_bd f3
  have f4 := fit_bd f4
  have hin : ((k : Int) + 1).toNat = k + 1 := by omega
  have hal : (atF a.st a.ins a.outs n k).length = n + 1 := by rw [atF, mkL_length]
  try simp (maxSteps := 500001) (disch := omega) only [go_sem, jA, jB, jC, jD, jE, jF, jG, jH, jI, jJ, ↓reduceIte, reduceCtorEq, jO, jM, jN, jK, jL, h23, v0, v1, vm, q1, q2, q3, bds_get, bds_length, e1, e2, e3, e4, hin, hLs, hLy, hn, hal, Option.map_some, bdv]
  repeat (refine And.intro (by first | omega | (rw [mxL]; omega) | (simp [maxLen]; done) | (simp [maxLen]; omega)) ?_)
  have hmt := ok_ref30_meet t (fwB s x y)
  rw [← hcf] at hmt
  refine call_pc hmt (by simp [go_sem, bdv]) ?_
  have hbs : (bds (atF a.st a.ins a.outs n k)).set (k + 1) (bdv d) = bds (atF a.st a.ins a.outs n (k + 1)) := by rw [bds_set, hsuc]
  simp only [bdv] at hbs
  have e5 : (atF a.st a.ins a.outs n (k + 1))[k + 1]? = some d := by
   rw [gB_get (by rw [atF, mkL_length]; omega), atF_get (by omega), if_pos (Nat.le_refl _), hcs]
  have hal2 : (atF a.st a.ins a.outs n (k + 1)).length = n + 1 := by rw [atF, mkL_length]
  try simp (disch := omega) only [go_sem, jA, jB, jC, jD, jE, jF, jG, jH, jI, jJ, ↓reduceIte, reduceCtorEq, jO, jM, jN, jK, jL, q1, bds_get, bds_length, e1, e2, e5, hin, hal, hal2, Option.map_some, bdv, hbs]
  repeat (refine And.intro (by first | omega | (rw [mxL]; omega) | (simp [maxLen]; done) | (simp [maxLen]; omega)) ?_)
  refine cond_d (fun g => ?_) (fun g => ?_)
  ·try simp (disch := omega) only [go_sem, jA, jB, jC, jD, jE, jF, jG, jH, jI, jJ, ↓reduceIte, reduceCtorEq, jO, jM, jN, jK, jL, y1, v1]
   refine no ?_
   rw [htS, if_neg]
   rw [vdB_iff]
   intro hV
   have := hV (k + 1) (by omega)
   rw [hcs] at this
   simp only [valB] at this
   omega
  ·try simp (disch := omega) only [go_sem, jA, jB, jC, jD, jE, jF, jG, jH, jI, jJ, ↓reduceIte, reduceCtorEq, jO, jM, jN, jK, jL, h23]
   refine up_next hkn ⟨(by first | rfl | (simp (disch := omega) only [go_sem, jA, jB, jC, jD, jE, jF, jG, jH, jI, jJ, ↓reduceIte, reduceCtorEq, jP, jO, jM, jN]; try rfl)), ?_, ?_, ?_, ?_, ?_, ?_, fun i hi => ?_⟩
   ·try simp (disch := omega) only [go_sem, jA, jB, jC, jD, jE, jF, jG, jH, jI, jJ, ↓reduceIte, reduceCtorEq, jO, jM, jN, jK, jL, y0]; exact v0
   ·try simp (disch := omega) only [go_sem, jA, jB, jC, jD, jE, jF, jG, jH, jI, jJ, ↓reduceIte, reduceCtorEq, jO, jM, jN, jK, jL, y1]; exact v1
   ·simp [St.trunc, upd, ym, vm, acO]
   ·simp [St.trunc, upd, show o1.1 < m + 1 by omega]
   ·try simp (disch := omega) only [go_sem, jA, jB, jC, jD, jE, jF, jG, jH, jI, jJ, ↓reduceIte, reduceCtorEq, jO, jM, jN, jK, jL, y2]; exact q2
   ·try simp (disch := omega) only [go_sem, jA, jB, jC, jD, jE, jF, jG, jH, jI, jJ, ↓reduceIte, reduceCtorEq, jO, jM, jN, jK, jL, y3]; exact q3
   ·by_cases e : i = k + 1
    ·subst e; rw [hcs]; simp only [valB]; omega
    ·exact hv i (by omega)
 obtain rfl : n = k := by omega
 have hV : VD a.st a.ins a.outs n := hv
 rw [atF_end, ← atB_zero] at q1
 try simp (disch := omega) only [go_sem, jA, jB, jC, jD, jE, jF, jG, jH, jI, jJ, ↓reduceIte, reduceCtorEq, jO, jM, jN, jK, jL, v0, vm, bds_length, hn]
 refine awp_upF [8, 94, 95, 96, 97, 98, 99, 100, 101, 102, 103, 104, 105, 106, 107, 108, 109, 110, 111, 112, 113, 114, 115, 116, 117, 118, 119, 120, 121, 122, 123, 124, 125, 126, 127, 128, 129, 130, 131, 132, 133, 134, 135, 136, 137, 138, 139, 140, 141, 142, 143, 144, 145, 146] (by kernel_rfl) n (fun k e σ => e 8 = .int .i64 ((n : Int) - 1 - (k : Int)) ∧ σ.ob 0 = some ⟨0, 4, 103, false, true, [.agg [.int .i64 a.fr, .list 2 (bds a.st), .list 2 (bds a.ins), .list 2 (bds a.outs)]]⟩ ∧ σ.ob 1 = some ⟨1, 4, 103, false, true, [.agg [.int .i64 0, .nil, .nil, .nil]]⟩ ∧
  σ.ob m = some ⟨c, 4, 103, false, true, [acO a.fr o1 o2 o3 (n + 1) n n]⟩ ∧ σ.ob o1.1 = some ⟨o1.2, 2, 33, false, true, bds (atB a.st a.ins a.outs n k)⟩ ∧ σ.ob o2.1 = some ⟨o2.2, 2, 33, false, true, bds a.ins⟩ ∧ σ.ob o3.1 = some ⟨o3.2, 2, 33, false, true, bds a.outs⟩) ?_ ?_
 ·exact ⟨by simp [go_sem], v0, v1, vm, q1, q2, q3⟩
 clear h23 v0 v1 vm q1 q2 q3 hv hge hk
 rintro k fe2 ob3 c3 hk ⟨h8, v0, v1, vm, q1, q2, q3⟩
 simp (maxSteps := 1000000) only [go_sem, jA, jB, jC, jD, jE, jF, jG, jH, jI, jJ, ↓reduceIte, reduceCtorEq, jP, acO] at h8 v0 v1 vm q1 q2 q3
 try simp (disch := omega) only [go_sem, jA, jB, jC, jD, jE, jF, jG, jH, jI, jJ, ↓reduceIte, reduceCtorEq, jO, jM, jN, jK, jL, h8]
 refine cond_d (fun hlt => ?_) (fun hge => ?_)
 ·have hkn : k < n := by omega
  obtain ⟨q, hq⟩ : ∃ q, q = n - (k + 1) := ⟨_, rfl⟩
  have hqi : (n : Int) - 1 - (k : Int) = (q : Int) := by omega
  have hqn : q < n := by omega
  rw [hqi] at h8
  have e1 := gB_get (L := atB a.st a.ins a.outs n k) (i := q) (by rw [atB, mkL_length]; omega)
  have e2 := gB_get (L := atB a.st a.ins a.outs n k) (i := q + 1) (by rw [atB, mkL_length]; omega)
  rw [atB_get (by omega), if_neg (by omega)] at e1
  rw [atB_get (by omega), if_pos (by omega)] at e2
  have e3 := gB_get (L := a.ins) (i := q) (by omega)
  have e4 := gB_get (L := a.outs) (i := q) (by omega)
  have f1 := cF_fit hlen (by omega) (hV q (by omega))
  have f2 := cB_fit hlen hV (show q + 1 ≤ n by omega)
  have f3 := hlen.gx hqn
  have f4 := hlen.gy hqn
  have hcf : cB a.st a.ins a.outs n q = meetB (cF a.st a.ins a.outs q) (bwB (cB a.st a.ins a.outs n (q + 1)) (gB a.ins q) (gB a.outs q)) := chB_step hqn
  have hsuc := atB_succ (S := a.st) (X := a.ins) (Y := a.outs) hkn
  rw [← hq] at hsuc
  generalize cB a.st a.ins a.outs n q = d at *
  generalize cF a.st a.ins a.outs q = s at *
  generalize cB a.st a.ins a.outs n (q + 1) = t at *
  generalize gB a.ins q = x at *
  generalize gB a.outs q = y at *
  have f1 := fit_bd f1
  have f2 := fit_bd f2
  have f3 := fit_bd f3
  have f4 := fit_bd f4
  have hin : ((q : Int) + 1).toNat = q + 1 := by omega
  have hal : (atB a.st a.ins a.outs n k).length = n + 1 := by rw [atB, mkL_length]
  try simp (maxSteps := 500001) (disch := omega) only [go_sem, jA, jB, jC, jD, jE, jF, jG, jH, jI, jJ, ↓reduceIte, reduceCtorEq, jO, jM, jN, jK, jL, hqi, v0, v1, vm, q1, q2, q3, bds_get, bds_length, e1, e2, e3, e4, hin, hLs, hLy, hn, hal, Option.map_some, bdv]
  repeat (refine And.intro (by first | omega | (rw [mxL]; omega) | (simp [maxLen]; done) | (simp [maxLen]; omega)) ?_)
  have hmt := ok_ref30_meet s (bwB t x y)
  rw [← hcf] at hmt
  refine call_pc hmt (by simp [go_sem, bdv]) ?_
  have hbs : (bds (atB a.st a.ins a.outs n k)).set q (bdv d) = bds (atB a.st a.ins a.outs n (k + 1)) := by rw [bds_set, hsuc]
  simp only [bdv] at hbs
  try simp (maxSteps := 500001) (disch := omega) only [go_sem, jA, jB, jC, jD, jE, jF, jG, jH, jI, jJ, ↓reduceIte, reduceCtorEq, jO, jM, jN, jK, jL, hqi, q1, bds_get, bds_length, e1, e2, hin, hal, Option.map_some, bdv, hbs]
  repeat (refine And.intro (by first | omega | (rw [mxL]; omega) | (simp [maxLen]; done) | (simp [maxLen]; omega)) ?_)
  refine up_next hkn ⟨?_, ?_, ?_, ?_, ?_, ?_, ?_⟩
  ·try simp (disch := omega) only [go_sem, jA, jB, jC, jD, jE, jF, jG, jH, jI, jJ, ↓reduceIte, reduceCtorEq, jO, jM, jN, jK, jL]
   congr 1
   omega
  ·simp [St.trunc, upd, y0, v0]
  ·simp [St.trunc, upd, y1, v1, hm0]
  ·simp [St.trunc, upd, ym, vm, acO]
  ·simp [St.trunc, upd, show o1.1 < m + 1 by omega]
  ·simp [St.trunc, upd, y2, q2, show o2.1 < m + 1 by omega]
  ·simp [St.trunc, upd, y3, q3, show o3.1 < m + 1 by omega]
 obtain rfl : n = k := by omega
 rw [atB_end] at q1
 try simp (disch := omega) only [go_sem, jA, jB, jC, jD, jE, jF, jG, jH, jI, jJ, ↓reduceIte, reduceCtorEq, jO, jM, jN, jK, jL, v0, vm, bds_length, hn]
 refine awp_upF [9, 150, 151, 152, 153, 154, 155, 156, 157, 158, 159, 160, 161, 162, 163, 164, 165, 166, 167, 168, 169, 170, 171, 172, 173, 174, 175, 176, 177, 178, 179, 180, 181, 182, 183, 184, 185, 186, 187, 188, 189, 190, 191, 192, 193, 194, 195, 196, 197, 198, 199, 200, 201, 202, 203, 204, 205, 206, 207, 208, 209, 210, 211, 212, 213, 214, 215, 216, 217, 218, 219, 220, 221, 222, 223, 224, 225, 226, 227, 228, 229, 230, 231, 232, 233, 234, 235, 236, 237, 238, 239, 240, 241, 242, 243, 244, 245, 246, 247, 248, 249, 250, 251] (by kernel_rfl) n (fun k e σ => e 150 = .int .i64 k ∧ σ.ob 0 = some ⟨0, 4, 103, false, true, [.agg [.int .i64 a.fr, .list 2 (bds a.st), .list 2 (bds a.ins), .list 2 (bds a.outs)]]⟩ ∧ σ.ob 1 = some ⟨1, 4, 103, false, true, [.agg [.int .i64 0, .nil, .nil, .nil]]⟩ ∧
  σ.ob m = some ⟨c, 4, 103, false, true, [acO a.fr o1 o2 o3 (n + 1) n n]⟩ ∧ σ.ob o1.1 = some ⟨o1.2, 2, 33, false, true, bds (mkL (n + 1) (cB a.st a.ins a.outs n))⟩ ∧ σ.ob o2.1 = some ⟨o2.2, 2, 33, false, true, bds (atX a.st a.ins a.outs n k)⟩ ∧ σ.ob o3.1 = some ⟨o3.2, 2, 33, false, true, bds (atY a.st a.ins a.outs n k)⟩) ?_ ?_
 ·exact ⟨(by first | rfl | (simp (disch := omega) only [go_sem, jA, jB, jC, jD, jE, jF, jG, jH, jI, jJ, ↓reduceIte, reduceCtorEq, jP, jO, jM, jN]; try rfl)), v0, v1, vm, q1, by rw [atX_zero hlen]; exact q2, by rw [atY_zero hlen]; exact q3⟩
 clear h8 v0 v1 vm q1 q2 q3 hge hk
 rintro k fe3 ob4 c4 hk ⟨h150, v0, v1, vm, q1, q2, q3⟩
 simp (maxSteps := 1000000) only [go_sem, jA, jB, jC, jD, jE, jF, jG, jH, jI, jJ, ↓reduceIte, reduceCtorEq, jP, acO] at h150 v0 v1 vm q1 q2 q3
 try simp (disch := omega) only [go_sem, jA, jB, jC, jD, jE, jF, jG, jH, jI, jJ, ↓reduceIte, reduceCtorEq, jO, jM, jN, jK, jL, h150]
 refine cond_d (fun hlt => ?_) (fun hge => ?_)
 ·have hkn : k < n := by omega
  have e1 := gB_get (L := mkL (n + 1) (cB a.st a.ins a.outs n)) (i := k) (by rw [mkL_length]; omega)
  have e2 := gB_get (L := mkL (n + 1) (cB a.st a.ins a.outs n)) (i := k + 1) (by rw [mkL_length]; omega)
  rw [gB_mk _ (by omega)] at e1 e2
  have e3 := gB_get (L := a.ins) (i := k) (by omega)
  have e4 := gB_get (L := a.outs) (i := k) (by omega)
  have f1 := cB_fit hlen hV (show k ≤ n by omega)
  have f2 := cB_fit hlen hV (show k + 1 ≤ n by omega)
  have f3 := hlen.gx hkn
  have f4 := hlen.gy hkn
  have hcx : cX a.st a.ins a.outs n k = meetB (gB a.ins k) (inF (cB a.st a.ins a.outs n k) (cB a.st a.ins a.outs n (k + 1)) (gB a.outs k)) := rfl
  have hcy : cY a.st a.ins a.outs n k = meetB (gB a.outs k) (outF (cB a.st a.ins a.outs n k) (cB a.st a.ins a.outs n (k + 1)) (gB a.ins k)) := rfl
  have hsx := atX_succ (S := a.st) (X := a.ins) (Y := a.outs) hkn
  have hsy := atY_succ (S := a.st) (X := a.ins) (Y := a.outs) hkn
  generalize cX a.st a.ins a.outs n k = d at *
  generalize cY a.st a.ins a.outs n k = d' at *
  generalize cB a.st a.ins a.outs n k = s at *
  generalize cB a.st a.ins a.outs n (k + 1) = t at *
  generalize gB a.ins k = x at *
  generalize gB a.outs k = y at *
  have f1 := fit_bd f1
  have f2 := fit_bd f2
  have f3 := fit_bd f3
  have f4 := fit_bd f4
  have hin : ((k : Int) + 1).toNat = k + 1 := by omega
  have hal : (atX a.st a.ins a.outs n k).length = n := by rw [atX, mkL_length]
  have hal2 : (atY a.st a.ins a.outs n k).length = n := by rw [atY, mkL_length]
  have hal3 : (atX a.st a.ins a.outs n (k + 1)).length = n := by rw [atX, mkL_length]
  try simp (maxSteps := 500001) (disch := omega) only [go_sem, jA, jB, jC, jD, jE, jF, jG, jH, jI, jJ, ↓reduceIte, reduceCtorEq, jO, jM, jN, jK, jL, h150, v0, v1, vm, q1, q2, q3, bds_get, bds_length, e1, e2, e3, e4, hin, hLs, hLy, hn, hal, hal2, mkL_length, Option.map_some, bdv]
  repeat (refine And.intro (by first | omega | (rw [mxL]; omega) | (simp [maxLen]; done) | (simp [maxLen]; omega)) ?_)
  have hmt := ok_ref30_meet x (inF s t y)
  rw [← hcx] at hmt
  refine call_pc hmt (by simp [go_sem, bdv]) ?_
  have hbs : (bds (atX a.st a.ins a.outs n k)).set k (bdv d) = bds (atX a.st a.ins a.outs n (k + 1)) := by rw [bds_set, hsx]
  simp only [bdv] at hbs
  have e7 := gB_get (L := atX a.st a.ins a.outs n k) (i := k) (by omega)
  have e8 := gB_get (L := atY a.st a.ins a.outs n k) (i := k) (by omega)
  have y12 : ¬ o1.1 = o2.1 := n12
  have ym2 : ¬ m = o2.1 := by omega
  have y02 : ¬ 0 = o2.1 := by omega
  have y32 : ¬ o3.1 = o2.1 := fun e => n23 e.symm
  try simp (maxSteps := 500001) (disch := omega) only [go_sem, jA, jB, jC, jD, jE, jF, jG, jH, jI, jJ, ↓reduceIte, reduceCtorEq, jO, jM, jN, jK, jL, h150, q1, q2, q3, v0, vm, bds_get, bds_length, e1, e2, e3, e4, e7, e8, hin, hLs, hLy, hn, hal, hal2, hal3, mkL_length, Option.map_some, bdv, hbs, y12, ym2, y02, y32]
  repeat (refine And.intro (by first | omega | (rw [mxL]; omega) | (simp [maxLen]; done) | (simp [maxLen]; omega)) ?_)
  have hmt2 := ok_ref30_meet y ⟨s.lo - t.hi + x.lo, s.hi - t.lo + x.hi⟩
  rw [show meetB y ⟨s.lo - t.hi + x.lo, s.hi - t.lo + x.hi⟩ = d' by rw [hcy]; congr 1; simp only [outF, Bd.mk.injEq]; omega] at hmt2
  refine call_pc hmt2 (by simp [go_sem, bdv]) ?_
  have hbs2 : (bds (atY a.st a.ins a.outs n k)).set k (bdv d') = bds (atY a.st a.ins a.outs n (k + 1)) := by rw [bds_set, hsy]
  simp only [bdv] at hbs2
  try simp (maxSteps := 500001) (disch := omega) only [go_sem, jA, jB, jC, jD, jE, jF, jG, jH, jI, jJ, ↓reduceIte, reduceCtorEq, jO, jM, jN, jK, jL, h150, q1, q2, q3, v0, vm, bds_get, bds_length, e1, e2, e3, e4, e7, e8, hin, hLs, hLy, hn, hal, hal2, hal3, Option.map_some, bdv, hbs2, y12, ym2, y02, y32]
  repeat (refine And.intro (by first | omega | (rw [mxL]; omega) | (simp [maxLen]; done) | (simp [maxLen]; omega)) ?_)
  have y03 : ¬ 0 = o3.1 := by omega
  have y13 : ¬ 1 = o3.1 := by omega
  have y1' : ¬ 1 = o2.1 := by omega
  have ym3 : ¬ m = o3.1 := by omega
  have y13' : ¬ o1.1 = o3.1 := n13
  have y23 : ¬ o2.1 = o3.1 := n23
  refine up_next hkn ⟨(by first | rfl | (simp (disch := omega) only [go_sem, jA, jB, jC, jD, jE, jF, jG, jH, jI, jJ, ↓reduceIte, reduceCtorEq, jP, jO, jM, jN]; try rfl)), ?_, ?_, ?_, ?_, ?_, ?_⟩
  ·simp [St.trunc, upd, y02, y03, v0]
  ·simp [St.trunc, upd, y1', y13, v1, hm0]
  ·simp [St.trunc, upd, ym2, ym3, vm, acO]
  ·simp [St.trunc, upd, y12, y13', q1, show o1.1 < m + 1 by omega]
  ·simp [St.trunc, upd, y23, show o2.1 < m + 1 by omega]
  ·simp [St.trunc, upd, show o3.1 < m + 1 by omega]
 obtain rfl : n = k := by omega
 try simp (disch := omega) only [go_sem, jA, jB, jC, jD, jE, jF, jG, jH, jI, jJ, ↓reduceIte, reduceCtorEq, jO, jM, jN, jK, jL, v0, v1, vm, z1, x1]
 rw [htS, if_pos (vdB_iff.2 hV)]
 have n1 : ¬ o1.1 = 1 := by omega
 have n2 : ¬ o2.1 = 1 := by omega
 have n3 : ¬ o3.1 = 1 := by omega
 refine Pub.pair (Pub.ag (.cons (.pure rfl) (.cons ?_ (.cons ?_ (.cons ?_ .nil))))) (.pure rfl)
 ·rw [show (tgt a, (0 : Int)).1.st = mkL (n + 1) (cB a.st a.ins a.outs n) by simp only [tgt, hn]]
  refine pub_bds ((upd_ne _ _ _ _ n1).trans q1) ?_
  rw [mkL_length]
 ·rw [show (tgt a, (0 : Int)).1.ins = mkL n (cX a.st a.ins a.outs n) by simp only [tgt, hn], ← atX_end]
  refine pub_bds ((upd_ne _ _ _ _ n2).trans q2) ?_
  rw [atX_end, mkL_length]
 ·rw [show (tgt a, (0 : Int)).1.outs = mkL n (cY a.st a.ins a.outs n) by simp only [tgt, hn], ← atY_end]
  refine pub_bds ((upd_ne _ _ _ _ n3).trans q3) ?_
  rw [atY_end, mkL_length]
def sq (a t : Ac) : Nat → Int
 | 0 => (gB t.st 0).lo
 | i + 1 => max (gB t.st (i + 1)).lo (sq a t i + (gB a.ins i).lo - (gB a.outs i).hi)
def cm (a t : Ac) (i : Nat) : Int := max (gB a.ins i).lo ((gB a.outs i).lo + (sq a t (i + 1) - sq a t i))
def og (a t : Ac) (i : Nat) : Int := cm a t i - (sq a t (i + 1) - sq a t i)
def mkI (n : Nat) (f : Nat → Int) : List Int := (List.range n).map f
theorem mkI_length (n : Nat) (f : Nat → Int) : (mkI n f).length = n := by simp [mkI]
theorem mkI_get {n i : Nat} (f : Nat → Int) (h : i < n) : (mkI n f)[i]? = some (f i) := by simp [mkI, h]
theorem mkI_getD {n i : Nat} (f : Nat → Int) (h : i < n) : (mkI n f).getD i 0 = f i := by rw [List.getD_eq_getElem?_getD, mkI_get f h]; rfl
theorem mkI_snoc (n : Nat) (f : Nat → Int) : mkI (n + 1) f = mkI n f ++ [f n] := by simp [mkI, List.range_succ]
theorem mkI_one (f : Nat → Int) : mkI 1 f = [f 0] := rfl
def firstS (a : Ac) : (List Int × List Int × List Int) × Int :=
 if (tightS a).2 ≠ 0 then (([], [], []), (tightS a).2)
 else ((mkI (a.ins.length + 1) (sq a (tightS a).1), mkI a.ins.length (cm a (tightS a).1), mkI a.ins.length (og a (tightS a).1)), 0)
theorem tightS_ok {a : Ac} (h : (tightS a).2 = 0) : AcOK a ∧ VD a.st a.ins a.outs a.ins.length ∧ (tightS a).1 = tgt a := by
 unfold tightS at h ⊢
 split at h
 ·rename_i h1; exact absurd h h1
 ·rename_i h1
  simp only [ne_eq, Decidable.not_not] at h1
  rw [if_neg (by simp [h1])]
  split at h
  ·rename_i h2; rw [if_pos h2]; exact ⟨chk_ok.1 h1, vdB_iff.1 h2, rfl⟩
  ·cases h
theorem tgt_st {a : Ac} {i : Nat} (h : i ≤ a.ins.length) : gB (tgt a).st i = cB a.st a.ins a.outs a.ins.length i := gB_mk _ (by omega)
theorem sq_in {a : Ac} (h : AcOK a) (hv : VD a.st a.ins a.outs a.ins.length) : ∀ i, i ≤ a.ins.length → inB (cB a.st a.ins a.outs a.ins.length i) (sq a (tgt a) i)
 | 0, hi => by
  have := (h.lens.vd hv).B hi
  rw [sq, tgt_st hi]
  simp only [inB, valB, cB] at *
  omega
 | i + 1, hi => by
  have h1 := sq_in h hv i (by omega)
  have h2 := (h.lens.vd hv).B hi
  rw [sq, tgt_st hi]
  unfold cB at *
  rw [chB_step (by omega)] at h1
  simp only [inB, valB, meetB, bwB] at *
  omega
theorem first_hi {a : Ac} (h : AcOK a) (hv : VD a.st a.ins a.outs a.ins.length) : Hi (gB a.st) (gB a.ins) (gB a.outs) a.ins.length (sq a (tgt a)) (cm a (tgt a)) (og a (tgt a)) := by
 have key : ∀ i, i < a.ins.length → inB (gB a.ins i) (cm a (tgt a) i) ∧ inB (gB a.outs i) (og a (tgt a) i) := fun i hi => by
  have h1 := sq_in h hv i (by omega)
  have h2 := sq_in h hv (i + 1) (by omega)
  have h3 := (h.lens.gx hi).val
  have h4 := (h.lens.gy hi).val
  have h5 : sq a (tgt a) (i + 1) = max (gB (tgt a).st (i + 1)).lo (sq a (tgt a) i + (gB a.ins i).lo - (gB a.outs i).hi) := rfl
  rw [tgt_st (by omega)] at h5
  unfold cB at h1 h2 h5
  rw [chB_step hi] at h1
  unfold og cm
  generalize sq a (tgt a) (i + 1) = s' at *
  generalize sq a (tgt a) i = s at *
  simp only [inB, valB, meetB, bwB] at *
  omega
 refine ⟨fun i hi => chF_sub i _ (chB_F hi (sq_in h hv i hi)), fun i hi => (key i hi).1, fun i hi => (key i hi).2, fun i hi => ?_⟩
 unfold og; omega
def Dj (X Y : AV) : Prop := ∀ i, Oth X i ∨ Oth Y i
theorem Dj.symm {X Y : AV} (h : Dj X Y) : Dj Y X := fun i => (h i).symm
theorem Dj.nil (X : AV) : Dj .nil X := fun i => .inl (Oth.nil i)
theorem Dj.kp {X X' Y : AV} {es : Nat} {ty : TypeId} {σ τ : St} {L : List AV} (h : Dj X Y) (hY : SlR es ty σ L Y) (hK : Kp σ X τ X') : Dj X' Y := fun i => by
 rcases Classical.em (Oth Y i) with h1 | h1
 ·exact .inr h1
 ·refine .inl (hK.2.2 i ?_ ((h i).resolve_right h1))
  rcases Nat.lt_or_ge i σ.n with h2 | h2
  ·exact h2
  ·exact absurd (hY.oth h2) h1
theorem SlR.dj {X X' Y : AV} {es : Nat} {ty : TypeId} {σ τ : St} {L : List AV} (hY : SlR es ty σ L Y) (h : Dj X Y) (hK : Kp σ X τ X') : SlR es ty τ L Y := hY.move hK.1 fun i hi hno => hK.2.1 i hi ((h i).resolve_right hno)
structure Tri (σ : St) (X8 X9 X10 : AV) (A B C : List Int) (q : Nat) : Prop where
 r8 : SlR 1 3 σ (ints A) X8
 r9 : SlR 1 3 σ (ints B) X9
 r10 : SlR 1 3 σ (ints C) X10
 o8 : ∀ i, i < q → Oth X8 i
 o9 : ∀ i, i < q → Oth X9 i
 o10 : ∀ i, i < q → Oth X10 i
 d89 : Dj X8 X9
 d810 : Dj X8 X10
 d910 : Dj X9 X10
theorem ints_one (L : List Int) (x : Int) : ints L ++ [.int .i64 x] = ints (L ++ [x]) := by simp [ints]
section
variable {σ τ : St} {X8 X9 X10 X : AV} {A B C : List Int} {q : Nat}
theorem Tri.mv (h : Tri σ X8 X9 X10 A B C q) (hn : σ.n ≤ τ.n) (hf : ∀ i, q ≤ i → i < σ.n → τ.ob i = σ.ob i) : Tri τ X8 X9 X10 A B C q := by
 have key : ∀ {Y : AV} {L : List AV}, SlR 1 3 σ L Y → (∀ i, i < q → Oth Y i) → SlR 1 3 τ L Y := fun hY o => hY.move hn fun i hi hno => hf i (by
  rcases Nat.lt_or_ge i q with h | h
  ·exact absurd (o i h) hno
  ·exact h) hi
 exact ⟨key h.r8 h.o8, key h.r9 h.o9, key h.r10 h.o10, h.o8, h.o9, h.o10, h.d89, h.d810, h.d910⟩
theorem Tri.app8 (h : Tri σ X8 X9 X10 A B C q) (hq : q ≤ σ.n) {x : Int} (hR : SlR 1 3 τ (ints A ++ [.int .i64 x]) X) (hK : Kp σ X8 τ X) : Tri τ X X9 X10 (A ++ [x]) B C q :=
 ⟨by rw [← ints_one]; exact hR, h.r9.dj h.d89 hK, h.r10.dj h.d810 hK, fun i hi => hK.2.2 i (by omega) (h.o8 i hi), h.o9, h.o10, h.d89.kp h.r9 hK, h.d810.kp h.r10 hK, h.d910⟩
theorem Tri.app9 (h : Tri σ X8 X9 X10 A B C q) (hq : q ≤ σ.n) {x : Int} (hR : SlR 1 3 τ (ints B ++ [.int .i64 x]) X) (hK : Kp σ X9 τ X) : Tri τ X8 X X10 A (B ++ [x]) C q :=
 ⟨h.r8.dj h.d89.symm hK, by rw [← ints_one]; exact hR, h.r10.dj h.d910 hK, h.o8, fun i hi => hK.2.2 i (by omega) (h.o9 i hi), h.o10, (h.d89.symm.kp h.r8 hK).symm, h.d810, h.d910.kp h.r10 hK⟩
theorem Tri.app10 (h : Tri σ X8 X9 X10 A B C q) (hq : q ≤ σ.n) {x : Int} (hR : SlR 1 3 τ (ints C ++ [.int .i64 x]) X) (hK : Kp σ X10 τ X) : Tri τ X8 X9 X A B (C ++ [x]) q :=
 ⟨h.r8.dj h.d810.symm hK, h.r9.dj h.d910.symm hK, by rw [← ints_one]; exact hR, h.o8, h.o9, fun i hi => hK.2.2 i (by omega) (h.o10 i hi), h.d89, (h.d810.symm.kp h.r8 hK).symm, (h.d910.symm.kp h.r9 hK).symm⟩
theorem Tri.ren {id g g2 l l2 : Nat} {x : Int} (h : Tri σ (.sl id g 1 0 l) X9 X10 A B C q) (hn : σ.n ≤ τ.n) (hq : q ≤ id) (hid : id < σ.n) (hl : l2 = A.length + 1) (ho : τ.ob id = some ⟨g2, 1, 3, false, true, ints A ++ [.int .i64 x]⟩) (hf : ∀ i, i < σ.n → i ≠ id → τ.ob i = σ.ob i) : Tri τ (.sl id g2 1 0 l2) X9 X10 (A ++ [x]) B C q := by
 have key : ∀ {Y : AV} {L : List AV}, SlR 1 3 σ L Y → Dj (.sl id g 1 0 l) Y → SlR 1 3 τ L Y := fun hY hd => hY.move hn fun i hi hno => hf i hi fun e => (hd i).elim (fun h => h.ne e.symm) hno
 have key2 : ∀ {Y : AV}, Dj (.sl id g 1 0 l) Y → Dj (.sl id g2 1 0 l2) Y := fun hd i => (hd i).imp_left fun h => Oth.sl h.ne
 refine ⟨.inr ⟨id, g2, by rw [hl, ints_length]; simp, by omega, by rw [ho, ints_one]⟩, key h.r9 h.d89, key h.r10 h.d810, fun i hi => Oth.sl (by omega), h.o9, h.o10, key2 h.d89, key2 h.d810, h.d910⟩
theorem Tri.id_le {id g l : Nat} (h : Tri σ (.sl id g 1 0 l) X9 X10 A B C q) : q ≤ id := by
 rcases Nat.lt_or_ge id q with hh | hh
 ·exact absurd rfl (h.o8 id hh).ne
 ·exact hh
theorem app8_tri {b : Nat} {x : Int} {K : AV → St → Prop} (h : Tri σ X8 X9 X10 A B C q) (hq : q ≤ σ.n) (hm : A.length + 1 ≤ 1000) (hb : b ≤ 1000) (k : ∀ X τ, Tri τ X X9 X10 (A ++ [x]) B C q → σ.n ≤ τ.n → (∀ i, i < q → τ.ob i = σ.ob i) → K X τ) : appC 1 b 3 X8 (.list 1 [.int .i64 x]) σ K := by
 have hl : (ints A).length = A.length := ints_length A
 refine app_slr (b := b) h.r8 (by omega) (Nat.le_trans (Nat.mul_le_mul (hl ▸ hm) hb) (by omega)) fun X τ hR hK => ?_
 exact k X τ (h.app8 hq hR hK) hK.1 fun i hi => hK.2.1 i (by omega) (h.o8 i hi)
theorem Tri.swap (h : Tri σ X8 X9 X10 A B C q) : Tri σ X9 X10 X8 B C A q := ⟨h.r9, h.r10, h.r8, h.o9, h.o10, h.o8, h.d910, h.d89.symm, h.d810.symm⟩
end
theorem app9_triK {σ : St} {X8 X9 X10 : AV} {A B C : List Int} {q b : Nat} {x : Int} {K : AV → St → Prop} (h : Tri σ X8 X9 X10 A B C q) (hq : q ≤ σ.n) (hm : B.length + 1 ≤ 1000) (hb : b ≤ 1000) (k : ∀ X τ, Tri τ X8 X X10 A (B ++ [x]) C q → Kp σ X9 τ X → (∀ i, i < q → τ.ob i = σ.ob i) → K X τ) : appC 1 b 3 X9 (.list 1 [.int .i64 x]) σ K := by
 have hl : (ints B).length = B.length := ints_length B
 refine app_slr (b := b) h.r9 (by omega) (Nat.le_trans (Nat.mul_le_mul (hl ▸ hm) hb) (by omega)) fun X τ hR hK => ?_
 exact k X τ (h.app9 hq hR hK) hK fun i hi => hK.2.1 i (by omega) (h.o9 i hi)
theorem app10_triK {σ : St} {X8 X9 X10 : AV} {A B C : List Int} {q b : Nat} {x : Int} {K : AV → St → Prop} (h : Tri σ X8 X9 X10 A B C q) (hq : q ≤ σ.n) (hm : C.length + 1 ≤ 1000) (hb : b ≤ 1000) (k : ∀ X τ, Tri τ X8 X9 X A B (C ++ [x]) q → Kp σ X10 τ X → (∀ i, i < q → τ.ob i = σ.ob i) → K X τ) : appC 1 b 3 X10 (.list 1 [.int .i64 x]) σ K := by
 have hl : (ints C).length = C.length := ints_length C
 refine app_slr (b := b) h.r10 (by omega) (Nat.le_trans (Nat.mul_le_mul (hl ▸ hm) hb) (by omega)) fun X τ hR hK => ?_
 exact k X τ (h.app10 hq hR hK) hK fun i hi => hK.2.1 i (by omega) (h.o10 i hi)
theorem Dj.oth {X : AV} {id g es o n : Nat} (h : Dj (.sl id g es o n) X) : Oth X id := (h id).resolve_left fun h => h.ne rfl
theorem ok_ref30_First (a : Ac) (hl : AcL a) : PC prog n_ref30_First [acv a] (.tuple [.list 1 (ints (firstS a).1.1), .list 1 (ints (firstS a).1.2.1), .list 1 (ints (firstS a).1.2.2), .int .i64 (firstS a).2]) := by
 refine PC_of_body b_ref30_First (by simp) ?_
 simp only [c_ref30_First, go_sem, jA, jB, jC, jD, jE, jF, jG, jH, jI, jJ, ↓reduceIte, reduceCtorEq, jP, acv]
 refine call_pc (ok_ref30_Tighten a hl) (by simp [go_sem, acv, bds_pur]) ?_
 try simp (disch := omega) only [go_sem, jA, jB, jC, jD, jE, jF, jG, jH, jI, jJ, ↓reduceIte, reduceCtorEq, jO, jM, jN, jK, jL, acv]
 refine cond_n (fun h => ?_) (fun h => ?_) <;> try simp (disch := omega) only [go_sem, jA, jB, jC, jD, jE, jF, jG, jH, jI, jJ, ↓reduceIte, reduceCtorEq, jO, jM, jN, jK, jL]
 ·rw [show firstS a = (([], [], []), (tightS a).2) by simp only [firstS, if_pos h]]
  exact Pub.tu (.cons (.nl 1) (.cons (.nl 1) (.cons (.nl 1) (.cons (.pure rfl) .nil))))
 obtain ⟨hok, hv, ht⟩ := tightS_ok h
 have hhi := first_hi hok hv
 rw [show firstS a = ((mkI (a.ins.length + 1) (sq a (tgt a)), mkI a.ins.length (cm a (tgt a)), mkI a.ins.length (og a (tgt a))), 0) by simp only [firstS]; rw [if_neg (by simp [h]), ht]]
 rw [ht]
 have hLs := hok.ns
 have hLy := hok.no
 have hLn := hok.n2
 have hT1 : (tgt a).st.length = a.ins.length + 1 := mkL_length _ _
 have hT2 : (tgt a).ins.length = a.ins.length := mkL_length _ _
 have e0 := gB_get (L := (tgt a).st) (i := 0) (by omega)
 have hs0 : (gB (tgt a).st 0).lo = sq a (tgt a) 0 := rfl
 have hst : ∀ i, i ≤ a.ins.length → 0 ≤ sq a (tgt a) i ∧ sq a (tgt a) i ≤ 274877906944 := fun i hi => inB_fit (cB_fit hok.lens hv hi) (sq_in hok hv i hi)
 have hstep : ∀ i, sq a (tgt a) (i + 1) = max (gB (tgt a).st (i + 1)).lo (sq a (tgt a) i + (gB a.ins i).lo - (gB a.outs i).hi) := fun i => rfl
 have hcm : ∀ i, cm a (tgt a) i = max (gB a.ins i).lo ((gB a.outs i).lo + (sq a (tgt a) (i + 1) - sq a (tgt a) i)) := fun i => rfl
 have hog : ∀ i, og a (tgt a) i = cm a (tgt a) i - (sq a (tgt a) (i + 1) - sq a (tgt a) i) := fun i => rfl
 have hcb : ∀ i, i < a.ins.length → 0 ≤ cm a (tgt a) i ∧ cm a (tgt a) i ≤ 274877906944 := fun i hi => inB_fit (hok.lens.gx hi) (hhi.ins i hi)
 have htf : ∀ i, i ≤ a.ins.length → 0 ≤ (gB (tgt a).st i).lo ∧ (gB (tgt a).st i).lo ≤ 274877906944 := fun i hi => by
  have := fit_bd (cB_fit hok.lens hv hi); rw [tgt_st hi]; omega
 generalize tgt a = t at *
 generalize sq a t = f at *
 generalize cm a t = f2 at *
 generalize og a t = f3 at *
 try simp (disch := omega) only [go_sem, jA, jB, jC, jD, jE, jF, jG, jH, jI, jJ, ↓reduceIte, reduceCtorEq, jO, jM, jN, jK, jL, bds_length, bds_get, e0, Option.map_some, bdv, hT1, hT2]
 refine ⟨by omega, ?_⟩
 have hI0 : SlR 1 3 (⟨upd (fun x => none) 2 (some ⟨2, 1, 3, false, true, [.int .i64 (gB t.st 0).lo]⟩), 3, 3⟩ : St) (ints (mkI 1 f)) (.sl 2 2 1 0 1) := .inr ⟨2, 2, rfl, by simp only; omega, by rw [mkI_one, hs0]; simp [upd, ints]⟩
 refine awp_upG [8, 9, 10, 11, 12, 13, 31, 32, 33, 34, 35, 36, 37, 38, 39, 40, 41, 42, 43, 44, 45, 46, 47, 48, 49, 50, 51, 52, 53, 54, 55, 56, 57, 58, 59, 60, 61, 62, 63, 64, 65, 66, 67, 68, 69, 70, 71, 72, 73, 74, 75, 76, 77, 78, 79, 80, 81, 82, 83, 84, 85, 86, 87, 88, 89, 90, 91, 92, 93, 94, 95, 96, 97, 98, 99] (by kernel_rfl) a.ins.length (fun k e σ => e 31 = .int .i64 k ∧ σ.ob 0 = some ⟨0, 4, 103, false, true, [.agg [.int .i64 a.fr, .list 2 (bds a.st), .list 2 (bds a.ins), .list 2 (bds a.outs)]]⟩ ∧
  σ.ob 1 = some ⟨1, 4, 103, false, true, [.agg [.int .i64 t.fr, .list 2 (bds t.st), .list 2 (bds t.ins), .list 2 (bds t.outs)]]⟩ ∧ Tri σ (e 8) (e 9) (e 10) (mkI (k + 1) f) (mkI k f2) (mkI k f3) 2) ?_ ?_
 ·refine ⟨(by first | rfl | (simp (disch := omega) only [go_sem, jA, jB, jC, jD, jE, jF, jG, jH, jI, jJ, ↓reduceIte, reduceCtorEq, jP, jO, jM, jN]; try rfl)), (by first | rfl | (simp (disch := omega) only [go_sem, jA, jB, jC, jD, jE, jF, jG, jH, jI, jJ, ↓reduceIte, reduceCtorEq, jP, jO, jM, jN]; try rfl)), (by first | rfl | (simp (disch := omega) only [go_sem, jA, jB, jC, jD, jE, jF, jG, jH, jI, jJ, ↓reduceIte, reduceCtorEq, jP, jO, jM, jN]; try rfl)), ?_⟩
  try simp (disch := omega) only [go_sem, jA, jB, jC, jD, jE, jF, jG, jH, jI, jJ, ↓reduceIte, reduceCtorEq, jO, jM, jN, jK, jL]
  exact ⟨hI0.move (Nat.le_refl _) fun i hi hno => by
    have hi : i < 3 := hi
    have h2 : i = 2 := by
     rcases Nat.lt_or_ge i 2 with h | h
     ·exact absurd (Oth.sl (by omega)) hno
     ·omega
    subst h2; simp [upd], .nil, .nil, fun i hi => Oth.sl (by omega), fun i _ => Oth.nil i, fun i _ => Oth.nil i, (Dj.nil _).symm, (Dj.nil _).symm, Dj.nil _⟩
 rintro k fe ob m c hk hm ⟨h31, hob0, hob1, hT⟩
 simp (maxSteps := 1000000) only [go_sem, jA, jB, jC, jD, jE, jF, jG, jH, jI, jJ, ↓reduceIte, reduceCtorEq, jP] at h31 hob0 hob1 hT hm
 obtain ⟨X8, h8⟩ : ∃ X, fe 8 = X := ⟨_, rfl⟩
 obtain ⟨X9, h9⟩ : ∃ X, fe 9 = X := ⟨_, rfl⟩
 obtain ⟨X10, h10⟩ : ∃ X, fe 10 = X := ⟨_, rfl⟩
 rw [h8, h9, h10] at hT
 try simp (disch := omega) only [go_sem, jA, jB, jC, jD, jE, jF, jG, jH, jI, jJ, ↓reduceIte, reduceCtorEq, jO, jM, jN, jK, jL, h31]
 refine cond_d (fun hlt => ?_) (fun hge => ?_)
 ·have hkl : k < a.ins.length := by omega
  have e1 := gB_get (L := t.st) (i := k + 1) (by omega)
  have e3 := gB_get (L := a.ins) (i := k) (by omega)
  have e4 := gB_get (L := a.outs) (i := k) (by omega)
  have f3' := fit_bd (gB_fit hok.bi (i := k) (by omega))
  have f4' := fit_bd (gB_fit hok.bo (i := k) (by omega))
  have g1 := hst k (by omega)
  have g2 := hst (k + 1) (by omega)
  have g3 := htf (k + 1) (by omega)
  have g4 := hstep k
  have g5 := hcm k
  have g6 := hog k
  have g7 := hcb k hkl
  have hT0 := hT
  obtain ⟨r8, -⟩ := hT
  rcases r8 with ⟨-, hnil⟩ | ⟨id, g, rfl, hid, hidob⟩
  ·simp [ints, mkI] at hnil
  simp only [ints_length, mkI_length] at h8 hT0 hidob
  have hid : id < m := hid
  have hid2 := hT0.id_le
  have z4 : ¬ 0 = id := by omega
  have z5 : ¬ 1 = id := by omega
  have e8 : (mkI (k + 1) f)[k]? = some (f k) := mkI_get f (by omega)
  try simp (disch := omega) only [go_sem, jA, jB, jC, jD, jE, jF, jG, jH, jI, jJ, ↓reduceIte, reduceCtorEq, jO, jM, jN, jK, jL, h31, h8, hob0, hob1, bds_length, bds_get, e1, e3, e4, Option.map_some, bdv, hidob, ints_length, mkI_length, ints_get, e8]
  refine ⟨by omega, by omega, by omega, by omega, by omega, by omega, by omega, by omega, ?_⟩
  rw [show ((k : Int) + 1).toNat = k + 1 by omega]
  try simp (disch := omega) only [go_sem, jA, jB, jC, jD, jE, jF, jG, jH, jI, jJ, ↓reduceIte, reduceCtorEq, jO, jM, jN, jK, jL, e1, bdv, Option.map_some, ← g4, hidob, ints_length, mkI_length, ints_get, e8, ← g5]
  try simp (disch := omega) only [go_sem, jA, jB, jC, jD, jE, jF, jG, jH, jI, jJ, ↓reduceIte, reduceCtorEq, jO, jM, jN, jK, jL, hob0, hob1, bds_length, bds_get, e1, e3, e4, Option.map_some, bdv, hidob, ints_length, mkI_length, ints_get, e8]
  refine ⟨by omega, by omega, by omega, by omega, by omega, by omega, ?_⟩
  have g8 : max (gB a.ins k).lo (f (k + 1) - f k + (gB a.outs k).lo) = f2 k := by omega
  try simp (disch := omega) only [go_sem, jA, jB, jC, jD, jE, jF, jG, jH, jI, jJ, ↓reduceIte, reduceCtorEq, jO, jM, jN, jK, jL, g8, hidob, ints_length, mkI_length, ints_get, e8]
  refine ⟨by rw [mxL]; omega, by omega, ?_⟩
  try simp (disch := omega) only [go_sem, jA, jB, jC, jD, jE, jF, jG, jH, jI, jJ, ↓reduceIte, reduceCtorEq, jO, jM, jN, jK, jL, hidob, h8, h9, h10, ints_length, mkI_length]
  refine ⟨by omega, by omega, ?_⟩
  have e9 : (mkI (k + 1 + 1) f)[k]? = some (f k) := mkI_get f (by omega)
  try simp (disch := omega) only [go_sem, jA, jB, jC, jD, jE, jF, jG, jH, jI, jJ, ↓reduceIte, reduceCtorEq, jO, jM, jN, jK, jL, ints_one, ← mkI_snoc, ints_get, e9, Option.map_some]
  have g9 : f k + f2 k - f (k + 1) = f3 k := by omega
  try simp (disch := omega) only [go_sem, jA, jB, jC, jD, jE, jF, jG, jH, jI, jJ, ↓reduceIte, reduceCtorEq, jO, jM, jN, jK, jL, g9, h9, h10]
  refine app9_triK (A := mkI (k + 1 + 1) f) (B := mkI k f2) (C := mkI k f3) (q := 2) (X8 := .sl id c 1 0 (k + 1 + 1)) (X10 := X10) ?_ (by simp only; omega) (by rw [mkI_length]; omega) (by omega) fun Y9 τ9 hT9 hK9 hf9 => ?_
  ·rw [mkI_snoc (k + 1)]
   refine hT0.ren (by simp only; omega) hT0.id_le hid (by rw [mkI_length]) (by try simp (disch := omega) only [go_sem, jA, jB, jC, jD, jE, jF, jG, jH, jI, jJ, ↓reduceIte, reduceCtorEq, jO, jM, jN, jK, jL, ints_one]) fun i hi hne => ?_
   simp only at hi ⊢
   rw [upd_ne _ _ _ _ hne]
  have hn9 := hK9.1
  simp only at hn9 hf9
  rw [← mkI_snoc] at hT9
  have w0 := hf9 0 (by omega)
  have w1 := hf9 1 (by omega)
  try simp (disch := omega) only [go_sem, jA, jB, jC, jD, jE, jF, jG, jH, jI, jJ, ↓reduceIte, reduceCtorEq, jO, jM, jN, jK, jL, z4, hob0] at w0
  try simp (disch := omega) only [go_sem, jA, jB, jC, jD, jE, jF, jG, jH, jI, jJ, ↓reduceIte, reduceCtorEq, jO, jM, jN, jK, jL, z5, hob1] at w1
  have v9 := hK9.2.1 id hid hT0.d89.oth
  simp only [upd_same] at v9
  try simp (disch := omega) only [go_sem, jA, jB, jC, jD, jE, jF, jG, jH, jI, jJ, ↓reduceIte, reduceCtorEq, jO, jM, jN, jK, jL, h10]
  refine ⟨v9, ?_⟩
  refine app10_triK hT9 (by omega) (by rw [mkI_length]; omega) (by omega) fun Y10 τ10 hT10 hK10 hf10 => ?_
  have hn10 := hK10.1
  rw [← mkI_snoc] at hT10
  have w00 := (hf10 0 (by omega)).trans w0
  have w11 := (hf10 1 (by omega)).trans w1
  try simp (disch := omega) only [go_sem, jA, jB, jC, jD, jE, jF, jG, jH, jI, jJ, ↓reduceIte, reduceCtorEq, jO, jM, jN, jK, jL, h31]
  refine up_nextG τ10.n hkl (by omega) ⟨(by first | rfl | (simp (disch := omega) only [go_sem, jA, jB, jC, jD, jE, jF, jG, jH, jI, jJ, ↓reduceIte, reduceCtorEq, jP, jO, jM, jN]; try rfl)), ?_, ?_, ?_⟩
  ·simp only [St.trunc]; rw [if_pos (by omega)]; exact w00
  ·simp only [St.trunc]; rw [if_pos (by omega)]; exact w11
  ·try simp (disch := omega) only [go_sem, jA, jB, jC, jD, jE, jF, jG, jH, jI, jJ, ↓reduceIte, reduceCtorEq, jO, jM, jN, jK, jL]
   exact hT10.mv (Nat.le_refl _) fun i _ hi => by simp [St.trunc, hi]
 ·try simp (disch := omega) only [go_sem, jA, jB, jC, jD, jE, jF, jG, jH, jI, jJ, ↓reduceIte, reduceCtorEq, jO, jM, jN, jK, jL, h8, h9, h10]
  obtain rfl : a.ins.length = k := by omega
  exact Pub.tu (.cons (hT.r8.pub (fun _ _ _ => rfl) (ints_pur _) (ints_ok _)) (.cons (hT.r9.pub (fun _ _ _ => rfl) (ints_pur _) (ints_ok _)) (.cons (hT.r10.pub (fun _ _ _ => rfl) (ints_pur _) (ints_ok _)) (.cons (.pure rfl) .nil))))
structure Hst (n : Nat) (S I O : List Int) : Prop where
 ls : S.length = n + 1
 li : I.length = n
 lo : O.length = n
 s : ∀ i, i ≤ n → 0 ≤ S.getD i 0 ∧ S.getD i 0 ≤ 39 + 9 * (i : Int)
 i : ∀ i, i < n → 0 ≤ I.getD i 0 ∧ I.getD i 0 ≤ 9
 o : ∀ i, i < n → 0 ≤ O.getD i 0 ∧ O.getD i 0 ≤ 12
 bal : ∀ i, i < n → S.getD (i + 1) 0 = S.getD i 0 + I.getD i 0 - O.getD i 0
theorem getD_snl {L : List Int} {x : Int} {i : Nat} (h : i < L.length) : (L ++ [x]).getD i 0 = L.getD i 0 := by
 rw [List.getD_eq_getElem?_getD, List.getD_eq_getElem?_getD, List.getElem?_append_left h]
theorem getD_snr {L : List Int} {x : Int} {i : Nat} (h : i = L.length) : (L ++ [x]).getD i 0 = x := by
 subst h; simp [List.getD_eq_getElem?_getD]
theorem get_getD {L : List Int} {i : Nat} (h : i < L.length) : L[i]? = some (L.getD i 0) := by
 rw [List.getD_eq_getElem?_getD, List.getElem?_eq_getElem h]; rfl
theorem Hst.one {x : Int} (h : 0 ≤ x) (h2 : x ≤ 39) : Hst 0 [x] [] [] :=
 ⟨rfl, rfl, rfl, fun i hi => by (obtain rfl : i = 0 := by omega); simp; omega, fun i hi => by omega, fun i hi => by omega, fun i hi => by omega⟩
theorem Hst.snoc {n : Nat} {S I O : List Int} (h : Hst n S I O) {x y a : Int} (ha : a = S.getD n 0) (hx : 0 ≤ x ∧ x ≤ 9) (hy : 0 ≤ y ∧ y ≤ 12) (hd : y ≤ a + x) : Hst (n + 1) (S ++ [a + x - y]) (I ++ [x]) (O ++ [y]) := by
 subst ha
 have h1 := h.ls
 have h2 := h.li
 have h3 := h.lo
 refine ⟨by simp [h1], by simp [h2], by simp [h3], fun i hi => ?_, fun i hi => ?_, fun i hi => ?_, fun i hi => ?_⟩
 ·rcases Nat.lt_or_ge i (n + 1) with hh | hh
  ·rw [getD_snl (by omega)]; exact h.s i (by omega)
  ·rw [getD_snr (by omega)]; have := h.s n (by omega); omega
 ·rcases Nat.lt_or_ge i n with hh | hh
  ·rw [getD_snl (by omega)]; exact h.i i hh
  ·rw [getD_snr (by omega)]; exact hx
 ·rcases Nat.lt_or_ge i n with hh | hh
  ·rw [getD_snl (by omega)]; exact h.o i hh
  ·rw [getD_snr (by omega)]; exact hy
 ·rcases Nat.lt_or_ge i n with hh | hh
  ·rw [getD_snl (by omega), getD_snl (by omega), getD_snl (by omega), getD_snl (by omega)]; exact h.bal i hh
  ·obtain rfl : i = n := by omega
   rw [getD_snr (by omega), getD_snl (by omega), getD_snr (by omega), getD_snr (by omega)]
theorem SlR.at {es : Nat} {ty : TypeId} {σ : St} {L : List AV} {id g n : Nat} (h : SlR es ty σ L (.sl id g es 0 n)) : id < σ.n ∧ n = L.length ∧ σ.ob id = some ⟨g, es, ty, false, true, L⟩ := by
 rcases h with ⟨h, _⟩ | ⟨id, g, h, h2, h3⟩
 ·cases h
 ·cases h; exact ⟨h2, rfl, h3⟩
theorem hc_flow_History (σ : St) (id g : Nat) (t : List Int) (at' : Nat) (hl : t.length ≤ 9223372036854775807) (hid : id < σ.n) (hob : σ.ob id = some ⟨g, 2, ty_Deck, false, true, [deckV t at']⟩) :
  HC prog n_flow_History [.ptr id g 2 0 0] σ (DeckR σ id g t fun r => ∃ n S I O, r = .tuple [.list 1 (ints S), .list 1 (ints I), .list 1 (ints O)] ∧ Hst n S I O ∧ 1 ≤ n ∧ n ≤ 5) := by
 refine HC.deck hid ?_
 obtain ⟨ob0, n0, c0⟩ := σ
 simp only at hob hid
 refine HC_of_body b_flow_History (by simp) ?_
 simp only [c_flow_History, go_sem, jA, jB, jC, jD, jE, jF, jG, jH, jI, jJ, ↓reduceIte, reduceCtorEq, jP]
 have h0 : ¬ id = n0 := by omega
 have h1 : ¬ id = n0 + 1 := by omega
 have h2 : ¬ n0 = id := by omega
 refine call_hc (ok_mk_Deck_Next _ id g ty_Deck true t at' 40 (by try simp (disch := omega) only [go_sem, jA, jB, jC, jD, jE, jF, jG, jH, jI, jJ, ↓reduceIte, reduceCtorEq, jO, jM, jN, jK, jL]; exact hob) (by omega) hl) ?_
 have hx1 := deckR_bd t at' 40
 generalize deckR t at' 40 = dr at *
 obtain ⟨x1, at1⟩ := dr
 simp only at hx1
 try simp (disch := omega) only [go_sem, jA, jB, jC, jD, jE, jF, jG, jH, jI, jJ, ↓reduceIte, reduceCtorEq, jO, jM, jN, jK, jL, h0, h1]
 refine call_hc (ok_mk_Deck_Next _ id g ty_Deck true t at1 5 (by try simp (disch := omega) only [go_sem, jA, jB, jC, jD, jE, jF, jG, jH, jI, jJ, ↓reduceIte, reduceCtorEq, jO, jM, jN, jK, jL, h0, h1]) (by omega) hl) ?_
 have hx2 := deckR_bd t at1 5
 generalize deckR t at1 5 = dr at *
 obtain ⟨x2, at2⟩ := dr
 simp only at hx2
 try simp (disch := omega) only [go_sem, jA, jB, jC, jD, jE, jF, jG, jH, jI, jJ, ↓reduceIte, reduceCtorEq, jO, jM, jN, jK, jL, h0, h1]
 obtain ⟨K, hK⟩ : ∃ K : Nat, (K : Int) = x2 ∧ K ≤ 4 := ⟨x2.toNat, by omega, by omega⟩
 obtain ⟨rfl, hK⟩ := hK
 have hx : 0 ≤ x1 ∧ x1 ≤ 39 := by omega
 refine awp_upG [5, 6, 7, 8, 9, 10, 11, 17, 18, 19, 20, 21, 22, 23, 24, 25, 26, 27, 28, 29, 30, 31, 32, 33, 34, 35, 36, 37, 38, 39, 40, 41, 42, 43, 44, 45, 46, 47, 48, 49, 50, 51] (by kernel_rfl) (K + 1) (fun k e σ => e 8 = .int .i64 ((K : Int) - k) ∧ (∃ a, σ.ob id = some ⟨g, 2, ty_Deck, false, true, [deckV t a]⟩) ∧ (∀ i, i < n0 → i ≠ id → σ.ob i = ob0 i) ∧ ∃ S I O, Hst k S I O ∧ Tri σ (e 5) (e 6) (e 7) S I O n0) ?_ ?_
 ·refine ⟨(by first | rfl | (simp (disch := omega) only [go_sem, jA, jB, jC, jD, jE, jF, jG, jH, jI, jJ, ↓reduceIte, reduceCtorEq, jP, jO, jM, jN]; try rfl)), ⟨at2, by try simp (disch := omega) only [go_sem, jA, jB, jC, jD, jE, jF, jG, jH, jI, jJ, ↓reduceIte, reduceCtorEq, jO, jM, jN, jK, jL, h0]⟩, fun i hi hne => ?_, [x1], [], [], Hst.one hx.1 hx.2, ?_⟩
  ·have : ¬ i = n0 := by omega
   try simp (disch := omega) only [go_sem, jA, jB, jC, jD, jE, jF, jG, jH, jI, jJ, ↓reduceIte, reduceCtorEq, jO, jM, jN, jK, jL, hne, this]
  ·try simp (disch := omega) only [go_sem, jA, jB, jC, jD, jE, jF, jG, jH, jI, jJ, ↓reduceIte, reduceCtorEq, jO, jM, jN, jK, jL]
   exact ⟨.inr ⟨n0, c0, rfl, by simp only; omega, by simp [upd, ints, h2]⟩, .nil, .nil, fun i hi => Oth.sl (by omega), fun i _ => Oth.nil i, fun i _ => Oth.nil i, (Dj.nil _).symm, (Dj.nil _).symm, Dj.nil _⟩
 rintro k fe ob m c hk hm ⟨h8, ⟨at3, hd⟩, hfr, S, I, O, hH, hT⟩
 simp (maxSteps := 1000000) only [go_sem, jA, jB, jC, jD, jE, jF, jG, jH, jI, jJ, ↓reduceIte, reduceCtorEq, jP] at h8 hd hfr hT hm
 obtain ⟨X5, h5⟩ : ∃ X, fe 5 = X := ⟨_, rfl⟩
 obtain ⟨X6, h6⟩ : ∃ X, fe 6 = X := ⟨_, rfl⟩
 obtain ⟨X7, h7⟩ : ∃ X, fe 7 = X := ⟨_, rfl⟩
 rw [h5, h6, h7] at hT
 try simp (disch := omega) only [go_sem, jA, jB, jC, jD, jE, jF, jG, jH, jI, jJ, ↓reduceIte, reduceCtorEq, jO, jM, jN, jK, jL, h8]
 refine cond_d (fun hge => ?_) (fun hlt => ?_)
 ·have hkl : k < K + 1 := by omega
  try simp (disch := omega) only [go_sem, jA, jB, jC, jD, jE, jF, jG, jH, jI, jJ, ↓reduceIte, reduceCtorEq, jO, jM, jN, jK, jL]
  refine call_hc (ok_mk_Deck_Next _ id g ty_Deck true t at3 10 hd (by omega) hl) ?_
  have hx4 := deckR_bd t at3 10
  generalize deckR t at3 10 = dr at *
  obtain ⟨x, at4⟩ := dr
  simp only at hx4
  have hq1 := hT.o8 id hid
  have r8 := hT.r8
  rcases r8 with ⟨-, hnil⟩ | ⟨id8, g8, rfl, hid8, hidob⟩
  ·have := hH.ls; have h9 := ints_length S; rw [hnil] at h9; simp at h9; omega
  have e1 : ¬ id8 = id := hq1.ne
  have hS := hH.ls
  have hlen : (ints S).length = k + 1 := by rw [ints_length, hS]
  rw [hlen] at h5 hT
  simp only at hidob
  try simp (disch := omega) only [go_sem, jA, jB, jC, jD, jE, jF, jG, jH, jI, jJ, ↓reduceIte, reduceCtorEq, jO, jM, jN, jK, jL, h5, h0, h1]
  rw [show ((k + 1 : Nat) : Int) - 1 = (k : Int) by omega]
  have e2 : S[k]? = some (S.getD k 0) := get_getD (by omega)
  have hs := hH.s k (by omega)
  try simp (disch := omega) only [go_sem, jA, jB, jC, jD, jE, jF, jG, jH, jI, jJ, ↓reduceIte, reduceCtorEq, jO, jM, jN, jK, jL, e1, hidob, ints_get, e2, Option.map_some]
  refine ⟨by omega, by omega, ?_⟩
  refine call_hc (ok_mk_Deck_Next _ id g ty_Deck true t at4 _ (by try simp (disch := omega) only [go_sem, jA, jB, jC, jD, jE, jF, jG, jH, jI, jJ, ↓reduceIte, reduceCtorEq, jO, jM, jN, jK, jL]) (by omega) hl) ?_
  have hx5 := deckR_bd t at4 (min (S.getD k 0 + x) 12 + 1)
  generalize deckR t at4 (min (S.getD k 0 + x) 12 + 1) = dr at *
  obtain ⟨y, at5⟩ := dr
  simp only at hx5
  have hy : 0 ≤ y ∧ y ≤ 12 ∧ y ≤ S.getD k 0 + x := by omega
  have hH2 := hH.snoc (x := x) (y := y) rfl (by omega) (by omega) hy.2.2
  have hI := hH.li
  have hO := hH.lo
  try simp (disch := omega) only [go_sem, jA, jB, jC, jD, jE, jF, jG, jH, jI, jJ, ↓reduceIte, reduceCtorEq, jO, jM, jN, jK, jL, h6]
  refine app9_triK (q := n0) (A := S) (B := I) (C := O) (X8 := .sl id8 g8 1 0 (k + 1)) (X10 := X7) (hT.mv (Nat.le_refl _) fun i hi _ => ?_) (by simp only; omega) (by omega) (by omega) fun Y6 τ6 hT6 hK6 hf6 => ?_
  ·simp only; rw [upd_ne _ _ _ _ (by omega), upd_ne _ _ _ _ (by omega)]
  have hn6 := hK6.1
  simp only at hn6
  try simp (disch := omega) only [go_sem, jA, jB, jC, jD, jE, jF, jG, jH, jI, jJ, ↓reduceIte, reduceCtorEq, jO, jM, jN, jK, jL, h7]
  refine app10_triK (b := 8) hT6 (by omega) (by omega) (by omega) fun Y7 τ7 hT7 hK7 hf7 => ?_
  have hn7 := hK7.1
  obtain ⟨q1, q2, q3⟩ := hT7.r8.at
  try simp (disch := omega) only [go_sem, jA, jB, jC, jD, jE, jF, jG, jH, jI, jJ, ↓reduceIte, reduceCtorEq, jO, jM, jN, jK, jL, h5, q3, hlen]
  refine ⟨by rw [mxL]; omega, by omega, ?_⟩
  have hT5 : Tri (τ7.renew id8 ⟨g8, 1, 3, false, true, ints S⟩ (ints S ++ [.int .i64 (S.getD k 0 + x - y)])) (.sl id8 τ7.c 1 0 (k + 1 + 1)) Y6 Y7 (S ++ [S.getD k 0 + x - y]) (I ++ [x]) (O ++ [y]) n0 :=
   hT7.ren (Nat.le_refl _) hT7.id_le q1 (by omega) (by simp [St.renew, upd]) fun i _ hne => by simp only [St.renew]; rw [upd_ne _ _ _ _ hne]
  have hn5 : τ7.n ≤ (τ7.renew id8 ⟨g8, 1, 3, false, true, ints S⟩ (ints S ++ [.int .i64 (S.getD k 0 + x - y)])).n := Nat.le_refl _
  have hf5 : ∀ i, i < n0 → (τ7.renew id8 ⟨g8, 1, 3, false, true, ints S⟩ (ints S ++ [.int .i64 (S.getD k 0 + x - y)])).ob i = τ7.ob i := fun i hi => by
   have := hT7.id_le
   simp only [St.renew]; rw [upd_ne _ _ _ _ (by omega)]
  generalize τ7.renew id8 ⟨g8, 1, 3, false, true, ints S⟩ (ints S ++ [.int .i64 (S.getD k 0 + x - y)]) = τ5 at *
  have hF : ∀ i, i < n0 → τ5.ob i = (if i = id then some ⟨g, 2, ty_Deck, false, true, [deckV t at5]⟩ else ob i) := fun i hi => by
   rw [hf5 i hi, hf7 i hi, hf6 i hi]
   simp only [upd]
   split <;> rfl
  try simp (disch := omega) only [go_sem, jA, jB, jC, jD, jE, jF, jG, jH, jI, jJ, ↓reduceIte, reduceCtorEq, jO, jM, jN, jK, jL, h8]
  refine up_nextG τ5.n hkl (by omega) ⟨by try simp (disch := omega) only [go_sem, jA, jB, jC, jD, jE, jF, jG, jH, jI, jJ, ↓reduceIte, reduceCtorEq, jO, jM, jN, jK, jL]; congr 1; omega, ⟨at5, ?_⟩, fun i hi hne => ?_, _, _, _, hH2, ?_⟩
  ·simp only [St.trunc]; rw [if_pos (by omega), hF id hid, if_pos rfl]
  ·simp only [St.trunc]; rw [if_pos (by omega), hF i hi, if_neg hne]; exact hfr i hi hne
  ·try simp (disch := omega) only [go_sem, jA, jB, jC, jD, jE, jF, jG, jH, jI, jJ, ↓reduceIte, reduceCtorEq, jO, jM, jN, jK, jL]
   exact hT5.mv (Nat.le_refl _) fun i _ hi => by simp [St.trunc, hi]
 ·try simp (disch := omega) only [go_sem, jA, jB, jC, jD, jE, jF, jG, jH, jI, jJ, ↓reduceIte, reduceCtorEq, jO, jM, jN, jK, jL, h5, h6, h7]
  refine ⟨_, at3, Pub.tu (.cons (hT.r8.pub (fun i hi hno => ?_) (ints_pur _) (ints_ok _)) (.cons (hT.r9.pub (fun i hi hno => ?_) (ints_pur _) (ints_ok _)) (.cons (hT.r10.pub (fun i hi hno => ?_) (ints_pur _) (ints_ok _)) .nil))), ⟨k, S, I, O, rfl, hH, by omega, by omega⟩, hd, hfr⟩
  ·simp only; rw [if_neg fun h => hno (hT.o8 i h)]
  ·simp only; rw [if_neg fun h => hno (hT.o9 i h)]
  ·simp only; rw [if_neg fun h => hno (hT.o10 i h)]
def arB (x : Int) (b : Bd) : Prop := 0 ≤ b.lo ∧ b.lo ≤ x ∧ x ≤ b.hi ∧ b.hi ≤ x + 30
structure ArL (L : List Int) (B : List Bd) : Prop where
 ln : B.length = L.length
 b : ∀ i, i < L.length → arB (L.getD i 0) (gB B i)
theorem gB_snl {L : List Bd} {x : Bd} {i : Nat} (h : i < L.length) : gB (L ++ [x]) i = gB L i := by
 simp only [gB, List.getD_eq_getElem?_getD, List.getElem?_append_left h]
theorem gB_snr {L : List Bd} {x : Bd} {i : Nat} (h : i = L.length) : gB (L ++ [x]) i = x := by
 subst h; simp [gB, List.getD_eq_getElem?_getD]
theorem take_snoc {L : List Int} {k : Nat} (h : k < L.length) : L.take (k + 1) = L.take k ++ [L.getD k 0] := by
 rw [List.take_add_one, get_getD h]; rfl
theorem ArL.nil : ArL [] [] := ⟨rfl, fun i hi => by simp at hi⟩
theorem ArL.snoc {L : List Int} {B : List Bd} (h : ArL L B) {x : Int} {b : Bd} (hb : arB x b) : ArL (L ++ [x]) (B ++ [b]) := by
 have h1 := h.ln
 refine ⟨by simp [h1], fun i hi => ?_⟩
 rcases Nat.lt_or_ge i L.length with hh | hh
 ·rw [getD_snl hh, gB_snl (by omega)]; exact h.b i hh
 ·simp only [List.length_append, List.length_cons, List.length_nil] at hi
  rw [getD_snr (by omega), gB_snr (by omega)]; exact hb
theorem hc_flow_Bounds (σ : St) (id g : Nat) (t : List Int) (at' : Nat) (x : Int) (hl : t.length ≤ 9223372036854775807) (hid : id < σ.n) (hob : σ.ob id = some ⟨g, 2, ty_Deck, false, true, [deckV t at']⟩) (hx0 : 0 ≤ x) (hx1 : x ≤ 1000) :
  HC prog n_flow_Bounds [.ptr id g 2 0 0, .int .i64 x] σ (DeckR σ id g t fun r => ∃ b, r = bdv b ∧ arB x b) := by
 refine HC.deck hid ?_
 obtain ⟨ob0, n0, c0⟩ := σ
 simp only at hob hid
 refine HC_of_body b_flow_Bounds (by simp) ?_
 simp only [c_flow_Bounds, go_sem, jA, jB, jC, jD, jE, jF, jG, jH, jI, jJ, ↓reduceIte, reduceCtorEq, jP]
 have h0 : ¬ id = n0 := by omega
 have h2 : ¬ n0 = id := by omega
 have fin : ∀ (ob' : Nat → Option AObj) (c' : Nat) (b : Bd) (at2 : Nat), ob' id = some ⟨g, 2, ty_Deck, false, true, [deckV t at2]⟩ → arB x b → (∀ i, i < n0 → i ≠ id → ob' i = ob0 i) → Deck0 ⟨ob0, n0, c0⟩ id g t (fun r => ∃ b, r = bdv b ∧ arB x b) (.agg [.int .i64 b.lo, .int .i64 b.hi]) ⟨ob', n0 + 1, c'⟩ :=
  fun ob' c' b at2 h1 h2 h3 => ⟨_, at2, .pure rfl, ⟨b, rfl, h2⟩, h1, h3⟩
 refine call_hc (ok_mk_Deck_Next _ id g ty_Deck true t at' 4 (by try simp (disch := omega) only [go_sem, jA, jB, jC, jD, jE, jF, jG, jH, jI, jJ, ↓reduceIte, reduceCtorEq, jO, jM, jN, jK, jL, h0]; exact hob) (by omega) hl) ?_
 have hy1 := deckR_bd t at' 4
 generalize deckR t at' 4 = dr at *
 obtain ⟨x1, at1⟩ := dr
 try simp (disch := omega) only [go_sem, jA, jB, jC, jD, jE, jF, jG, jH, jI, jJ, ↓reduceIte, reduceCtorEq, jO, jM, jN, jK, jL, h0, h2]
 refine cond_d (fun g1 => ?_) (fun g1 => ?_)
 ·try simp (disch := omega) only [go_sem, jA, jB, jC, jD, jE, jF, jG, jH, jI, jJ, ↓reduceIte, reduceCtorEq, jO, jM, jN, jK, jL, h0, h2]
  exact fin _ _ ⟨x, x⟩ at1 (by try simp (disch := omega) only [go_sem, jA, jB, jC, jD, jE, jF, jG, jH, jI, jJ, ↓reduceIte, reduceCtorEq, jO, jM, jN, jK, jL, h0]) (by simp only [arB]; omega) (fun i hi hi2 => by
   have j0 : ¬ i = n0 := by omega
   try simp (disch := omega) only [go_sem, jA, jB, jC, jD, jE, jF, jG, jH, jI, jJ, ↓reduceIte, reduceCtorEq, jO, jM, jN, jK, jL, j0, hi2])
 try simp (disch := omega) only [go_sem, jA, jB, jC, jD, jE, jF, jG, jH, jI, jJ, ↓reduceIte, reduceCtorEq, jO, jM, jN, jK, jL, h0, h2]
 refine cond_d (fun g2 => ?_) (fun g2 => ?_)
 ·try simp (disch := omega) only [go_sem, jA, jB, jC, jD, jE, jF, jG, jH, jI, jJ, ↓reduceIte, reduceCtorEq, jO, jM, jN, jK, jL, h0, h2]
  refine call_hc (ok_mk_Deck_Next _ id g ty_Deck true t at1 30 (by try simp (disch := omega) only [go_sem, jA, jB, jC, jD, jE, jF, jG, jH, jI, jJ, ↓reduceIte, reduceCtorEq, jO, jM, jN, jK, jL, h0]) (by omega) hl) ?_
  have hy2 := deckR_bd t at1 30
  generalize deckR t at1 30 = dr at *
  obtain ⟨x2, at2⟩ := dr
  simp only at hy2
  try simp (disch := omega) only [go_sem, jA, jB, jC, jD, jE, jF, jG, jH, jI, jJ, ↓reduceIte, reduceCtorEq, jO, jM, jN, jK, jL, h0, h2]
  exact fin _ _ ⟨0, x + x2⟩ at2 (by try simp (disch := omega) only [go_sem, jA, jB, jC, jD, jE, jF, jG, jH, jI, jJ, ↓reduceIte, reduceCtorEq, jO, jM, jN, jK, jL, h0]) (by simp only [arB]; omega) (fun i hi hi2 => by
   have j0 : ¬ i = n0 := by omega
   try simp (disch := omega) only [go_sem, jA, jB, jC, jD, jE, jF, jG, jH, jI, jJ, ↓reduceIte, reduceCtorEq, jO, jM, jN, jK, jL, j0, hi2])
 try simp (disch := omega) only [go_sem, jA, jB, jC, jD, jE, jF, jG, jH, jI, jJ, ↓reduceIte, reduceCtorEq, jO, jM, jN, jK, jL, h0, h2]
 refine call_hc (ok_mk_Deck_Next _ id g ty_Deck true t at1 _ (by try simp (disch := omega) only [go_sem, jA, jB, jC, jD, jE, jF, jG, jH, jI, jJ, ↓reduceIte, reduceCtorEq, jO, jM, jN, jK, jL, h0]) (by omega) hl) ?_
 have hy2 := deckR_bd t at1 (min x 6 + 1)
 generalize deckR t at1 (min x 6 + 1) = dr at *
 obtain ⟨x2, at2⟩ := dr
 simp only at hy2
 try simp (disch := omega) only [go_sem, jA, jB, jC, jD, jE, jF, jG, jH, jI, jJ, ↓reduceIte, reduceCtorEq, jO, jM, jN, jK, jL, h0, h2]
 refine call_hc (ok_mk_Deck_Next _ id g ty_Deck true t at2 6 (by try simp (disch := omega) only [go_sem, jA, jB, jC, jD, jE, jF, jG, jH, jI, jJ, ↓reduceIte, reduceCtorEq, jO, jM, jN, jK, jL, h0]) (by omega) hl) ?_
 have hy3 := deckR_bd t at2 6
 generalize deckR t at2 6 = dr at *
 obtain ⟨x3, at3⟩ := dr
 simp only at hy3
 try simp (disch := omega) only [go_sem, jA, jB, jC, jD, jE, jF, jG, jH, jI, jJ, ↓reduceIte, reduceCtorEq, jO, jM, jN, jK, jL, h0, h2]
 exact fin _ _ ⟨x - x2, x + x3⟩ at3 (by try simp (disch := omega) only [go_sem, jA, jB, jC, jD, jE, jF, jG, jH, jI, jJ, ↓reduceIte, reduceCtorEq, jO, jM, jN, jK, jL, h0]) (by simp only [arB]; omega) (fun i hi hi2 => by
  have j0 : ¬ i = n0 := by omega
  try simp (disch := omega) only [go_sem, jA, jB, jC, jD, jE, jF, jG, jH, jI, jJ, ↓reduceIte, reduceCtorEq, jO, jM, jN, jK, jL, j0, hi2])
def DrwL (σ : St) (id g : Nat) (t : List Int) (L : List Int) (r : AV) (τ : St) : Prop :=
 ∃ B, ArL L B ∧ SlR 2 33 τ (bds B) r ∧ (∀ i, i < σ.n → Oth r i) ∧ σ.n ≤ τ.n ∧ (∃ a, τ.ob id = some ⟨g, 2, ty_Deck, false, true, [deckV t a]⟩) ∧ ∀ i, i < σ.n → i ≠ id → τ.ob i = σ.ob i
theorem hc_flow_list (σ : St) (id g : Nat) (t : List Int) (at' : Nat) (L : List Int) (hl : t.length ≤ 9223372036854775807) (hid : id < σ.n) (hob : σ.ob id = some ⟨g, 2, ty_Deck, false, true, [deckV t at']⟩) (hL : L.length ≤ 100) (hx : ∀ i, i < L.length → 0 ≤ L.getD i 0 ∧ L.getD i 0 ≤ 1000) :
  HC prog n_flow_list [.ptr id g 2 0 0, .list 1 (ints L)] σ (DrwL σ id g t L) := by
 obtain ⟨ob0, n0, c0⟩ := σ
 simp only at hob hid
 refine HC_of_body b_flow_list (by simp) ?_
 simp only [c_flow_list, go_sem, jA, jB, jC, jD, jE, jF, jG, jH, jI, jJ, ↓reduceIte, reduceCtorEq, jP, ints_length]
 refine awp_upG [5, 7, 10, 11, 12, 13, 14, 15, 16, 17, 18, 19, 20] (by kernel_rfl) L.length (fun k e σ => e 10 = .int .i64 k ∧ (∃ a, σ.ob id = some ⟨g, 2, ty_Deck, false, true, [deckV t a]⟩) ∧ (∀ i, i < n0 → i ≠ id → σ.ob i = ob0 i) ∧ ∃ B, ArL (L.take k) B ∧ SlR 2 33 σ (bds B) (e 5) ∧ ∀ i, i < n0 → Oth (e 5) i) ?_ ?_
 ·exact ⟨(by first | rfl | (simp (disch := omega) only [go_sem, jA, jB, jC, jD, jE, jF, jG, jH, jI, jJ, ↓reduceIte, reduceCtorEq, jP, jO, jM, jN]; try rfl)), ⟨at', hob⟩, fun i hi hne => rfl, [], ArL.nil, by try simp (disch := omega) only [go_sem, jA, jB, jC, jD, jE, jF, jG, jH, jI, jJ, ↓reduceIte, reduceCtorEq, jO, jM, jN, jK, jL]; exact .nil, fun i _ => by try simp (disch := omega) only [go_sem, jA, jB, jC, jD, jE, jF, jG, jH, jI, jJ, ↓reduceIte, reduceCtorEq, jO, jM, jN, jK, jL]; exact Oth.nil i⟩
 rintro k fe ob m c hk hm ⟨h10, ⟨at3, hd⟩, hfr, B, hB, hR, ho⟩
 simp (maxSteps := 1000000) only [go_sem, jA, jB, jC, jD, jE, jF, jG, jH, jI, jJ, ↓reduceIte, reduceCtorEq, jP] at h10 hd hfr hR ho hm
 obtain ⟨X5, h5⟩ : ∃ X, fe 5 = X := ⟨_, rfl⟩
 rw [h5] at hR ho
 try simp (disch := omega) only [go_sem, jA, jB, jC, jD, jE, jF, jG, jH, jI, jJ, ↓reduceIte, reduceCtorEq, jO, jM, jN, jK, jL, h10]
 refine cond_d (fun hlt => ?_) (fun hge => ?_)
 ·have hkl : k < L.length := by omega
  have e1 := get_getD hkl
  have hxk := hx k hkl
  have hts := take_snoc hkl
  generalize L.getD k 0 = x at *
  try simp (disch := omega) only [go_sem, jA, jB, jC, jD, jE, jF, jG, jH, jI, jJ, ↓reduceIte, reduceCtorEq, jO, jM, jN, jK, jL, h10, ints_length, ints_get, e1, Option.map_some]
  refine ⟨by omega, by omega, ?_⟩
  refine (hc_flow_Bounds _ id g t at3 x hl (by simp only; omega) hd hxk.1 hxk.2).mono ?_
  intro r τ hD
  obtain ⟨⟨b, rfl, hb⟩, hn, ⟨at4, hd4⟩, hf4⟩ := hD.use (by simp only; omega)
  obtain ⟨ob4, m4, c4⟩ := τ
  simp only at hn hd4 hf4
  subst hn
  try simp (disch := omega) only [go_sem, jA, jB, jC, jD, jE, jF, jG, jH, jI, jJ, ↓reduceIte, reduceCtorEq, jO, jM, jN, jK, jL, h5]
  have hBl : B.length = k := by rw [hB.ln]; simp; omega
  refine ⟨⟨rfl, rfl, rfl⟩, ?_⟩
  refine app_slr (b := 16) (hR.move (by exact Nat.le_refl _) fun i hi hno => hf4 i hi fun e => hno (e ▸ ho id hid)) (by rw [bds_length]; omega) (by rw [bds_length]; omega) fun Y τ5 hR5 hK5 => ?_
  have hn5 := hK5.1
  simp only at hn5
  try simp (disch := omega) only [go_sem, jA, jB, jC, jD, jE, jF, jG, jH, jI, jJ, ↓reduceIte, reduceCtorEq, jO, jM, jN, jK, jL, h10]
  refine up_nextG τ5.n hkl (by omega) ⟨(by first | rfl | (simp (disch := omega) only [go_sem, jA, jB, jC, jD, jE, jF, jG, jH, jI, jJ, ↓reduceIte, reduceCtorEq, jP, jO, jM, jN]; try rfl)), ⟨at4, ?_⟩, fun i hi hne => ?_, B ++ [b], ?_, ?_, fun i hi => ?_⟩
  ·simp only [St.trunc]; rw [if_pos (by omega), hK5.2.1 id (by simp only; omega) (ho id hid)]; exact hd4
  ·simp only [St.trunc]; rw [if_pos (by omega), hK5.2.1 i (by simp only; omega) (ho i hi)]
   exact (hf4 i (by omega) hne).trans (hfr i hi hne)
  ·rw [hts]; exact hB.snoc hb
  ·try simp (disch := omega) only [go_sem, jA, jB, jC, jD, jE, jF, jG, jH, jI, jJ, ↓reduceIte, reduceCtorEq, jO, jM, jN, jK, jL, bds_snoc]
   exact hR5.move (Nat.le_refl _) fun i hi _ => by simp [St.trunc, hi]
  ·try simp (disch := omega) only [go_sem, jA, jB, jC, jD, jE, jF, jG, jH, jI, jJ, ↓reduceIte, reduceCtorEq, jO, jM, jN, jK, jL]; exact hK5.2.2 i (by simp only; omega) (ho i hi)
 ·try simp (disch := omega) only [go_sem, jA, jB, jC, jD, jE, jF, jG, jH, jI, jJ, ↓reduceIte, reduceCtorEq, jO, jM, jN, jK, jL, h5]
  obtain rfl : L.length = k := by omega
  rw [List.take_length] at hB
  exact ⟨B, hB, hR, ho, hm, ⟨at3, hd⟩, hfr⟩
structure Drn (a : Ac) (n : Nat) (S I O : List Int) : Prop where
 h : Hst n S I O
 n1 : 1 ≤ n
 n5 : n ≤ 5
 f0 : 0 ≤ a.fr
 f1 : a.fr ≤ 19
 s : ArL S a.st
 i : ArL I a.ins
 o : ArL O a.outs
def AccR (σ : St) (id g : Nat) (t : List Int) (r : AV) (τ : St) : Prop :=
 ∃ a n S I O R1 R2 R3, r = .tuple [.agg [.int .i64 a.fr, R1, R2, R3], .list 1 (ints S), .list 1 (ints I), .list 1 (ints O)] ∧ Drn a n S I O ∧
  SlR 2 33 τ (bds a.st) R1 ∧ SlR 2 33 τ (bds a.ins) R2 ∧ SlR 2 33 τ (bds a.outs) R3 ∧ (∀ i, i < σ.n → Oth R1 i) ∧ (∀ i, i < σ.n → Oth R2 i) ∧ (∀ i, i < σ.n → Oth R3 i) ∧ Dj R1 R2 ∧ Dj R1 R3 ∧ Dj R2 R3 ∧
  σ.n ≤ τ.n ∧ (∃ a, τ.ob id = some ⟨g, 2, ty_Deck, false, true, [deckV t a]⟩) ∧ ∀ i, i < σ.n → i ≠ id → τ.ob i = σ.ob i
theorem hc_flow_Account (σ : St) (id g : Nat) (t : List Int) (at' : Nat) (hl : t.length ≤ 9223372036854775807) (hid : id < σ.n) (hob : σ.ob id = some ⟨g, 2, ty_Deck, false, true, [deckV t at']⟩) :
  HC prog n_flow_Account [.ptr id g 2 0 0] σ (AccR σ id g t) := by
 obtain ⟨ob0, n0, c0⟩ := σ
 simp only at hob hid
 refine HC_of_body b_flow_Account (by simp) ?_
 simp only [c_flow_Account, go_sem, jA, jB, jC, jD, jE, jF, jG, jH, jI, jJ, ↓reduceIte, reduceCtorEq, jP]
 have h0 : ¬ id = n0 := by omega
 have h1 : ¬ id = n0 + 1 := by omega
 have h2 : ¬ n0 = id := by omega
 refine (hc_flow_History _ id g t at' hl (by simp only; omega) (by try simp (disch := omega) only [go_sem, jA, jB, jC, jD, jE, jF, jG, jH, jI, jJ, ↓reduceIte, reduceCtorEq, jO, jM, jN, jK, jL, h0]; exact hob)).mono ?_
 intro r τ hD
 obtain ⟨⟨n, S, I, O, rfl, hH, hn1, hn5⟩, hn, ⟨at1, hd1⟩, hf1⟩ := hD.use (by simp only; omega)
 obtain ⟨ob1, m1, c1⟩ := τ
 simp only at hn hd1 hf1
 obtain rfl : n0 + 1 = m1 := hn.symm
 have hS := hH.ls
 have hI := hH.li
 have hO := hH.lo
 try simp (disch := omega) only [go_sem, jA, jB, jC, jD, jE, jF, jG, jH, jI, jJ, ↓reduceIte, reduceCtorEq, jO, jM, jN, jK, jL, h0, h1]
 refine call_hc (ok_mk_Deck_Next _ id g ty_Deck true t at1 20 hd1 (by omega) hl) ?_
 have hx2 := deckR_bd t at1 20
 generalize deckR t at1 20 = dr at *
 obtain ⟨fr, at2⟩ := dr
 simp only at hx2
 try simp (disch := omega) only [go_sem, jA, jB, jC, jD, jE, jF, jG, jH, jI, jJ, ↓reduceIte, reduceCtorEq, jO, jM, jN, jK, jL, h0, h1]
 refine (hc_flow_list _ id g t at2 S hl (by simp only; omega) (by try simp (disch := omega) only [go_sem, jA, jB, jC, jD, jE, jF, jG, jH, jI, jJ, ↓reduceIte, reduceCtorEq, jO, jM, jN, jK, jL]) (by omega) (fun i hi => by have := hH.s i (by omega); omega)).mono ?_
 rintro R1 ⟨ob3, m3, c3⟩ ⟨B1, hB1, r1, o1, hm3, ⟨at3, hd3⟩, hf3⟩
 simp only at o1 hm3 hd3 hf3
 try simp (disch := omega) only [go_sem, jA, jB, jC, jD, jE, jF, jG, jH, jI, jJ, ↓reduceIte, reduceCtorEq, jO, jM, jN, jK, jL]
 refine (hc_flow_list _ id g t at3 I hl (by simp only; omega) hd3 (by omega) (fun i hi => by have := hH.i i (by omega); omega)).mono ?_
 rintro R2 ⟨ob4, m4, c4⟩ ⟨B2, hB2, r2, o2, hm4, ⟨at4, hd4⟩, hf4⟩
 simp only at o2 hm4 hd4 hf4
 try simp (disch := omega) only [go_sem, jA, jB, jC, jD, jE, jF, jG, jH, jI, jJ, ↓reduceIte, reduceCtorEq, jO, jM, jN, jK, jL]
 refine (hc_flow_list _ id g t at4 O hl (by simp only; omega) hd4 (by omega) (fun i hi => by have := hH.o i (by omega); omega)).mono ?_
 rintro R3 ⟨ob5, m5, c5⟩ ⟨B3, hB3, r3, o3, hm5, ⟨at5, hd5⟩, hf5⟩
 simp only at o3 hm5 hd5 hf5
 try simp (disch := omega) only [go_sem, jA, jB, jC, jD, jE, jF, jG, jH, jI, jJ, ↓reduceIte, reduceCtorEq, jO, jM, jN, jK, jL]
 have v1 := hf1 n0 (by omega) h2
 have v3 := hf3 n0 (by omega) h2
 have v4 := hf4 n0 (by omega) h2
 have v5 := hf5 n0 (by omega) h2
 try simp (disch := omega) only [go_sem, jA, jB, jC, jD, jE, jF, jG, jH, jI, jJ, ↓reduceIte, reduceCtorEq, jO, jM, jN, jK, jL, h2] at v1 v3
 rw [v4, v3, v1] at v5
 try simp (disch := omega) only [go_sem, jA, jB, jC, jD, jE, jF, jG, jH, jI, jJ, ↓reduceIte, reduceCtorEq, jO, jM, jN, jK, jL, r1.flat, r2.flat, r3.flat, r1.cells, r2.cells, r3.cells, r1.one, r2.one, r3.one, v5]
 have k1 : ∀ {R : AV} {i : Nat}, (∀ j, j < n0 + 1 → Oth R j) → ¬ Oth R i → ¬ i = id ∧ ¬ i = n0 := fun ho hno => ⟨fun e => hno (e ▸ ho id (by omega)), fun e => hno (e ▸ ho n0 (by omega))⟩
 have k2 : ∀ {R : AV} {i : Nat}, (∀ j, j < m3 → Oth R j) → ¬ Oth R i → ¬ i = id ∧ ¬ i = n0 := fun ho hno => ⟨fun e => hno (e ▸ ho id (by omega)), fun e => hno (e ▸ ho n0 (by omega))⟩
 have k3 : ∀ {R : AV} {i : Nat}, (∀ j, j < m4 → Oth R j) → ¬ Oth R i → ¬ i = id ∧ ¬ i = n0 := fun ho hno => ⟨fun e => hno (e ▸ ho id (by omega)), fun e => hno (e ▸ ho n0 (by omega))⟩
 refine ⟨⟨fr, B1, B2, B3⟩, n, S, I, O, R1, R2, R3, rfl, ⟨hH, hn1, hn5, by simp only; omega, by simp only; omega, hB1, hB2, hB3⟩, r1.move (by simp only; omega) fun i hi hno => ?_, r2.move (by simp only; omega) fun i hi hno => ?_, r3.move (by exact Nat.le_refl _) fun i hi hno => ?_, fun i hi => o1 i (by simp only at hi; omega), fun i hi => o2 i (by simp only at hi; omega), fun i hi => o3 i (by simp only at hi; omega), fun i => ?_, fun i => ?_, fun i => ?_, by simp only; omega, ⟨at5, ?_⟩, fun i hi hne => ?_⟩
 ·obtain ⟨q1, q2⟩ := k1 o1 hno
  simp only at hi ⊢
  rw [upd_ne _ _ _ _ q2, hf5 i (by omega) q1, hf4 i (by omega) q1]
 ·obtain ⟨q1, q2⟩ := k2 o2 hno
  simp only at hi ⊢
  rw [upd_ne _ _ _ _ q2, hf5 i (by omega) q1]
 ·obtain ⟨q1, q2⟩ := k3 o3 hno
  simp only at hi ⊢
  rw [upd_ne _ _ _ _ q2]
 ·rcases Nat.lt_or_ge i m3 with h | h
  ·exact .inr (o2 i h)
  ·exact .inl (r1.oth h)
 ·rcases Nat.lt_or_ge i m4 with h | h
  ·exact .inr (o3 i h)
  ·exact .inl (r1.oth (by simp only; omega))
 ·rcases Nat.lt_or_ge i m4 with h | h
  ·exact .inr (o3 i h)
  ·exact .inl (r2.oth (by simp only; omega))
 ·simp only; rw [upd_ne _ _ _ _ h0]; exact hd5
 ·simp only at hi ⊢
  rw [upd_ne _ _ _ _ (by omega), hf5 i (by omega) hne, hf4 i (by omega) hne, hf3 i (by omega) hne, upd_ne _ _ _ _ hne, hf1 i (by omega) hne, upd_ne _ _ _ _ (by omega)]
theorem deck_flow_Account (σ : St) (id g : Nat) (t : List Int) (at' : Nat) (hl : t.length ≤ 9223372036854775807) (hid : id < σ.n) (hob : σ.ob id = some ⟨g, 2, ty_Deck, false, true, [deckV t at']⟩) :
  HC prog n_flow_Account [.ptr id g 2 0 0] σ (DeckR σ id g t fun r => ∃ a n S I O, r = .tuple [acv a, .list 1 (ints S), .list 1 (ints I), .list 1 (ints O)] ∧ Drn a n S I O) := by
 refine HC.deck hid ((hc_flow_Account σ id g t at' hl hid hob).mono ?_)
 rintro r τ ⟨a, n, S, I, O, R1, R2, R3, rfl, hD, r1, r2, r3, o1, o2, o3, -, -, -, hn, ⟨at2, hd⟩, hf⟩
 have pb : ∀ {R : AV} {B : List Bd}, SlR 2 33 τ (bds B) R → (∀ i, i < σ.n → Oth R i) → Pub ⟨fun i => if i < σ.n then none else τ.ob i, τ.n, τ.c⟩ R (.list 2 (bds B)) := fun hr ho =>
  hr.pub (fun i hi hno => by simp only; rw [if_neg fun h => hno (ho i h)]) (bds_pur _) (bds_ok _)
 exact ⟨.tuple [acv a, .list 1 (ints S), .list 1 (ints I), .list 1 (ints O)], at2, Pub.tu (.cons (Pub.ag (.cons (.pure rfl) (.cons (pb r1 o1) (.cons (pb r2 o2) (.cons (pb r3 o3) .nil))))) (.cons (.pure (by simp [ints_pur, go_sem])) (.cons (.pure (by simp [go_sem])) (.cons (.pure (by simp [go_sem])) .nil)))), ⟨a, n, S, I, O, rfl, hD⟩, hd, hf⟩
structure Lse (a : Ac) (n : Nat) : Prop where
 n1 : 1 ≤ n
 n5 : n ≤ 5
 ls : a.st.length = n + 1
 li : a.ins.length = n
 lo : a.outs.length = n
 f0 : 0 ≤ a.fr
 f1 : a.fr ≤ 19
 s : ∀ b ∈ a.st, 0 ≤ b.lo ∧ b.lo ≤ b.hi ∧ b.hi ≤ 1000
 i : ∀ b ∈ a.ins, 0 ≤ b.lo ∧ b.lo ≤ b.hi ∧ b.hi ≤ 1000
 o : ∀ b ∈ a.outs, 0 ≤ b.lo ∧ b.lo ≤ b.hi ∧ b.hi ≤ 1000
theorem ArL.fit {L : List Int} {B : List Bd} (h : ArL L B) (hx : ∀ i, i < L.length → L.getD i 0 ≤ 900) : ∀ b ∈ B, 0 ≤ b.lo ∧ b.lo ≤ b.hi ∧ b.hi ≤ 1000 := by
 intro b hb
 obtain ⟨i, hi, rfl⟩ := List.mem_iff_getElem.1 hb
 have h1 := h.b i (by have := h.ln; omega)
 have h2 := hx i (by have := h.ln; omega)
 have h3 : gB B i = B[i] := by simp [gB, List.getD_eq_getElem?_getD, hi]
 rw [h3] at h1
 simp only [arB] at h1
 omega
theorem Drn.lse {a : Ac} {n : Nat} {S I O : List Int} (h : Drn a n S I O) : Lse a n := by
 have h1 := h.h.ls
 have h2 := h.h.li
 have h3 := h.h.lo
 have := h.n5
 refine ⟨h.n1, h.n5, by rw [h.s.ln, h1], by rw [h.i.ln, h2], by rw [h.o.ln, h3], h.f0, h.f1, h.s.fit fun i hi => ?_, h.i.fit fun i hi => ?_, h.o.fit fun i hi => ?_⟩
 ·have := h.h.s i (by omega); omega
 ·have := h.h.i i (by omega); omega
 ·have := h.h.o i (by omega); omega
theorem Lse.ok {a : Ac} {n : Nat} (h : Lse a n) : AcOK a := by
 have h1 := h.n1
 have h2 := h.n5
 have h3 := h.f0
 have h4 := h.f1
 have h5 := h.li
 have f : ∀ {b : Bd}, (0 ≤ b.lo ∧ b.lo ≤ b.hi ∧ b.hi ≤ 1000) → fitB b := fun h => ⟨h.1, h.2.1, by simp only [mxV]; omega⟩
 exact ⟨by omega, by omega, by rw [h.lo, h.li], by rw [h.ls, h.li], h3, by omega, fun b hb => f (h.s b hb), fun b hb => f (h.i b hb), fun b hb => f (h.o b hb)⟩
def HiA (a : Ac) (n : Nat) (s x y : Nat → Int) : Prop := Hi (gB a.st) (gB a.ins) (gB a.outs) n s x y
theorem Drn.hi {a : Ac} {n : Nat} {S I O : List Int} (h : Drn a n S I O) : a.ins.length = n ∧ HiA a n (fun i => S.getD i 0) (fun i => I.getD i 0) (fun i => O.getD i 0) := by
 have h1 := h.h.ls
 have h2 := h.h.li
 have h3 := h.h.lo
 refine ⟨by rw [h.i.ln, h2], fun i hi => ?_, fun i hi => ?_, fun i hi => ?_, h.h.bal⟩
 ·have := h.s.b i (by omega); exact ⟨this.2.1, this.2.2.1⟩
 ·have := h.i.b i (by omega); exact ⟨this.2.1, this.2.2.1⟩
 ·have := h.o.b i (by omega); exact ⟨this.2.1, this.2.2.1⟩
def fldL (a : Ac) (f : Nat) : List Bd := if f = 1 then a.st else if f = 2 then a.ins else a.outs
def nth3 {α : Type} (f : Nat) (s x y : α) : α := if f = 1 then s else if f = 2 then x else y
theorem AcOK.l {a : Ac} (h : AcOK a) : AcL a := by
 have := h.n2; have := h.no; have := h.ns
 exact ⟨by omega, by omega, by omega⟩
end Go.Proofs.Try
