/- OWN WORK, put together by tools/asm.py, seat.py, mini.py. -/
import Derived.Test.YtbfefempldcfoaaLib
set_option linter.unusedSimpArgs false
set_option linter.unusedVariables false
set_option maxRecDepth 100000
set_option maxHeartbeats 1000000
namespace Go.Proofs.Try
open Go.Ab Go
open Int renaming reduceEq → jA, reduceLT → jB, reduceLE → jC, reduceToNat → jD
open Go.Ab renaming w_ite_ne → jM, w_ite_lt → jN, wrap_id → jO, w_app_nl → jP
open Nat renaming reduceLT → jE, reduceEqDiff → jF, reduceAdd → jG, reduceLeDiff → jH, reduceSub → jI, reduceMul → jJ, sub_zero → jK, sub_self → jL
abbrev tyN : TypeId := 3
def NumO (σ : St) (r : Rc) (x : AV) (τ : St) : Prop := σ.n ≤ τ.n ∧ (∀ i, i < σ.n → τ.ob i = σ.ob i) ∧ ((offs r.k = [] ∧ x = .tuple [.nil, .bool false]) ∨ (offs r.k ≠ [] ∧ ∃ id g, x = .tuple [.sl id g 1 0 (offs r.k).length, .bool true] ∧ σ.n ≤ id ∧ id < τ.n ∧ τ.ob id = some ⟨g, 1, tyN, false, true, ints (numsR r)⟩))
theorem hc_ref32_numbers (σ : St) (E : AV) (r : Rc) (hE : E.one = true) : HC prog n_ref32_numbers [rcX E r] σ (NumO σ r) := by
 obtain ⟨ob0, n0, c0⟩ := σ
 have hfl := rcX_flat r hE
 refine HC_of_body b_ref32_numbers (by simp) ?_
 simp only [c_ref32_numbers]
 have c1 : List.take 7 (List.drop 7 (rcX E r).cells) = [.int .i64 r.did, .int .i64 r.site, .int .i64 r.fr, .int .i64 r.to, .int .i64 r.rel, E, .bool r.wd] := rfl
 have c2 : List.take 4 (List.drop 17 (rcX E r).cells) = [.int .i64 r.onum, .int .i64 r.okind, .int .i64 r.oidx, .int .i64 r.oval] := rfl
 have c3 : List.take 6 (List.drop 1 (rcX E r).cells) = [.int .i64 r.num, .int .i64 r.acc, .int .i64 r.fld, .int .i64 r.tm, .int .i64 r.lo, .int .i64 r.hi] := rfl
 try simp (disch := omega) only [go_sem, jA, jB, jC, jD, jE, jF, jG, jH, jI, jJ, ↓reduceIte, reduceCtorEq, jO, jM, jN, jK, jL, hfl, rcX_cells, rcX_gd0, c1, c2, c3, List.all_cons, List.all_nil, hE]
 have rd7 := rcX_gd E r (o := 7) (by unfold okO; omega)
 have rd14 := rcX_gd E r (o := 14) (by unfold okO; omega)
 have rd15 := rcX_gd E r (o := 15) (by unfold okO; omega)
 have rd16 := rcX_gd E r (o := 16) (by unfold okO; omega)
 refine cond_d (fun h1 => ?_) (fun h1 => ?_) <;> try simp (disch := omega) only [go_sem, jA, jB, jC, jD, jE, jF, jG, jH, jI, jJ, ↓reduceIte, reduceCtorEq, jO, jM, jN, jK, jL]
 ·have e : offs r.k = [1, 2, 3, 4, 5, 6] := by rw [h1]; rfl
  refine ⟨by simp only; omega, fun i hi => by simp only at hi; simp (disch := omega) only [upd_ne], .inr ⟨by rw [e]; simp, n0 + 1 + 1 + 1 + 1, _, by rw [e]; rfl, by simp only; omega, by simp only; omega, (upd_same _ _ _).trans (by rw [numsR, e]; rfl)⟩⟩
 refine cond_d (fun h2 => ?_) (fun h2 => ?_) <;> try simp (disch := omega) only [go_sem, jA, jB, jC, jD, jE, jF, jG, jH, jI, jJ, ↓reduceIte, reduceCtorEq, jO, jM, jN, jK, jL]
 ·have e : offs r.k = [8, 9, 10, 11] := by rw [h2]; rfl
  refine ⟨by simp only; omega, fun i hi => by simp only at hi; simp (disch := omega) only [upd_ne], .inr ⟨by rw [e]; simp, n0 + 1 + 1 + 1 + 1, _, by rw [e]; rfl, by simp only; omega, by simp only; omega, (upd_same _ _ _).trans (by rw [numsR, e]; rfl)⟩⟩
 refine cond_d (fun h3 => ?_) (fun h3 => ?_)
 ·try simp (disch := omega) only [go_sem, jA, jB, jC, jD, jE, jF, jG, jH, jI, jJ, ↓reduceIte, reduceCtorEq, jO, jM, jN, jK, jL, rd7, rd14, rd15, rd16, decide_eq_true h3]
  have e : offs r.k = [7, 14, 15, 16] := by rw [h3]; rfl
  refine ⟨by simp only; omega, fun i hi => by simp only at hi; simp (disch := omega) only [upd_ne], .inr ⟨by rw [e]; simp, n0 + 1 + 1 + 1 + 1, _, by rw [e]; rfl, by simp only; omega, by simp only; omega, (upd_same _ _ _).trans (by rw [numsR, e]; rfl)⟩⟩
 try simp (disch := omega) only [go_sem, jA, jB, jC, jD, jE, jF, jG, jH, jI, jJ, ↓reduceIte, reduceCtorEq, jO, jM, jN, jK, jL]
 refine cond_d (fun h4 => ?_) (fun h4 => ?_) <;> try simp (disch := omega) only [go_sem, jA, jB, jC, jD, jE, jF, jG, jH, jI, jJ, ↓reduceIte, reduceCtorEq, jO, jM, jN, jK, jL, rd7, rd14, rd15, rd16]
 ·have e : offs r.k = [7, 14, 15, 16] := by rw [h4]; rfl
  refine ⟨by simp only; omega, fun i hi => by simp only at hi; simp (disch := omega) only [upd_ne], .inr ⟨by rw [e]; simp, n0 + 1 + 1 + 1 + 1, _, by rw [e]; rfl, by simp only; omega, by simp only; omega, (upd_same _ _ _).trans (by rw [numsR, e]; rfl)⟩⟩
 refine cond_d (fun h5 => ?_) (fun h5 => ?_) <;> try simp (disch := omega) only [go_sem, jA, jB, jC, jD, jE, jF, jG, jH, jI, jJ, ↓reduceIte, reduceCtorEq, jO, jM, jN, jK, jL]
 ·have e : offs r.k = [18, 19, 20] := by rw [h5]; rfl
  refine ⟨by simp only; omega, fun i hi => by simp only at hi; simp (disch := omega) only [upd_ne], .inr ⟨by rw [e]; simp, n0 + 1 + 1 + 1 + 1, _, by rw [e]; rfl, by simp only; omega, by simp only; omega, (upd_same _ _ _).trans (by rw [numsR, e]; rfl)⟩⟩
 refine cond_d (fun h6 => ?_) (fun h6 => ?_) <;> try simp (disch := omega) only [go_sem, jA, jB, jC, jD, jE, jF, jG, jH, jI, jJ, ↓reduceIte, reduceCtorEq, jO, jM, jN, jK, jL]
 ·have e : offs r.k = [17] := by rw [h6]; rfl
  refine ⟨by simp only; omega, fun i hi => by simp only at hi; simp (disch := omega) only [upd_ne], .inr ⟨by rw [e]; simp, n0 + 1 + 1 + 1 + 1, _, by rw [e]; rfl, by simp only; omega, by simp only; omega, (upd_same _ _ _).trans (by rw [numsR, e]; rfl)⟩⟩
 have e : offs r.k = [] := by simp [offs, h1, h2, h3, h4, h5, h6]
 refine ⟨by simp only; omega, fun i hi => by simp only at hi; simp (disch := omega) only [upd_ne], .inl ⟨e, rfl⟩⟩
theorem call_rod {P : Program} {σ : St} {f : Nat} {args args' : List AV} {r : AV} {K : AV → St → Prop} (d : Nat) (o : AObj) (ho : σ.ob d = some o) (h : PC P f args' r) (hp : Lent ⟨fun i => if decide (i ≠ d) then none else σ.ob i, σ.n, σ.c⟩ args args') (ha : ∀ a ∈ args', a.pur = true)
  (hK : ∀ ob', (∀ j, j ≠ d → ob' j = σ.ob j) → ob' d = some { o with ro := true } → K r ⟨ob', σ.n, σ.c⟩) : HC P f args σ K :=
 call_ro (fun i => decide (i ≠ d)) h hp ha (hK _ (fun j hj => by simp [hj]) (by simp [ho]))
theorem len1 {α : Type} {l : List α} (h : l.length = 1) : ∃ a, l = [a] := by match l, h with | [a], _ => exact ⟨a, rfl⟩
theorem len3 {α : Type} {l : List α} (h : l.length = 3) : ∃ a b c, l = [a, b, c] := by match l, h with | [a, b, c], _ => exact ⟨a, b, c, rfl⟩
theorem len4 {α : Type} {l : List α} (h : l.length = 4) : ∃ a b c d, l = [a, b, c, d] := by match l, h with | [a, b, c, d], _ => exact ⟨a, b, c, d, rfl⟩
theorem len6 {α : Type} {l : List α} (h : l.length = 6) : ∃ a b c d e f, l = [a, b, c, d, e, f] := by match l, h with | [a, b, c, d, e, f], _ => exact ⟨a, b, c, d, e, f, rfl⟩
theorem ok_ref32_made (k : Int) (l : List Int) (hl : l.length = (offs k).length) : PC prog n_ref32_made [.int .i64 k, .list 1 (ints l)] (rcv (madeR k l)) := by
 refine PC_of_body b_ref32_made (by simp) ?_
 simp only [c_ref32_made]
 try simp (disch := omega) only [go_sem, jA, jB, jC, jD, jE, jF, jG, jH, jI, jJ, ↓reduceIte, reduceCtorEq, jO, jM, jN, jK, jL]
 have hsg : (madeR k l).sg = [] := putR_sg _ _ _ rfl fun o ho => offs_ok ho
 refine cond_d (fun h1 => ?_) (fun h1 => ?_)
 ·obtain rfl := h1
  obtain ⟨a, b, c, d, e, f, rfl⟩ := len6 (l := l) (by rw [hl]; rfl)
  try simp (disch := omega) only [go_sem, jA, jB, jC, jD, jE, jF, jG, jH, jI, jJ, ↓reduceIte, reduceCtorEq, jO, jM, jN, jK, jL, ints, List.map_cons, List.map_nil]
  exact rcN_pub hsg
 try simp (disch := omega) only [go_sem, jA, jB, jC, jD, jE, jF, jG, jH, jI, jJ, ↓reduceIte, reduceCtorEq, jO, jM, jN, jK, jL]
 refine cond_d (fun h2 => ?_) (fun h2 => ?_)
 ·obtain rfl := h2
  obtain ⟨a, b, c, d, rfl⟩ := len4 (l := l) (by rw [hl]; rfl)
  try simp (disch := omega) only [go_sem, jA, jB, jC, jD, jE, jF, jG, jH, jI, jJ, ↓reduceIte, reduceCtorEq, jO, jM, jN, jK, jL, ints, List.map_cons, List.map_nil]
  exact rcN_pub hsg
 try simp (disch := omega) only [go_sem, jA, jB, jC, jD, jE, jF, jG, jH, jI, jJ, ↓reduceIte, reduceCtorEq, jO, jM, jN, jK, jL]
 refine cond_d (fun h3 => ?_) (fun h3 => ?_)
 ·try simp (disch := omega) only [go_sem, jA, jB, jC, jD, jE, jF, jG, jH, jI, jJ, ↓reduceIte, reduceCtorEq, jO, jM, jN, jK, jL, decide_eq_true h3]
  obtain rfl := h3
  obtain ⟨a, b, c, d, rfl⟩ := len4 (l := l) (by rw [hl]; rfl)
  try simp (disch := omega) only [go_sem, jA, jB, jC, jD, jE, jF, jG, jH, jI, jJ, ↓reduceIte, reduceCtorEq, jO, jM, jN, jK, jL, ints, List.map_cons, List.map_nil]
  exact rcN_pub hsg
 try simp (disch := omega) only [go_sem, jA, jB, jC, jD, jE, jF, jG, jH, jI, jJ, ↓reduceIte, reduceCtorEq, jO, jM, jN, jK, jL]
 refine cond_d (fun h4 => ?_) (fun h4 => ?_)
 ·obtain rfl := h4
  obtain ⟨a, b, c, d, rfl⟩ := len4 (l := l) (by rw [hl]; rfl)
  try simp (disch := omega) only [go_sem, jA, jB, jC, jD, jE, jF, jG, jH, jI, jJ, ↓reduceIte, reduceCtorEq, jO, jM, jN, jK, jL, ints, List.map_cons, List.map_nil]
  exact rcN_pub hsg
 try simp (disch := omega) only [go_sem, jA, jB, jC, jD, jE, jF, jG, jH, jI, jJ, ↓reduceIte, reduceCtorEq, jO, jM, jN, jK, jL]
 refine cond_d (fun h5 => ?_) (fun h5 => ?_)
 ·obtain rfl := h5
  obtain ⟨a, b, c, rfl⟩ := len3 (l := l) (by rw [hl]; rfl)
  try simp (disch := omega) only [go_sem, jA, jB, jC, jD, jE, jF, jG, jH, jI, jJ, ↓reduceIte, reduceCtorEq, jO, jM, jN, jK, jL, ints, List.map_cons, List.map_nil]
  exact rcN_pub hsg
 try simp (disch := omega) only [go_sem, jA, jB, jC, jD, jE, jF, jG, jH, jI, jJ, ↓reduceIte, reduceCtorEq, jO, jM, jN, jK, jL]
 refine cond_d (fun h6 => ?_) (fun h6 => ?_)
 ·obtain rfl := h6
  obtain ⟨a, rfl⟩ := len1 (l := l) (by rw [hl]; rfl)
  try simp (disch := omega) only [go_sem, jA, jB, jC, jD, jE, jF, jG, jH, jI, jJ, ↓reduceIte, reduceCtorEq, jO, jM, jN, jK, jL, ints, List.map_cons, List.map_nil]
  exact rcN_pub hsg
 try simp (disch := omega) only [go_sem, jA, jB, jC, jD, jE, jF, jG, jH, jI, jJ, ↓reduceIte, reduceCtorEq, jO, jM, jN, jK, jL]
 have e : offs k = [] := by simp [offs, h1, h2, h3, h4, h5, h6]
 rw [e] at hl
 obtain rfl : l = [] := List.length_eq_zero_iff.1 hl
 have em : madeR k [] = rc0 k := by rw [madeR, e]; rfl
 rw [em]
 exact rcN_pub (r := rc0 k) rfl
theorem ok_ref32_Valid (r : Rc) (hr : r.sg.length ≤ 9223372036854775807) : PC prog n_ref32_Valid [rcv r] (.bool (validR r)) := by
 have hfl := rcX_flat (E := .list 1 (ints r.sg)) r rfl
 refine PC_of_body b_ref32_Valid (by simp) ?_
 simp only [c_ref32_Valid, rcv]
 try simp (disch := omega) only [go_sem, jA, jB, jC, jD, jE, jF, jG, jH, jI, jJ, ↓reduceIte, reduceCtorEq, jO, jM, jN, jK, jL, hfl, rcX_cells, rcX_dt, rcX_tk]
 refine (hc_ref32_numbers _ _ r rfl).mono ?_
 rintro x ⟨ob1, n1, c1⟩ ⟨hn, ho, ⟨he, rfl⟩ | ⟨hne, id, g, rfl, hi1, hi2, hob⟩⟩
 ·try simp (disch := omega) only [go_sem, jA, jB, jC, jD, jE, jF, jG, jH, jI, jJ, ↓reduceIte, reduceCtorEq, jO, jM, jN, jK, jL]
  have : validR r = false := by simp [validR, he]
  rw [this]; exact Pub.pure rfl
 simp only at hn ho hi1 hi2 hob
 have u0 := ho 0 (by omega)
 try simp (disch := omega) only [go_sem, jA, jB, jC, jD, jE, jF, jG, jH, jI, jJ, ↓reduceIte, reduceCtorEq, jO, jM, jN, jK, jL] at u0
 try simp (disch := omega) only [go_sem, jA, jB, jC, jD, jE, jF, jG, jH, jI, jJ, ↓reduceIte, reduceCtorEq, jO, jM, jN, jK, jL]
 have h6 := offs_len r.k
 have hnl : (numsR r).length = (offs r.k).length := by rw [numsR, List.length_map]
 refine awp_upF [2, 6, 16, 17, 18, 19, 20, 21, 22, 23, 24, 25, 26] (by kernel_rfl) (offs r.k).length (fun i e σ => e 16 = .int .i64 i ∧ ((numsR r).take i).all vB = true ∧ σ.ob 0 = some ⟨0, 21, 41, false, true, [rcX (.list 1 (ints r.sg)) r]⟩ ∧ σ.ob id = some ⟨g, 1, tyN, false, true, ints (numsR r)⟩) ?_ ?_
 ·exact ⟨(by first | rfl | (simp (disch := omega) only [go_sem, jA, jB, jC, jD, jE, jF, jG, jH, jI, jJ, ↓reduceIte, reduceCtorEq, jP, jO, jM, jN]; try rfl)), rfl, u0, hob⟩
 clear u0 hob ho
 rintro i fe ob c hi ⟨h16, hall, u0, hob⟩
 simp (maxSteps := 1000000) only [go_sem, jA, jB, jC, jD, jE, jF, jG, jH, jI, jJ, ↓reduceIte, reduceCtorEq, jP] at h16 u0 hob
 try simp (disch := omega) only [go_sem, jA, jB, jC, jD, jE, jF, jG, jH, jI, jJ, ↓reduceIte, reduceCtorEq, jO, jM, jN, jK, jL, h16]
 refine cond_d (fun hlt => ?_) (fun hge => ?_)
 ·have hil : i < (numsR r).length := by omega
  have hgi := ints_get (numsR r) i
  have htk := take_snocA _ _ hil
  have hmem : (numsR r)[i] ∈ numsR r := List.getElem_mem hil
  rw [List.getElem?_eq_getElem hil] at hgi
  generalize (numsR r)[i] = v at *
  try simp (disch := omega) only [go_sem, jA, jB, jC, jD, jE, jF, jG, jH, jI, jJ, ↓reduceIte, reduceCtorEq, jO, jM, jN, jK, jL, h16, hob, hgi, ints_length, hnl, Option.map_some]
  have hbad : vB v = false → ∀ σ : St, Pub σ (.bool false) (.bool (validR r)) := fun hv σ => by
   have h8 : (numsR r).all vB = false := by
    rw [List.all_eq_false]; exact ⟨v, hmem, by simp [hv]⟩
   have : validR r = false := by simp only [validR, h8, Bool.and_false, Bool.false_and]
   rw [this]; exact Pub.pure rfl
  refine ⟨by omega, by omega, ?_⟩
  refine gd_fd rfl (fun hb => ?_) (fun hb => ?_) <;> try simp (disch := omega) only [go_sem, jA, jB, jC, jD, jE, jF, jG, jH, jI, jJ, ↓reduceIte, reduceCtorEq, jO, jM, jN, jK, jL]
  ·exact hbad (by simp [vB]; omega) _
  refine cond_d (fun hb2 => ?_) (fun hb2 => ?_) <;> try simp (disch := omega) only [go_sem, jA, jB, jC, jD, jE, jF, jG, jH, jI, jJ, ↓reduceIte, reduceCtorEq, jO, jM, jN, jK, jL]
  ·exact hbad (by simp [vB]; omega) _
  try simp (disch := omega) only [go_sem, jA, jB, jC, jD, jE, jF, jG, jH, jI, jJ, ↓reduceIte, reduceCtorEq, jO, jM, jN, jK, jL, h16]
  refine up_next (by omega) ⟨(by first | rfl | (simp (disch := omega) only [go_sem, jA, jB, jC, jD, jE, jF, jG, jH, jI, jJ, ↓reduceIte, reduceCtorEq, jP, jO, jM, jN]; try rfl)), ?_, (tr_ob (show 0 < n1 by omega)).trans u0, (tr_ob hi2).trans hob⟩
  rw [htk, List.all_append, hall]; simp [vB]; omega
 obtain rfl : i = (offs r.k).length := by omega
 rw [List.take_of_length_le (by omega)] at hall
 try simp (disch := omega) only [go_sem, jA, jB, jC, jD, jE, jF, jG, jH, jI, jJ, ↓reduceIte, reduceCtorEq, jO, jM, jN, jK, jL, u0, rcX_gd0, rcX_cells, rcX_dt, rcX_tk]
 refine call_rod id _ hob (ok_ref32_made r.k (numsR r) hnl) (.cons (.pure rfl) (.cons (Pub.of_sl (by simp only; rw [if_neg (by simp)]; exact hob) (by rw [ints_length, hnl]) (ints_pur _) (ints_ok _)) .nil)) (by simp [go_sem, ints_pur]) fun ob4 hne4 hxi4 => ?_
 try simp (disch := omega) only [go_sem, jA, jB, jC, jD, jE, jF, jG, jH, jI, jJ, ↓reduceIte, reduceCtorEq, jO, jM, jN, jK, jL]
 refine ⟨hne4 0 (by omega), ?_⟩
 have hS := ok_ref32_Same (madeR r.k (numsR r)) r (by rw [madeR, putR_sg _ _ (rc0 r.k) rfl fun o ho => offs_ok ho]; simp)
 refine call_pc hS (by simp [rcv_pur]; exact rcv_pur r) ?_
 try simp (disch := omega) only [go_sem, jA, jB, jC, jD, jE, jF, jG, jH, jI, jJ, ↓reduceIte, reduceCtorEq, jO, jM, jN, jK, jL]
 have : validR r = decide (madeR r.k (numsR r) = r) := by
  rw [madeR_nums]; simp only [validR, hall, Bool.and_true]; rw [decide_eq_true hne]; rfl
 rw [this]; exact Pub.pure rfl
theorem rputB (L : List Int) (n : Int) (k : Nat) (hs : L.length ≤ 1000000) (hk : k ≤ 5) : PC prog n_ref28_Put [.str (bs L), .int .i64 n, .int .i64 k] (.str (bs (L ++ putB n k))) := by
 rw [bs_append]; exact ok_ref28_Put (bs L) n k (by simp [bs, ByteArray.size]; omega) hk
theorem ok_ref32_Encode (r : Rc) (hr : r.sg.length ≤ 9223372036854775807) : PC prog n_ref32_Encode [rcv r] (.tuple [.str (encR r).1, .int .i64 (encR r).2]) := by
 have hfl := rcX_flat (E := .list 1 (ints r.sg)) r rfl
 have hV := ok_ref32_Valid r hr
 have hpr : (rcX (.list 1 (ints r.sg)) r).pur = true := rfl
 refine PC_of_body b_ref32_Encode (by simp) ?_
 simp only [c_ref32_Encode, rcv] at hV ⊢
 try simp (disch := omega) only [go_sem, jA, jB, jC, jD, jE, jF, jG, jH, jI, jJ, ↓reduceIte, reduceCtorEq, jO, jM, jN, jK, jL, hfl, rcX_cells, rcX_dt, rcX_tk]
 refine call_pc hV (by simp [hpr]) ?_
 cases hva : validR r
 ·try simp (disch := omega) only [go_sem, jA, jB, jC, jD, jE, jF, jG, jH, jI, jJ, ↓reduceIte, reduceCtorEq, jO, jM, jN, jK, jL]
  rw [encR, if_neg (by simp [hva])]; exact Pub.pure rfl
 try simp (disch := omega) only [go_sem, jA, jB, jC, jD, jE, jF, jG, jH, jI, jJ, ↓reduceIte, reduceCtorEq, jO, jM, jN, jK, jL, rcX_cells, rcX_dt, rcX_tk]
 refine (hc_ref32_numbers _ _ r rfl).mono ?_
 have hne : offs r.k ≠ [] := fun h => by simp [validR, h] at hva
 rintro x ⟨ob1, n1, c1⟩ ⟨hn, ho, ⟨he, rfl⟩ | ⟨_, id, g, rfl, hi1, hi2, hob⟩⟩
 ·exact absurd he hne
 simp only at hn ho hi1 hi2 hob
 have u0 := ho 0 (by omega)
 try simp (disch := omega) only [go_sem, jA, jB, jC, jD, jE, jF, jG, jH, jI, jJ, ↓reduceIte, reduceCtorEq, jO, jM, jN, jK, jL] at u0
 try simp (disch := omega) only [go_sem, jA, jB, jC, jD, jE, jF, jG, jH, jI, jJ, ↓reduceIte, reduceCtorEq, jO, jM, jN, jK, jL, u0, rcX_gd0]
 have hp0 := rputB [] r.k 1 (by simp) (by omega)
 refine call_pc hp0 (by simp [go_sem]) ?_
 try simp (disch := omega) only [go_sem, jA, jB, jC, jD, jE, jF, jG, jH, jI, jJ, ↓reduceIte, reduceCtorEq, jO, jM, jN, jK, jL]
 have h6 := offs_len r.k
 have hnl : (numsR r).length = (offs r.k).length := by rw [numsR, List.length_map]
 refine awp_upF [6, 8, 22, 23, 24, 25, 26, 27, 28, 29] (by kernel_rfl) (offs r.k).length (fun i e σ => e 22 = .int .i64 i ∧ e 6 = .str (bs (encI r i)) ∧ σ.ob id = some ⟨g, 1, tyN, false, true, ints (numsR r)⟩) ?_ ?_
 ·refine ⟨(by first | rfl | (simp (disch := omega) only [go_sem, jA, jB, jC, jD, jE, jF, jG, jH, jI, jJ, ↓reduceIte, reduceCtorEq, jP, jO, jM, jN]; try rfl)), ?_, hob⟩
  try simp (disch := omega) only [go_sem, jA, jB, jC, jD, jE, jF, jG, jH, jI, jJ, ↓reduceIte, reduceCtorEq, jO, jM, jN, jK, jL]; rfl
 clear u0 hob ho
 rintro i fe ob c hi ⟨h22, h6', hob⟩
 simp (maxSteps := 1000000) only [go_sem, jA, jB, jC, jD, jE, jF, jG, jH, jI, jJ, ↓reduceIte, reduceCtorEq, jP] at h22 h6' hob
 have hil' := encI_len r i
 try simp (disch := omega) only [go_sem, jA, jB, jC, jD, jE, jF, jG, jH, jI, jJ, ↓reduceIte, reduceCtorEq, jO, jM, jN, jK, jL, h22]
 refine cond_d (fun hlt => ?_) (fun hge => ?_)
 ·have hil : i < (numsR r).length := by omega
  have hgi := ints_get (numsR r) i
  rw [List.getElem?_eq_getElem hil] at hgi
  try simp (disch := omega) only [go_sem, jA, jB, jC, jD, jE, jF, jG, jH, jI, jJ, ↓reduceIte, reduceCtorEq, jO, jM, jN, jK, jL, h22, h6', hob, hgi, ints_length, hnl, Option.map_some]
  refine ⟨by omega, by omega, call_pc (rputB (encI r i) (numsR r)[i] 5 (by omega) (by omega)) (by simp [go_sem]) ?_⟩
  try simp (disch := omega) only [go_sem, jA, jB, jC, jD, jE, jF, jG, jH, jI, jJ, ↓reduceIte, reduceCtorEq, jO, jM, jN, jK, jL, h22]
  refine up_next (by omega) ⟨(by first | rfl | (simp (disch := omega) only [go_sem, jA, jB, jC, jD, jE, jF, jG, jH, jI, jJ, ↓reduceIte, reduceCtorEq, jP, jO, jM, jN]; try rfl)), ?_, (tr_ob hi2).trans hob⟩
  try simp (disch := omega) only [go_sem, jA, jB, jC, jD, jE, jF, jG, jH, jI, jJ, ↓reduceIte, reduceCtorEq, jO, jM, jN, jK, jL]; rw [encI_snoc r i hil]
 obtain rfl : i = (offs r.k).length := by omega
 rw [← hnl, encI_all] at h6' hil'
 have hsz : (bs (encL r)).size = (encL r).length := by simp [bs, ByteArray.size]
 try simp (disch := omega) only [go_sem, jA, jB, jC, jD, jE, jF, jG, jH, jI, jJ, ↓reduceIte, reduceCtorEq, jO, jM, jN, jK, jL, h6']
 refine call_pc (ok_ref28_Sum (bs (encL r)) (by omega)) (by simp [go_sem]) ?_
 try simp (disch := omega) only [go_sem, jA, jB, jC, jD, jE, jF, jG, jH, jI, jJ, ↓reduceIte, reduceCtorEq, jO, jM, jN, jK, jL]
 refine call_pc (rputB (encL r) (sumS (bs (encL r))) 4 (by omega) (by omega)) (by simp [go_sem]) ?_
 try simp (disch := omega) only [go_sem, jA, jB, jC, jD, jE, jF, jG, jH, jI, jJ, ↓reduceIte, reduceCtorEq, jO, jM, jN, jK, jL]
 rw [encR, if_pos hva]
 exact Pub.pure rfl
theorem ok_ref32_Append (s : ByteArray) (r : Rc) (hs : s.size ≤ 4611686018427387904) (hr : r.sg.length ≤ 9223372036854775807) : PC prog n_ref32_Append [.str s, rcv r] (.tuple [.str (appR s r).1, .int .i64 (appR s r).2]) := by
 have hE := ok_ref32_Encode r hr
 have hfl := rcX_flat (E := .list 1 (ints r.sg)) r rfl
 have hpr : (rcX (.list 1 (ints r.sg)) r).pur = true := rfl
 have hsz := encS_size r
 refine PC_of_body b_ref32_Append (by simp) ?_
 simp only [c_ref32_Append, rcv] at hE ⊢
 try simp (disch := omega) only [go_sem, jA, jB, jC, jD, jE, jF, jG, jH, jI, jJ, ↓reduceIte, reduceCtorEq, jO, jM, jN, jK, jL, hfl, rcX_cells, rcX_dt, rcX_tk]
 refine call_pc hE (by simp [hpr]) ?_
 cases hv : validR r
 ·rw [encR, appR, hv]
  try simp (disch := omega) only [go_sem, jA, jB, jC, jD, jE, jF, jG, jH, jI, jJ, ↓reduceIte, reduceCtorEq, jO, jM, jN, jK, jL]
  exact Pub.pure rfl
 ·rw [encR, appR, hv]
  try simp (disch := omega) only [go_sem, jA, jB, jC, jD, jE, jF, jG, jH, jI, jJ, ↓reduceIte, reduceCtorEq, jO, jM, jN, jK, jL]
  refine ⟨by omega, Pub.pure rfl⟩
theorem crash_ext (s : ByteArray) (a b : Nat) (h : a + b ≤ s.size) : s.extract 0 a ++ (s.extract a s.size).extract 0 b = s.extract 0 (a + b) := by
 rw [ByteArray.extract_extract, Nat.add_zero, ByteArray.extract_append_extract]
 congr 1 <;> omega
theorem ok_ref32_Crash (s : ByteArray) (k m : Int) (hs : s.size ≤ 4611686018427387904) : PC prog n_ref32_Crash [.str s, .int .i64 k, .int .i64 m] (.str (crashS s k m)) := by
 refine PC_of_body b_ref32_Crash (by simp) ?_
 simp only [c_ref32_Crash]
 try simp (disch := omega) only [go_sem, jA, jB, jC, jD, jE, jF, jG, jH, jI, jJ, ↓reduceIte, reduceCtorEq, jO, jM, jN, jK, jL]
 refine ⟨by omega, by omega, ?_⟩
 obtain ⟨q, hq⟩ : ∃ q, (cutS s k).size = q := ⟨_, rfl⟩
 have hz : q = (min (max k 0) s.size).toNat := by rw [← hq]; simp [cutS]; omega
 have hc : cutS s k = s.extract 0 q := by rw [hz]; rfl
 have hz2 : (s.extract q s.size).size = s.size - q := by rw [ByteArray.size_extract]; omega
 have e : crashS s k m = s.extract 0 (q + (min (max m 0) (s.size - q : Nat)).toNat) := by
  rw [← crash_ext s _ _ (by omega), crashS, hq, hc, cutS, hz2]
 rw [e, show (max 0 (min k (s.size : Int)) + max 0 (min m ((s.size : Int) - max 0 (min k s.size)))).toNat = q + (min (max m 0) (s.size - q : Nat)).toNat by omega]
 exact Pub.pure rfl
theorem rgetS (s : ByteArray) (a k : Nat) (hs : s.size ≤ 4611686018427387904) (h : a + k ≤ s.size) (h5 : k ≤ 5) : PC prog n_ref28_Get [.str s, .int .i64 a, .int .i64 k] (.int .i64 (getS s a k)) := ok_ref28_Get s a k hs h h5
theorem ints_set (l : List Int) (i : Nat) (v : Int) : (ints l).set i (.int .i64 v) = ints (l.set i v) := by simp [ints]
theorem nums_set (s : ByteArray) (n i : Nat) (l : List Int) (h : i < l.length) : (numsAt s n i ++ l.drop i).set i (getS s (n + 1 + 5 * i) 5) = numsAt s n (i + 1) ++ l.drop (i + 1) := by
 rw [List.set_append_right _ _ (by rw [numsAt_length]; omega), numsAt_length, Nat.sub_self, numsAt_succ, List.append_assoc, List.drop_eq_getElem_cons h]
 rfl
theorem ok_ref32_Decode (s : ByteArray) (a : Int) (hs : s.size ≤ 4611686018427387904) : PC prog n_ref32_Decode [.str s, .int .i64 a] (decV s a) := by
 refine PC_of_body b_ref32_Decode (by simp) ?_
 simp only [c_ref32_Decode, decV]
 have hbk := rck_fold
 have bad : ∀ (σ : St) (e : Int), decR s a = (rc0 0, 0, e) → Pub σ (.tuple [rcX .nil (rc0 0), .int .i64 0, .int .i64 e]) (.tuple [rcv (decR s a).1, .int .i64 (decR s a).2.1, .int .i64 (decR s a).2.2]) := fun σ e h => by
  rw [h]; exact Pub.tu (.cons (rcN_pub rfl) (.cons (Pub.e rfl) (.cons (Pub.e rfl) .nil)))
 have hfl : ∀ q, (rcX .nil q).flat = true := fun q => rcX_flat q rfl
 try simp (disch := omega) only [go_sem, jA, jB, jC, jD, jE, jF, jG, jH, jI, jJ, ↓reduceIte, reduceCtorEq, jO, jM, jN, jK, jL]
 refine gd_fd rfl (fun h1 => ?_) (fun h1 => ?_) <;> try simp (disch := omega) only [go_sem, jA, jB, jC, jD, jE, jF, jG, jH, jI, jJ, ↓reduceIte, reduceCtorEq, jO, jM, jN, jK, jL, hbk, hfl, rcX_cells, rcX_rep, rcX_tk]
 ·refine bad _ 1 (by rw [decR, if_pos (.inl h1)])
 refine cond_d (fun h2 => ?_) (fun h2 => ?_) <;> try simp (disch := omega) only [go_sem, jA, jB, jC, jD, jE, jF, jG, jH, jI, jJ, ↓reduceIte, reduceCtorEq, jO, jM, jN, jK, jL, hbk, hfl, rcX_cells, rcX_rep, rcX_tk]
 ·refine bad _ 1 (by rw [decR, if_pos (.inr h2)])
 refine cond_d (fun h3 => ?_) (fun h3 => ?_) <;> try simp (disch := omega) only [go_sem, jA, jB, jC, jD, jE, jF, jG, jH, jI, jJ, ↓reduceIte, reduceCtorEq, jO, jM, jN, jK, jL, hbk, hfl, rcX_cells, rcX_rep, rcX_tk]
 ·refine bad _ 7 (by rw [decR, if_neg (by omega), if_pos h3])
 obtain ⟨n, rfl, hn⟩ := sidx_int s a (by omega) (by omega)
 have hD : decR s n = decN s n := by rw [decR, if_neg (by omega), if_neg (by omega)]; rfl
 rw [hD] at bad ⊢
 have hsi := sidxN s n hn
 have hkb := sb_getD_bd s n
 try simp (disch := omega) only [go_sem, jA, jB, jC, jD, jE, jF, jG, jH, jI, jJ, ↓reduceIte, reduceCtorEq, jO, jM, jN, jK, jL, hsi, Option.some.injEq, exists_eq_left', Int.toNat_natCast, hbk, hfl, rcX_cells, rcX_rep, rcX_gd0]
 generalize hk : (sb s).getD n 0 = k at *
 refine (hc_ref32_numbers _ .nil (rc0 k) rfl).mono ?_
 have hdN : decN s n = if offs k = [] then (rc0 0, 0, 49) else if s.size < n + 1 + 5 * (offs k).length + 4 then (rc0 0, 0, 7) else
   if getS s (n + 1 + 5 * (offs k).length) 4 ≠ sumS (s.extract n (n + 1 + 5 * (offs k).length)) then (rc0 0, 0, 8) else
   if (numsAt s n (offs k).length).all vB then (madeR k (numsAt s n (offs k).length), ((n + 1 + 5 * (offs k).length + 4 : Nat) : Int), 0) else (rc0 0, 0, 49) := by
  simp only [decN, hk]; rfl
 have hkk : (rc0 k).k = k := rfl
 rintro x ⟨ob1, n1, c1⟩ ⟨hn1, ho, ⟨he, rfl⟩ | ⟨hne, id, g, rfl, hi1, hi2, hob⟩⟩
 ·have u0 := ho 0 (by simp only; omega)
  simp only at u0
  try simp (disch := omega) only [go_sem, jA, jB, jC, jD, jE, jF, jG, jH, jI, jJ, ↓reduceIte, reduceCtorEq, jO, jM, jN, jK, jL] at u0
  try simp (disch := omega) only [go_sem, jA, jB, jC, jD, jE, jF, jG, jH, jI, jJ, ↓reduceIte, reduceCtorEq, jO, jM, jN, jK, jL, u0, hbk, hfl, rcX_cells, rcX_rep, rcX_tk]
  refine bad _ 49 (by rw [hdN, if_pos (hkk ▸ he)])
 rw [hkk] at hne
 simp only at hn1 ho hi1 hi2 hob
 have u0 := ho 0 (by omega)
 try simp (disch := omega) only [go_sem, jA, jB, jC, jD, jE, jF, jG, jH, jI, jJ, ↓reduceIte, reduceCtorEq, jO, jM, jN, jK, jL] at u0
 rw [if_neg hne] at hdN
 have h6 := offs_len k
 have hnl : (numsR (rc0 k)).length = (offs k).length := by rw [numsR, List.length_map, hkk]
 clear ho hsi
 try simp (disch := omega) only [go_sem, jA, jB, jC, jD, jE, jF, jG, jH, jI, jJ, ↓reduceIte, reduceCtorEq, jO, jM, jN, jK, jL, hkk, u0, hbk, hfl, rcX_cells, rcX_rep, rcX_tk]
 obtain ⟨p, hp⟩ : ∃ p : Nat, p = n + 1 + 5 * (offs k).length := ⟨_, rfl⟩
 have hpi : (n : Int) + 1 + 5 * (offs k).length = p := by omega
 rw [← hp] at hdN
 simp only [hpi]
 refine cond_d (fun h4 => ?_) (fun h4 => ?_) <;> try simp (disch := omega) only [go_sem, jA, jB, jC, jD, jE, jF, jG, jH, jI, jJ, ↓reduceIte, reduceCtorEq, jO, jM, jN, jK, jL, u0, hbk, hfl, rcX_cells, rcX_rep, rcX_tk]
 ·refine bad _ 7 (by rw [hdN, if_pos (by omega)])
 rw [if_neg (by omega)] at hdN
 have hn1' : p + 4 ≤ s.size := by omega
 have e2 : (p : Int).toNat = p := by omega
 have e3 : (n : Int).toNat = n := by omega
 try simp (disch := omega) only [go_sem, jA, jB, jC, jD, jE, jF, jG, jH, jI, jJ, ↓reduceIte, reduceCtorEq, jO, jM, jN, jK, jL, e2, e3]
 refine ⟨by omega, by omega, by omega, call_pc (rgetS s p 4 hs hn1' (by omega)) (by simp [go_sem]) ?_⟩
 try simp (disch := omega) only [go_sem, jA, jB, jC, jD, jE, jF, jG, jH, jI, jJ, ↓reduceIte, reduceCtorEq, jO, jM, jN, jK, jL, e2, e3]
 refine call_pc (ok_ref28_Sum (s.extract n p) (by simp; omega)) (by simp [go_sem]) ?_
 try simp (disch := omega) only [go_sem, jA, jB, jC, jD, jE, jF, jG, jH, jI, jJ, ↓reduceIte, reduceCtorEq, jO, jM, jN, jK, jL]
 refine cond_n (fun h5 => ?_) (fun h5 => ?_) <;> try simp (disch := omega) only [go_sem, jA, jB, jC, jD, jE, jF, jG, jH, jI, jJ, ↓reduceIte, reduceCtorEq, jO, jM, jN, jK, jL, u0, hbk, hfl, rcX_cells, rcX_rep, rcX_tk]
 ·refine bad _ 8 (by rw [hdN, if_pos h5])
 rw [if_neg (by omega)] at hdN
 refine awp_upF [5, 6, 11, 63, 64, 65, 66, 67, 68, 69, 70, 71, 72, 73, 74, 75, 76, 77, 78, 79, 80, 81, 82] (by kernel_rfl) (offs k).length (fun i e σ => e 63 = .int .i64 i ∧ σ.ob 0 = some ⟨0, 21, 41, false, true, [rcX .nil (rc0 0)]⟩ ∧ σ.ob id = some ⟨g, 1, tyN, false, true, ints (numsAt s n i ++ (numsR (rc0 k)).drop i)⟩ ∧ (numsAt s n i).all vB = true) ?_ ?_
 ·exact ⟨(by first | rfl | (simp (disch := omega) only [go_sem, jA, jB, jC, jD, jE, jF, jG, jH, jI, jJ, ↓reduceIte, reduceCtorEq, jP, jO, jM, jN]; try rfl)), u0, hob, rfl⟩
 clear u0 hob
 rintro i fe ob c hi ⟨h63, v0, v1, hall⟩
 simp (maxSteps := 1000000) only [go_sem, jA, jB, jC, jD, jE, jF, jG, jH, jI, jJ, ↓reduceIte, reduceCtorEq, jP] at h63 v0 v1
 try simp (disch := omega) only [go_sem, jA, jB, jC, jD, jE, jF, jG, jH, jI, jJ, ↓reduceIte, reduceCtorEq, jO, jM, jN, jK, jL, h63]
 have hLl : (ints (numsAt s n i ++ (numsR (rc0 k)).drop i)).length = (offs k).length := by rw [ints_length, List.length_append, numsAt_length, List.length_drop]; omega
 refine cond_d (fun hlt => ?_) (fun hge => ?_)
 ·have hil : i < (offs k).length := by omega
  obtain ⟨j, hj⟩ : ∃ j : Nat, j = n + 1 + 5 * i := ⟨_, rfl⟩
  have hji : (n : Int) + 1 + 5 * i = j := by omega
  try simp (disch := omega) only [go_sem, jA, jB, jC, jD, jE, jF, jG, jH, jI, jJ, ↓reduceIte, reduceCtorEq, jO, jM, jN, jK, jL, h63, v1, hLl, hji]
  refine call_pc (rgetS s j 5 hs (by omega) (by omega)) (by simp [go_sem]) ?_
  have hb5 := getS_bd s j 5 (by omega)
  obtain ⟨w, hq⟩ : ∃ w, (ints (numsAt s n i ++ (numsR (rc0 k)).drop i))[i]? = some (.int .i64 w) := by
   rw [ints_get, List.getElem?_eq_getElem (by rw [List.length_append, numsAt_length, List.length_drop]; omega)]; exact ⟨_, rfl⟩
  have hset := nums_set s n i (numsR (rc0 k)) (by omega)
  rw [← hj] at hset
  have hset2 : (ints (numsAt s n i ++ (numsR (rc0 k)).drop i)).set i (.int .i64 (getS s j 5)) = ints (numsAt s n (i + 1) ++ (numsR (rc0 k)).drop (i + 1)) := by rw [ints_set, hset]
  have hq2 : (ints (numsAt s n (i + 1) ++ (numsR (rc0 k)).drop (i + 1)))[i]? = some (.int .i64 (getS s j 5)) := by
   rw [← hset2, List.getElem?_set_self (by rw [hLl]; exact hil)]
  have hLl2 : (ints (numsAt s n (i + 1) ++ (numsR (rc0 k)).drop (i + 1))).length = (offs k).length := by rw [← hset2, List.length_set]; exact hLl
  have zid : ¬ 0 = id := by omega
  try simp (disch := omega) only [go_sem, jA, jB, jC, jD, jE, jF, jG, jH, jI, jJ, ↓reduceIte, reduceCtorEq, jO, jM, jN, jK, jL, v0, v1, hLl, hq, hset2, hq2, hLl2, zid]
  refine ⟨by omega, by omega, by omega, by omega, ?_⟩
  refine cond_d (fun h7 => ?_) (fun h7 => ?_) <;> try simp (disch := omega) only [go_sem, jA, jB, jC, jD, jE, jF, jG, jH, jI, jJ, ↓reduceIte, reduceCtorEq, jO, jM, jN, jK, jL, v0, v1, hbk, hfl, rcX_cells, rcX_rep, rcX_tk, zid]
  ·have hbadv : (numsAt s n (offs k).length).all vB = false := by
    rw [List.all_eq_false]
    refine ⟨getS s j 5, List.mem_map.2 ⟨i, List.mem_range.2 hil, by rw [hj]⟩, ?_⟩
    simp [vB]; omega
   refine bad _ 49 (by rw [hdN, hbadv, if_neg (by simp)])
  try simp (disch := omega) only [go_sem, jA, jB, jC, jD, jE, jF, jG, jH, jI, jJ, ↓reduceIte, reduceCtorEq, jO, jM, jN, jK, jL, h63]
  refine up_next hil ⟨(by first | rfl | (simp (disch := omega) only [go_sem, jA, jB, jC, jD, jE, jF, jG, jH, jI, jJ, ↓reduceIte, reduceCtorEq, jP, jO, jM, jN]; try rfl)), ?_, ?_, ?_⟩
  ·rw [tr_ob (show 0 < n1 by omega), upd_ne _ _ _ _ (by omega)]; exact v0
  ·rw [tr_ob hi2, upd_same]
  ·rw [numsAt_succ, List.all_append, hall, ← hj]; simp [vB]; omega
 obtain rfl : i = (offs k).length := by omega
 rw [List.drop_of_length_le (by omega), List.append_nil] at v1
 rw [if_pos hall] at hdN
 try simp (disch := omega) only [go_sem, jA, jB, jC, jD, jE, jF, jG, jH, jI, jJ, ↓reduceIte, reduceCtorEq, jO, jM, jN, jK, jL, v0]
 have hnal : (numsAt s n (offs k).length).length = (offs k).length := numsAt_length ..
 refine call_rod id _ v1 (ok_ref32_made k (numsAt s n (offs k).length) hnal) (.cons (.pure rfl) (.cons (Pub.of_sl (by simp only; rw [if_neg (by simp)]; exact v1) (by rw [ints_length, hnal]) (ints_pur _) (ints_ok _)) .nil)) (by simp [go_sem, ints_pur]) fun ob4 hne4 hxi4 => ?_
 have u4 := (hne4 0 (by omega)).trans v0
 have htk : ∀ q, AV.agg ((rcv q).cells.take 21) = rcv q := fun _ => rfl
 have hrep : ∀ q p, setc 0 (rcv q) (rcX .nil p) = rcv q := fun _ _ => rfl
 have htf : ∀ q, (rcv q).flat = true := fun _ => rfl
 have htl : ∀ q, (rcv q).cells.length = 21 := fun _ => rfl
 try simp (disch := omega) only [go_sem, jA, jB, jC, jD, jE, jF, jG, jH, jI, jJ, ↓reduceIte, reduceCtorEq, jO, jM, jN, jK, jL, u4, htk, hrep, htf, htl]
 rw [hdN]
 have e9 : (p : Int) + 4 = (p + 4 : Nat) := by omega
 rw [e9]
 exact Pub.pure rfl
theorem ok_ref32_Open (s : ByteArray) (hs : s.size ≤ 100000000000) : PC prog n_ref32_Open [.str s] (.tuple [.list 21 (rcs (openS s).1), .int .i64 (openS s).2]) := by
 refine PC_of_body b_ref32_Open (by simp) ?_
 simp only [c_ref32_Open]
 try simp (disch := omega) only [go_sem, jA, jB, jC, jD, jE, jF, jG, jH, jI, jJ, ↓reduceIte, reduceCtorEq, jO, jM, jN, jK, jL]
 have hb := openG_bd s s.size 0 (by omega) (by omega)
 refine awp_upG [2, 3, 4, 5, 6, 7, 8, 9, 10, 11, 12, 13, 14, 15, 16, 17, 18, 19, 20, 21, 22, 23, 24] (by kernel_rfl) (openS s).1.length (fun i e σ => ∃ l f a, l.length = i ∧ openS s = (l ++ (openG s f a).1, (openG s f a).2) ∧ 0 ≤ a ∧ a ≤ s.size ∧ (s.size : Int) - a ≤ f ∧ e 5 = .int .i64 a ∧ ∃ X, At e 4 X ∧ SlR 21 41 σ (rcs l) X) ?_ ?_
 ·exact ⟨[], s.size, 0, rfl, rfl, by omega, by omega, by omega, (by first | rfl | (simp (disch := omega) only [go_sem, jA, jB, jC, jD, jE, jF, jG, jH, jI, jJ, ↓reduceIte, reduceCtorEq, jP, jO, jM, jN]; try rfl)), .nil, (by simp only [At]; try simp (disch := omega) only [go_sem, jA, jB, jC, jD, jE, jF, jG, jH, jI, jJ, ↓reduceIte, reduceCtorEq, jO, jM, jN, jK, jL]), SlR.nil⟩
 rintro i fe ob m c hi hm ⟨l, f, a, rfl, hO, h0, h1, hf, h5, X, h4, hX⟩
 simp (maxSteps := 1000000) only [go_sem, jA, jB, jC, jD, jE, jF, jG, jH, jI, jJ, ↓reduceIte, reduceCtorEq, jP, At] at h5 h4
 try simp (disch := omega) only [go_sem, jA, jB, jC, jD, jE, jF, jG, jH, jI, jJ, ↓reduceIte, reduceCtorEq, jO, jM, jN, jK, jL, h5]
 refine call_pc (ok_ref32_Decode s a (by omega)) (by simp [go_sem]) ?_
 rw [decV]
 have hbk := rck_fold
 have hrep : ∀ q p, setc 0 (rcv q) (rcX .nil p) = rcv q := fun _ _ => rfl
 have htk : ∀ q, AV.agg ((rcv q).cells.take 21) = rcv q := fun _ => rfl
 have htc : ∀ q, (rcv q).cells.take 21 = (rcv q).cells := fun _ => rfl
 have htl : ∀ q, (rcv q).cells.length = 21 := fun _ => rfl
 have htf : ∀ q, (rcv q).flat = true := fun _ => rfl
 have hac : ∀ q, AV.agg (rcv q).cells = rcv q := fun _ => rfl
 have hfr : ∀ v j, j < m → upd ob m v j = ob j := fun v j h => upd_ne _ _ _ _ (by omega)
 have hto : ∀ q, (rcv q).cells.all AV.one = true := fun _ => rfl
 have htp : ∀ q, (rcv q).cells.all AV.pur1 = true := fun _ => rfl
 try simp (disch := omega) only [go_sem, jA, jB, jC, jD, jE, jF, jG, jH, jI, jJ, ↓reduceIte, reduceCtorEq, jO, jM, jN, jK, jL, hbk, hrep, htf, htl]
 refine cond_n (fun h7 => ?_) (fun h7 => ?_) <;> try simp (disch := omega) only [go_sem, jA, jB, jC, jD, jE, jF, jG, jH, jI, jJ, ↓reduceIte, reduceCtorEq, jO, jM, jN, jK, jL, h4, h5, hbk, hrep, htk, htc, htl, htf, hto, htp, hac, upd_upd]
 ·have he : openG s f a = ([], a) := by
   cases f with
   | zero => rfl
   | succ f => rw [openG, if_pos h7]
  rw [hO, he, List.append_nil]
  exact Pub.tu (.cons (hX.pub (fun j hj _ => hfr _ j hj) (rcs_pur _) (fun x hx => rcs_ok _ x hx)) (.cons (Pub.e rfl) .nil))
 have h7' : (decR s a).2.2 = 0 := by simpa using h7
 have hd := decR_ok s a h7'
 obtain ⟨f, rfl⟩ : ∃ f', f = f' + 1 := ⟨f - 1, by omega⟩
 rw [openG, if_neg (by simp [h7'])] at hO
 have hbd := openG_bd s f (decR s a).2.1 (by omega) hd.2.2
 have hll : l.length + ((openG s f (decR s a).2.1).1.length + 1) = (openS s).1.length := by rw [hO]; simp
 have hle : (openS s).1.length ≤ s.size := by have : openS s = openG s s.size 0 := rfl; rw [this]; simp at hb; omega
 refine app_slr (b := 184) (hX.move (Nat.le_succ _) fun j hj _ => hfr _ j hj) (by rw [rcs_length]; omega) (by rw [rcs_length]; omega) fun Y τ hY kY => ?_
 obtain ⟨ob5, m5, c5⟩ := τ
 try simp (disch := omega) only [go_sem, jA, jB, jC, jD, jE, jF, jG, jH, jI, jJ, ↓reduceIte, reduceCtorEq, jO, jM, jN, jK, jL]
 refine up_nextG m5 (by omega) (Nat.zero_le _) ⟨l ++ [(decR s a).1], f, (decR s a).2.1, by simp, ?_, by omega, hd.2.2, by omega, (by first | rfl | (simp (disch := omega) only [go_sem, jA, jB, jC, jD, jE, jF, jG, jH, jI, jJ, ↓reduceIte, reduceCtorEq, jP, jO, jM, jN]; try rfl)), Y, (by simp only [At]; try simp (disch := omega) only [go_sem, jA, jB, jC, jD, jE, jF, jG, jH, jI, jJ, ↓reduceIte, reduceCtorEq, jO, jM, jN, jK, jL]), ?_⟩
 ·rw [hO, List.append_assoc]; rfl
 ·rw [show rcs (l ++ [(decR s a).1]) = rcs l ++ [rcv (decR s a).1] by simp [rcs]]
  exact hY.tr
def bsI (l : List Int) (x : Int) : Nat := l.findIdx fun y => decide (x ≤ y)
theorem bsI_le (l : List Int) (x : Int) : bsI l x ≤ l.length := List.findIdx_le_length
theorem bsI_eq (l : List Int) (x : Int) (i : Nat) (hi : i ≤ l.length) (h1 : ∀ k, k < i → ∀ y, l[k]? = some y → y < x) (h2 : ∀ k, i ≤ k → ∀ y, l[k]? = some y → x ≤ y) : bsI l x = i := by
 unfold bsI
 by_cases h : i < l.length
 ·rw [List.findIdx_eq h]
  refine ⟨by simpa using h2 i (Nat.le_refl _) _ (List.getElem?_eq_getElem h), fun j hj => ?_⟩
  have := h1 j hj _ (List.getElem?_eq_getElem (by omega))
  simp; omega
 ·have : i = l.length := by omega
  subst this
  rw [List.findIdx_eq_length]
  intro y hy
  obtain ⟨k, hk⟩ := List.getElem?_of_mem hy
  have := h1 k (List.getElem?_eq_some_iff.1 hk).1 y hk
  simp; omega
def Asc (l : List Int) : Prop := ∀ i j : Nat, i < j → ∀ x y, l[i]? = some x → l[j]? = some y → x ≤ y
theorem bsI_mem (l : List Int) (x : Int) (hs : Asc l) : l[bsI l x]? = some x ↔ x ∈ l := by
 constructor
 ·intro h; exact List.mem_of_getElem? h
 ·intro h
  have hlt : bsI l x < l.length := List.findIdx_lt_length.2 ⟨x, h, by simp⟩
  have h3 : x ≤ l[bsI l x] := of_decide_eq_true (List.findIdx_getElem (p := fun y => decide (x ≤ y)) (w := hlt))
  obtain ⟨i, hi⟩ := List.getElem?_of_mem h
  have h4 : bsI l x ≤ i := by
   rcases Nat.lt_or_ge i (bsI l x) with h5 | h5
   ·have := List.not_of_lt_findIdx h5
    rw [List.getElem?_eq_some_iff] at hi
    obtain ⟨_, rfl⟩ := hi
    simp at this
   ·exact h5
  rw [List.getElem?_eq_getElem hlt]
  by_cases e : i = bsI l x
  ·subst e; rw [List.getElem?_eq_getElem hlt] at hi; exact hi
  ·have := hs _ i (by omega) _ x (List.getElem?_eq_getElem hlt) hi
   congr 1; omega
theorem bsI_at {l : List Int} {x y : Int} (h : l[bsI l x]? = some y) : x ≤ y := by
 obtain ⟨hlt, rfl⟩ := List.getElem?_eq_some_iff.1 h
 exact of_decide_eq_true (List.findIdx_getElem (p := fun y => decide (x ≤ y)) (w := hlt))
theorem bsI_le_of {l : List Int} {x y : Int} {k : Nat} (h : l[k]? = some y) (hy : x ≤ y) : bsI l x ≤ k := by
 obtain ⟨hlt, rfl⟩ := List.getElem?_eq_some_iff.1 h
 rcases Nat.lt_or_ge k (bsI l x) with h5 | h5
 ·have := List.not_of_lt_findIdx h5
  simp at this; omega
 ·exact h5
structure Ac where
 fr : Int
 st : List Bd
 ins : List Bd
 outs : List Bd
def acv (a : Ac) : AV := .agg [.int .i64 a.fr, .list 2 (bds a.st), .list 2 (bds a.ins), .list 2 (bds a.outs)]
def mxV : Int := 274877906944
def eb (b : Bd) : Int := if b.lo < 0 ∨ mxV < b.hi then 1 else if b.hi < b.lo then 48 else 0
def el : List Bd → Int
 | [] => 0
 | b :: r => if eb b = 0 then el r else eb b
def fitB (b : Bd) : Prop := 0 ≤ b.lo ∧ b.lo ≤ b.hi ∧ b.hi ≤ mxV
theorem eb_zero {b : Bd} : eb b = 0 ↔ fitB b := by
 unfold eb fitB
 split
 ·simp; omega
 ·split
  ·simp; omega
  ·simp; omega
theorem el_zero {l : List Bd} : el l = 0 ↔ ∀ b ∈ l, fitB b := by
 induction l with
 | nil => simp [el]
 | cons b r ih =>
  simp only [el, List.mem_cons, forall_eq_or_imp]
  split
  ·rename_i h; rw [ih, ← eb_zero]; simp [h]
  ·rename_i h; rw [← eb_zero]; simp [h]
theorem el_take {l : List Bd} {k : Nat} {b : Bd} (hk : l[k]? = some b) (h : ∀ x ∈ l.take k, eb x = 0) : el l = if eb b = 0 then el (l.drop (k + 1)) else eb b := by
 induction k generalizing l with
 | zero =>
  cases l with
  | nil => simp at hk
  | cons x r => simp at hk; subst hk; simp [el]
 | succ k ih =>
  cases l with
  | nil => simp at hk
  | cons x r =>
   simp only [List.getElem?_cons_succ] at hk
   simp only [List.take_succ_cons, List.mem_cons, forall_eq_or_imp] at h
   rw [el, if_pos h.1, ih hk h.2]
   simp
def ef (a : Ac) : Int :=
 if a.ins.length = 0 ∨ a.outs.length ≠ a.ins.length ∨ a.st.length ≠ a.ins.length + 1 then 3
 else if 400 < a.ins.length then 10
 else if a.fr < 0 ∨ 16777216 - (a.ins.length : Int) < a.fr then 6 else 0
def chk (a : Ac) : Int := if ef a ≠ 0 then ef a else if el a.st ≠ 0 then el a.st else if el a.ins ≠ 0 then el a.ins else el a.outs
structure AcOK (a : Ac) : Prop where
 n1 : 1 ≤ a.ins.length
 n2 : a.ins.length ≤ 400
 no : a.outs.length = a.ins.length
 ns : a.st.length = a.ins.length + 1
 f0 : 0 ≤ a.fr
 f1 : a.fr ≤ 16777216 - (a.ins.length : Int)
 bs : ∀ b ∈ a.st, fitB b
 bi : ∀ b ∈ a.ins, fitB b
 bo : ∀ b ∈ a.outs, fitB b
theorem chk_ok {a : Ac} : chk a = 0 ↔ AcOK a := by
 have h6 : ef a = 0 ↔ (1 ≤ a.ins.length ∧ a.ins.length ≤ 400 ∧ a.outs.length = a.ins.length ∧ a.st.length = a.ins.length + 1 ∧ 0 ≤ a.fr ∧ a.fr ≤ 16777216 - (a.ins.length : Int)) := by
  unfold ef
  split
  ·simp; omega
  ·split
   ·simp; omega
   ·split
    ·simp; omega
    ·simp; omega
 have h : chk a = 0 ↔ ef a = 0 ∧ el a.st = 0 ∧ el a.ins = 0 ∧ el a.outs = 0 := by
  unfold chk
  split
  ·rename_i h; simp [h]
  ·rename_i h
   split
   ·rename_i h2; simp [h2]
   ·rename_i h2
    split
    ·rename_i h3; simp [h3]
    ·rename_i h3; simp at h h2 h3; simp [h, h2, h3]
 rw [h, h6, el_zero, el_zero, el_zero]
 exact ⟨fun ⟨⟨a1, a2, a3, a4, a5, a6⟩, b1, b2, b3⟩ => ⟨a1, a2, a3, a4, a5, a6, b1, b2, b3⟩, fun h => ⟨⟨h.n1, h.n2, h.no, h.ns, h.f0, h.f1⟩, h.bs, h.bi, h.bo⟩⟩
def inB (b : Bd) (v : Int) : Prop := b.lo ≤ v ∧ v ≤ b.hi
def meetB (a b : Bd) : Bd := ⟨max a.lo b.lo, min a.hi b.hi⟩
def fwB (s x y : Bd) : Bd := ⟨s.lo + x.lo - y.hi, s.hi + x.hi - y.lo⟩
def bwB (t x y : Bd) : Bd := ⟨t.lo - x.hi + y.lo, t.hi - x.lo + y.hi⟩
def inF (s t y : Bd) : Bd := ⟨t.lo - s.hi + y.lo, t.hi - s.lo + y.hi⟩
def outF (s t x : Bd) : Bd := ⟨s.lo + x.lo - t.hi, s.hi + x.hi - t.lo⟩
def valB (b : Bd) : Prop := b.lo ≤ b.hi
section
variable (S X Y : Nat → Bd) (n : Nat)
def chF : Nat → Bd
 | 0 => S 0
 | i + 1 => meetB (S (i + 1)) (fwB (chF i) (X i) (Y i))
def chG : Nat → Bd
 | 0 => chF S X Y n
 | k + 1 => meetB (chF S X Y (n - (k + 1))) (bwB (chG k) (X (n - (k + 1))) (Y (n - (k + 1))))
def chB (i : Nat) : Bd := chG S X Y n (n - i)
def chX (i : Nat) : Bd := meetB (X i) (inF (chB S X Y n i) (chB S X Y n (i + 1)) (Y i))
def chY (i : Nat) : Bd := meetB (Y i) (outF (chB S X Y n i) (chB S X Y n (i + 1)) (X i))
structure Hi (s x y : Nat → Int) : Prop where
 st : ∀ i, i ≤ n → inB (S i) (s i)
 ins : ∀ i, i < n → inB (X i) (x i)
 outs : ∀ i, i < n → inB (Y i) (y i)
 bal : ∀ i, i < n → s (i + 1) = s i + x i - y i
end
section
variable {S X Y : Nat → Bd} {n : Nat} {s x y : Nat → Int}
theorem chB_end : chB S X Y n n = chF S X Y n := by simp [chB, chG]
theorem chB_step {i : Nat} (h : i < n) : chB S X Y n i = meetB (chF S X Y i) (bwB (chB S X Y n (i + 1)) (X i) (Y i)) := by
 unfold chB
 obtain ⟨k, hk⟩ : ∃ k, n - i = k + 1 := ⟨n - i - 1, by omega⟩
 rw [hk, chG, show n - (i + 1) = k by omega, show n - (k + 1) = i by omega]
theorem Hi.F (h : Hi S X Y n s x y) : ∀ i, i ≤ n → inB (chF S X Y i) (s i)
 | 0, hi => h.st 0 hi
 | i + 1, hi => by
  have h1 := h.F i (by omega)
  have h2 := h.st (i + 1) hi
  have h3 := h.ins i (by omega)
  have h4 := h.outs i (by omega)
  have h5 := h.bal i (by omega)
  simp only [chF, meetB, fwB, inB] at *
  omega
theorem Hi.G (h : Hi S X Y n s x y) : ∀ k, k ≤ n → inB (chB S X Y n (n - k)) (s (n - k))
 | 0, _ => by rw [Nat.sub_zero, chB_end]; exact h.F n (Nat.le_refl _)
 | k + 1, hk => by
  have h1 := h.G k (by omega)
  rw [chB_step (by omega), show n - (k + 1) + 1 = n - k by omega]
  have h2 := h.F (n - (k + 1)) (by omega)
  have h3 := h.ins (n - (k + 1)) (by omega)
  have h4 := h.outs (n - (k + 1)) (by omega)
  have h5 := h.bal (n - (k + 1)) (by omega)
  rw [show n - (k + 1) + 1 = n - k by omega] at h5
  simp only [meetB, bwB, inB] at *
  omega
theorem Hi.B (h : Hi S X Y n s x y) {i : Nat} (hi : i ≤ n) : inB (chB S X Y n i) (s i) := by
 have := h.G (n - i) (by omega)
 rwa [show n - (n - i) = i by omega] at this
theorem chF_sub (i : Nat) (v : Int) (h : inB (chF S X Y i) v) : inB (S i) v := by
 cases i with
 | zero => exact h
 | succ i => simp only [chF, meetB, inB] at *; omega
theorem chB_F {i : Nat} (hi : i ≤ n) {v : Int} (h : inB (chB S X Y n i) v) : inB (chF S X Y i) v := by
 by_cases e : i = n
 ·subst e; rwa [chB_end] at h
 ·rw [chB_step (by omega)] at h
  simp only [meetB, inB] at *; omega
theorem split3 {a x y : Bd} (ha : valB a) (hx : valB x) (hy : valB y) {v : Int} (h : inB (fwB a x y) v) : ∃ p q r, inB a p ∧ inB x q ∧ inB y r ∧ v = p + q - r := by
 simp only [valB, inB, fwB] at *
 by_cases h1 : v ≤ a.hi + x.lo - y.hi
 ·exact ⟨v - x.lo + y.hi, x.lo, y.hi, by omega⟩
 ·by_cases h2 : v ≤ a.hi + x.hi - y.hi
  ·exact ⟨a.hi, v - a.hi + y.hi, y.hi, by omega⟩
  ·exact ⟨a.hi, x.hi, a.hi + x.hi - v, by omega⟩
structure Vd (S X Y : Nat → Bd) (n : Nat) : Prop where
 x : ∀ i, i < n → valB (X i)
 y : ∀ i, i < n → valB (Y i)
 f : ∀ i, i ≤ n → valB (chF S X Y i)
theorem Vd.b (h : Vd S X Y n) : ∀ k, k ≤ n → valB (chB S X Y n (n - k))
 | 0, _ => by rw [Nat.sub_zero, chB_end]; exact h.f n (Nat.le_refl _)
 | k + 1, hk => by
  have h1 := h.b k (by omega)
  rw [chB_step (by omega), show n - (k + 1) + 1 = n - k by omega]
  have h2 := h.f (n - (k + 1)) (by omega)
  have h3 := h.x (n - (k + 1)) (by omega)
  have h4 := h.y (n - (k + 1)) (by omega)
  have h5 := chB_F (S := S) (X := X) (Y := Y) (show n - k ≤ n by omega) (v := (chB S X Y n (n - k)).lo) (by simp only [inB, valB] at *; omega)
  have h6 := chB_F (S := S) (X := X) (Y := Y) (show n - k ≤ n by omega) (v := (chB S X Y n (n - k)).hi) (by simp only [inB, valB] at *; omega)
  rw [show n - k = (n - (k + 1)) + 1 by omega] at h5 h6 h1 ⊢
  simp only [chF, meetB, bwB, fwB, inB, valB] at *
  omega
theorem Vd.B (h : Vd S X Y n) {i : Nat} (hi : i ≤ n) : valB (chB S X Y n i) := by
 have := h.b (n - i) (by omega)
 rwa [show n - (n - i) = i by omega] at this
theorem Vd.on (h : Vd S X Y n) {i : Nat} (hi : i < n) {v : Int} (hv : inB (chB S X Y n i) v) : ∃ q r, inB (X i) q ∧ inB (Y i) r ∧ inB (chB S X Y n (i + 1)) (v + q - r) := by
 have h2 := h.B (show i + 1 ≤ n from hi)
 have h3 := h.x i hi
 have h4 := h.y i hi
 rw [chB_step hi] at hv
 obtain ⟨p, q, r, h5, h6, h7, h8⟩ := split3 (a := chB S X Y n (i + 1)) (x := Y i) (y := X i) h2 h4 h3 (v := v) (by simp only [meetB, bwB, fwB, inB] at *; omega)
 exact ⟨r, q, h7, h6, by rw [show v + r - q = p by omega]; exact h5⟩
theorem Vd.back (h : Vd S X Y n) {i : Nat} (hi : i < n) {v : Int} (hv : inB (chB S X Y n (i + 1)) v) : ∃ p q r, inB (X i) q ∧ inB (Y i) r ∧ inB (chB S X Y n i) p ∧ v = p + q - r := by
 have h2 := h.f i (by omega)
 have h3 := h.x i hi
 have h4 := h.y i hi
 have h5 := chB_F (show i + 1 ≤ n from hi) hv
 obtain ⟨p, q, r, h6, h7, h8, h9⟩ := split3 (a := chF S X Y i) (x := X i) (y := Y i) h2 h3 h4 (v := v) (by simp only [chF, meetB, inB] at *; omega)
 refine ⟨p, q, r, h7, h8, ?_, h9⟩
 rw [chB_step hi]
 simp only [meetB, bwB, inB] at *
 omega
theorem Vd.hiTo (h : Vd S X Y n) : ∀ (i : Nat), i ≤ n → ∀ v, inB (chB S X Y n i) v → ∃ s x y : Nat → Int, s i = v ∧ (∀ j, j ≤ i → inB (chB S X Y n j) (s j)) ∧ ∀ j, j < i → inB (X j) (x j) ∧ inB (Y j) (y j) ∧ s (j + 1) = s j + x j - y j
 | 0, _, v, hv => ⟨fun _ => v, fun _ => 0, fun _ => 0, rfl, fun j h1 => by rw [show j = 0 by omega]; exact hv, fun j h1 => by omega⟩
 | i + 1, hi, v, hv => by
  obtain ⟨p, q, r, h1, h2, h3, h4⟩ := h.back (show i < n by omega) hv
  obtain ⟨s, x, y, h5, h6, h7⟩ := h.hiTo i (by omega) p h3
  refine ⟨fun j => if j = i + 1 then v else s j, fun j => if j = i then q else x j, fun j => if j = i then r else y j, by simp, fun j a => ?_, fun j a => ?_⟩
  ·simp only
   split
   ·rename_i e; rw [e]; exact hv
   ·exact h6 j (by omega)
  ·simp only
   by_cases e : j = i
   ·subst e
    rw [if_pos rfl, if_pos rfl, if_pos rfl, if_neg (by omega)]
    exact ⟨h1, h2, by rw [h5]; exact h4⟩
   ·rw [if_neg e, if_neg e, if_neg (by omega), if_neg (by omega)]
    exact h7 j (by omega)
theorem Hi.vd (h : Hi S X Y n s x y) : Vd S X Y n :=
 ⟨fun i hi => by have := h.ins i hi; simp only [inB, valB] at *; omega, fun i hi => by have := h.outs i hi; simp only [inB, valB] at *; omega, fun i hi => by have := h.F i hi; simp only [inB, valB] at *; omega⟩
end
theorem acv_pur (a : Ac) : (acv a).pur = true := by simp [acv, go_sem, bds_pur]
def AsO (σ τ : St) : Prop := σ.n ≤ τ.n ∧ ∀ k, k < σ.n → τ.ob k = σ.ob k
theorem ok_ref30_meet (b c : Bd) : PC prog n_ref30_meet [bdv b, bdv c] (bdv (meetB b c)) := by
 refine PC_of_body b_ref30_meet (by simp) ?_
 simp only [c_ref30_meet, go_sem, jA, jB, jC, jD, jE, jF, jG, jH, jI, jJ, ↓reduceIte, reduceCtorEq, jP, bdv]
 exact Pub.of_eq rfl (by simp [go_sem])
theorem ok_ref30_account (a : Ac) (hl : a.ins.length ≤ 9223372036854775807) (hs : a.st.length ≤ 9223372036854775807) : PC prog n_ref30_account [acv a] (.int .i64 (ef a)) := by
 refine PC_of_body b_ref30_account (by simp) ?_
 simp only [c_ref30_account, go_sem, jA, jB, jC, jD, jE, jF, jG, jH, jI, jJ, ↓reduceIte, reduceCtorEq, jP, acv, bds_length]
 have e3 : ∀ {σ : St}, (a.ins.length = 0 ∨ a.outs.length ≠ a.ins.length ∨ a.st.length ≠ a.ins.length + 1) → Pub σ (.int .i64 3) (.int .i64 (ef a)) := fun h => Pub.of_eq (by simp only [ef, if_pos h]) rfl
 refine gd_fd rfl (fun h => ?_) (fun h => ?_) <;> try simp (disch := omega) only [go_sem, jA, jB, jC, jD, jE, jF, jG, jH, jI, jJ, ↓reduceIte, reduceCtorEq, jO, jM, jN, jK, jL, bds_length]
 ·exact e3 (.inl (by omega))
 refine gd_fn rfl (fun h2 => ?_) (fun h2 => ?_) <;> try simp (disch := omega) only [go_sem, jA, jB, jC, jD, jE, jF, jG, jH, jI, jJ, ↓reduceIte, reduceCtorEq, jO, jM, jN, jK, jL, bds_length]
 ·exact e3 (.inr (.inl (by omega)))
 by_cases hnb : a.ins.length = 9223372036854775807
 ·have hw : IntKind.i64.wrap ((a.ins.length : Int) + 1) = -9223372036854775808 := by rw [hnb]; decide
  try simp (disch := omega) only [go_sem, jA, jB, jC, jD, jE, jF, jG, jH, jI, jJ, ↓reduceIte, reduceCtorEq, jO, jM, jN, jK, jL, hw]
  exact e3 (.inr (.inr (by omega)))
 try simp (disch := omega) only [go_sem, jA, jB, jC, jD, jE, jF, jG, jH, jI, jJ, ↓reduceIte, reduceCtorEq, jO, jM, jN, jK, jL]
 refine cond_n (fun h3 => ?_) (fun h3 => ?_) <;> try simp (disch := omega) only [go_sem, jA, jB, jC, jD, jE, jF, jG, jH, jI, jJ, ↓reduceIte, reduceCtorEq, jO, jM, jN, jK, jL, bds_length]
 ·exact e3 (.inr (.inr (by omega)))
 have hf : ¬ (a.ins.length = 0 ∨ a.outs.length ≠ a.ins.length ∨ a.st.length ≠ a.ins.length + 1) := by omega
 refine cond_d (fun h4 => ?_) (fun h4 => ?_) <;> try simp (disch := omega) only [go_sem, jA, jB, jC, jD, jE, jF, jG, jH, jI, jJ, ↓reduceIte, reduceCtorEq, jO, jM, jN, jK, jL, bds_length]
 ·exact Pub.of_eq (by simp only [ef, if_neg hf]; rw [if_pos (by omega)]) rfl
 refine gd_fd rfl (fun h5 => ?_) (fun h5 => ?_) <;> try simp (disch := omega) only [go_sem, jA, jB, jC, jD, jE, jF, jG, jH, jI, jJ, ↓reduceIte, reduceCtorEq, jO, jM, jN, jK, jL, bds_length]
 ·exact Pub.of_eq (by simp only [ef, if_neg hf]; rw [if_neg (by omega), if_pos (.inl h5)]) rfl
 refine cond_d (fun h6 => ?_) (fun h6 => ?_) <;> try simp (disch := omega) only [go_sem, jA, jB, jC, jD, jE, jF, jG, jH, jI, jJ, ↓reduceIte, reduceCtorEq, jO, jM, jN, jK, jL, bds_length]
 ·exact Pub.of_eq (by simp only [ef, if_neg hf]; rw [if_neg (by omega), if_pos (.inr h6)]) rfl
 exact Pub.of_eq (by simp only [ef, if_neg hf]; rw [if_neg (by omega), if_neg (by omega)]) rfl
def nthL (a : Ac) (k : Nat) (l : List Bd) : Prop := (k = 0 ∧ l = a.st) ∨ (k = 1 ∧ l = a.ins) ∨ (k = 2 ∧ l = a.outs)
def goodL (a : Ac) (k : Nat) : Prop := (1 ≤ k → el a.st = 0) ∧ (2 ≤ k → el a.ins = 0) ∧ (3 ≤ k → el a.outs = 0)
theorem nthL_ex (a : Ac) {k : Nat} (h : k < 3) : ∃ l, nthL a k l ∧ [AV.list 2 (bds a.st), .list 2 (bds a.ins), .list 2 (bds a.outs)][k]? = some (.list 2 (bds l)) := by
 rcases (by omega : k = 0 ∨ k = 1 ∨ k = 2) with rfl | rfl | rfl
 ·exact ⟨_, .inl ⟨rfl, rfl⟩, rfl⟩
 ·exact ⟨_, .inr (.inl ⟨rfl, rfl⟩), rfl⟩
 ·exact ⟨_, .inr (.inr ⟨rfl, rfl⟩), rfl⟩
theorem goodL_succ {a : Ac} {k : Nat} {l : List Bd} (hg : goodL a k) (hn : nthL a k l) (h : el l = 0) : goodL a (k + 1) := by
 unfold goodL at *
 rcases hn with ⟨rfl, rfl⟩ | ⟨rfl, rfl⟩ | ⟨rfl, rfl⟩
 ·exact ⟨fun _ => h, fun h => by omega, fun h => by omega⟩
 ·exact ⟨fun _ => hg.1 (by omega), fun _ => h, fun h => by omega⟩
 ·exact ⟨fun _ => hg.1 (by omega), fun _ => hg.2.1 (by omega), fun _ => h⟩
theorem chk_bad {a : Ac} {k : Nat} {l : List Bd} (hf : ef a = 0) (hg : goodL a k) (hn : nthL a k l) {j : Nat} {b : Bd} (hj : l[j]? = some b) (ht : ∀ x ∈ l.take j, eb x = 0) (hb : eb b ≠ 0) : chk a = eb b := by
 have h : el l = eb b := by rw [el_take hj ht, if_neg hb]
 unfold goodL at hg
 unfold chk
 rw [if_neg (by simp [hf])]
 rcases hn with ⟨rfl, rfl⟩ | ⟨rfl, rfl⟩ | ⟨rfl, rfl⟩
 ·rw [if_pos (by rw [h]; exact hb), h]
 ·rw [if_neg (by simp [hg.1 (by omega)]), if_pos (by rw [h]; exact hb), h]
 ·rw [if_neg (by simp [hg.1 (by omega)]), if_neg (by simp [hg.2.1 (by omega)]), h]
theorem chk_good {a : Ac} (hf : ef a = 0) (hg : goodL a 3) : chk a = 0 := by
 unfold chk
 rw [if_neg (by simp [hf]), if_neg (by simp [hg.1 (by omega)]), if_neg (by simp [hg.2.1 (by omega)]), hg.2.2 (by omega)]
theorem el_all {l : List Bd} (h : ∀ x ∈ l, eb x = 0) : el l = 0 := el_zero.2 fun b hb => eb_zero.1 (h b hb)
theorem take_all_snoc {l : List Bd} {j : Nat} {b : Bd} (hj : l[j]? = some b) (h : ∀ x ∈ l.take j, eb x = 0) (hb : eb b = 0) : ∀ x ∈ l.take (j + 1), eb x = 0 := by
 intro x hx
 rw [List.take_add_one, hj] at hx
 simp only [Option.toList, List.mem_append, List.mem_singleton] at hx
 rcases hx with hx | rfl
 ·exact h x hx
 ·exact hb
def AcL (a : Ac) : Prop := a.st.length ≤ 9223372036854775807 ∧ a.ins.length ≤ 9223372036854775807 ∧ a.outs.length ≤ 9223372036854775807
theorem AcL.nth {a : Ac} (h : AcL a) {k : Nat} {l : List Bd} (hn : nthL a k l) : l.length ≤ 9223372036854775807 := by
 rcases hn with ⟨_, rfl⟩ | ⟨_, rfl⟩ | ⟨_, rfl⟩
 ·exact h.1
 ·exact h.2.1
 ·exact h.2.2
theorem ok_ref30_Check (a : Ac) (hl : AcL a) : PC prog n_ref30_Check [acv a] (.int .i64 (chk a)) := by
 refine PC_of_body b_ref30_Check (by simp) ?_
 simp only [c_ref30_Check, go_sem, jA, jB, jC, jD, jE, jF, jG, jH, jI, jJ, ↓reduceIte, reduceCtorEq, jP, acv, bds_length]
 refine call_pc (ok_ref30_account a hl.2.1 hl.1) (by simp [go_sem, acv, bds_pur]) ?_
 try simp (disch := omega) only [go_sem, jA, jB, jC, jD, jE, jF, jG, jH, jI, jJ, ↓reduceIte, reduceCtorEq, jO, jM, jN, jK, jL]
 refine cond_n (fun h => ?_) (fun h => ?_) <;> try simp (disch := omega) only [go_sem, jA, jB, jC, jD, jE, jF, jG, jH, jI, jJ, ↓reduceIte, reduceCtorEq, jO, jM, jN, jK, jL]
 ·exact Pub.of_eq (by simp only [chk]; rw [if_pos h]) rfl
 refine awp_upF [2, 5, 7, 21, 22, 23, 24, 25, 26, 27, 28, 29, 30, 31, 32, 33, 34, 35, 36, 37, 38, 39, 40, 41, 42, 43, 44, 45] (by kernel_rfl) 3 (fun k e σ => e 21 = .int .i64 k ∧ goodL a k) ?_ ?_
 ·exact ⟨(by first | rfl | (simp (disch := omega) only [go_sem, jA, jB, jC, jD, jE, jF, jG, jH, jI, jJ, ↓reduceIte, reduceCtorEq, jP, jO, jM, jN]; try rfl)), fun h => by omega, fun h => by omega, fun h => by omega⟩
 ·rintro k fe ob c hk ⟨h21, hg⟩
  simp (maxSteps := 1000000) only [go_sem, jA, jB, jC, jD, jE, jF, jG, jH, jI, jJ, ↓reduceIte, reduceCtorEq, jP] at h21
  try simp (disch := omega) only [go_sem, jA, jB, jC, jD, jE, jF, jG, jH, jI, jJ, ↓reduceIte, reduceCtorEq, jO, jM, jN, jK, jL, h21]
  refine cond_d (fun hlt => ?_) (fun hge => ?_)
  ·have hk3 : k < 3 := by omega
   obtain ⟨l, hn, hk2⟩ := nthL_ex a hk3
   try simp (disch := omega) only [go_sem, jA, jB, jC, jD, jE, jF, jG, jH, jI, jJ, ↓reduceIte, reduceCtorEq, jO, jM, jN, jK, jL, h21, hk2, bds_length]
   refine ⟨by omega, by omega, ?_⟩
   have hll := hl.nth hn
   refine awp_upF [2, 7, 27, 28, 29, 30, 31, 32, 33, 34, 35, 36, 37, 38, 39, 40, 41, 42, 43, 44] (by kernel_rfl) l.length (fun j e σ => e 27 = .int .i64 j ∧ ∀ x ∈ l.take j, eb x = 0) ?_ ?_
   ·exact ⟨(by first | rfl | (simp (disch := omega) only [go_sem, jA, jB, jC, jD, jE, jF, jG, jH, jI, jJ, ↓reduceIte, reduceCtorEq, jP, jO, jM, jN]; try rfl)), by simp⟩
   ·rintro j fe2 ob2 c2 hj ⟨h27, ht⟩
    simp (maxSteps := 1000000) only [go_sem, jA, jB, jC, jD, jE, jF, jG, jH, jI, jJ, ↓reduceIte, reduceCtorEq, jP] at h27
    try simp (disch := omega) only [go_sem, jA, jB, jC, jD, jE, jF, jG, jH, jI, jJ, ↓reduceIte, reduceCtorEq, jO, jM, jN, jK, jL, h27, bds_length]
    refine cond_d (fun hlt => ?_) (fun hge => ?_)
    ·have hjl : j < l.length := by omega
     have hj2 : l[j]? = some l[j] := List.getElem?_eq_getElem hjl
     generalize l[j] = b at *
     try simp (disch := omega) only [go_sem, jA, jB, jC, jD, jE, jF, jG, jH, jI, jJ, ↓reduceIte, reduceCtorEq, jO, jM, jN, jK, jL, h27, hj2, bds_get, bds_length, Option.map_some, bdv]
     refine ⟨by omega, by omega, ?_⟩
     have hbad := chk_bad h hg hn hj2 ht
     refine gd_fd rfl (fun g1 => ?_) (fun g1 => ?_) <;> try simp (disch := omega) only [go_sem, jA, jB, jC, jD, jE, jF, jG, jH, jI, jJ, ↓reduceIte, reduceCtorEq, jO, jM, jN, jK, jL]
     ·have e : eb b = 1 := by unfold eb; rw [if_pos (.inl g1)]
      exact Pub.of_eq (by rw [hbad (by omega), e]) rfl
     refine cond_d (fun g2 => ?_) (fun g2 => ?_) <;> try simp (disch := omega) only [go_sem, jA, jB, jC, jD, jE, jF, jG, jH, jI, jJ, ↓reduceIte, reduceCtorEq, jO, jM, jN, jK, jL]
     ·have e : eb b = 1 := by unfold eb mxV; rw [if_pos (.inr g2)]
      exact Pub.of_eq (by rw [hbad (by omega), e]) rfl
     refine cond_d (fun g3 => ?_) (fun g3 => ?_) <;> try simp (disch := omega) only [go_sem, jA, jB, jC, jD, jE, jF, jG, jH, jI, jJ, ↓reduceIte, reduceCtorEq, jO, jM, jN, jK, jL]
     ·have e : eb b = 48 := by unfold eb mxV; rw [if_neg (by omega), if_pos g3]
      exact Pub.of_eq (by rw [hbad (by omega), e]) rfl
     try simp (disch := omega) only [go_sem, jA, jB, jC, jD, jE, jF, jG, jH, jI, jJ, ↓reduceIte, reduceCtorEq, jO, jM, jN, jK, jL, h27]
     refine up_next hjl ⟨(by first | rfl | (simp (disch := omega) only [go_sem, jA, jB, jC, jD, jE, jF, jG, jH, jI, jJ, ↓reduceIte, reduceCtorEq, jP, jO, jM, jN]; try rfl)), take_all_snoc hj2 ht ?_⟩
     unfold eb mxV; rw [if_neg (by omega), if_neg (by omega)]
    ·try simp (disch := omega) only [go_sem, jA, jB, jC, jD, jE, jF, jG, jH, jI, jJ, ↓reduceIte, reduceCtorEq, jO, jM, jN, jK, jL, h21]
     have : j = l.length := by omega
     subst this
     rw [List.take_length] at ht
     exact up_next hk3 ⟨(by first | rfl | (simp (disch := omega) only [go_sem, jA, jB, jC, jD, jE, jF, jG, jH, jI, jJ, ↓reduceIte, reduceCtorEq, jP, jO, jM, jN]; try rfl)), goodL_succ hg hn (el_all ht)⟩
  ·try simp (disch := omega) only [go_sem, jA, jB, jC, jD, jE, jF, jG, jH, jI, jJ, ↓reduceIte, reduceCtorEq, jO, jM, jN, jK, jL]
   have : k = 3 := by omega
   subst this
   exact Pub.of_eq (by rw [chk_good h hg]) rfl
def mkL (n : Nat) (f : Nat → Bd) : List Bd := (List.range n).map f
theorem mkL_length (n : Nat) (f : Nat → Bd) : (mkL n f).length = n := by simp [mkL]
theorem mkL_get {n i : Nat} (f : Nat → Bd) (h : i < n) : (mkL n f)[i]? = some (f i) := by simp [mkL, h]
theorem mkL_set {n i : Nat} (f g : Nat → Bd) (b : Bd) (hi : i < n) (hg : g i = b) (ho : ∀ j, j < n → j ≠ i → g j = f j) : (mkL n f).set i b = mkL n g := by
 apply List.ext_getElem?
 intro j
 rw [List.getElem?_set]
 by_cases e : i = j
 ·subst e
  rw [if_pos rfl, mkL_length, if_pos hi, mkL_get g hi, hg]
 ·rw [if_neg e]
  by_cases hj : j < n
  ·rw [mkL_get f hj, mkL_get g hj, ho j hj (Ne.symm e)]
  ·rw [List.getElem?_eq_none (by rw [mkL_length]; omega), List.getElem?_eq_none (by rw [mkL_length]; omega)]
theorem mkL_ext {n : Nat} {f g : Nat → Bd} (h : ∀ j, j < n → f j = g j) : mkL n f = mkL n g := by
 apply List.map_congr_left
 intro j hj
 exact h j (List.mem_range.1 hj)
theorem mkL_self (L : List Bd) : mkL L.length (fun i => L.getD i default) = L := by
 apply List.ext_getElem?
 intro j
 by_cases hj : j < L.length
 ·rw [mkL_get _ hj, List.getD_eq_getElem?_getD, List.getElem?_eq_getElem hj]; rfl
 ·rw [List.getElem?_eq_none (by rw [mkL_length]; omega), List.getElem?_eq_none (by omega)]
def gB (L : List Bd) (i : Nat) : Bd := L.getD i default
theorem gB_get {L : List Bd} {i : Nat} (h : i < L.length) : L[i]? = some (gB L i) := by rw [gB, List.getD_eq_getElem?_getD, List.getElem?_eq_getElem h]; rfl
theorem gB_mk {n i : Nat} (f : Nat → Bd) (h : i < n) : gB (mkL n f) i = f i := by rw [gB, List.getD_eq_getElem?_getD, mkL_get f h]; rfl
theorem fitB.val {b : Bd} (h : fitB b) : valB b := h.2.1
theorem meet_fit {b c : Bd} (hb : fitB b) (h : valB (meetB b c)) : fitB (meetB b c) := by
 simp only [fitB, valB, meetB] at *
 omega
section
variable {S X Y : List Bd} {n : Nat}
structure Lens (S X Y : List Bd) (n : Nat) : Prop where
 s : S.length = n + 1
 x : X.length = n
 y : Y.length = n
 fs : ∀ b ∈ S, fitB b
 fx : ∀ b ∈ X, fitB b
 fy : ∀ b ∈ Y, fitB b
theorem Lens.gs (h : Lens S X Y n) {i : Nat} (hi : i ≤ n) : fitB (gB S i) := h.fs _ (List.mem_of_getElem? (gB_get (by rw [h.s]; omega)))
theorem Lens.gx (h : Lens S X Y n) {i : Nat} (hi : i < n) : fitB (gB X i) := h.fx _ (List.mem_of_getElem? (gB_get (by rw [h.x]; omega)))
theorem Lens.gy (h : Lens S X Y n) {i : Nat} (hi : i < n) : fitB (gB Y i) := h.fy _ (List.mem_of_getElem? (gB_get (by rw [h.y]; omega)))
def cF (S X Y : List Bd) (i : Nat) : Bd := chF (gB S) (gB X) (gB Y) i
def cB (S X Y : List Bd) (n i : Nat) : Bd := chB (gB S) (gB X) (gB Y) n i
def cX (S X Y : List Bd) (n i : Nat) : Bd := chX (gB S) (gB X) (gB Y) n i
def cY (S X Y : List Bd) (n i : Nat) : Bd := chY (gB S) (gB X) (gB Y) n i
def VD (S X Y : List Bd) (n : Nat) : Prop := ∀ i, i ≤ n → valB (cF S X Y i)
theorem Lens.vd (h : Lens S X Y n) (hv : VD S X Y n) : Vd (gB S) (gB X) (gB Y) n := ⟨fun i hi => (h.gx hi).val, fun i hi => (h.gy hi).val, hv⟩
theorem cF_fit (h : Lens S X Y n) : ∀ {i : Nat}, i ≤ n → valB (cF S X Y i) → fitB (cF S X Y i)
 | 0, hi, _ => h.gs hi
 | _ + 1, hi, hv => meet_fit (h.gs hi) hv
theorem cB_fit (h : Lens S X Y n) (hv : VD S X Y n) {i : Nat} (hi : i ≤ n) : fitB (cB S X Y n i) := by
 have h1 := (h.vd hv).B hi
 by_cases e : i = n
 ·subst e; unfold cB; rw [chB_end]; exact cF_fit h (Nat.le_refl _) (hv _ (Nat.le_refl _))
 ·unfold cB; rw [chB_step (by omega)] at h1 ⊢; exact meet_fit (cF_fit h hi (hv i hi)) h1
def atF (S X Y : List Bd) (n k : Nat) : List Bd := mkL (n + 1) fun j => if j ≤ k then cF S X Y j else gB S j
def atB (S X Y : List Bd) (n k : Nat) : List Bd := mkL (n + 1) fun j => if n - k ≤ j then cB S X Y n j else cF S X Y j
def atX (S X Y : List Bd) (n k : Nat) : List Bd := mkL n fun j => if j < k then cX S X Y n j else gB X j
def atY (S X Y : List Bd) (n k : Nat) : List Bd := mkL n fun j => if j < k then cY S X Y n j else gB Y j
theorem atF_zero (h : Lens S X Y n) : atF S X Y n 0 = S := by
 refine Eq.trans (mkL_ext (g := fun i => S.getD i default) fun j _ => ?_) (by have := mkL_self S; rwa [h.s] at this)
 split
 ·rename_i e; obtain rfl : j = 0 := by omega
  rfl
 ·rfl
theorem atF_end : atF S X Y n n = mkL (n + 1) (cF S X Y) := mkL_ext fun j hj => by rw [if_pos (by omega)]
theorem atB_zero : atB S X Y n 0 = mkL (n + 1) (cF S X Y) := mkL_ext fun j hj => by
 split
 ·rename_i e; obtain rfl : j = n := by omega
  exact chB_end
 ·rfl
theorem atB_end : atB S X Y n n = mkL (n + 1) (cB S X Y n) := mkL_ext fun j hj => by rw [if_pos (by omega)]
theorem atX_zero (h : Lens S X Y n) : atX S X Y n 0 = X := by
 refine Eq.trans (mkL_ext (g := fun i => X.getD i default) fun j _ => ?_) (by have := mkL_self X; rwa [h.x] at this)
 rw [if_neg (by omega)]; rfl
theorem atY_zero (h : Lens S X Y n) : atY S X Y n 0 = Y := by
 refine Eq.trans (mkL_ext (g := fun i => Y.getD i default) fun j _ => ?_) (by have := mkL_self Y; rwa [h.y] at this)
 rw [if_neg (by omega)]; rfl
theorem atX_end : atX S X Y n n = mkL n (cX S X Y n) := mkL_ext fun j hj => by rw [if_pos (by omega)]
theorem atY_end : atY S X Y n n = mkL n (cY S X Y n) := mkL_ext fun j hj => by rw [if_pos (by omega)]
theorem atF_succ {k : Nat} (hk : k < n) : (atF S X Y n k).set (k + 1) (cF S X Y (k + 1)) = atF S X Y n (k + 1) :=
 mkL_set _ _ _ (by omega) (by rw [if_pos (by omega)]) fun j _ hj => by
  by_cases e : j ≤ k
  ·rw [if_pos e, if_pos (by omega)]
  ·rw [if_neg e, if_neg (by omega)]
theorem atB_succ {k : Nat} (hk : k < n) : (atB S X Y n k).set (n - (k + 1)) (cB S X Y n (n - (k + 1))) = atB S X Y n (k + 1) :=
 mkL_set _ _ _ (by omega) (by rw [if_pos (by omega)]) fun j _ hj => by
  by_cases e : n - k ≤ j
  ·rw [if_pos e, if_pos (by omega)]
  ·rw [if_neg e, if_neg (by omega)]
theorem atX_succ {k : Nat} (hk : k < n) : (atX S X Y n k).set k (cX S X Y n k) = atX S X Y n (k + 1) :=
 mkL_set _ _ _ hk (by rw [if_pos (by omega)]) fun j _ hj => by
  by_cases e : j < k
  ·rw [if_pos e, if_pos (by omega)]
  ·rw [if_neg e, if_neg (by omega)]
theorem atY_succ {k : Nat} (hk : k < n) : (atY S X Y n k).set k (cY S X Y n k) = atY S X Y n (k + 1) :=
 mkL_set _ _ _ hk (by rw [if_pos (by omega)]) fun j _ hj => by
  by_cases e : j < k
  ·rw [if_pos e, if_pos (by omega)]
  ·rw [if_neg e, if_neg (by omega)]
theorem atF_get {k j : Nat} (hj : j ≤ n) : gB (atF S X Y n k) j = if j ≤ k then cF S X Y j else gB S j := gB_mk _ (by omega)
theorem atB_get {k j : Nat} (hj : j ≤ n) : gB (atB S X Y n k) j = if n - k ≤ j then cB S X Y n j else cF S X Y j := gB_mk _ (by omega)
end
def tgt (a : Ac) : Ac := ⟨a.fr, mkL (a.ins.length + 1) (cB a.st a.ins a.outs a.ins.length), mkL a.ins.length (cX a.st a.ins a.outs a.ins.length), mkL a.ins.length (cY a.st a.ins a.outs a.ins.length)⟩
theorem AcOK.lens {a : Ac} (h : AcOK a) : Lens a.st a.ins a.outs a.ins.length := ⟨h.ns, rfl, h.no, h.bs, h.bi, h.bo⟩
def acZ : Ac := ⟨0, [], [], []⟩
def vdB (S X Y : List Bd) (n : Nat) : Bool := (List.range (n + 1)).all fun i => decide ((cF S X Y i).lo ≤ (cF S X Y i).hi)
theorem vdB_iff {S X Y : List Bd} {n : Nat} : vdB S X Y n = true ↔ VD S X Y n := by
 simp only [vdB, List.all_eq_true, List.mem_range, decide_eq_true_eq, VD, valB]
 exact ⟨fun h i hi => h i (by omega), fun h i hi => h i (by omega)⟩
def tightS (a : Ac) : Ac × Int := if chk a ≠ 0 then (acZ, chk a) else if vdB a.st a.ins a.outs a.ins.length then (tgt a, 0) else (acZ, 48)
structure AcO (τ : St) (o1 o2 o3 : Nat × Nat) (t1 t2 t3 : TypeId) (L1 L2 L3 : List Bd) : Prop where
 h1 : τ.ob o1.1 = some ⟨o1.2, 2, t1, false, true, bds L1⟩
 h2 : τ.ob o2.1 = some ⟨o2.2, 2, t2, false, true, bds L2⟩
 h3 : τ.ob o3.1 = some ⟨o3.2, 2, t3, false, true, bds L3⟩
 n12 : o1.1 ≠ o2.1
 n13 : o1.1 ≠ o3.1
 n23 : o2.1 ≠ o3.1
 l1 : o1.1 < τ.n
 l2 : o2.1 < τ.n
 l3 : o3.1 < τ.n
def acO (f : Int) (o1 o2 o3 : Nat × Nat) (a b c : Nat) : AV := .agg [.int .i64 f, .sl o1.1 o1.2 2 0 a, .sl o2.1 o2.2 2 0 b, .sl o3.1 o3.2 2 0 c]
theorem fit_bd {b : Bd} (h : fitB b) : 0 ≤ b.lo ∧ b.lo ≤ b.hi ∧ b.hi ≤ 274877906944 := h
def Twin (σ : St) (a : Ac) (t : TypeId) (r : AV) (τ : St) : Prop := ∃ o1 o2 o3, r = acO a.fr o1 o2 o3 a.st.length a.ins.length a.outs.length ∧ AcO τ o1 o2 o3 t t t a.st a.ins a.outs ∧ σ.n ≤ o1.1 ∧ σ.n ≤ o2.1 ∧ σ.n ≤ o3.1 ∧ AsO σ τ
theorem pub_bds {σ : St} {id g k : Nat} {ty : TypeId} {ro ap : Bool} {L : List Bd} (h : σ.ob id = some ⟨g, 2, ty, ro, ap, bds L⟩) (hk : k = L.length) : Pub σ (.sl id g 2 0 k) (.list 2 (bds L)) := by
 subst hk
 rw [← bds_length]
 exact Pub.of_sl h rfl (bds_pur L) (bds_ok L)
theorem AsO.refl (σ : St) : AsO σ σ := ⟨Nat.le_refl _, fun _ _ => rfl⟩
theorem AsO.trans {σ τ ρ : St} (h : AsO σ τ) (k : AsO τ ρ) : AsO σ ρ := ⟨Nat.le_trans h.1 k.1, fun i hi => (k.2 i (Nat.lt_of_lt_of_le hi h.1)).trans (h.2 i hi)⟩
theorem gB_fit {L : List Bd} (h : ∀ b ∈ L, fitB b) {i : Nat} (hi : i < L.length) : fitB (gB L i) := h _ (List.mem_of_getElem? (gB_get hi))
theorem inB_fit {b : Bd} {v : Int} (hb : fitB b) (h : inB b v) : 0 ≤ v ∧ v ≤ 274877906944 := by
 simp only [fitB, inB, mxV] at *; omega
theorem bds_snoc (l : List Bd) (b : Bd) : bds (l ++ [b]) = bds l ++ [.agg [.int .i64 b.lo, .int .i64 b.hi]] := by simp [bds, bdv]
end Go.Proofs.Try
