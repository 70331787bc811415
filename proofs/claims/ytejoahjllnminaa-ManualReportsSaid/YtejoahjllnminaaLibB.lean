/-
  OWN WORK, put together by tools/asm.py: what functions do.
-/
import Derived.Test.YtejoahjllnminaaLib
set_option linter.unusedSimpArgs false
set_option linter.unusedVariables false
set_option maxRecDepth 100000
set_option maxHeartbeats 1000000
namespace Go.Proofs.Try
open Go.Ab Go
/-- a station by hand: its site, since when -/
structure Hd where
  s : Int
  t : Int
  deriving DecidableEq
def hdv (h : Hd) : AV := .agg [.int .i64 h.s, .int .i64 h.t]
def hds (l : List Hd) : List AV := l.map hdv
theorem hds_length (l : List Hd) : (hds l).length = l.length := by simp [hds]
theorem hds_get (l : List Hd) (i : Nat) : (hds l)[i]? = (l[i]?).map hdv := by simp [hds]
theorem hds_pur (l : List Hd) : ∀ x ∈ hds l, x.pur = true := by simp [hds, hdv, go_sem]
theorem hds_ok (l : List Hd) : ∀ x ∈ hds l, okE 2 x := by simp [hds, hdv, okE, go_sem]
def hd1 (last : Int) (h : Hd) : Bool := decide (last < h.s) && decide (h.s < 6) && decide (0 ≤ h.t) && decide (h.t ≤ 16777216)
def hdOk : Int → List Hd → Bool
  | _, [] => true
  | last, h :: r => hd1 last h && hdOk h.s r
def hdE (l : List Hd) : Int := if hdOk (-1) l then 0 else 53
def hdPrev (last : Int) (l : List Hd) (k : Nat) : Int := if k = 0 then last else ((l[k - 1]?).map Hd.s).getD last
theorem hd_step : ∀ (l : List Hd) (last : Int) (k : Nat) (hk : k < l.length), hdOk last (l.take (k + 1)) = (hdOk last (l.take k) && hd1 (hdPrev last l k) l[k])
  | [], _, k, hk => by simp at hk
  | h :: r, last, 0, _ => by simp [hdOk, hdPrev]
  | h :: r, last, k + 1, hk => by
    simp only [List.take_succ_cons, hdOk]
    have hk' : k < r.length := by simpa using hk
    have ih := hd_step r h.s k hk'
    rw [ih, Bool.and_assoc]
    congr 2
    cases k with
    | zero => simp [hdPrev]
    | succ k =>
      have : r[k]? = some r[k] := List.getElem?_eq_getElem (by omega)
      simp [hdPrev, this]
theorem hdOk_take : ∀ (l : List Hd) (last : Int) (k : Nat), hdOk last l = true → hdOk last (l.take k) = true
  | [], _, k, _ => by simp [hdOk]
  | h :: r, last, 0, _ => by simp [hdOk]
  | h :: r, last, k + 1, hh => by
    simp only [hdOk, Bool.and_eq_true, List.take_succ_cons] at hh ⊢
    exact ⟨hh.1, hdOk_take r h.s k hh.2⟩
theorem hdOk_lt : ∀ {l : List Hd} {last : Int}, hdOk last l = true → ∀ h ∈ l, last < h.s ∧ h.s < 6 ∧ 0 ≤ h.t ∧ h.t ≤ 16777216
  | [], _, _, h, hh => by simp at hh
  | a :: r, last, hok, h, hh => by
    simp only [hdOk, hd1, Bool.and_eq_true, decide_eq_true_eq] at hok
    rcases List.mem_cons.1 hh with rfl | hh
    · exact ⟨hok.1.1.1.1, hok.1.1.1.2, hok.1.1.2, hok.1.2⟩
    · have := hdOk_lt hok.2 h hh
      omega
theorem hdOk_asc : ∀ {l : List Hd} {last : Int}, hdOk last l = true → ∀ i j : Nat, i < j → ∀ x y, l[i]? = some x → l[j]? = some y → x.s < y.s
  | [], _, _, i, j, _, x, y, hx, _ => by simp at hx
  | a :: r, last, hok, i, j, hij, x, y, hx, hy => by
    simp only [hdOk, Bool.and_eq_true] at hok
    cases j with
    | zero => omega
    | succ j =>
      simp only [List.getElem?_cons_succ] at hy
      cases i with
      | zero => simp at hx; subst hx; exact (hdOk_lt hok.2 y (List.mem_of_getElem? hy)).1
      | succ i => exact hdOk_asc hok.2 i j (by omega) x y (by simpa using hx) hy
theorem hdOk_len : ∀ {l : List Hd} {last : Int}, -1 ≤ last → last ≤ 5 → hdOk last l = true → (l.length : Int) + last ≤ 5
  | [], last, _, h, _ => by simpa using h
  | a :: r, last, h0, h1, hok => by
    simp only [hdOk, hd1, Bool.and_eq_true, decide_eq_true_eq] at hok
    have := hdOk_len (l := r) (last := a.s) (by omega) (by omega) hok.2
    simp only [List.length_cons]; omega
theorem ok_manual_Check (l : List Hd) (hl : l.length ≤ 9223372036854775807) : PC prog n_manual_Check [.list 2 (hds l)] (.int .i64 (hdE l)) := by
  refine PC_of_body b_manual_Check (by simp) ?_
  simp only [c_manual_Check, go_sem, Int.reduceEq, Int.reduceLT, Int.reduceLE, Int.reduceToNat, Nat.reduceLT, Nat.reduceEqDiff, Nat.reduceAdd, Nat.reduceLeDiff, Nat.reduceSub, Nat.reduceMul, ↓reduceIte, reduceCtorEq, w_app_nl]
  have no : ∀ {σ : St}, hdOk (-1) l = false → Pub σ (.int .i64 53) (.int .i64 (hdE l)) := fun h => Pub.of_eq (by simp [hdE, h]) rfl
  try simp (disch := omega) only [go_sem, Int.reduceEq, Int.reduceLT, Int.reduceLE, Int.reduceToNat, Nat.reduceLT, Nat.reduceEqDiff, Nat.reduceAdd, Nat.reduceLeDiff, Nat.reduceSub, Nat.reduceMul, ↓reduceIte, reduceCtorEq, wrap_id, w_ite_ne, w_ite_lt, Nat.sub_zero, Nat.sub_self, hds_length]
  refine awp_upF [2, 3, 5, 8, 9, 10, 11, 12, 13, 14, 15, 16, 17, 18, 19, 20, 21, 22, 23, 24, 25, 26, 27, 28, 29, 30, 31, 32, 33] (by kernel_rfl) l.length (fun k e σ => e 8 = .int .i64 k ∧ e 3 = .int .i64 (hdPrev (-1) l k) ∧ hdOk (-1) (l.take k) = true) ?_ ?_
  · exact ⟨(by first | ((try simp (maxSteps := 1000000) only [go_sem, Int.reduceEq, Int.reduceLT, Int.reduceLE, Int.reduceToNat, Nat.reduceLT, Nat.reduceEqDiff, Nat.reduceAdd, Nat.reduceLeDiff, Nat.reduceSub, Nat.reduceMul, ↓reduceIte, reduceCtorEq, w_app_nl]); done) | ((try simp (maxSteps := 1000000) only [go_sem, Int.reduceEq, Int.reduceLT, Int.reduceLE, Int.reduceToNat, Nat.reduceLT, Nat.reduceEqDiff, Nat.reduceAdd, Nat.reduceLeDiff, Nat.reduceSub, Nat.reduceMul, ↓reduceIte, reduceCtorEq, w_app_nl]); rfl) | ((try simp (maxSteps := 1000000) (disch := omega) only [go_sem, Int.reduceEq, Int.reduceLT, Int.reduceLE, Int.reduceToNat, Nat.reduceLT, Nat.reduceEqDiff, Nat.reduceAdd, Nat.reduceLeDiff, Nat.reduceSub, Nat.reduceMul, ↓reduceIte, reduceCtorEq, w_app_nl, wrap_id, w_ite_ne, w_ite_lt]); rfl) | (simp (maxSteps := 1000000) (disch := omega) only [go_sem, Int.reduceEq, Int.reduceLT, Int.reduceLE, Int.reduceToNat, Nat.reduceLT, Nat.reduceEqDiff, Nat.reduceAdd, Nat.reduceLeDiff, Nat.reduceSub, Nat.reduceMul, ↓reduceIte, reduceCtorEq, w_app_nl, wrap_id, w_ite_ne, w_ite_lt]; done)), by try simp (disch := omega) only [go_sem, Int.reduceEq, Int.reduceLT, Int.reduceLE, Int.reduceToNat, Nat.reduceLT, Nat.reduceEqDiff, Nat.reduceAdd, Nat.reduceLeDiff, Nat.reduceSub, Nat.reduceMul, ↓reduceIte, reduceCtorEq, wrap_id, w_ite_ne, w_ite_lt, Nat.sub_zero, Nat.sub_self]; simp [hdPrev], by simp [hdOk]⟩
  · rintro k fe ob c hk ⟨h8, h3, hj⟩
    simp (maxSteps := 1000000) only [go_sem, Int.reduceEq, Int.reduceLT, Int.reduceLE, Int.reduceToNat, Nat.reduceLT, Nat.reduceEqDiff, Nat.reduceAdd, Nat.reduceLeDiff, Nat.reduceSub, Nat.reduceMul, ↓reduceIte, reduceCtorEq, w_app_nl] at h8 h3
    try simp (disch := omega) only [go_sem, Int.reduceEq, Int.reduceLT, Int.reduceLE, Int.reduceToNat, Nat.reduceLT, Nat.reduceEqDiff, Nat.reduceAdd, Nat.reduceLeDiff, Nat.reduceSub, Nat.reduceMul, ↓reduceIte, reduceCtorEq, wrap_id, w_ite_ne, w_ite_lt, Nat.sub_zero, Nat.sub_self, h8, hds_length]
    refine cond_d (fun hlt => ?_) (fun hge => ?_)
    · have hkl : k < l.length := by omega
      have hk2 : l[k]? = some l[k] := List.getElem?_eq_getElem hkl
      have hst := hd_step l (-1) k hkl
      rw [hj, Bool.true_and] at hst
      have hbad : hd1 (hdPrev (-1) l k) l[k] = false → hdOk (-1) l = false := fun h => by
        cases h2 : hdOk (-1) l with
        | false => rfl
        | true => rw [← hst, hdOk_take _ _ (k + 1) h2] at h; cases h
      have hnx : hdPrev (-1) l (k + 1) = l[k].s := by simp [hdPrev, hk2]
      generalize l[k] = h at *
      generalize hdPrev (-1) l k = pr at *
      try simp (disch := omega) only [go_sem, Int.reduceEq, Int.reduceLT, Int.reduceLE, Int.reduceToNat, Nat.reduceLT, Nat.reduceEqDiff, Nat.reduceAdd, Nat.reduceLeDiff, Nat.reduceSub, Nat.reduceMul, ↓reduceIte, reduceCtorEq, wrap_id, w_ite_ne, w_ite_lt, Nat.sub_zero, Nat.sub_self, h8, h3, hds_length, hds_get, hk2, hdv, Option.map_some]
      repeat (refine And.intro (by first | omega | (rw [mxL]; omega) | (simp [maxLen]; done) | (simp [maxLen]; omega)) ?_)
      refine gd_fd rfl (fun g1 => ?_) (fun g1 => ?_) <;> try simp (disch := omega) only [go_sem, Int.reduceEq, Int.reduceLT, Int.reduceLE, Int.reduceToNat, Nat.reduceLT, Nat.reduceEqDiff, Nat.reduceAdd, Nat.reduceLeDiff, Nat.reduceSub, Nat.reduceMul, ↓reduceIte, reduceCtorEq, wrap_id, w_ite_ne, w_ite_lt, Nat.sub_zero, Nat.sub_self, h8]
      · exact no (hbad (by simp [hd1]; omega))
      refine gd_fd rfl (fun g2 => ?_) (fun g2 => ?_) <;> try simp (disch := omega) only [go_sem, Int.reduceEq, Int.reduceLT, Int.reduceLE, Int.reduceToNat, Nat.reduceLT, Nat.reduceEqDiff, Nat.reduceAdd, Nat.reduceLeDiff, Nat.reduceSub, Nat.reduceMul, ↓reduceIte, reduceCtorEq, wrap_id, w_ite_ne, w_ite_lt, Nat.sub_zero, Nat.sub_self, h8]
      · exact no (hbad (by simp [hd1]; omega))
      refine gd_fd rfl (fun g3 => ?_) (fun g3 => ?_) <;> try simp (disch := omega) only [go_sem, Int.reduceEq, Int.reduceLT, Int.reduceLE, Int.reduceToNat, Nat.reduceLT, Nat.reduceEqDiff, Nat.reduceAdd, Nat.reduceLeDiff, Nat.reduceSub, Nat.reduceMul, ↓reduceIte, reduceCtorEq, wrap_id, w_ite_ne, w_ite_lt, Nat.sub_zero, Nat.sub_self, h8]
      · exact no (hbad (by simp [hd1]; omega))
      refine cond_d (fun g4 => ?_) (fun g4 => ?_) <;> try simp (disch := omega) only [go_sem, Int.reduceEq, Int.reduceLT, Int.reduceLE, Int.reduceToNat, Nat.reduceLT, Nat.reduceEqDiff, Nat.reduceAdd, Nat.reduceLeDiff, Nat.reduceSub, Nat.reduceMul, ↓reduceIte, reduceCtorEq, wrap_id, w_ite_ne, w_ite_lt, Nat.sub_zero, Nat.sub_self, h8]
      · exact no (hbad (by simp [hd1]; omega))
      refine up_next hkl ⟨(by first | ((try simp (maxSteps := 1000000) only [go_sem, Int.reduceEq, Int.reduceLT, Int.reduceLE, Int.reduceToNat, Nat.reduceLT, Nat.reduceEqDiff, Nat.reduceAdd, Nat.reduceLeDiff, Nat.reduceSub, Nat.reduceMul, ↓reduceIte, reduceCtorEq, w_app_nl]); done) | ((try simp (maxSteps := 1000000) only [go_sem, Int.reduceEq, Int.reduceLT, Int.reduceLE, Int.reduceToNat, Nat.reduceLT, Nat.reduceEqDiff, Nat.reduceAdd, Nat.reduceLeDiff, Nat.reduceSub, Nat.reduceMul, ↓reduceIte, reduceCtorEq, w_app_nl]); rfl) | ((try simp (maxSteps := 1000000) (disch := omega) only [go_sem, Int.reduceEq, Int.reduceLT, Int.reduceLE, Int.reduceToNat, Nat.reduceLT, Nat.reduceEqDiff, Nat.reduceAdd, Nat.reduceLeDiff, Nat.reduceSub, Nat.reduceMul, ↓reduceIte, reduceCtorEq, w_app_nl, wrap_id, w_ite_ne, w_ite_lt]); rfl) | (simp (maxSteps := 1000000) (disch := omega) only [go_sem, Int.reduceEq, Int.reduceLT, Int.reduceLE, Int.reduceToNat, Nat.reduceLT, Nat.reduceEqDiff, Nat.reduceAdd, Nat.reduceLeDiff, Nat.reduceSub, Nat.reduceMul, ↓reduceIte, reduceCtorEq, w_app_nl, wrap_id, w_ite_ne, w_ite_lt]; done)), by try simp (disch := omega) only [go_sem, Int.reduceEq, Int.reduceLT, Int.reduceLE, Int.reduceToNat, Nat.reduceLT, Nat.reduceEqDiff, Nat.reduceAdd, Nat.reduceLeDiff, Nat.reduceSub, Nat.reduceMul, ↓reduceIte, reduceCtorEq, wrap_id, w_ite_ne, w_ite_lt, Nat.sub_zero, Nat.sub_self]; rw [hnx], by rw [hst]; simp [hd1]; omega⟩
    · try simp (disch := omega) only [go_sem, Int.reduceEq, Int.reduceLT, Int.reduceLE, Int.reduceToNat, Nat.reduceLT, Nat.reduceEqDiff, Nat.reduceAdd, Nat.reduceLeDiff, Nat.reduceSub, Nat.reduceMul, ↓reduceIte, reduceCtorEq, wrap_id, w_ite_ne, w_ite_lt, Nat.sub_zero, Nat.sub_self]
      have : k = l.length := by omega
      subst this
      rw [List.take_length] at hj
      exact Pub.of_eq (by simp [hdE, hj]) rfl
theorem ok_ref38_Check (l : List Hd) (hl : l.length ≤ 9223372036854775807) : PC prog n_ref38_Check [.list 2 (hds l)] (.int .i64 (hdE l)) := by
  refine PC_of_body b_ref38_Check (by simp) ?_
  simp only [c_ref38_Check, go_sem, Int.reduceEq, Int.reduceLT, Int.reduceLE, Int.reduceToNat, Nat.reduceLT, Nat.reduceEqDiff, Nat.reduceAdd, Nat.reduceLeDiff, Nat.reduceSub, Nat.reduceMul, ↓reduceIte, reduceCtorEq, w_app_nl]
  have no : ∀ {σ : St}, hdOk (-1) l = false → Pub σ (.int .i64 53) (.int .i64 (hdE l)) := fun h => Pub.of_eq (by simp [hdE, h]) rfl
  try simp (disch := omega) only [go_sem, Int.reduceEq, Int.reduceLT, Int.reduceLE, Int.reduceToNat, Nat.reduceLT, Nat.reduceEqDiff, Nat.reduceAdd, Nat.reduceLeDiff, Nat.reduceSub, Nat.reduceMul, ↓reduceIte, reduceCtorEq, wrap_id, w_ite_ne, w_ite_lt, Nat.sub_zero, Nat.sub_self, hds_length]
  refine awp_upF [2, 3, 4, 7, 8, 9, 10, 11, 12, 13, 14, 15, 16, 17, 18, 19, 20, 21, 22, 23, 24, 25, 26, 27, 28, 29, 30, 31, 32, 33, 34, 35, 36, 37, 38, 39, 40, 41, 42, 43, 44, 45] (by kernel_rfl) l.length (fun k e σ => e 7 = .int .i64 k ∧ hdOk (-1) (l.take k) = true) ?_ ?_
  · exact ⟨(by first | ((try simp (maxSteps := 1000000) only [go_sem, Int.reduceEq, Int.reduceLT, Int.reduceLE, Int.reduceToNat, Nat.reduceLT, Nat.reduceEqDiff, Nat.reduceAdd, Nat.reduceLeDiff, Nat.reduceSub, Nat.reduceMul, ↓reduceIte, reduceCtorEq, w_app_nl]); done) | ((try simp (maxSteps := 1000000) only [go_sem, Int.reduceEq, Int.reduceLT, Int.reduceLE, Int.reduceToNat, Nat.reduceLT, Nat.reduceEqDiff, Nat.reduceAdd, Nat.reduceLeDiff, Nat.reduceSub, Nat.reduceMul, ↓reduceIte, reduceCtorEq, w_app_nl]); rfl) | ((try simp (maxSteps := 1000000) (disch := omega) only [go_sem, Int.reduceEq, Int.reduceLT, Int.reduceLE, Int.reduceToNat, Nat.reduceLT, Nat.reduceEqDiff, Nat.reduceAdd, Nat.reduceLeDiff, Nat.reduceSub, Nat.reduceMul, ↓reduceIte, reduceCtorEq, w_app_nl, wrap_id, w_ite_ne, w_ite_lt]); rfl) | (simp (maxSteps := 1000000) (disch := omega) only [go_sem, Int.reduceEq, Int.reduceLT, Int.reduceLE, Int.reduceToNat, Nat.reduceLT, Nat.reduceEqDiff, Nat.reduceAdd, Nat.reduceLeDiff, Nat.reduceSub, Nat.reduceMul, ↓reduceIte, reduceCtorEq, w_app_nl, wrap_id, w_ite_ne, w_ite_lt]; done)), by simp [hdOk]⟩
  · rintro k fe ob c hk ⟨h7, hj⟩
    simp (maxSteps := 1000000) only [go_sem, Int.reduceEq, Int.reduceLT, Int.reduceLE, Int.reduceToNat, Nat.reduceLT, Nat.reduceEqDiff, Nat.reduceAdd, Nat.reduceLeDiff, Nat.reduceSub, Nat.reduceMul, ↓reduceIte, reduceCtorEq, w_app_nl] at h7
    try simp (disch := omega) only [go_sem, Int.reduceEq, Int.reduceLT, Int.reduceLE, Int.reduceToNat, Nat.reduceLT, Nat.reduceEqDiff, Nat.reduceAdd, Nat.reduceLeDiff, Nat.reduceSub, Nat.reduceMul, ↓reduceIte, reduceCtorEq, wrap_id, w_ite_ne, w_ite_lt, Nat.sub_zero, Nat.sub_self, h7, hds_length]
    refine cond_d (fun hlt => ?_) (fun hge => ?_)
    · have hkl : k < l.length := by omega
      have hk2 : l[k]? = some l[k] := List.getElem?_eq_getElem hkl
      have hst := hd_step l (-1) k hkl
      rw [hj, Bool.true_and] at hst
      have hbad : hd1 (hdPrev (-1) l k) l[k] = false → hdOk (-1) l = false := fun h => by
        cases h2 : hdOk (-1) l with
        | false => rfl
        | true => rw [← hst, hdOk_take _ _ (k + 1) h2] at h; cases h
      have hlow : ∀ y ∈ l.take k, -1 < y.s := fun y hy => (hdOk_lt hj y hy).1
      have hpr : (k = 0 → hdPrev (-1) l k = -1) ∧ (∀ y, 0 < k → l[k - 1]? = some y → hdPrev (-1) l k = y.s ∧ -1 < y.s) := by
        refine ⟨fun h => by simp [hdPrev, h], fun y hk0 hy => ⟨by simp [hdPrev, hy]; omega, hlow y ?_⟩⟩
        refine List.mem_of_getElem? (i := k - 1) ?_
        rw [List.getElem?_take, if_pos (by omega), hy]
      generalize l[k] = h at *
      generalize hdPrev (-1) l k = pr at *
      try simp (disch := omega) only [go_sem, Int.reduceEq, Int.reduceLT, Int.reduceLE, Int.reduceToNat, Nat.reduceLT, Nat.reduceEqDiff, Nat.reduceAdd, Nat.reduceLeDiff, Nat.reduceSub, Nat.reduceMul, ↓reduceIte, reduceCtorEq, wrap_id, w_ite_ne, w_ite_lt, Nat.sub_zero, Nat.sub_self, h7, hds_length, hds_get, hk2, hdv, Option.map_some]
      repeat (refine And.intro (by first | omega | (rw [mxL]; omega) | (simp [maxLen]; done) | (simp [maxLen]; omega)) ?_)
      refine gd_fd rfl (fun g1 => ?_) (fun g1 => ?_) <;> try simp (disch := omega) only [go_sem, Int.reduceEq, Int.reduceLT, Int.reduceLE, Int.reduceToNat, Nat.reduceLT, Nat.reduceEqDiff, Nat.reduceAdd, Nat.reduceLeDiff, Nat.reduceSub, Nat.reduceMul, ↓reduceIte, reduceCtorEq, wrap_id, w_ite_ne, w_ite_lt, Nat.sub_zero, Nat.sub_self, h7]
      · refine no (hbad ?_)
        have : -1 ≤ pr := by
          rcases Nat.eq_zero_or_pos k with h0 | h0
          · have := hpr.1 h0; omega
          · have := hpr.2 l[k - 1] h0 (List.getElem?_eq_getElem (by omega)); omega
        simp [hd1]; omega
      refine gd_fd rfl (fun g2 => ?_) (fun g2 => ?_) <;> try simp (disch := omega) only [go_sem, Int.reduceEq, Int.reduceLT, Int.reduceLE, Int.reduceToNat, Nat.reduceLT, Nat.reduceEqDiff, Nat.reduceAdd, Nat.reduceLeDiff, Nat.reduceSub, Nat.reduceMul, ↓reduceIte, reduceCtorEq, wrap_id, w_ite_ne, w_ite_lt, Nat.sub_zero, Nat.sub_self, h7]
      · exact no (hbad (by simp [hd1]; omega))
      refine gd_td rfl (fun g3 => ?_) (fun g3 => ?_)
      · have hk0 : 0 < k := by omega
        have hy : l[k - 1]? = some l[k - 1] := List.getElem?_eq_getElem (by omega)
        obtain ⟨p1, p2⟩ := hpr.2 _ hk0 hy
        generalize l[k - 1] = y at *
        subst p1
        have hkn : ((k : Int) - 1).toNat = k - 1 := by omega
        try simp (disch := omega) only [go_sem, Int.reduceEq, Int.reduceLT, Int.reduceLE, Int.reduceToNat, Nat.reduceLT, Nat.reduceEqDiff, Nat.reduceAdd, Nat.reduceLeDiff, Nat.reduceSub, Nat.reduceMul, ↓reduceIte, reduceCtorEq, wrap_id, w_ite_ne, w_ite_lt, Nat.sub_zero, Nat.sub_self, h7, hds_length, hds_get, hy, hkn, hdv, Option.map_some]
        repeat (refine And.intro (by first | omega | (rw [mxL]; omega) | (simp [maxLen]; done) | (simp [maxLen]; omega)) ?_)
        refine gd_fd rfl (fun g4 => ?_) (fun g4 => ?_) <;> try simp (disch := omega) only [go_sem, Int.reduceEq, Int.reduceLT, Int.reduceLE, Int.reduceToNat, Nat.reduceLT, Nat.reduceEqDiff, Nat.reduceAdd, Nat.reduceLeDiff, Nat.reduceSub, Nat.reduceMul, ↓reduceIte, reduceCtorEq, wrap_id, w_ite_ne, w_ite_lt, Nat.sub_zero, Nat.sub_self, h7]
        · exact no (hbad (by simp [hd1]; omega))
        refine gd_fd rfl (fun g5 => ?_) (fun g5 => ?_) <;> try simp (disch := omega) only [go_sem, Int.reduceEq, Int.reduceLT, Int.reduceLE, Int.reduceToNat, Nat.reduceLT, Nat.reduceEqDiff, Nat.reduceAdd, Nat.reduceLeDiff, Nat.reduceSub, Nat.reduceMul, ↓reduceIte, reduceCtorEq, wrap_id, w_ite_ne, w_ite_lt, Nat.sub_zero, Nat.sub_self, h7]
        · exact no (hbad (by simp [hd1]; omega))
        refine cond_d (fun g6 => ?_) (fun g6 => ?_) <;> try simp (disch := omega) only [go_sem, Int.reduceEq, Int.reduceLT, Int.reduceLE, Int.reduceToNat, Nat.reduceLT, Nat.reduceEqDiff, Nat.reduceAdd, Nat.reduceLeDiff, Nat.reduceSub, Nat.reduceMul, ↓reduceIte, reduceCtorEq, wrap_id, w_ite_ne, w_ite_lt, Nat.sub_zero, Nat.sub_self, h7]
        · exact no (hbad (by simp [hd1]; omega))
        exact up_next hkl ⟨(by first | ((try simp (maxSteps := 1000000) only [go_sem, Int.reduceEq, Int.reduceLT, Int.reduceLE, Int.reduceToNat, Nat.reduceLT, Nat.reduceEqDiff, Nat.reduceAdd, Nat.reduceLeDiff, Nat.reduceSub, Nat.reduceMul, ↓reduceIte, reduceCtorEq, w_app_nl]); done) | ((try simp (maxSteps := 1000000) only [go_sem, Int.reduceEq, Int.reduceLT, Int.reduceLE, Int.reduceToNat, Nat.reduceLT, Nat.reduceEqDiff, Nat.reduceAdd, Nat.reduceLeDiff, Nat.reduceSub, Nat.reduceMul, ↓reduceIte, reduceCtorEq, w_app_nl]); rfl) | ((try simp (maxSteps := 1000000) (disch := omega) only [go_sem, Int.reduceEq, Int.reduceLT, Int.reduceLE, Int.reduceToNat, Nat.reduceLT, Nat.reduceEqDiff, Nat.reduceAdd, Nat.reduceLeDiff, Nat.reduceSub, Nat.reduceMul, ↓reduceIte, reduceCtorEq, w_app_nl, wrap_id, w_ite_ne, w_ite_lt]); rfl) | (simp (maxSteps := 1000000) (disch := omega) only [go_sem, Int.reduceEq, Int.reduceLT, Int.reduceLE, Int.reduceToNat, Nat.reduceLT, Nat.reduceEqDiff, Nat.reduceAdd, Nat.reduceLeDiff, Nat.reduceSub, Nat.reduceMul, ↓reduceIte, reduceCtorEq, w_app_nl, wrap_id, w_ite_ne, w_ite_lt]; done)), by rw [hst]; simp [hd1]; omega⟩
      · have hp := hpr.1 (by omega)
        try simp (disch := omega) only [go_sem, Int.reduceEq, Int.reduceLT, Int.reduceLE, Int.reduceToNat, Nat.reduceLT, Nat.reduceEqDiff, Nat.reduceAdd, Nat.reduceLeDiff, Nat.reduceSub, Nat.reduceMul, ↓reduceIte, reduceCtorEq, wrap_id, w_ite_ne, w_ite_lt, Nat.sub_zero, Nat.sub_self, h7]
        refine gd_fd rfl (fun g5 => ?_) (fun g5 => ?_) <;> try simp (disch := omega) only [go_sem, Int.reduceEq, Int.reduceLT, Int.reduceLE, Int.reduceToNat, Nat.reduceLT, Nat.reduceEqDiff, Nat.reduceAdd, Nat.reduceLeDiff, Nat.reduceSub, Nat.reduceMul, ↓reduceIte, reduceCtorEq, wrap_id, w_ite_ne, w_ite_lt, Nat.sub_zero, Nat.sub_self, h7]
        · exact no (hbad (by simp [hd1]; omega))
        refine cond_d (fun g6 => ?_) (fun g6 => ?_) <;> try simp (disch := omega) only [go_sem, Int.reduceEq, Int.reduceLT, Int.reduceLE, Int.reduceToNat, Nat.reduceLT, Nat.reduceEqDiff, Nat.reduceAdd, Nat.reduceLeDiff, Nat.reduceSub, Nat.reduceMul, ↓reduceIte, reduceCtorEq, wrap_id, w_ite_ne, w_ite_lt, Nat.sub_zero, Nat.sub_self, h7]
        · exact no (hbad (by simp [hd1]; omega))
        exact up_next hkl ⟨(by first | ((try simp (maxSteps := 1000000) only [go_sem, Int.reduceEq, Int.reduceLT, Int.reduceLE, Int.reduceToNat, Nat.reduceLT, Nat.reduceEqDiff, Nat.reduceAdd, Nat.reduceLeDiff, Nat.reduceSub, Nat.reduceMul, ↓reduceIte, reduceCtorEq, w_app_nl]); done) | ((try simp (maxSteps := 1000000) only [go_sem, Int.reduceEq, Int.reduceLT, Int.reduceLE, Int.reduceToNat, Nat.reduceLT, Nat.reduceEqDiff, Nat.reduceAdd, Nat.reduceLeDiff, Nat.reduceSub, Nat.reduceMul, ↓reduceIte, reduceCtorEq, w_app_nl]); rfl) | ((try simp (maxSteps := 1000000) (disch := omega) only [go_sem, Int.reduceEq, Int.reduceLT, Int.reduceLE, Int.reduceToNat, Nat.reduceLT, Nat.reduceEqDiff, Nat.reduceAdd, Nat.reduceLeDiff, Nat.reduceSub, Nat.reduceMul, ↓reduceIte, reduceCtorEq, w_app_nl, wrap_id, w_ite_ne, w_ite_lt]); rfl) | (simp (maxSteps := 1000000) (disch := omega) only [go_sem, Int.reduceEq, Int.reduceLT, Int.reduceLE, Int.reduceToNat, Nat.reduceLT, Nat.reduceEqDiff, Nat.reduceAdd, Nat.reduceLeDiff, Nat.reduceSub, Nat.reduceMul, ↓reduceIte, reduceCtorEq, w_app_nl, wrap_id, w_ite_ne, w_ite_lt]; done)), by rw [hst]; simp [hd1]; omega⟩
    · try simp (disch := omega) only [go_sem, Int.reduceEq, Int.reduceLT, Int.reduceLE, Int.reduceToNat, Nat.reduceLT, Nat.reduceEqDiff, Nat.reduceAdd, Nat.reduceLeDiff, Nat.reduceSub, Nat.reduceMul, ↓reduceIte, reduceCtorEq, wrap_id, w_ite_ne, w_ite_lt, Nat.sub_zero, Nat.sub_self]
      have : k = l.length := by omega
      subst this
      rw [List.take_length] at hj
      exact Pub.of_eq (by simp [hdE, hj]) rfl
def rdE (l : List Hd) (x : Int) : Int := if hdOk (-1) l then (if 0 ≤ x ∧ x < 6 then 0 else 40) else 53
theorem ok_manual_ready (l : List Hd) (x : Int) (hl : l.length ≤ 9223372036854775807) : PC prog n_manual_ready [.list 2 (hds l), .int .i64 x] (.int .i64 (rdE l x)) := by
  refine PC_of_body b_manual_ready (by simp) ?_
  simp only [c_manual_ready, go_sem, Int.reduceEq, Int.reduceLT, Int.reduceLE, Int.reduceToNat, Nat.reduceLT, Nat.reduceEqDiff, Nat.reduceAdd, Nat.reduceLeDiff, Nat.reduceSub, Nat.reduceMul, ↓reduceIte, reduceCtorEq, w_app_nl]
  refine call_pc (ok_manual_Check l hl) (by simp [go_sem, hds_pur]) ?_
  try simp (disch := omega) only [go_sem, Int.reduceEq, Int.reduceLT, Int.reduceLE, Int.reduceToNat, Nat.reduceLT, Nat.reduceEqDiff, Nat.reduceAdd, Nat.reduceLeDiff, Nat.reduceSub, Nat.reduceMul, ↓reduceIte, reduceCtorEq, wrap_id, w_ite_ne, w_ite_lt, Nat.sub_zero, Nat.sub_self]
  by_cases hok : hdOk (-1) l = true
  · have he : hdE l = 0 := by simp [hdE, hok]
    try simp (disch := omega) only [go_sem, Int.reduceEq, Int.reduceLT, Int.reduceLE, Int.reduceToNat, Nat.reduceLT, Nat.reduceEqDiff, Nat.reduceAdd, Nat.reduceLeDiff, Nat.reduceSub, Nat.reduceMul, ↓reduceIte, reduceCtorEq, wrap_id, w_ite_ne, w_ite_lt, Nat.sub_zero, Nat.sub_self, he]
    refine gd_fd rfl (fun g1 => ?_) (fun g1 => ?_) <;> try simp (disch := omega) only [go_sem, Int.reduceEq, Int.reduceLT, Int.reduceLE, Int.reduceToNat, Nat.reduceLT, Nat.reduceEqDiff, Nat.reduceAdd, Nat.reduceLeDiff, Nat.reduceSub, Nat.reduceMul, ↓reduceIte, reduceCtorEq, wrap_id, w_ite_ne, w_ite_lt, Nat.sub_zero, Nat.sub_self]
    · exact Pub.of_eq (by simp [rdE, hok]; omega) rfl
    refine cond_d (fun g2 => ?_) (fun g2 => ?_) <;> try simp (disch := omega) only [go_sem, Int.reduceEq, Int.reduceLT, Int.reduceLE, Int.reduceToNat, Nat.reduceLT, Nat.reduceEqDiff, Nat.reduceAdd, Nat.reduceLeDiff, Nat.reduceSub, Nat.reduceMul, ↓reduceIte, reduceCtorEq, wrap_id, w_ite_ne, w_ite_lt, Nat.sub_zero, Nat.sub_self]
    · exact Pub.of_eq (by simp [rdE, hok]; omega) rfl
    · exact Pub.of_eq (by simp [rdE, hok]; omega) rfl
  · have he : hdE l = 53 := by simp [hdE, hok]
    try simp (disch := omega) only [go_sem, Int.reduceEq, Int.reduceLT, Int.reduceLE, Int.reduceToNat, Nat.reduceLT, Nat.reduceEqDiff, Nat.reduceAdd, Nat.reduceLeDiff, Nat.reduceSub, Nat.reduceMul, ↓reduceIte, reduceCtorEq, wrap_id, w_ite_ne, w_ite_lt, Nat.sub_zero, Nat.sub_self, he]
    exact Pub.of_eq (by simp [rdE, hok]) rfl
theorem ok_manual_place_compare (x : Int) (h : Hd) (hh : -4611686018427387904 ≤ h.s - x ∧ h.s - x ≤ 4611686018427387904) : PC prog n_manual_place_compare [.int .i64 x, hdv h] (.int .i64 (h.s - x)) := by
  refine PC_of_body b_manual_place_compare (by simp) ?_
  simp only [c_manual_place_compare, go_sem, Int.reduceEq, Int.reduceLT, Int.reduceLE, Int.reduceToNat, Nat.reduceLT, Nat.reduceEqDiff, Nat.reduceAdd, Nat.reduceLeDiff, Nat.reduceSub, Nat.reduceMul, ↓reduceIte, reduceCtorEq, w_app_nl, hdv]
  try simp (disch := omega) only [go_sem, Int.reduceEq, Int.reduceLT, Int.reduceLE, Int.reduceToNat, Nat.reduceLT, Nat.reduceEqDiff, Nat.reduceAdd, Nat.reduceLeDiff, Nat.reduceSub, Nat.reduceMul, ↓reduceIte, reduceCtorEq, wrap_id, w_ite_ne, w_ite_lt, Nat.sub_zero, Nat.sub_self]
  exact Pub.of_eq rfl rfl
theorem ok_manual_find_1 (x : Int) (h : Hd) (hh : -4611686018427387904 ≤ h.s - x ∧ h.s - x ≤ 4611686018427387904) : PC prog n_manual_find_1 [hdv h, .int .i64 x, .rptr 1 [.func n_manual_place_compare []] 0 0] (.int .i64 (h.s - x)) := by
  refine PC_of_body b_manual_find_1 (by simp) ?_
  simp only [c_manual_find_1, go_sem, Int.reduceEq, Int.reduceLT, Int.reduceLE, Int.reduceToNat, Nat.reduceLT, Nat.reduceEqDiff, Nat.reduceAdd, Nat.reduceLeDiff, Nat.reduceSub, Nat.reduceMul, ↓reduceIte, reduceCtorEq, w_app_nl, hdv]
  try simp (disch := omega) only [go_sem, Int.reduceEq, Int.reduceLT, Int.reduceLE, Int.reduceToNat, Nat.reduceLT, Nat.reduceEqDiff, Nat.reduceAdd, Nat.reduceLeDiff, Nat.reduceSub, Nat.reduceMul, ↓reduceIte, reduceCtorEq, wrap_id, w_ite_ne, w_ite_lt, Nat.sub_zero, Nat.sub_self]
  refine call_pc (ok_manual_place_compare x h hh) (by simp [go_sem, hdv]) ?_
  try simp (disch := omega) only [go_sem, Int.reduceEq, Int.reduceLT, Int.reduceLE, Int.reduceToNat, Nat.reduceLT, Nat.reduceEqDiff, Nat.reduceAdd, Nat.reduceLeDiff, Nat.reduceSub, Nat.reduceMul, ↓reduceIte, reduceCtorEq, wrap_id, w_ite_ne, w_ite_lt, Nat.sub_zero, Nat.sub_self]
  exact Pub.of_eq rfl rfl
theorem hc_slices_BinarySearchFunc__place (σ : St) (l : List Hd) (x : Int) (f : Nat) (caps : List AV) (hl : l.length ≤ 4611686018427387904) (hs : Asc (l.map Hd.s))
    (hcb : ∀ h ∈ l, ∀ τ : St, τ.n = σ.n → (∀ k, k < σ.n → τ.ob k = σ.ob k) → HC prog f (hdv h :: .int .i64 x :: caps) τ (fun r τ' => r = .int .i64 (h.s - x) ∧ τ' = τ)) :
    HC prog n_slices_BinarySearchFunc__place [.list 2 (hds l), .int .i64 x, .func f caps] σ (fun r τ => r = .tuple [.int .i64 (bsI (l.map Hd.s) x), .bool (decide ((l.map Hd.s)[bsI (l.map Hd.s) x]? = some x))] ∧ τ.n = σ.n ∧ ∀ k, k < σ.n → τ.ob k = σ.ob k) := by
  obtain ⟨L, hL⟩ : ∃ L, L = l.map Hd.s := ⟨_, rfl⟩
  have hLl : L.length = l.length := by simp [hL]
  rw [← hL] at hs ⊢
  refine HC_of_body b_slices_BinarySearchFunc__place (by simp) ?_
  simp only [c_slices_BinarySearchFunc__place, go_sem, Int.reduceEq, Int.reduceLT, Int.reduceLE, Int.reduceToNat, Nat.reduceLT, Nat.reduceEqDiff, Nat.reduceAdd, Nat.reduceLeDiff, Nat.reduceSub, Nat.reduceMul, ↓reduceIte, reduceCtorEq, w_app_nl, hds_length]
  refine awp_loopF [9, 10, 11, 15, 16, 17, 18, 19, 20, 21, 22, 23, 24, 25, 26, 27, 28, 29, 30, 31, 32, 33, 34] (by kernel_rfl) (fun k e τ => (∀ k, k < σ.n → τ.ob k = σ.ob k) ∧ ∃ i j : Nat, e 9 = .int .i64 i ∧ e 10 = .int .i64 j ∧ i ≤ j ∧ j ≤ l.length ∧ k = j - i ∧ (∀ k, k < i → ∀ y, L[k]? = some y → y < x) ∧ (∀ k, j ≤ k → ∀ y, L[k]? = some y → x ≤ y)) l.length ?_ ?_
  · exact ⟨fun _ _ => rfl, 0, l.length, (by first | ((try simp (maxSteps := 1000000) only [go_sem, Int.reduceEq, Int.reduceLT, Int.reduceLE, Int.reduceToNat, Nat.reduceLT, Nat.reduceEqDiff, Nat.reduceAdd, Nat.reduceLeDiff, Nat.reduceSub, Nat.reduceMul, ↓reduceIte, reduceCtorEq, w_app_nl]); done) | ((try simp (maxSteps := 1000000) only [go_sem, Int.reduceEq, Int.reduceLT, Int.reduceLE, Int.reduceToNat, Nat.reduceLT, Nat.reduceEqDiff, Nat.reduceAdd, Nat.reduceLeDiff, Nat.reduceSub, Nat.reduceMul, ↓reduceIte, reduceCtorEq, w_app_nl]); rfl) | ((try simp (maxSteps := 1000000) (disch := omega) only [go_sem, Int.reduceEq, Int.reduceLT, Int.reduceLE, Int.reduceToNat, Nat.reduceLT, Nat.reduceEqDiff, Nat.reduceAdd, Nat.reduceLeDiff, Nat.reduceSub, Nat.reduceMul, ↓reduceIte, reduceCtorEq, w_app_nl, wrap_id, w_ite_ne, w_ite_lt]); rfl) | (simp (maxSteps := 1000000) (disch := omega) only [go_sem, Int.reduceEq, Int.reduceLT, Int.reduceLE, Int.reduceToNat, Nat.reduceLT, Nat.reduceEqDiff, Nat.reduceAdd, Nat.reduceLeDiff, Nat.reduceSub, Nat.reduceMul, ↓reduceIte, reduceCtorEq, w_app_nl, wrap_id, w_ite_ne, w_ite_lt]; done)), (by first | ((try simp (maxSteps := 1000000) only [go_sem, Int.reduceEq, Int.reduceLT, Int.reduceLE, Int.reduceToNat, Nat.reduceLT, Nat.reduceEqDiff, Nat.reduceAdd, Nat.reduceLeDiff, Nat.reduceSub, Nat.reduceMul, ↓reduceIte, reduceCtorEq, w_app_nl]); done) | ((try simp (maxSteps := 1000000) only [go_sem, Int.reduceEq, Int.reduceLT, Int.reduceLE, Int.reduceToNat, Nat.reduceLT, Nat.reduceEqDiff, Nat.reduceAdd, Nat.reduceLeDiff, Nat.reduceSub, Nat.reduceMul, ↓reduceIte, reduceCtorEq, w_app_nl]); rfl) | ((try simp (maxSteps := 1000000) (disch := omega) only [go_sem, Int.reduceEq, Int.reduceLT, Int.reduceLE, Int.reduceToNat, Nat.reduceLT, Nat.reduceEqDiff, Nat.reduceAdd, Nat.reduceLeDiff, Nat.reduceSub, Nat.reduceMul, ↓reduceIte, reduceCtorEq, w_app_nl, wrap_id, w_ite_ne, w_ite_lt]); rfl) | (simp (maxSteps := 1000000) (disch := omega) only [go_sem, Int.reduceEq, Int.reduceLT, Int.reduceLE, Int.reduceToNat, Nat.reduceLT, Nat.reduceEqDiff, Nat.reduceAdd, Nat.reduceLeDiff, Nat.reduceSub, Nat.reduceMul, ↓reduceIte, reduceCtorEq, w_app_nl, wrap_id, w_ite_ne, w_ite_lt]; done)), by omega, by omega, by omega, fun k hk => by omega, fun k hk y hy => by have := (List.getElem?_eq_some_iff.1 hy).1; omega⟩
  · rintro r fe ob c ⟨hτ, i, j, h9, h10, hij, hjl, rfl, hlo, hhi⟩
    simp (maxSteps := 1000000) only [go_sem, Int.reduceEq, Int.reduceLT, Int.reduceLE, Int.reduceToNat, Nat.reduceLT, Nat.reduceEqDiff, Nat.reduceAdd, Nat.reduceLeDiff, Nat.reduceSub, Nat.reduceMul, ↓reduceIte, reduceCtorEq, w_app_nl] at h9 h10 hτ
    try simp (disch := omega) only [go_sem, Int.reduceEq, Int.reduceLT, Int.reduceLE, Int.reduceToNat, Nat.reduceLT, Nat.reduceEqDiff, Nat.reduceAdd, Nat.reduceLeDiff, Nat.reduceSub, Nat.reduceMul, ↓reduceIte, reduceCtorEq, wrap_id, w_ite_ne, w_ite_lt, Nat.sub_zero, Nat.sub_self, h9, h10]
    refine cond_d (fun hlt => ?_) (fun hge => ?_)
    · have hij2 : i < j := by omega
      try simp (disch := omega) only [go_sem, Int.reduceEq, Int.reduceLT, Int.reduceLE, Int.reduceToNat, Nat.reduceLT, Nat.reduceEqDiff, Nat.reduceAdd, Nat.reduceLeDiff, Nat.reduceSub, Nat.reduceMul, ↓reduceIte, reduceCtorEq, wrap_id, w_ite_ne, w_ite_lt, Nat.sub_zero, Nat.sub_self, h9, h10, wrap_u64, bit_half, Option.some.injEq, exists_eq_left']
      generalize hm : (i + j) / 2 = m
      have hmi : ((i : Int) + j) / 2 = (m : Int) := by omega
      have hg : l[m]? = some l[m] := List.getElem?_eq_getElem (by omega)
      try simp (disch := omega) only [go_sem, Int.reduceEq, Int.reduceLT, Int.reduceLE, Int.reduceToNat, Nat.reduceLT, Nat.reduceEqDiff, Nat.reduceAdd, Nat.reduceLeDiff, Nat.reduceSub, Nat.reduceMul, ↓reduceIte, reduceCtorEq, wrap_id, w_ite_ne, w_ite_lt, Nat.sub_zero, Nat.sub_self, hmi, h9, h10, hds_get, hds_length, hg, Option.map_some, hdv]
      repeat (refine And.intro (by first | omega | (rw [mxL]; omega) | (simp [maxLen]; done) | (simp [maxLen]; omega)) ?_)
      refine (hcb l[m] (List.getElem_mem _) ⟨ob, σ.n, c⟩ rfl hτ).mono ?_
      rintro _ _ ⟨rfl, rfl⟩
      have hgm : L[m]? = some l[m].s := by simp [hL, hg]
      generalize l[m] = q at *
      try simp (disch := omega) only [go_sem, Int.reduceEq, Int.reduceLT, Int.reduceLE, Int.reduceToNat, Nat.reduceLT, Nat.reduceEqDiff, Nat.reduceAdd, Nat.reduceLeDiff, Nat.reduceSub, Nat.reduceMul, ↓reduceIte, reduceCtorEq, wrap_id, w_ite_ne, w_ite_lt, Nat.sub_zero, Nat.sub_self, h9, h10]
      refine cond_d (fun hlt => ?_) (fun hge => ?_)
      · try simp (disch := omega) only [go_sem, Int.reduceEq, Int.reduceLT, Int.reduceLE, Int.reduceToNat, Nat.reduceLT, Nat.reduceEqDiff, Nat.reduceAdd, Nat.reduceLeDiff, Nat.reduceSub, Nat.reduceMul, ↓reduceIte, reduceCtorEq, wrap_id, w_ite_ne, w_ite_lt, Nat.sub_zero, Nat.sub_self, h9, h10]
        refine ⟨j - (m + 1), by omega, _, Nat.le_refl _, rfl, fun k hk => by try simp (disch := omega) only [go_sem, Int.reduceEq, Int.reduceLT, Int.reduceLE, Int.reduceToNat, Nat.reduceLT, Nat.reduceEqDiff, Nat.reduceAdd, Nat.reduceLeDiff, Nat.reduceSub, Nat.reduceMul, ↓reduceIte, reduceCtorEq, wrap_id, w_ite_ne, w_ite_lt, Nat.sub_zero, Nat.sub_self]; exact hτ k hk, m + 1, j, (by first | ((try simp (maxSteps := 1000000) only [go_sem, Int.reduceEq, Int.reduceLT, Int.reduceLE, Int.reduceToNat, Nat.reduceLT, Nat.reduceEqDiff, Nat.reduceAdd, Nat.reduceLeDiff, Nat.reduceSub, Nat.reduceMul, ↓reduceIte, reduceCtorEq, w_app_nl]); done) | ((try simp (maxSteps := 1000000) only [go_sem, Int.reduceEq, Int.reduceLT, Int.reduceLE, Int.reduceToNat, Nat.reduceLT, Nat.reduceEqDiff, Nat.reduceAdd, Nat.reduceLeDiff, Nat.reduceSub, Nat.reduceMul, ↓reduceIte, reduceCtorEq, w_app_nl]); rfl) | ((try simp (maxSteps := 1000000) (disch := omega) only [go_sem, Int.reduceEq, Int.reduceLT, Int.reduceLE, Int.reduceToNat, Nat.reduceLT, Nat.reduceEqDiff, Nat.reduceAdd, Nat.reduceLeDiff, Nat.reduceSub, Nat.reduceMul, ↓reduceIte, reduceCtorEq, w_app_nl, wrap_id, w_ite_ne, w_ite_lt]); rfl) | (simp (maxSteps := 1000000) (disch := omega) only [go_sem, Int.reduceEq, Int.reduceLT, Int.reduceLE, Int.reduceToNat, Nat.reduceLT, Nat.reduceEqDiff, Nat.reduceAdd, Nat.reduceLeDiff, Nat.reduceSub, Nat.reduceMul, ↓reduceIte, reduceCtorEq, w_app_nl, wrap_id, w_ite_ne, w_ite_lt]; done)), (by first | ((try simp (maxSteps := 1000000) only [go_sem, Int.reduceEq, Int.reduceLT, Int.reduceLE, Int.reduceToNat, Nat.reduceLT, Nat.reduceEqDiff, Nat.reduceAdd, Nat.reduceLeDiff, Nat.reduceSub, Nat.reduceMul, ↓reduceIte, reduceCtorEq, w_app_nl]); done) | ((try simp (maxSteps := 1000000) only [go_sem, Int.reduceEq, Int.reduceLT, Int.reduceLE, Int.reduceToNat, Nat.reduceLT, Nat.reduceEqDiff, Nat.reduceAdd, Nat.reduceLeDiff, Nat.reduceSub, Nat.reduceMul, ↓reduceIte, reduceCtorEq, w_app_nl]); rfl) | ((try simp (maxSteps := 1000000) (disch := omega) only [go_sem, Int.reduceEq, Int.reduceLT, Int.reduceLE, Int.reduceToNat, Nat.reduceLT, Nat.reduceEqDiff, Nat.reduceAdd, Nat.reduceLeDiff, Nat.reduceSub, Nat.reduceMul, ↓reduceIte, reduceCtorEq, w_app_nl, wrap_id, w_ite_ne, w_ite_lt]); rfl) | (simp (maxSteps := 1000000) (disch := omega) only [go_sem, Int.reduceEq, Int.reduceLT, Int.reduceLE, Int.reduceToNat, Nat.reduceLT, Nat.reduceEqDiff, Nat.reduceAdd, Nat.reduceLeDiff, Nat.reduceSub, Nat.reduceMul, ↓reduceIte, reduceCtorEq, w_app_nl, wrap_id, w_ite_ne, w_ite_lt]; done)), by omega, by omega, by omega, fun k hk y hy => ?_, hhi⟩
        by_cases e : k = m
        · subst e; rw [hgm] at hy; obtain rfl := Option.some.inj hy; omega
        · have := hs k m (by omega) y _ hy hgm; omega
      · try simp (disch := omega) only [go_sem, Int.reduceEq, Int.reduceLT, Int.reduceLE, Int.reduceToNat, Nat.reduceLT, Nat.reduceEqDiff, Nat.reduceAdd, Nat.reduceLeDiff, Nat.reduceSub, Nat.reduceMul, ↓reduceIte, reduceCtorEq, wrap_id, w_ite_ne, w_ite_lt, Nat.sub_zero, Nat.sub_self, h9, h10]
        refine ⟨m - i, by omega, _, Nat.le_refl _, rfl, fun k hk => by try simp (disch := omega) only [go_sem, Int.reduceEq, Int.reduceLT, Int.reduceLE, Int.reduceToNat, Nat.reduceLT, Nat.reduceEqDiff, Nat.reduceAdd, Nat.reduceLeDiff, Nat.reduceSub, Nat.reduceMul, ↓reduceIte, reduceCtorEq, wrap_id, w_ite_ne, w_ite_lt, Nat.sub_zero, Nat.sub_self]; exact hτ k hk, i, m, (by first | ((try simp (maxSteps := 1000000) only [go_sem, Int.reduceEq, Int.reduceLT, Int.reduceLE, Int.reduceToNat, Nat.reduceLT, Nat.reduceEqDiff, Nat.reduceAdd, Nat.reduceLeDiff, Nat.reduceSub, Nat.reduceMul, ↓reduceIte, reduceCtorEq, w_app_nl]); done) | ((try simp (maxSteps := 1000000) only [go_sem, Int.reduceEq, Int.reduceLT, Int.reduceLE, Int.reduceToNat, Nat.reduceLT, Nat.reduceEqDiff, Nat.reduceAdd, Nat.reduceLeDiff, Nat.reduceSub, Nat.reduceMul, ↓reduceIte, reduceCtorEq, w_app_nl]); rfl) | ((try simp (maxSteps := 1000000) (disch := omega) only [go_sem, Int.reduceEq, Int.reduceLT, Int.reduceLE, Int.reduceToNat, Nat.reduceLT, Nat.reduceEqDiff, Nat.reduceAdd, Nat.reduceLeDiff, Nat.reduceSub, Nat.reduceMul, ↓reduceIte, reduceCtorEq, w_app_nl, wrap_id, w_ite_ne, w_ite_lt]); rfl) | (simp (maxSteps := 1000000) (disch := omega) only [go_sem, Int.reduceEq, Int.reduceLT, Int.reduceLE, Int.reduceToNat, Nat.reduceLT, Nat.reduceEqDiff, Nat.reduceAdd, Nat.reduceLeDiff, Nat.reduceSub, Nat.reduceMul, ↓reduceIte, reduceCtorEq, w_app_nl, wrap_id, w_ite_ne, w_ite_lt]; done)), (by first | ((try simp (maxSteps := 1000000) only [go_sem, Int.reduceEq, Int.reduceLT, Int.reduceLE, Int.reduceToNat, Nat.reduceLT, Nat.reduceEqDiff, Nat.reduceAdd, Nat.reduceLeDiff, Nat.reduceSub, Nat.reduceMul, ↓reduceIte, reduceCtorEq, w_app_nl]); done) | ((try simp (maxSteps := 1000000) only [go_sem, Int.reduceEq, Int.reduceLT, Int.reduceLE, Int.reduceToNat, Nat.reduceLT, Nat.reduceEqDiff, Nat.reduceAdd, Nat.reduceLeDiff, Nat.reduceSub, Nat.reduceMul, ↓reduceIte, reduceCtorEq, w_app_nl]); rfl) | ((try simp (maxSteps := 1000000) (disch := omega) only [go_sem, Int.reduceEq, Int.reduceLT, Int.reduceLE, Int.reduceToNat, Nat.reduceLT, Nat.reduceEqDiff, Nat.reduceAdd, Nat.reduceLeDiff, Nat.reduceSub, Nat.reduceMul, ↓reduceIte, reduceCtorEq, w_app_nl, wrap_id, w_ite_ne, w_ite_lt]); rfl) | (simp (maxSteps := 1000000) (disch := omega) only [go_sem, Int.reduceEq, Int.reduceLT, Int.reduceLE, Int.reduceToNat, Nat.reduceLT, Nat.reduceEqDiff, Nat.reduceAdd, Nat.reduceLeDiff, Nat.reduceSub, Nat.reduceMul, ↓reduceIte, reduceCtorEq, w_app_nl, wrap_id, w_ite_ne, w_ite_lt]; done)), by omega, by omega, by omega, hlo, fun k hk y hy => ?_⟩
        by_cases e : k = m
        · subst e; rw [hgm] at hy; obtain rfl := Option.some.inj hy; omega
        · have := hs m k (by omega) _ y hgm hy; omega
    · have hij2 : i = j := by omega
      subst hij2
      have hb := bsI_eq L x i (by omega) hlo hhi
      rw [hb]
      try simp (disch := omega) only [go_sem, Int.reduceEq, Int.reduceLT, Int.reduceLE, Int.reduceToNat, Nat.reduceLT, Nat.reduceEqDiff, Nat.reduceAdd, Nat.reduceLeDiff, Nat.reduceSub, Nat.reduceMul, ↓reduceIte, reduceCtorEq, wrap_id, w_ite_ne, w_ite_lt, Nat.sub_zero, Nat.sub_self, h9, h10]
      refine gd_td rfl (fun h => ?_) (fun h => ?_)
      · have hg : l[i]? = some l[i] := List.getElem?_eq_getElem (by omega)
        try simp (disch := omega) only [go_sem, Int.reduceEq, Int.reduceLT, Int.reduceLE, Int.reduceToNat, Nat.reduceLT, Nat.reduceEqDiff, Nat.reduceAdd, Nat.reduceLeDiff, Nat.reduceSub, Nat.reduceMul, ↓reduceIte, reduceCtorEq, wrap_id, w_ite_ne, w_ite_lt, Nat.sub_zero, Nat.sub_self, h9, h10, hds_get, hds_length, hg, Option.map_some, hdv]
        repeat (refine And.intro (by first | omega | (rw [mxL]; omega) | (simp [maxLen]; done) | (simp [maxLen]; omega)) ?_)
        refine (hcb l[i] (List.getElem_mem _) ⟨ob, σ.n, c⟩ rfl hτ).mono ?_
        rintro _ _ ⟨rfl, rfl⟩
        try simp (disch := omega) only [go_sem, Int.reduceEq, Int.reduceLT, Int.reduceLE, Int.reduceToNat, Nat.reduceLT, Nat.reduceEqDiff, Nat.reduceAdd, Nat.reduceLeDiff, Nat.reduceSub, Nat.reduceMul, ↓reduceIte, reduceCtorEq, wrap_id, w_ite_ne, w_ite_lt, Nat.sub_zero, Nat.sub_self, h9, h10]
        refine ⟨?_, hτ⟩
        have hgm : L[i]? = some l[i].s := by simp [hL, hg]
        rw [hgm]
        simp only [Option.some.injEq]
        congr 3
        by_cases e : l[i].s = x
        · simp [e]
        · have : ¬ l[i].s - x = 0 := by omega
          simp [e, this]
      · try simp (disch := omega) only [go_sem, Int.reduceEq, Int.reduceLT, Int.reduceLE, Int.reduceToNat, Nat.reduceLT, Nat.reduceEqDiff, Nat.reduceAdd, Nat.reduceLeDiff, Nat.reduceSub, Nat.reduceMul, ↓reduceIte, reduceCtorEq, wrap_id, w_ite_ne, w_ite_lt, Nat.sub_zero, Nat.sub_self, h9, h10]
        refine ⟨?_, hτ⟩
        rw [List.getElem?_eq_none (by omega)]
        simp
theorem ok_manual_find (l : List Hd) (x : Int) (hok : hdOk (-1) l = true) (hx : 0 ≤ x ∧ x < 6) : PC prog n_manual_find [.list 2 (hds l), .int .i64 x] (.tuple [.int .i64 (bsI (l.map Hd.s) x), .bool (decide ((l.map Hd.s)[bsI (l.map Hd.s) x]? = some x))]) := by
  have hlen := hdOk_len (by omega) (by omega) hok
  have hs : Asc (l.map Hd.s) := fun i j hij a b ha hb => by
    rw [List.getElem?_map] at ha hb
    obtain ⟨a', ha', rfl⟩ := Option.map_eq_some_iff.1 ha
    obtain ⟨b', hb', rfl⟩ := Option.map_eq_some_iff.1 hb
    exact Int.le_of_lt (hdOk_asc hok i j hij _ _ ha' hb')
  refine PC_of_body b_manual_find (by simp) ?_
  simp only [c_manual_find, go_sem, Int.reduceEq, Int.reduceLT, Int.reduceLE, Int.reduceToNat, Nat.reduceLT, Nat.reduceEqDiff, Nat.reduceAdd, Nat.reduceLeDiff, Nat.reduceSub, Nat.reduceMul, ↓reduceIte, reduceCtorEq, w_app_nl]
  try simp (disch := omega) only [go_sem, Int.reduceEq, Int.reduceLT, Int.reduceLE, Int.reduceToNat, Nat.reduceLT, Nat.reduceEqDiff, Nat.reduceAdd, Nat.reduceLeDiff, Nat.reduceSub, Nat.reduceMul, ↓reduceIte, reduceCtorEq, wrap_id, w_ite_ne, w_ite_lt, Nat.sub_zero, Nat.sub_self]
  refine (hc_slices_BinarySearchFunc__place _ l x _ _ (by omega) hs (fun h hh τ hn hτ => ?_)).mono ?_
  · have hb := hdOk_lt hok h hh
    refine call_lent (ok_manual_find_1 x h (by omega)) (.cons (.pure (by simp [go_sem, hdv])) (.cons (.pure rfl) (.cons ?_ .nil))) rfl ⟨rfl, rfl⟩
    have h0 : τ.ob 0 = some ⟨0, 1, 72, false, true, [.func n_manual_place_compare []]⟩ := hτ 0 Nat.one_pos
    refine .ptr h0 rfl rfl rfl (by simp) (fun i a b ha hb => ?_) (by simp [okE, go_sem])
    rw [ha] at hb
    obtain rfl := Option.some.inj hb
    cases i with
    | zero => simp at ha; subst ha; exact .pure rfl
    | succ i => simp at ha
  · rintro _ τ ⟨rfl, _, _⟩
    try simp (disch := omega) only [go_sem, Int.reduceEq, Int.reduceLT, Int.reduceLE, Int.reduceToNat, Nat.reduceLT, Nat.reduceEqDiff, Nat.reduceAdd, Nat.reduceLeDiff, Nat.reduceSub, Nat.reduceMul, ↓reduceIte, reduceCtorEq, wrap_id, w_ite_ne, w_ite_lt, Nat.sub_zero, Nat.sub_self]
    exact Pub.of_eq rfl rfl
def byB (l : List Hd) (x : Int) : Bool := hdOk (-1) l && l.any fun h => decide (h.s = x)
def takeH (l : List Hd) (x n : Int) : List Hd × Int :=
  if hdOk (-1) l then (if 0 ≤ x ∧ x < 6 then (if 0 ≤ n ∧ n ≤ 16777216 then (if (l.any fun h => decide (h.s = x)) then ([], 46)
    else (l.take (bsI (l.map Hd.s) x) ++ ⟨x, n⟩ :: l.drop (bsI (l.map Hd.s) x), 0)) else ([], 6)) else ([], 40)) else ([], 53)
def sinH (x : Int) (acc : Int) (h : Hd) : Int := if h.s = x then h.t else acc
def backH (l : List Hd) (x n : Int) : List Hd × Int × Int :=
  if hdOk (-1) l then (if 0 ≤ x ∧ x < 6 then (if (l.any fun h => decide (h.s = x)) then
    (if l.foldl (sinH x) (-1) ≤ n ∧ n ≤ 16777216 then (l.filter (fun h => !decide (h.s = x)), l.foldl (sinH x) (-1), 0) else ([], 0, 6)) else ([], 0, 9)) else ([], 0, 40)) else ([], 0, 53)
theorem sin_none {x : Int} : ∀ {l : List Hd} {acc : Int}, (∀ h ∈ l, h.s ≠ x) → l.foldl (sinH x) acc = acc
  | [], _, _ => rfl
  | a :: r, acc, h => by
    have h1 : sinH x acc a = acc := by simp [sinH, h a (by simp)]
    rw [List.foldl_cons, h1]
    exact sin_none fun y hy => h y (by simp [hy])
theorem fil_none {x : Int} {l : List Hd} (h : ∀ a ∈ l, a.s ≠ x) : l.filter (fun h => !decide (h.s = x)) = l := List.filter_eq_self.2 fun a ha => by simp [h a ha]
theorem hd_at : ∀ {l : List Hd} {last acc : Int} {i : Nat} {h : Hd}, hdOk last l = true → l[i]? = some h → l.foldl (sinH h.s) acc = h.t ∧ l.take i ++ l.drop (i + 1) = l.filter fun y => !decide (y.s = h.s)
  | [], _, _, i, h, _, hi => by simp at hi
  | a :: r, last, acc, 0, h, hok, hi => by
    simp at hi; subst hi
    simp only [hdOk, Bool.and_eq_true] at hok
    have hne : ∀ y ∈ r, y.s ≠ a.s := fun y hy => by have := (hdOk_lt hok.2 y hy).1; omega
    rw [List.foldl_cons, sin_none hne]
    refine ⟨by simp [sinH], ?_⟩
    simp [fil_none hne]
  | a :: r, last, acc, i + 1, h, hok, hi => by
    simp only [hdOk, Bool.and_eq_true] at hok
    have hi' : r[i]? = some h := by simpa using hi
    have h1 := (hdOk_lt hok.2 h (List.mem_of_getElem? hi')).1
    obtain ⟨h2, h3⟩ := hd_at (acc := sinH h.s acc a) hok.2 hi'
    refine ⟨by rw [List.foldl_cons]; exact h2, ?_⟩
    have h4 : ¬ a.s = h.s := by omega
    simp [h4, ← h3]
theorem hd_Asc {l : List Hd} (hok : hdOk (-1) l = true) : Asc (l.map Hd.s) := fun i j hij a b ha hb => by
  rw [List.getElem?_map] at ha hb
  obtain ⟨a', ha', rfl⟩ := Option.map_eq_some_iff.1 ha
  obtain ⟨b', hb', rfl⟩ := Option.map_eq_some_iff.1 hb
  exact Int.le_of_lt (hdOk_asc hok i j hij _ _ ha' hb')
theorem hd_any {l : List Hd} {x : Int} (hok : hdOk (-1) l = true) : decide ((l.map Hd.s)[bsI (l.map Hd.s) x]? = some x) = l.any fun h => decide (h.s = x) := by
  have h1 := bsI_mem (l.map Hd.s) x (hd_Asc hok)
  rw [Bool.eq_iff_iff, decide_eq_true_eq, h1, List.any_eq_true]
  simp
theorem ok_manual_By (l : List Hd) (x : Int) (hl : l.length ≤ 9223372036854775807) : PC prog n_manual_By [.list 2 (hds l), .int .i64 x] (.bool (byB l x)) := by
  refine PC_of_body b_manual_By (by simp) ?_
  simp only [c_manual_By, go_sem, Int.reduceEq, Int.reduceLT, Int.reduceLE, Int.reduceToNat, Nat.reduceLT, Nat.reduceEqDiff, Nat.reduceAdd, Nat.reduceLeDiff, Nat.reduceSub, Nat.reduceMul, ↓reduceIte, reduceCtorEq, w_app_nl]
  refine call_pc (ok_manual_ready l x hl) (by simp [go_sem, hds_pur]) ?_
  by_cases hok : hdOk (-1) l = true
  · by_cases hx : 0 ≤ x ∧ x < 6
    · have he : rdE l x = 0 := by simp [rdE, hok, hx]
      try simp (disch := omega) only [go_sem, Int.reduceEq, Int.reduceLT, Int.reduceLE, Int.reduceToNat, Nat.reduceLT, Nat.reduceEqDiff, Nat.reduceAdd, Nat.reduceLeDiff, Nat.reduceSub, Nat.reduceMul, ↓reduceIte, reduceCtorEq, wrap_id, w_ite_ne, w_ite_lt, Nat.sub_zero, Nat.sub_self, he]
      refine call_pc (ok_manual_find l x hok hx) (by simp [go_sem, hds_pur]) ?_
      rw [hd_any hok]
      try simp (disch := omega) only [go_sem, Int.reduceEq, Int.reduceLT, Int.reduceLE, Int.reduceToNat, Nat.reduceLT, Nat.reduceEqDiff, Nat.reduceAdd, Nat.reduceLeDiff, Nat.reduceSub, Nat.reduceMul, ↓reduceIte, reduceCtorEq, wrap_id, w_ite_ne, w_ite_lt, Nat.sub_zero, Nat.sub_self]
      exact Pub.of_eq (by simp [byB, hok]) rfl
    · have he : rdE l x = 40 := by simp only [rdE, hok, if_true, if_neg hx]
      try simp (disch := omega) only [go_sem, Int.reduceEq, Int.reduceLT, Int.reduceLE, Int.reduceToNat, Nat.reduceLT, Nat.reduceEqDiff, Nat.reduceAdd, Nat.reduceLeDiff, Nat.reduceSub, Nat.reduceMul, ↓reduceIte, reduceCtorEq, wrap_id, w_ite_ne, w_ite_lt, Nat.sub_zero, Nat.sub_self, he]
      refine Pub.of_eq ?_ rfl
      congr 1
      simp only [byB, hok, Bool.true_and]
      rw [eq_comm, List.any_eq_false]
      intro h hh
      have := hdOk_lt hok h hh
      simp; omega
  · have he : rdE l x = 53 := by simp [rdE, hok]
    try simp (disch := omega) only [go_sem, Int.reduceEq, Int.reduceLT, Int.reduceLE, Int.reduceToNat, Nat.reduceLT, Nat.reduceEqDiff, Nat.reduceAdd, Nat.reduceLeDiff, Nat.reduceSub, Nat.reduceMul, ↓reduceIte, reduceCtorEq, wrap_id, w_ite_ne, w_ite_lt, Nat.sub_zero, Nat.sub_self, he]
    exact Pub.of_eq (by simp [byB, hok]) rfl
theorem ok_ref38_By (l : List Hd) (x : Int) (hl : l.length ≤ 9223372036854775807) : PC prog n_ref38_By [.list 2 (hds l), .int .i64 x] (.bool (byB l x)) := by
  refine PC_of_body b_ref38_By (by simp) ?_
  simp only [c_ref38_By, go_sem, Int.reduceEq, Int.reduceLT, Int.reduceLE, Int.reduceToNat, Nat.reduceLT, Nat.reduceEqDiff, Nat.reduceAdd, Nat.reduceLeDiff, Nat.reduceSub, Nat.reduceMul, ↓reduceIte, reduceCtorEq, w_app_nl]
  refine call_pc (ok_ref38_Check l hl) (by simp [go_sem, hds_pur]) ?_
  by_cases hok : hdOk (-1) l = true
  · have he : hdE l = 0 := by simp [hdE, hok]
    try simp (disch := omega) only [go_sem, Int.reduceEq, Int.reduceLT, Int.reduceLE, Int.reduceToNat, Nat.reduceLT, Nat.reduceEqDiff, Nat.reduceAdd, Nat.reduceLeDiff, Nat.reduceSub, Nat.reduceMul, ↓reduceIte, reduceCtorEq, wrap_id, w_ite_ne, w_ite_lt, Nat.sub_zero, Nat.sub_self, he, hds_length]
    refine awp_upF [4, 6, 12, 13, 14, 15, 16, 17, 18, 19, 20] (by kernel_rfl) l.length (fun k e σ => e 12 = .int .i64 k ∧ ((l.take k).any fun h => decide (h.s = x)) = false) ?_ ?_
    · exact ⟨(by first | ((try simp (maxSteps := 1000000) only [go_sem, Int.reduceEq, Int.reduceLT, Int.reduceLE, Int.reduceToNat, Nat.reduceLT, Nat.reduceEqDiff, Nat.reduceAdd, Nat.reduceLeDiff, Nat.reduceSub, Nat.reduceMul, ↓reduceIte, reduceCtorEq, w_app_nl]); done) | ((try simp (maxSteps := 1000000) only [go_sem, Int.reduceEq, Int.reduceLT, Int.reduceLE, Int.reduceToNat, Nat.reduceLT, Nat.reduceEqDiff, Nat.reduceAdd, Nat.reduceLeDiff, Nat.reduceSub, Nat.reduceMul, ↓reduceIte, reduceCtorEq, w_app_nl]); rfl) | ((try simp (maxSteps := 1000000) (disch := omega) only [go_sem, Int.reduceEq, Int.reduceLT, Int.reduceLE, Int.reduceToNat, Nat.reduceLT, Nat.reduceEqDiff, Nat.reduceAdd, Nat.reduceLeDiff, Nat.reduceSub, Nat.reduceMul, ↓reduceIte, reduceCtorEq, w_app_nl, wrap_id, w_ite_ne, w_ite_lt]); rfl) | (simp (maxSteps := 1000000) (disch := omega) only [go_sem, Int.reduceEq, Int.reduceLT, Int.reduceLE, Int.reduceToNat, Nat.reduceLT, Nat.reduceEqDiff, Nat.reduceAdd, Nat.reduceLeDiff, Nat.reduceSub, Nat.reduceMul, ↓reduceIte, reduceCtorEq, w_app_nl, wrap_id, w_ite_ne, w_ite_lt]; done)), by simp⟩
    · rintro k fe ob c hk ⟨h12, hj⟩
      simp (maxSteps := 1000000) only [go_sem, Int.reduceEq, Int.reduceLT, Int.reduceLE, Int.reduceToNat, Nat.reduceLT, Nat.reduceEqDiff, Nat.reduceAdd, Nat.reduceLeDiff, Nat.reduceSub, Nat.reduceMul, ↓reduceIte, reduceCtorEq, w_app_nl] at h12
      try simp (disch := omega) only [go_sem, Int.reduceEq, Int.reduceLT, Int.reduceLE, Int.reduceToNat, Nat.reduceLT, Nat.reduceEqDiff, Nat.reduceAdd, Nat.reduceLeDiff, Nat.reduceSub, Nat.reduceMul, ↓reduceIte, reduceCtorEq, wrap_id, w_ite_ne, w_ite_lt, Nat.sub_zero, Nat.sub_self, h12, hds_length]
      refine cond_d (fun hlt => ?_) (fun hge => ?_)
      · have hkl : k < l.length := by omega
        have hk2 : l[k]? = some l[k] := List.getElem?_eq_getElem hkl
        have hst : ((l.take (k + 1)).any fun h => decide (h.s = x)) = decide (l[k].s = x) := by
          rw [List.take_add_one, hk2, List.any_append, hj]; simp
        have hin : l[k] ∈ l := List.getElem_mem _
        generalize l[k] = h at *
        try simp (disch := omega) only [go_sem, Int.reduceEq, Int.reduceLT, Int.reduceLE, Int.reduceToNat, Nat.reduceLT, Nat.reduceEqDiff, Nat.reduceAdd, Nat.reduceLeDiff, Nat.reduceSub, Nat.reduceMul, ↓reduceIte, reduceCtorEq, wrap_id, w_ite_ne, w_ite_lt, Nat.sub_zero, Nat.sub_self, h12, hds_length, hds_get, hk2, hdv, Option.map_some]
        repeat (refine And.intro (by first | omega | (rw [mxL]; omega) | (simp [maxLen]; done) | (simp [maxLen]; omega)) ?_)
        refine cond_d (fun g => ?_) (fun g => ?_) <;> try simp (disch := omega) only [go_sem, Int.reduceEq, Int.reduceLT, Int.reduceLE, Int.reduceToNat, Nat.reduceLT, Nat.reduceEqDiff, Nat.reduceAdd, Nat.reduceLeDiff, Nat.reduceSub, Nat.reduceMul, ↓reduceIte, reduceCtorEq, wrap_id, w_ite_ne, w_ite_lt, Nat.sub_zero, Nat.sub_self, h12]
        · refine Pub.of_eq ?_ rfl
          congr 1
          simp only [byB, hok, Bool.true_and]
          rw [eq_comm, List.any_eq_true]
          exact ⟨h, hin, by simp [g]⟩
        · exact up_next hkl ⟨(by first | ((try simp (maxSteps := 1000000) only [go_sem, Int.reduceEq, Int.reduceLT, Int.reduceLE, Int.reduceToNat, Nat.reduceLT, Nat.reduceEqDiff, Nat.reduceAdd, Nat.reduceLeDiff, Nat.reduceSub, Nat.reduceMul, ↓reduceIte, reduceCtorEq, w_app_nl]); done) | ((try simp (maxSteps := 1000000) only [go_sem, Int.reduceEq, Int.reduceLT, Int.reduceLE, Int.reduceToNat, Nat.reduceLT, Nat.reduceEqDiff, Nat.reduceAdd, Nat.reduceLeDiff, Nat.reduceSub, Nat.reduceMul, ↓reduceIte, reduceCtorEq, w_app_nl]); rfl) | ((try simp (maxSteps := 1000000) (disch := omega) only [go_sem, Int.reduceEq, Int.reduceLT, Int.reduceLE, Int.reduceToNat, Nat.reduceLT, Nat.reduceEqDiff, Nat.reduceAdd, Nat.reduceLeDiff, Nat.reduceSub, Nat.reduceMul, ↓reduceIte, reduceCtorEq, w_app_nl, wrap_id, w_ite_ne, w_ite_lt]); rfl) | (simp (maxSteps := 1000000) (disch := omega) only [go_sem, Int.reduceEq, Int.reduceLT, Int.reduceLE, Int.reduceToNat, Nat.reduceLT, Nat.reduceEqDiff, Nat.reduceAdd, Nat.reduceLeDiff, Nat.reduceSub, Nat.reduceMul, ↓reduceIte, reduceCtorEq, w_app_nl, wrap_id, w_ite_ne, w_ite_lt]; done)), by rw [hst]; simp [g]⟩
      · try simp (disch := omega) only [go_sem, Int.reduceEq, Int.reduceLT, Int.reduceLE, Int.reduceToNat, Nat.reduceLT, Nat.reduceEqDiff, Nat.reduceAdd, Nat.reduceLeDiff, Nat.reduceSub, Nat.reduceMul, ↓reduceIte, reduceCtorEq, wrap_id, w_ite_ne, w_ite_lt, Nat.sub_zero, Nat.sub_self]
        have : k = l.length := by omega
        subst this
        rw [List.take_length] at hj
        exact Pub.of_eq (by simp only [byB, hj, Bool.and_false]) rfl
  · have he : hdE l = 53 := by simp [hdE, hok]
    try simp (disch := omega) only [go_sem, Int.reduceEq, Int.reduceLT, Int.reduceLE, Int.reduceToNat, Nat.reduceLT, Nat.reduceEqDiff, Nat.reduceAdd, Nat.reduceLeDiff, Nat.reduceSub, Nat.reduceMul, ↓reduceIte, reduceCtorEq, wrap_id, w_ite_ne, w_ite_lt, Nat.sub_zero, Nat.sub_self, he]
    exact Pub.of_eq (by simp [byB, hok]) rfl
theorem ok_manual_Take (l : List Hd) (x n : Int) (hl : l.length ≤ 9223372036854775807) : PC prog n_manual_Take [.list 2 (hds l), .int .i64 x, .int .i64 n] (.tuple [.list 2 (hds (takeH l x n).1), .int .i64 (takeH l x n).2]) := by
  have no : ∀ {σ : St} (e : Int), takeH l x n = ([], e) → Pub σ (.tuple [.nil, .int .i64 e]) (.tuple [.list 2 (hds (takeH l x n).1), .int .i64 (takeH l x n).2]) := by
    intro σ e h
    rw [h]
    exact Pub.pair (.nl 2) (Pub.of_eq rfl rfl)
  refine PC_of_body b_manual_Take (by simp) ?_
  simp only [c_manual_Take, go_sem, Int.reduceEq, Int.reduceLT, Int.reduceLE, Int.reduceToNat, Nat.reduceLT, Nat.reduceEqDiff, Nat.reduceAdd, Nat.reduceLeDiff, Nat.reduceSub, Nat.reduceMul, ↓reduceIte, reduceCtorEq, w_app_nl]
  refine call_pc (ok_manual_ready l x hl) (by simp [go_sem, hds_pur]) ?_
  by_cases hok : hdOk (-1) l = true
  · have hlen := hdOk_len (by omega) (by omega) hok
    by_cases hx : 0 ≤ x ∧ x < 6
    · have he : rdE l x = 0 := by simp [rdE, hok, hx]
      try simp (disch := omega) only [go_sem, Int.reduceEq, Int.reduceLT, Int.reduceLE, Int.reduceToNat, Nat.reduceLT, Nat.reduceEqDiff, Nat.reduceAdd, Nat.reduceLeDiff, Nat.reduceSub, Nat.reduceMul, ↓reduceIte, reduceCtorEq, wrap_id, w_ite_ne, w_ite_lt, Nat.sub_zero, Nat.sub_self, he]
      refine gd_fd rfl (fun g1 => ?_) (fun g1 => ?_) <;> try simp (disch := omega) only [go_sem, Int.reduceEq, Int.reduceLT, Int.reduceLE, Int.reduceToNat, Nat.reduceLT, Nat.reduceEqDiff, Nat.reduceAdd, Nat.reduceLeDiff, Nat.reduceSub, Nat.reduceMul, ↓reduceIte, reduceCtorEq, wrap_id, w_ite_ne, w_ite_lt, Nat.sub_zero, Nat.sub_self]
      · exact no 6 (by simp [takeH, hok, hx]; omega)
      refine cond_d (fun g2 => ?_) (fun g2 => ?_) <;> try simp (disch := omega) only [go_sem, Int.reduceEq, Int.reduceLT, Int.reduceLE, Int.reduceToNat, Nat.reduceLT, Nat.reduceEqDiff, Nat.reduceAdd, Nat.reduceLeDiff, Nat.reduceSub, Nat.reduceMul, ↓reduceIte, reduceCtorEq, wrap_id, w_ite_ne, w_ite_lt, Nat.sub_zero, Nat.sub_self]
      · exact no 6 (by simp [takeH, hok, hx]; omega)
      refine call_pc (ok_manual_find l x hok hx) (by simp [go_sem, hds_pur]) ?_
      rw [hd_any hok]
      have hn : 0 ≤ n ∧ n ≤ 16777216 := by omega
      have hin := bsI_le (l.map Hd.s) x
      rw [List.length_map] at hin
      cases ha : l.any fun h => decide (h.s = x)
      · have htk : takeH l x n = (l.take (bsI (l.map Hd.s) x) ++ ⟨x, n⟩ :: l.drop (bsI (l.map Hd.s) x), 0) := by simp only [takeH, hok, if_true, if_pos hx, if_pos hn, ha]; rfl
        rw [htk]
        generalize bsI (l.map Hd.s) x = i at *
        try simp (disch := omega) only [go_sem, Int.reduceEq, Int.reduceLT, Int.reduceLE, Int.reduceToNat, Nat.reduceLT, Nat.reduceEqDiff, Nat.reduceAdd, Nat.reduceLeDiff, Nat.reduceSub, Nat.reduceMul, ↓reduceIte, reduceCtorEq, wrap_id, w_ite_ne, w_ite_lt, Nat.sub_zero, Nat.sub_self]
        refine (hcl_slices_Clone__Hand _ (hds l) (by rw [hds_length]; omega)).mono ?_
        rintro _ τ ⟨id, g, rfl, q1, q2, q3, q4⟩
        obtain ⟨ob, m, c⟩ := τ
        simp only at q1 q2 q3 q4
        try simp (disch := omega) only [go_sem, Int.reduceEq, Int.reduceLT, Int.reduceLE, Int.reduceToNat, Nat.reduceLT, Nat.reduceEqDiff, Nat.reduceAdd, Nat.reduceLeDiff, Nat.reduceSub, Nat.reduceMul, ↓reduceIte, reduceCtorEq, wrap_id, w_ite_ne, w_ite_lt, Nat.sub_zero, Nat.sub_self, hds_length]
        have hI := hc_slices_Insert__Hand ⟨upd ob m (some ⟨c, 2, ty_el_Hand, false, true, [.agg [.int .i64 x, .int .i64 n]]⟩), m + 1, c + 1⟩ id g m c ty_el_Hand (hds l) (.agg [.int .i64 x, .int .i64 n]) i
          (by simp only; rw [upd_ne _ _ _ _ (by omega)]; exact q3) (upd_same _ _ _) (by omega) (by simp only; omega) (by simp only; omega) (by rw [hds_length]; omega) (by rw [hds_length]; omega)
        rw [hds_length, show (hds l).take i ++ AV.agg [.int .i64 x, .int .i64 n] :: (hds l).drop i = hds (l.take i ++ ⟨x, n⟩ :: l.drop i) by simp [hds, hdv]] at hI
        refine hI.mono ?_
        rintro _ τ ⟨id', g', rfl, _, _, _, h1, _⟩
        try simp (disch := omega) only [go_sem, Int.reduceEq, Int.reduceLT, Int.reduceLE, Int.reduceToNat, Nat.reduceLT, Nat.reduceEqDiff, Nat.reduceAdd, Nat.reduceLeDiff, Nat.reduceSub, Nat.reduceMul, ↓reduceIte, reduceCtorEq, wrap_id, w_ite_ne, w_ite_lt, Nat.sub_zero, Nat.sub_self]
        exact Pub.pair (Pub.of_sl h1 rfl (hds_pur _) (hds_ok _)) (Pub.of_eq rfl rfl)
      · try simp (disch := omega) only [go_sem, Int.reduceEq, Int.reduceLT, Int.reduceLE, Int.reduceToNat, Nat.reduceLT, Nat.reduceEqDiff, Nat.reduceAdd, Nat.reduceLeDiff, Nat.reduceSub, Nat.reduceMul, ↓reduceIte, reduceCtorEq, wrap_id, w_ite_ne, w_ite_lt, Nat.sub_zero, Nat.sub_self]
        exact no 46 (by simp only [takeH, hok, if_true, if_pos hx, if_pos hn, ha])
    · have he : rdE l x = 40 := by simp only [rdE, hok, if_true, if_neg hx]
      try simp (disch := omega) only [go_sem, Int.reduceEq, Int.reduceLT, Int.reduceLE, Int.reduceToNat, Nat.reduceLT, Nat.reduceEqDiff, Nat.reduceAdd, Nat.reduceLeDiff, Nat.reduceSub, Nat.reduceMul, ↓reduceIte, reduceCtorEq, wrap_id, w_ite_ne, w_ite_lt, Nat.sub_zero, Nat.sub_self, he]
      exact no 40 (by simp only [takeH, hok, if_true, if_neg hx])
  · have he : rdE l x = 53 := by simp [rdE, hok]
    try simp (disch := omega) only [go_sem, Int.reduceEq, Int.reduceLT, Int.reduceLE, Int.reduceToNat, Nat.reduceLT, Nat.reduceEqDiff, Nat.reduceAdd, Nat.reduceLeDiff, Nat.reduceSub, Nat.reduceMul, ↓reduceIte, reduceCtorEq, wrap_id, w_ite_ne, w_ite_lt, Nat.sub_zero, Nat.sub_self, he]
    exact no 53 (by simp [takeH, hok])
theorem ok_ref38_Take (l : List Hd) (x n : Int) (hl : l.length ≤ 9223372036854775807) : PC prog n_ref38_Take [.list 2 (hds l), .int .i64 x, .int .i64 n] (.tuple [.list 2 (hds (takeH l x n).1), .int .i64 (takeH l x n).2]) := by
  have no : ∀ {σ : St} (e : Int), takeH l x n = ([], e) → Pub σ (.tuple [.nil, .int .i64 e]) (.tuple [.list 2 (hds (takeH l x n).1), .int .i64 (takeH l x n).2]) := by
    intro σ e h
    rw [h]
    exact Pub.pair (.nl 2) (Pub.of_eq rfl rfl)
  refine PC_of_body b_ref38_Take (by simp) ?_
  simp only [c_ref38_Take, go_sem, Int.reduceEq, Int.reduceLT, Int.reduceLE, Int.reduceToNat, Nat.reduceLT, Nat.reduceEqDiff, Nat.reduceAdd, Nat.reduceLeDiff, Nat.reduceSub, Nat.reduceMul, ↓reduceIte, reduceCtorEq, w_app_nl]
  refine call_pc (ok_ref38_Check l hl) (by simp [go_sem, hds_pur]) ?_
  by_cases hok : hdOk (-1) l = true
  · have hlen := hdOk_len (by omega) (by omega) hok
    have he : hdE l = 0 := by simp [hdE, hok]
    try simp (disch := omega) only [go_sem, Int.reduceEq, Int.reduceLT, Int.reduceLE, Int.reduceToNat, Nat.reduceLT, Nat.reduceEqDiff, Nat.reduceAdd, Nat.reduceLeDiff, Nat.reduceSub, Nat.reduceMul, ↓reduceIte, reduceCtorEq, wrap_id, w_ite_ne, w_ite_lt, Nat.sub_zero, Nat.sub_self, he]
    refine gd_fd rfl (fun g1 => ?_) (fun g1 => ?_) <;> try simp (disch := omega) only [go_sem, Int.reduceEq, Int.reduceLT, Int.reduceLE, Int.reduceToNat, Nat.reduceLT, Nat.reduceEqDiff, Nat.reduceAdd, Nat.reduceLeDiff, Nat.reduceSub, Nat.reduceMul, ↓reduceIte, reduceCtorEq, wrap_id, w_ite_ne, w_ite_lt, Nat.sub_zero, Nat.sub_self]
    · exact no 40 (by simp [takeH, hok]; omega)
    refine cond_d (fun g2 => ?_) (fun g2 => ?_) <;> try simp (disch := omega) only [go_sem, Int.reduceEq, Int.reduceLT, Int.reduceLE, Int.reduceToNat, Nat.reduceLT, Nat.reduceEqDiff, Nat.reduceAdd, Nat.reduceLeDiff, Nat.reduceSub, Nat.reduceMul, ↓reduceIte, reduceCtorEq, wrap_id, w_ite_ne, w_ite_lt, Nat.sub_zero, Nat.sub_self]
    · exact no 40 (by simp [takeH, hok]; omega)
    have hx : 0 ≤ x ∧ x < 6 := by omega
    refine gd_fd rfl (fun g3 => ?_) (fun g3 => ?_) <;> try simp (disch := omega) only [go_sem, Int.reduceEq, Int.reduceLT, Int.reduceLE, Int.reduceToNat, Nat.reduceLT, Nat.reduceEqDiff, Nat.reduceAdd, Nat.reduceLeDiff, Nat.reduceSub, Nat.reduceMul, ↓reduceIte, reduceCtorEq, wrap_id, w_ite_ne, w_ite_lt, Nat.sub_zero, Nat.sub_self]
    · exact no 6 (by simp [takeH, hok, hx]; omega)
    refine cond_d (fun g4 => ?_) (fun g4 => ?_) <;> try simp (disch := omega) only [go_sem, Int.reduceEq, Int.reduceLT, Int.reduceLE, Int.reduceToNat, Nat.reduceLT, Nat.reduceEqDiff, Nat.reduceAdd, Nat.reduceLeDiff, Nat.reduceSub, Nat.reduceMul, ↓reduceIte, reduceCtorEq, wrap_id, w_ite_ne, w_ite_lt, Nat.sub_zero, Nat.sub_self]
    · exact no 6 (by simp [takeH, hok, hx]; omega)
    have hn : 0 ≤ n ∧ n ≤ 16777216 := by omega
    refine call_pc (ok_ref38_By l x hl) (by simp [go_sem, hds_pur]) ?_
    have hb : byB l x = l.any fun h => decide (h.s = x) := by simp [byB, hok]
    rw [hb]
    cases ha : l.any fun h => decide (h.s = x)
    · have htk : takeH l x n = (l.take (bsI (l.map Hd.s) x) ++ ⟨x, n⟩ :: l.drop (bsI (l.map Hd.s) x), 0) := by simp only [takeH, hok, if_true, if_pos hx, if_pos hn, ha]; rfl
      rw [htk]
      try simp (disch := omega) only [go_sem, Int.reduceEq, Int.reduceLT, Int.reduceLE, Int.reduceToNat, Nat.reduceLT, Nat.reduceEqDiff, Nat.reduceAdd, Nat.reduceLeDiff, Nat.reduceSub, Nat.reduceMul, ↓reduceIte, reduceCtorEq, wrap_id, w_ite_ne, w_ite_lt, Nat.sub_zero, Nat.sub_self, hds_length]
      refine awp_upF [8, 32, 33, 34, 35, 36, 37, 38, 39, 40, 41, 42, 43, 44, 45, 46] (by kernel_rfl) l.length (fun k e σ => e 8 = .int .i64 k ∧ k ≤ bsI (l.map Hd.s) x) ?_ ?_
      · exact ⟨(by first | ((try simp (maxSteps := 1000000) only [go_sem, Int.reduceEq, Int.reduceLT, Int.reduceLE, Int.reduceToNat, Nat.reduceLT, Nat.reduceEqDiff, Nat.reduceAdd, Nat.reduceLeDiff, Nat.reduceSub, Nat.reduceMul, ↓reduceIte, reduceCtorEq, w_app_nl]); done) | ((try simp (maxSteps := 1000000) only [go_sem, Int.reduceEq, Int.reduceLT, Int.reduceLE, Int.reduceToNat, Nat.reduceLT, Nat.reduceEqDiff, Nat.reduceAdd, Nat.reduceLeDiff, Nat.reduceSub, Nat.reduceMul, ↓reduceIte, reduceCtorEq, w_app_nl]); rfl) | ((try simp (maxSteps := 1000000) (disch := omega) only [go_sem, Int.reduceEq, Int.reduceLT, Int.reduceLE, Int.reduceToNat, Nat.reduceLT, Nat.reduceEqDiff, Nat.reduceAdd, Nat.reduceLeDiff, Nat.reduceSub, Nat.reduceMul, ↓reduceIte, reduceCtorEq, w_app_nl, wrap_id, w_ite_ne, w_ite_lt]); rfl) | (simp (maxSteps := 1000000) (disch := omega) only [go_sem, Int.reduceEq, Int.reduceLT, Int.reduceLE, Int.reduceToNat, Nat.reduceLT, Nat.reduceEqDiff, Nat.reduceAdd, Nat.reduceLeDiff, Nat.reduceSub, Nat.reduceMul, ↓reduceIte, reduceCtorEq, w_app_nl, wrap_id, w_ite_ne, w_ite_lt]; done)), Nat.zero_le _⟩
      · rintro k fe ob c hk ⟨h8, hj⟩
        simp (maxSteps := 1000000) only [go_sem, Int.reduceEq, Int.reduceLT, Int.reduceLE, Int.reduceToNat, Nat.reduceLT, Nat.reduceEqDiff, Nat.reduceAdd, Nat.reduceLeDiff, Nat.reduceSub, Nat.reduceMul, ↓reduceIte, reduceCtorEq, w_app_nl] at h8
        try simp (disch := omega) only [go_sem, Int.reduceEq, Int.reduceLT, Int.reduceLE, Int.reduceToNat, Nat.reduceLT, Nat.reduceEqDiff, Nat.reduceAdd, Nat.reduceLeDiff, Nat.reduceSub, Nat.reduceMul, ↓reduceIte, reduceCtorEq, wrap_id, w_ite_ne, w_ite_lt, Nat.sub_zero, Nat.sub_self, h8, hds_length]
        have hin := bsI_le (l.map Hd.s) x
        rw [List.length_map] at hin
        refine gd_td rfl (fun g5 => ?_) (fun g5 => ?_)
        · have hkl : k < l.length := by omega
          have hk2 : l[k]? = some l[k] := List.getElem?_eq_getElem hkl
          have hkm : (l.map Hd.s)[k]? = some l[k].s := by simp [hk2]
          generalize l[k] = h at *
          try simp (disch := omega) only [go_sem, Int.reduceEq, Int.reduceLT, Int.reduceLE, Int.reduceToNat, Nat.reduceLT, Nat.reduceEqDiff, Nat.reduceAdd, Nat.reduceLeDiff, Nat.reduceSub, Nat.reduceMul, ↓reduceIte, reduceCtorEq, wrap_id, w_ite_ne, w_ite_lt, Nat.sub_zero, Nat.sub_self, h8, hds_length, hds_get, hk2, hdv, Option.map_some]
          repeat (refine And.intro (by first | omega | (rw [mxL]; omega) | (simp [maxLen]; done) | (simp [maxLen]; omega)) ?_)
          refine cond_d (fun g6 => ?_) (fun g6 => ?_) <;> try simp (disch := omega) only [go_sem, Int.reduceEq, Int.reduceLT, Int.reduceLE, Int.reduceToNat, Nat.reduceLT, Nat.reduceEqDiff, Nat.reduceAdd, Nat.reduceLeDiff, Nat.reduceSub, Nat.reduceMul, ↓reduceIte, reduceCtorEq, wrap_id, w_ite_ne, w_ite_lt, Nat.sub_zero, Nat.sub_self, h8]
          · refine up_next hkl ⟨(by first | ((try simp (maxSteps := 1000000) only [go_sem, Int.reduceEq, Int.reduceLT, Int.reduceLE, Int.reduceToNat, Nat.reduceLT, Nat.reduceEqDiff, Nat.reduceAdd, Nat.reduceLeDiff, Nat.reduceSub, Nat.reduceMul, ↓reduceIte, reduceCtorEq, w_app_nl]); done) | ((try simp (maxSteps := 1000000) only [go_sem, Int.reduceEq, Int.reduceLT, Int.reduceLE, Int.reduceToNat, Nat.reduceLT, Nat.reduceEqDiff, Nat.reduceAdd, Nat.reduceLeDiff, Nat.reduceSub, Nat.reduceMul, ↓reduceIte, reduceCtorEq, w_app_nl]); rfl) | ((try simp (maxSteps := 1000000) (disch := omega) only [go_sem, Int.reduceEq, Int.reduceLT, Int.reduceLE, Int.reduceToNat, Nat.reduceLT, Nat.reduceEqDiff, Nat.reduceAdd, Nat.reduceLeDiff, Nat.reduceSub, Nat.reduceMul, ↓reduceIte, reduceCtorEq, w_app_nl, wrap_id, w_ite_ne, w_ite_lt]); rfl) | (simp (maxSteps := 1000000) (disch := omega) only [go_sem, Int.reduceEq, Int.reduceLT, Int.reduceLE, Int.reduceToNat, Nat.reduceLT, Nat.reduceEqDiff, Nat.reduceAdd, Nat.reduceLeDiff, Nat.reduceSub, Nat.reduceMul, ↓reduceIte, reduceCtorEq, w_app_nl, wrap_id, w_ite_ne, w_ite_lt]; done)), ?_⟩
            rcases Nat.lt_or_ge k (bsI (l.map Hd.s) x) with h1 | h1
            · exact h1
            · have h2 : k = bsI (l.map Hd.s) x := by omega
              rw [h2] at hkm
              have := bsI_at hkm
              omega
          · have hbk : bsI (l.map Hd.s) x = k := Nat.le_antisymm (bsI_le_of hkm (by omega)) hj
            rw [hbk]
            try simp (disch := omega) only [go_sem, Int.reduceEq, Int.reduceLT, Int.reduceLE, Int.reduceToNat, Nat.reduceLT, Nat.reduceEqDiff, Nat.reduceAdd, Nat.reduceLeDiff, Nat.reduceSub, Nat.reduceMul, ↓reduceIte, reduceCtorEq, wrap_id, w_ite_ne, w_ite_lt, Nat.sub_zero, Nat.sub_self, h8, hds_length]
            refine ⟨by omega, by omega, ?_⟩
            refine app_slrs (es := 2) (b := 16) (L := []) (M := (hds l).take k) .nil (by simp [hds_length]; omega) (by simp [hds_length]; omega) fun X1 τ1 hR1 hK1 => ?_
            try simp (disch := omega) only [go_sem, Int.reduceEq, Int.reduceLT, Int.reduceLE, Int.reduceToNat, Nat.reduceLT, Nat.reduceEqDiff, Nat.reduceAdd, Nat.reduceLeDiff, Nat.reduceSub, Nat.reduceMul, ↓reduceIte, reduceCtorEq, wrap_id, w_ite_ne, w_ite_lt, Nat.sub_zero, Nat.sub_self, h8, hR1.one, hR1.flat, hR1.cells]
            refine app_slr hR1 (by simp [hds_length]; omega) (by simp [hds_length]; omega) fun X2 τ2 hR2 hK2 => ?_
            try simp (disch := omega) only [go_sem, Int.reduceEq, Int.reduceLT, Int.reduceLE, Int.reduceToNat, Nat.reduceLT, Nat.reduceEqDiff, Nat.reduceAdd, Nat.reduceLeDiff, Nat.reduceSub, Nat.reduceMul, ↓reduceIte, reduceCtorEq, wrap_id, w_ite_ne, w_ite_lt, Nat.sub_zero, Nat.sub_self, h8, hR2.one, hR2.flat, hR2.cells, hds_length]
            refine ⟨by omega, by omega, ?_⟩
            refine app_slrs (M := (hds l).drop k) hR2 (by simp [hds_length]; omega) (by simp [hds_length]; omega) fun X3 τ3 hR3 hK3 => ?_
            rw [show [] ++ (hds l).take k ++ [AV.agg [.int .i64 x, .int .i64 n]] ++ (hds l).drop k = hds (l.take k ++ ⟨x, n⟩ :: l.drop k) by simp [hds, hdv]] at hR3
            try simp (disch := omega) only [go_sem, Int.reduceEq, Int.reduceLT, Int.reduceLE, Int.reduceToNat, Nat.reduceLT, Nat.reduceEqDiff, Nat.reduceAdd, Nat.reduceLeDiff, Nat.reduceSub, Nat.reduceMul, ↓reduceIte, reduceCtorEq, wrap_id, w_ite_ne, w_ite_lt, Nat.sub_zero, Nat.sub_self, h8]
            exact Pub.pair (hR3.pub (fun _ _ _ => rfl) (hds_pur _) (hds_ok _)) (Pub.of_eq rfl rfl)
        · have hbk : bsI (l.map Hd.s) x = k := by omega
          rw [hbk]
          try simp (disch := omega) only [go_sem, Int.reduceEq, Int.reduceLT, Int.reduceLE, Int.reduceToNat, Nat.reduceLT, Nat.reduceEqDiff, Nat.reduceAdd, Nat.reduceLeDiff, Nat.reduceSub, Nat.reduceMul, ↓reduceIte, reduceCtorEq, wrap_id, w_ite_ne, w_ite_lt, Nat.sub_zero, Nat.sub_self, h8, hds_length]
          refine ⟨by omega, by omega, ?_⟩
          refine app_slrs (es := 2) (b := 16) (L := []) (M := (hds l).take k) .nil (by simp [hds_length]; omega) (by simp [hds_length]; omega) fun X1 τ1 hR1 hK1 => ?_
          try simp (disch := omega) only [go_sem, Int.reduceEq, Int.reduceLT, Int.reduceLE, Int.reduceToNat, Nat.reduceLT, Nat.reduceEqDiff, Nat.reduceAdd, Nat.reduceLeDiff, Nat.reduceSub, Nat.reduceMul, ↓reduceIte, reduceCtorEq, wrap_id, w_ite_ne, w_ite_lt, Nat.sub_zero, Nat.sub_self, h8, hR1.one, hR1.flat, hR1.cells]
          refine app_slr hR1 (by simp [hds_length]; omega) (by simp [hds_length]; omega) fun X2 τ2 hR2 hK2 => ?_
          try simp (disch := omega) only [go_sem, Int.reduceEq, Int.reduceLT, Int.reduceLE, Int.reduceToNat, Nat.reduceLT, Nat.reduceEqDiff, Nat.reduceAdd, Nat.reduceLeDiff, Nat.reduceSub, Nat.reduceMul, ↓reduceIte, reduceCtorEq, wrap_id, w_ite_ne, w_ite_lt, Nat.sub_zero, Nat.sub_self, h8, hR2.one, hR2.flat, hR2.cells, hds_length]
          refine ⟨by omega, by omega, ?_⟩
          refine app_slrs (M := (hds l).drop k) hR2 (by simp [hds_length]; omega) (by simp [hds_length]; omega) fun X3 τ3 hR3 hK3 => ?_
          rw [show [] ++ (hds l).take k ++ [AV.agg [.int .i64 x, .int .i64 n]] ++ (hds l).drop k = hds (l.take k ++ ⟨x, n⟩ :: l.drop k) by simp [hds, hdv]] at hR3
          try simp (disch := omega) only [go_sem, Int.reduceEq, Int.reduceLT, Int.reduceLE, Int.reduceToNat, Nat.reduceLT, Nat.reduceEqDiff, Nat.reduceAdd, Nat.reduceLeDiff, Nat.reduceSub, Nat.reduceMul, ↓reduceIte, reduceCtorEq, wrap_id, w_ite_ne, w_ite_lt, Nat.sub_zero, Nat.sub_self, h8]
          exact Pub.pair (hR3.pub (fun _ _ _ => rfl) (hds_pur _) (hds_ok _)) (Pub.of_eq rfl rfl)
    · try simp (disch := omega) only [go_sem, Int.reduceEq, Int.reduceLT, Int.reduceLE, Int.reduceToNat, Nat.reduceLT, Nat.reduceEqDiff, Nat.reduceAdd, Nat.reduceLeDiff, Nat.reduceSub, Nat.reduceMul, ↓reduceIte, reduceCtorEq, wrap_id, w_ite_ne, w_ite_lt, Nat.sub_zero, Nat.sub_self]
      exact no 46 (by simp only [takeH, hok, if_true, if_pos hx, if_pos hn, ha])
  · have he : hdE l = 53 := by simp [hdE, hok]
    try simp (disch := omega) only [go_sem, Int.reduceEq, Int.reduceLT, Int.reduceLE, Int.reduceToNat, Nat.reduceLT, Nat.reduceEqDiff, Nat.reduceAdd, Nat.reduceLeDiff, Nat.reduceSub, Nat.reduceMul, ↓reduceIte, reduceCtorEq, wrap_id, w_ite_ne, w_ite_lt, Nat.sub_zero, Nat.sub_self, he]
    exact no 53 (by simp [takeH, hok])
theorem ok_ref38_SameHands (a b : List Hd) (ha : a.length ≤ 9223372036854775807) : PC prog n_ref38_SameHands [.list 2 (hds a), .list 2 (hds b)] (.bool (decide (a = b))) := by
  refine PC_of_body b_ref38_SameHands (by simp) ?_
  simp only [c_ref38_SameHands, go_sem, Int.reduceEq, Int.reduceLT, Int.reduceLE, Int.reduceToNat, Nat.reduceLT, Nat.reduceEqDiff, Nat.reduceAdd, Nat.reduceLeDiff, Nat.reduceSub, Nat.reduceMul, ↓reduceIte, reduceCtorEq, w_app_nl, hds_length]
  refine cond_n (fun h => ?_) (fun h => ?_) <;> try simp (disch := omega) only [go_sem, Int.reduceEq, Int.reduceLT, Int.reduceLE, Int.reduceToNat, Nat.reduceLT, Nat.reduceEqDiff, Nat.reduceAdd, Nat.reduceLeDiff, Nat.reduceSub, Nat.reduceMul, ↓reduceIte, reduceCtorEq, wrap_id, w_ite_ne, w_ite_lt, Nat.sub_zero, Nat.sub_self, hds_length]
  · exact Pub.of_eq (by congr 1; simp; intro hab; exact h (by rw [hab])) rfl
  have hl : a.length = b.length := by omega
  refine awp_upF [4, 5, 13, 14, 15, 16, 17, 18, 19, 20, 21, 22, 23, 24, 25] (by kernel_rfl) a.length (fun k e _ => e 13 = .int .i64 k ∧ ∀ j, j < k → a[j]? = b[j]?) ?_ ?_
  · exact ⟨(by first | ((try simp (maxSteps := 1000000) only [go_sem, Int.reduceEq, Int.reduceLT, Int.reduceLE, Int.reduceToNat, Nat.reduceLT, Nat.reduceEqDiff, Nat.reduceAdd, Nat.reduceLeDiff, Nat.reduceSub, Nat.reduceMul, ↓reduceIte, reduceCtorEq, w_app_nl]); done) | ((try simp (maxSteps := 1000000) only [go_sem, Int.reduceEq, Int.reduceLT, Int.reduceLE, Int.reduceToNat, Nat.reduceLT, Nat.reduceEqDiff, Nat.reduceAdd, Nat.reduceLeDiff, Nat.reduceSub, Nat.reduceMul, ↓reduceIte, reduceCtorEq, w_app_nl]); rfl) | ((try simp (maxSteps := 1000000) (disch := omega) only [go_sem, Int.reduceEq, Int.reduceLT, Int.reduceLE, Int.reduceToNat, Nat.reduceLT, Nat.reduceEqDiff, Nat.reduceAdd, Nat.reduceLeDiff, Nat.reduceSub, Nat.reduceMul, ↓reduceIte, reduceCtorEq, w_app_nl, wrap_id, w_ite_ne, w_ite_lt]); rfl) | (simp (maxSteps := 1000000) (disch := omega) only [go_sem, Int.reduceEq, Int.reduceLT, Int.reduceLE, Int.reduceToNat, Nat.reduceLT, Nat.reduceEqDiff, Nat.reduceAdd, Nat.reduceLeDiff, Nat.reduceSub, Nat.reduceMul, ↓reduceIte, reduceCtorEq, w_app_nl, wrap_id, w_ite_ne, w_ite_lt]; done)), by simp⟩
  · rintro k fe ob c hk ⟨h13, hj⟩
    simp (maxSteps := 1000000) only [go_sem, Int.reduceEq, Int.reduceLT, Int.reduceLE, Int.reduceToNat, Nat.reduceLT, Nat.reduceEqDiff, Nat.reduceAdd, Nat.reduceLeDiff, Nat.reduceSub, Nat.reduceMul, ↓reduceIte, reduceCtorEq, w_app_nl] at h13
    try simp (disch := omega) only [go_sem, Int.reduceEq, Int.reduceLT, Int.reduceLE, Int.reduceToNat, Nat.reduceLT, Nat.reduceEqDiff, Nat.reduceAdd, Nat.reduceLeDiff, Nat.reduceSub, Nat.reduceMul, ↓reduceIte, reduceCtorEq, wrap_id, w_ite_ne, w_ite_lt, Nat.sub_zero, Nat.sub_self, h13, hds_length]
    refine cond_d (fun hlt => ?_) (fun hge => ?_)
    · have hka : k < a.length := by omega
      have hga : a[k]? = some a[k] := List.getElem?_eq_getElem hka
      have hgb : b[k]? = some b[k] := List.getElem?_eq_getElem (by omega)
      generalize a[k] = x at *
      generalize b[k] = y at *
      try simp (disch := omega) only [go_sem, Int.reduceEq, Int.reduceLT, Int.reduceLE, Int.reduceToNat, Nat.reduceLT, Nat.reduceEqDiff, Nat.reduceAdd, Nat.reduceLeDiff, Nat.reduceSub, Nat.reduceMul, ↓reduceIte, reduceCtorEq, wrap_id, w_ite_ne, w_ite_lt, Nat.sub_zero, Nat.sub_self, h13, hds_length, hds_get, hga, hgb, hdv, Option.map_some]
      refine ⟨by omega, by omega, by omega, by omega, ?_⟩
      have hxy : (decide (x.s = y.s) && decide (x.t = y.t)) = decide (x = y) := by cases x; cases y; simp
      rw [hxy]
      refine cond_n (fun hne => ?_) (fun heq => ?_) <;> try simp (disch := omega) only [go_sem, Int.reduceEq, Int.reduceLT, Int.reduceLE, Int.reduceToNat, Nat.reduceLT, Nat.reduceEqDiff, Nat.reduceAdd, Nat.reduceLeDiff, Nat.reduceSub, Nat.reduceMul, ↓reduceIte, reduceCtorEq, wrap_id, w_ite_ne, w_ite_lt, Nat.sub_zero, Nat.sub_self, h13]
      · refine Pub.of_eq ?_ rfl
        congr 1
        simp only [Bool.false_eq, decide_eq_false_iff_not]
        intro hab
        subst hab
        rw [hga] at hgb
        exact hne (Option.some.inj hgb)
      · refine up_next hka ⟨(by first | ((try simp (maxSteps := 1000000) only [go_sem, Int.reduceEq, Int.reduceLT, Int.reduceLE, Int.reduceToNat, Nat.reduceLT, Nat.reduceEqDiff, Nat.reduceAdd, Nat.reduceLeDiff, Nat.reduceSub, Nat.reduceMul, ↓reduceIte, reduceCtorEq, w_app_nl]); done) | ((try simp (maxSteps := 1000000) only [go_sem, Int.reduceEq, Int.reduceLT, Int.reduceLE, Int.reduceToNat, Nat.reduceLT, Nat.reduceEqDiff, Nat.reduceAdd, Nat.reduceLeDiff, Nat.reduceSub, Nat.reduceMul, ↓reduceIte, reduceCtorEq, w_app_nl]); rfl) | ((try simp (maxSteps := 1000000) (disch := omega) only [go_sem, Int.reduceEq, Int.reduceLT, Int.reduceLE, Int.reduceToNat, Nat.reduceLT, Nat.reduceEqDiff, Nat.reduceAdd, Nat.reduceLeDiff, Nat.reduceSub, Nat.reduceMul, ↓reduceIte, reduceCtorEq, w_app_nl, wrap_id, w_ite_ne, w_ite_lt]); rfl) | (simp (maxSteps := 1000000) (disch := omega) only [go_sem, Int.reduceEq, Int.reduceLT, Int.reduceLE, Int.reduceToNat, Nat.reduceLT, Nat.reduceEqDiff, Nat.reduceAdd, Nat.reduceLeDiff, Nat.reduceSub, Nat.reduceMul, ↓reduceIte, reduceCtorEq, w_app_nl, wrap_id, w_ite_ne, w_ite_lt]; done)), ?_⟩
        intro j hj'
        by_cases e : j = k
        · subst e; rw [hga, hgb, heq]
        · exact hj j (by omega)
    · try simp (disch := omega) only [go_sem, Int.reduceEq, Int.reduceLT, Int.reduceLE, Int.reduceToNat, Nat.reduceLT, Nat.reduceEqDiff, Nat.reduceAdd, Nat.reduceLeDiff, Nat.reduceSub, Nat.reduceMul, ↓reduceIte, reduceCtorEq, wrap_id, w_ite_ne, w_ite_lt, Nat.sub_zero, Nat.sub_self]
      exact Pub.of_eq (by congr 1; simp; exact eq_of_get hl fun j hj' => hj j (by omega)) rfl
theorem ok_manual_Back (l : List Hd) (x n : Int) (hl : l.length ≤ 9223372036854775807) : PC prog n_manual_Back [.list 2 (hds l), .int .i64 x, .int .i64 n] (.tuple [.list 2 (hds (backH l x n).1), .int .i64 (backH l x n).2.1, .int .i64 (backH l x n).2.2]) := by
  have no : ∀ {σ : St} (e : Int), backH l x n = ([], 0, e) → Pub σ (.tuple [.nil, .int .i64 0, .int .i64 e]) (.tuple [.list 2 (hds (backH l x n).1), .int .i64 (backH l x n).2.1, .int .i64 (backH l x n).2.2]) := by
    intro σ e h
    rw [h]
    exact Pub.three (.nl 2) (Pub.of_eq rfl rfl) (Pub.of_eq rfl rfl)
  refine PC_of_body b_manual_Back (by simp) ?_
  simp only [c_manual_Back, go_sem, Int.reduceEq, Int.reduceLT, Int.reduceLE, Int.reduceToNat, Nat.reduceLT, Nat.reduceEqDiff, Nat.reduceAdd, Nat.reduceLeDiff, Nat.reduceSub, Nat.reduceMul, ↓reduceIte, reduceCtorEq, w_app_nl]
  refine call_pc (ok_manual_ready l x hl) (by simp [go_sem, hds_pur]) ?_
  by_cases hok : hdOk (-1) l = true
  · have hlen := hdOk_len (by omega) (by omega) hok
    by_cases hx : 0 ≤ x ∧ x < 6
    · have he : rdE l x = 0 := by simp [rdE, hok, hx]
      try simp (disch := omega) only [go_sem, Int.reduceEq, Int.reduceLT, Int.reduceLE, Int.reduceToNat, Nat.reduceLT, Nat.reduceEqDiff, Nat.reduceAdd, Nat.reduceLeDiff, Nat.reduceSub, Nat.reduceMul, ↓reduceIte, reduceCtorEq, wrap_id, w_ite_ne, w_ite_lt, Nat.sub_zero, Nat.sub_self, he]
      refine call_pc (ok_manual_find l x hok hx) (by simp [go_sem, hds_pur]) ?_
      cases ha : l.any fun h => decide (h.s = x)
      · rw [hd_any hok, ha]
        try simp (disch := omega) only [go_sem, Int.reduceEq, Int.reduceLT, Int.reduceLE, Int.reduceToNat, Nat.reduceLT, Nat.reduceEqDiff, Nat.reduceAdd, Nat.reduceLeDiff, Nat.reduceSub, Nat.reduceMul, ↓reduceIte, reduceCtorEq, wrap_id, w_ite_ne, w_ite_lt, Nat.sub_zero, Nat.sub_self]
        exact no 9 (by simp only [backH, hok, if_true, if_pos hx, ha]; rfl)
      · have hat := hd_any (x := x) hok
        rw [ha] at hat
        rw [hat]
        have hat := of_decide_eq_true hat
        generalize bsI (l.map Hd.s) x = i at *
        rw [List.getElem?_map] at hat
        obtain ⟨h, hi, rfl⟩ := Option.map_eq_some_iff.1 hat
        have hil := (List.getElem?_eq_some_iff.1 hi).1
        obtain ⟨e1, e2⟩ := hd_at (acc := -1) hok hi
        have hb := hdOk_lt hok h (List.mem_of_getElem? hi)
        try simp (disch := omega) only [go_sem, Int.reduceEq, Int.reduceLT, Int.reduceLE, Int.reduceToNat, Nat.reduceLT, Nat.reduceEqDiff, Nat.reduceAdd, Nat.reduceLeDiff, Nat.reduceSub, Nat.reduceMul, ↓reduceIte, reduceCtorEq, wrap_id, w_ite_ne, w_ite_lt, Nat.sub_zero, Nat.sub_self, hds_length, hds_get, hi, hdv, Option.map_some]
        repeat (refine And.intro (by first | omega | (rw [mxL]; omega) | (simp [maxLen]; done) | (simp [maxLen]; omega)) ?_)
        refine gd_fd rfl (fun g1 => ?_) (fun g1 => ?_) <;> try simp (disch := omega) only [go_sem, Int.reduceEq, Int.reduceLT, Int.reduceLE, Int.reduceToNat, Nat.reduceLT, Nat.reduceEqDiff, Nat.reduceAdd, Nat.reduceLeDiff, Nat.reduceSub, Nat.reduceMul, ↓reduceIte, reduceCtorEq, wrap_id, w_ite_ne, w_ite_lt, Nat.sub_zero, Nat.sub_self]
        · exact no 6 (by simp only [backH, hok, if_true, if_pos hx, ha, e1]; rw [if_neg (by omega)])
        refine cond_d (fun g2 => ?_) (fun g2 => ?_) <;> try simp (disch := omega) only [go_sem, Int.reduceEq, Int.reduceLT, Int.reduceLE, Int.reduceToNat, Nat.reduceLT, Nat.reduceEqDiff, Nat.reduceAdd, Nat.reduceLeDiff, Nat.reduceSub, Nat.reduceMul, ↓reduceIte, reduceCtorEq, wrap_id, w_ite_ne, w_ite_lt, Nat.sub_zero, Nat.sub_self]
        · exact no 6 (by simp only [backH, hok, if_true, if_pos hx, ha, e1]; rw [if_neg (by omega)])
        have htk : backH l h.s n = (l.filter (fun y => !decide (y.s = h.s)), h.t, 0) := by simp only [backH, hok, if_true, if_pos hx, ha, e1]; rw [if_pos (by omega)]
        rw [htk]
        refine (hcl_slices_Clone__Hand _ (hds l) (by rw [hds_length]; omega)).mono ?_
        rintro _ τ ⟨id, g, rfl, q1, q2, q3, q4⟩
        obtain ⟨ob, m, c⟩ := τ
        simp only at q1 q2 q3 q4
        try simp (disch := omega) only [go_sem, Int.reduceEq, Int.reduceLT, Int.reduceLE, Int.reduceToNat, Nat.reduceLT, Nat.reduceEqDiff, Nat.reduceAdd, Nat.reduceLeDiff, Nat.reduceSub, Nat.reduceMul, ↓reduceIte, reduceCtorEq, wrap_id, w_ite_ne, w_ite_lt, Nat.sub_zero, Nat.sub_self]
        have hD := hc_slices_Delete__Hand ⟨ob, m, c⟩ id g ty_el_Hand (hds l) i (i + 1) q3 (by omega) (by rw [hds_length]; omega) (by rw [hds_length]; omega)
        refine call_hc hD ?_
        try simp (disch := omega) only [go_sem, Int.reduceEq, Int.reduceLT, Int.reduceLE, Int.reduceToNat, Nat.reduceLT, Nat.reduceEqDiff, Nat.reduceAdd, Nat.reduceLeDiff, Nat.reduceSub, Nat.reduceMul, ↓reduceIte, reduceCtorEq, wrap_id, w_ite_ne, w_ite_lt, Nat.sub_zero, Nat.sub_self]
        refine Pub.three (Pub.of_sl (l := hds (l.filter fun y => !decide (y.s = h.s))) (ty := ty_el_Hand) (ro := false) (ap := true) ?_ ?_ (hds_pur _) (hds_ok _)) (Pub.of_eq rfl rfl) (Pub.of_eq rfl rfl)
        · simp only [upd_same]
          rw [← e2]
          simp [hds]
        · rw [← e2]
          simp [hds_length]; omega
    · have he : rdE l x = 40 := by simp only [rdE, hok, if_true, if_neg hx]
      try simp (disch := omega) only [go_sem, Int.reduceEq, Int.reduceLT, Int.reduceLE, Int.reduceToNat, Nat.reduceLT, Nat.reduceEqDiff, Nat.reduceAdd, Nat.reduceLeDiff, Nat.reduceSub, Nat.reduceMul, ↓reduceIte, reduceCtorEq, wrap_id, w_ite_ne, w_ite_lt, Nat.sub_zero, Nat.sub_self, he]
      exact no 40 (by simp only [backH, hok, if_true, if_neg hx])
  · have he : rdE l x = 53 := by simp [rdE, hok]
    try simp (disch := omega) only [go_sem, Int.reduceEq, Int.reduceLT, Int.reduceLE, Int.reduceToNat, Nat.reduceLT, Nat.reduceEqDiff, Nat.reduceAdd, Nat.reduceLeDiff, Nat.reduceSub, Nat.reduceMul, ↓reduceIte, reduceCtorEq, wrap_id, w_ite_ne, w_ite_lt, Nat.sub_zero, Nat.sub_self, he]
    exact no 53 (by simp [backH, hok])
theorem ok_ref38_Back (l : List Hd) (x n : Int) (hl : l.length ≤ 9223372036854775807) : PC prog n_ref38_Back [.list 2 (hds l), .int .i64 x, .int .i64 n] (.tuple [.list 2 (hds (backH l x n).1), .int .i64 (backH l x n).2.1, .int .i64 (backH l x n).2.2]) := by
  have no : ∀ {σ : St} (e : Int), backH l x n = ([], 0, e) → Pub σ (.tuple [.nil, .int .i64 0, .int .i64 e]) (.tuple [.list 2 (hds (backH l x n).1), .int .i64 (backH l x n).2.1, .int .i64 (backH l x n).2.2]) := by
    intro σ e h
    rw [h]
    exact Pub.three (.nl 2) (Pub.of_eq rfl rfl) (Pub.of_eq rfl rfl)
  refine PC_of_body b_ref38_Back (by simp) ?_
  simp only [c_ref38_Back, go_sem, Int.reduceEq, Int.reduceLT, Int.reduceLE, Int.reduceToNat, Nat.reduceLT, Nat.reduceEqDiff, Nat.reduceAdd, Nat.reduceLeDiff, Nat.reduceSub, Nat.reduceMul, ↓reduceIte, reduceCtorEq, w_app_nl]
  refine call_pc (ok_ref38_Check l hl) (by simp [go_sem, hds_pur]) ?_
  by_cases hok : hdOk (-1) l = true
  · have hlen := hdOk_len (by omega) (by omega) hok
    have he : hdE l = 0 := by simp [hdE, hok]
    try simp (disch := omega) only [go_sem, Int.reduceEq, Int.reduceLT, Int.reduceLE, Int.reduceToNat, Nat.reduceLT, Nat.reduceEqDiff, Nat.reduceAdd, Nat.reduceLeDiff, Nat.reduceSub, Nat.reduceMul, ↓reduceIte, reduceCtorEq, wrap_id, w_ite_ne, w_ite_lt, Nat.sub_zero, Nat.sub_self, he]
    refine gd_fd rfl (fun g1 => ?_) (fun g1 => ?_) <;> try simp (disch := omega) only [go_sem, Int.reduceEq, Int.reduceLT, Int.reduceLE, Int.reduceToNat, Nat.reduceLT, Nat.reduceEqDiff, Nat.reduceAdd, Nat.reduceLeDiff, Nat.reduceSub, Nat.reduceMul, ↓reduceIte, reduceCtorEq, wrap_id, w_ite_ne, w_ite_lt, Nat.sub_zero, Nat.sub_self]
    · exact no 40 (by simp [backH, hok]; omega)
    refine cond_d (fun g2 => ?_) (fun g2 => ?_) <;> try simp (disch := omega) only [go_sem, Int.reduceEq, Int.reduceLT, Int.reduceLE, Int.reduceToNat, Nat.reduceLT, Nat.reduceEqDiff, Nat.reduceAdd, Nat.reduceLeDiff, Nat.reduceSub, Nat.reduceMul, ↓reduceIte, reduceCtorEq, wrap_id, w_ite_ne, w_ite_lt, Nat.sub_zero, Nat.sub_self]
    · exact no 40 (by simp [backH, hok]; omega)
    have hx : 0 ≤ x ∧ x < 6 := by omega
    try simp (disch := omega) only [go_sem, Int.reduceEq, Int.reduceLT, Int.reduceLE, Int.reduceToNat, Nat.reduceLT, Nat.reduceEqDiff, Nat.reduceAdd, Nat.reduceLeDiff, Nat.reduceSub, Nat.reduceMul, ↓reduceIte, reduceCtorEq, wrap_id, w_ite_ne, w_ite_lt, Nat.sub_zero, Nat.sub_self, hds_length]
    refine awp_upG [9, 10, 12, 24, 25, 26, 27, 28, 29, 30, 31, 32, 33, 34, 35, 36, 37, 38] (by kernel_rfl) l.length (fun k e σ => e 24 = .int .i64 k ∧ SlR 2 60 σ (hds ((l.take k).filter fun h => !decide (h.s = x))) (e 9) ∧ e 10 = .int .i64 ((l.take k).foldl (sinH x) (-1))) ?_ ?_
    · exact ⟨(by first | ((try simp (maxSteps := 1000000) only [go_sem, Int.reduceEq, Int.reduceLT, Int.reduceLE, Int.reduceToNat, Nat.reduceLT, Nat.reduceEqDiff, Nat.reduceAdd, Nat.reduceLeDiff, Nat.reduceSub, Nat.reduceMul, ↓reduceIte, reduceCtorEq, w_app_nl]); done) | ((try simp (maxSteps := 1000000) only [go_sem, Int.reduceEq, Int.reduceLT, Int.reduceLE, Int.reduceToNat, Nat.reduceLT, Nat.reduceEqDiff, Nat.reduceAdd, Nat.reduceLeDiff, Nat.reduceSub, Nat.reduceMul, ↓reduceIte, reduceCtorEq, w_app_nl]); rfl) | ((try simp (maxSteps := 1000000) (disch := omega) only [go_sem, Int.reduceEq, Int.reduceLT, Int.reduceLE, Int.reduceToNat, Nat.reduceLT, Nat.reduceEqDiff, Nat.reduceAdd, Nat.reduceLeDiff, Nat.reduceSub, Nat.reduceMul, ↓reduceIte, reduceCtorEq, w_app_nl, wrap_id, w_ite_ne, w_ite_lt]); rfl) | (simp (maxSteps := 1000000) (disch := omega) only [go_sem, Int.reduceEq, Int.reduceLT, Int.reduceLE, Int.reduceToNat, Nat.reduceLT, Nat.reduceEqDiff, Nat.reduceAdd, Nat.reduceLeDiff, Nat.reduceSub, Nat.reduceMul, ↓reduceIte, reduceCtorEq, w_app_nl, wrap_id, w_ite_ne, w_ite_lt]; done)), by try simp (disch := omega) only [go_sem, Int.reduceEq, Int.reduceLT, Int.reduceLE, Int.reduceToNat, Nat.reduceLT, Nat.reduceEqDiff, Nat.reduceAdd, Nat.reduceLeDiff, Nat.reduceSub, Nat.reduceMul, ↓reduceIte, reduceCtorEq, wrap_id, w_ite_ne, w_ite_lt, Nat.sub_zero, Nat.sub_self]; exact .nil, (by first | ((try simp (maxSteps := 1000000) only [go_sem, Int.reduceEq, Int.reduceLT, Int.reduceLE, Int.reduceToNat, Nat.reduceLT, Nat.reduceEqDiff, Nat.reduceAdd, Nat.reduceLeDiff, Nat.reduceSub, Nat.reduceMul, ↓reduceIte, reduceCtorEq, w_app_nl]); done) | ((try simp (maxSteps := 1000000) only [go_sem, Int.reduceEq, Int.reduceLT, Int.reduceLE, Int.reduceToNat, Nat.reduceLT, Nat.reduceEqDiff, Nat.reduceAdd, Nat.reduceLeDiff, Nat.reduceSub, Nat.reduceMul, ↓reduceIte, reduceCtorEq, w_app_nl]); rfl) | ((try simp (maxSteps := 1000000) (disch := omega) only [go_sem, Int.reduceEq, Int.reduceLT, Int.reduceLE, Int.reduceToNat, Nat.reduceLT, Nat.reduceEqDiff, Nat.reduceAdd, Nat.reduceLeDiff, Nat.reduceSub, Nat.reduceMul, ↓reduceIte, reduceCtorEq, w_app_nl, wrap_id, w_ite_ne, w_ite_lt]); rfl) | (simp (maxSteps := 1000000) (disch := omega) only [go_sem, Int.reduceEq, Int.reduceLT, Int.reduceLE, Int.reduceToNat, Nat.reduceLT, Nat.reduceEqDiff, Nat.reduceAdd, Nat.reduceLeDiff, Nat.reduceSub, Nat.reduceMul, ↓reduceIte, reduceCtorEq, w_app_nl, wrap_id, w_ite_ne, w_ite_lt]; done))⟩
    · rintro k fe ob m c hk hm ⟨h24, hR, h10⟩
      simp (maxSteps := 1000000) only [go_sem, Int.reduceEq, Int.reduceLT, Int.reduceLE, Int.reduceToNat, Nat.reduceLT, Nat.reduceEqDiff, Nat.reduceAdd, Nat.reduceLeDiff, Nat.reduceSub, Nat.reduceMul, ↓reduceIte, reduceCtorEq, w_app_nl] at h24 hR h10
      obtain ⟨X, h9⟩ : ∃ X, fe 9 = X := ⟨_, rfl⟩
      rw [h9] at hR
      have hfl : ((l.take k).filter fun h => !decide (h.s = x)).length ≤ 6 := Nat.le_trans (List.length_filter_le _ _) (by simp; omega)
      try simp (disch := omega) only [go_sem, Int.reduceEq, Int.reduceLT, Int.reduceLE, Int.reduceToNat, Nat.reduceLT, Nat.reduceEqDiff, Nat.reduceAdd, Nat.reduceLeDiff, Nat.reduceSub, Nat.reduceMul, ↓reduceIte, reduceCtorEq, wrap_id, w_ite_ne, w_ite_lt, Nat.sub_zero, Nat.sub_self, h24, hds_length]
      refine cond_d (fun hlt => ?_) (fun hge => ?_)
      · have hkl : k < l.length := by omega
        have hk2 : l[k]? = some l[k] := List.getElem?_eq_getElem hkl
        have hf1 : (l.take (k + 1)).filter (fun h => !decide (h.s = x)) = (l.take k).filter (fun h => !decide (h.s = x)) ++ (if l[k].s = x then [] else [l[k]]) := by
          rw [List.take_add_one, hk2, List.filter_append]
          by_cases e : l[k].s = x <;> simp [e]
        have hf2 : (l.take (k + 1)).foldl (sinH x) (-1) = if l[k].s = x then l[k].t else (l.take k).foldl (sinH x) (-1) := by
          rw [List.take_add_one, hk2, List.foldl_append]
          simp [sinH]
        generalize l[k] = h at *
        try simp (disch := omega) only [go_sem, Int.reduceEq, Int.reduceLT, Int.reduceLE, Int.reduceToNat, Nat.reduceLT, Nat.reduceEqDiff, Nat.reduceAdd, Nat.reduceLeDiff, Nat.reduceSub, Nat.reduceMul, ↓reduceIte, reduceCtorEq, wrap_id, w_ite_ne, w_ite_lt, Nat.sub_zero, Nat.sub_self, h24, hds_length, hds_get, hk2, hdv, Option.map_some]
        repeat (refine And.intro (by first | omega | (rw [mxL]; omega) | (simp [maxLen]; done) | (simp [maxLen]; omega)) ?_)
        refine cond_d (fun g => ?_) (fun g => ?_) <;> try simp (disch := omega) only [go_sem, Int.reduceEq, Int.reduceLT, Int.reduceLE, Int.reduceToNat, Nat.reduceLT, Nat.reduceEqDiff, Nat.reduceAdd, Nat.reduceLeDiff, Nat.reduceSub, Nat.reduceMul, ↓reduceIte, reduceCtorEq, wrap_id, w_ite_ne, w_ite_lt, Nat.sub_zero, Nat.sub_self, h24, h9, h10]
        · rw [if_pos g] at hf1 hf2
          refine up_nextG m hkl hm ⟨(by first | ((try simp (maxSteps := 1000000) only [go_sem, Int.reduceEq, Int.reduceLT, Int.reduceLE, Int.reduceToNat, Nat.reduceLT, Nat.reduceEqDiff, Nat.reduceAdd, Nat.reduceLeDiff, Nat.reduceSub, Nat.reduceMul, ↓reduceIte, reduceCtorEq, w_app_nl]); done) | ((try simp (maxSteps := 1000000) only [go_sem, Int.reduceEq, Int.reduceLT, Int.reduceLE, Int.reduceToNat, Nat.reduceLT, Nat.reduceEqDiff, Nat.reduceAdd, Nat.reduceLeDiff, Nat.reduceSub, Nat.reduceMul, ↓reduceIte, reduceCtorEq, w_app_nl]); rfl) | ((try simp (maxSteps := 1000000) (disch := omega) only [go_sem, Int.reduceEq, Int.reduceLT, Int.reduceLE, Int.reduceToNat, Nat.reduceLT, Nat.reduceEqDiff, Nat.reduceAdd, Nat.reduceLeDiff, Nat.reduceSub, Nat.reduceMul, ↓reduceIte, reduceCtorEq, w_app_nl, wrap_id, w_ite_ne, w_ite_lt]); rfl) | (simp (maxSteps := 1000000) (disch := omega) only [go_sem, Int.reduceEq, Int.reduceLT, Int.reduceLE, Int.reduceToNat, Nat.reduceLT, Nat.reduceEqDiff, Nat.reduceAdd, Nat.reduceLeDiff, Nat.reduceSub, Nat.reduceMul, ↓reduceIte, reduceCtorEq, w_app_nl, wrap_id, w_ite_ne, w_ite_lt]; done)), ?_, ?_⟩
          · try simp (disch := omega) only [go_sem, Int.reduceEq, Int.reduceLT, Int.reduceLE, Int.reduceToNat, Nat.reduceLT, Nat.reduceEqDiff, Nat.reduceAdd, Nat.reduceLeDiff, Nat.reduceSub, Nat.reduceMul, ↓reduceIte, reduceCtorEq, wrap_id, w_ite_ne, w_ite_lt, Nat.sub_zero, Nat.sub_self, h9]
            rw [hf1, List.append_nil]
            refine hR.move (Nat.le_refl _) fun i hi _ => ?_
            simp only at hi
            try simp (disch := omega) only [go_sem, Int.reduceEq, Int.reduceLT, Int.reduceLE, Int.reduceToNat, Nat.reduceLT, Nat.reduceEqDiff, Nat.reduceAdd, Nat.reduceLeDiff, Nat.reduceSub, Nat.reduceMul, ↓reduceIte, reduceCtorEq, wrap_id, w_ite_ne, w_ite_lt, Nat.sub_zero, Nat.sub_self]
          · try simp (disch := omega) only [go_sem, Int.reduceEq, Int.reduceLT, Int.reduceLE, Int.reduceToNat, Nat.reduceLT, Nat.reduceEqDiff, Nat.reduceAdd, Nat.reduceLeDiff, Nat.reduceSub, Nat.reduceMul, ↓reduceIte, reduceCtorEq, wrap_id, w_ite_ne, w_ite_lt, Nat.sub_zero, Nat.sub_self]
            rw [hf2]
        · rw [if_neg g] at hf1 hf2
          refine app_slr (hR.move (Nat.le_succ _) fun i hi _ => (by simp only at hi; try simp (disch := omega) only [go_sem, Int.reduceEq, Int.reduceLT, Int.reduceLE, Int.reduceToNat, Nat.reduceLT, Nat.reduceEqDiff, Nat.reduceAdd, Nat.reduceLeDiff, Nat.reduceSub, Nat.reduceMul, ↓reduceIte, reduceCtorEq, wrap_id, w_ite_ne, w_ite_lt, Nat.sub_zero, Nat.sub_self])) (by rw [hds_length]; omega) (by rw [hds_length]; omega) fun X2 τ2 hR2 hK2 => ?_
          try simp (disch := omega) only [go_sem, Int.reduceEq, Int.reduceLT, Int.reduceLE, Int.reduceToNat, Nat.reduceLT, Nat.reduceEqDiff, Nat.reduceAdd, Nat.reduceLeDiff, Nat.reduceSub, Nat.reduceMul, ↓reduceIte, reduceCtorEq, wrap_id, w_ite_ne, w_ite_lt, Nat.sub_zero, Nat.sub_self, h24, h9, h10]
          refine up_nextG τ2.n hkl (by omega) ⟨(by first | ((try simp (maxSteps := 1000000) only [go_sem, Int.reduceEq, Int.reduceLT, Int.reduceLE, Int.reduceToNat, Nat.reduceLT, Nat.reduceEqDiff, Nat.reduceAdd, Nat.reduceLeDiff, Nat.reduceSub, Nat.reduceMul, ↓reduceIte, reduceCtorEq, w_app_nl]); done) | ((try simp (maxSteps := 1000000) only [go_sem, Int.reduceEq, Int.reduceLT, Int.reduceLE, Int.reduceToNat, Nat.reduceLT, Nat.reduceEqDiff, Nat.reduceAdd, Nat.reduceLeDiff, Nat.reduceSub, Nat.reduceMul, ↓reduceIte, reduceCtorEq, w_app_nl]); rfl) | ((try simp (maxSteps := 1000000) (disch := omega) only [go_sem, Int.reduceEq, Int.reduceLT, Int.reduceLE, Int.reduceToNat, Nat.reduceLT, Nat.reduceEqDiff, Nat.reduceAdd, Nat.reduceLeDiff, Nat.reduceSub, Nat.reduceMul, ↓reduceIte, reduceCtorEq, w_app_nl, wrap_id, w_ite_ne, w_ite_lt]); rfl) | (simp (maxSteps := 1000000) (disch := omega) only [go_sem, Int.reduceEq, Int.reduceLT, Int.reduceLE, Int.reduceToNat, Nat.reduceLT, Nat.reduceEqDiff, Nat.reduceAdd, Nat.reduceLeDiff, Nat.reduceSub, Nat.reduceMul, ↓reduceIte, reduceCtorEq, w_app_nl, wrap_id, w_ite_ne, w_ite_lt]; done)), ?_, ?_⟩
          · try simp (disch := omega) only [go_sem, Int.reduceEq, Int.reduceLT, Int.reduceLE, Int.reduceToNat, Nat.reduceLT, Nat.reduceEqDiff, Nat.reduceAdd, Nat.reduceLeDiff, Nat.reduceSub, Nat.reduceMul, ↓reduceIte, reduceCtorEq, wrap_id, w_ite_ne, w_ite_lt, Nat.sub_zero, Nat.sub_self]
            rw [hf1]
            rw [show hds ((l.take k).filter (fun h => !decide (h.s = x))) ++ [AV.agg [.int .i64 h.s, .int .i64 h.t]] = hds ((l.take k).filter (fun h => !decide (h.s = x)) ++ [h]) by simp [hds, hdv]] at hR2
            refine hR2.move (Nat.le_refl _) fun i hi _ => ?_
            simp only [St.trunc, if_pos hi]
          · try simp (disch := omega) only [go_sem, Int.reduceEq, Int.reduceLT, Int.reduceLE, Int.reduceToNat, Nat.reduceLT, Nat.reduceEqDiff, Nat.reduceAdd, Nat.reduceLeDiff, Nat.reduceSub, Nat.reduceMul, ↓reduceIte, reduceCtorEq, wrap_id, w_ite_ne, w_ite_lt, Nat.sub_zero, Nat.sub_self, h10]
            rw [hf2]
      · have hkl : k = l.length := by omega
        subst hkl
        rw [List.take_length] at hR h10
        try simp (disch := omega) only [go_sem, Int.reduceEq, Int.reduceLT, Int.reduceLE, Int.reduceToNat, Nat.reduceLT, Nat.reduceEqDiff, Nat.reduceAdd, Nat.reduceLeDiff, Nat.reduceSub, Nat.reduceMul, ↓reduceIte, reduceCtorEq, wrap_id, w_ite_ne, w_ite_lt, Nat.sub_zero, Nat.sub_self, h10]
        have hs0 : (l.any fun h => decide (h.s = x)) = true → 0 ≤ l.foldl (sinH x) (-1) := fun ha => by
          rw [List.any_eq_true] at ha
          obtain ⟨h, hh, hhx⟩ := ha
          have hhx := of_decide_eq_true hhx
          subst hhx
          obtain ⟨i, hi⟩ := List.getElem?_of_mem hh
          rw [(hd_at (acc := -1) hok hi).1]
          exact (hdOk_lt hok h hh).2.2.1
        have hs1 : (l.any fun h => decide (h.s = x)) = false → l.foldl (sinH x) (-1) = -1 := fun ha => by
          rw [List.any_eq_false] at ha
          exact sin_none fun h hh => by simpa using ha h hh
        refine cond_d (fun g3 => ?_) (fun g3 => ?_) <;> try simp (disch := omega) only [go_sem, Int.reduceEq, Int.reduceLT, Int.reduceLE, Int.reduceToNat, Nat.reduceLT, Nat.reduceEqDiff, Nat.reduceAdd, Nat.reduceLeDiff, Nat.reduceSub, Nat.reduceMul, ↓reduceIte, reduceCtorEq, wrap_id, w_ite_ne, w_ite_lt, Nat.sub_zero, Nat.sub_self, h10]
        · refine no 9 ?_
          have : (l.any fun h => decide (h.s = x)) = false := by
            cases ha : l.any fun h => decide (h.s = x)
            · rfl
            · have := hs0 ha; omega
          simp only [backH, hok, if_true, if_pos hx, this]; rfl
        have ha : (l.any fun h => decide (h.s = x)) = true := by
          cases ha : l.any fun h => decide (h.s = x)
          · have := hs1 ha; omega
          · rfl
        refine gd_fd rfl (fun g4 => ?_) (fun g4 => ?_) <;> try simp (disch := omega) only [go_sem, Int.reduceEq, Int.reduceLT, Int.reduceLE, Int.reduceToNat, Nat.reduceLT, Nat.reduceEqDiff, Nat.reduceAdd, Nat.reduceLeDiff, Nat.reduceSub, Nat.reduceMul, ↓reduceIte, reduceCtorEq, wrap_id, w_ite_ne, w_ite_lt, Nat.sub_zero, Nat.sub_self, h10]
        · exact no 6 (by simp only [backH, hok, if_true, if_pos hx, ha]; rw [if_neg (by omega)])
        refine cond_d (fun g5 => ?_) (fun g5 => ?_) <;> try simp (disch := omega) only [go_sem, Int.reduceEq, Int.reduceLT, Int.reduceLE, Int.reduceToNat, Nat.reduceLT, Nat.reduceEqDiff, Nat.reduceAdd, Nat.reduceLeDiff, Nat.reduceSub, Nat.reduceMul, ↓reduceIte, reduceCtorEq, wrap_id, w_ite_ne, w_ite_lt, Nat.sub_zero, Nat.sub_self, h10, h9]
        · exact no 6 (by simp only [backH, hok, if_true, if_pos hx, ha]; rw [if_neg (by omega)])
        have htk : backH l x n = (l.filter (fun y => !decide (y.s = x)), l.foldl (sinH x) (-1), 0) := by simp only [backH, hok, if_true, if_pos hx, ha]; rw [if_pos (by omega)]
        rw [htk]
        exact Pub.three (hR.pub (fun _ _ _ => rfl) (hds_pur _) (hds_ok _)) (Pub.of_eq rfl rfl) (Pub.of_eq rfl rfl)
  · have he : hdE l = 53 := by simp [hdE, hok]
    try simp (disch := omega) only [go_sem, Int.reduceEq, Int.reduceLT, Int.reduceLE, Int.reduceToNat, Nat.reduceLT, Nat.reduceEqDiff, Nat.reduceAdd, Nat.reduceLeDiff, Nat.reduceSub, Nat.reduceMul, ↓reduceIte, reduceCtorEq, wrap_id, w_ite_ne, w_ite_lt, Nat.sub_zero, Nat.sub_self, he]
    exact no 53 (by simp [backH, hok])
end Go.Proofs.Try
