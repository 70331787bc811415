/-
  OWN WORK, put together by tools/asm.py: what functions do.
-/
import Derived.Test.YtkjjlopkooiljaaLib
set_option linter.unusedSimpArgs false
set_option linter.unusedVariables false
set_option maxRecDepth 100000
set_option maxHeartbeats 1000000
namespace Go.Proofs.Try
open Go.Ab Go
def issS (s : Sd) (k i v : Int) : Sd × Od × Int :=
  if sdOk s = true then (if fitE k i v = 0 then (if s.l.length = 64 ∨ s.n = 1073741824 then (⟨0, []⟩, ⟨0, 0, 0, 0⟩, 10)
    else (⟨s.n + 1, s.l ++ [⟨s.n, k, i, v⟩]⟩, ⟨s.n, k, i, v⟩, 0)) else (⟨0, []⟩, ⟨0, 0, 0, 0⟩, fitE k i v)) else (⟨0, []⟩, ⟨0, 0, 0, 0⟩, 50)
def cnfS (s : Sd) (n : Int) : Sd × Int :=
  if sdOk s = true then (if n < 0 ∨ s.n ≤ n then (⟨0, []⟩, 1) else (⟨s.n, s.l.filter fun o => !decide (o.n ≤ n)⟩, 0)) else (⟨0, []⟩, 50)
def runLen : Int → List Od → Nat
  | _, [] => 0
  | s, o :: r => if o.n = s + 1 then runLen (s + 1) r + 1 else 0
def takT (t : Sn) (o : Od) : Sn × List Od × Int × Int :=
  if snOk t = true then (if odOk o = true then (if o.n ≤ t.d then (t, [], t.d, 0) else
    if o.n = t.d + 1 then (⟨t.d + 1 + runLen o.n t.l, t.l.drop (runLen o.n t.l)⟩, o :: t.l.take (runLen o.n t.l), t.d + 1 + runLen o.n t.l, 0) else
    if (t.l.map Od.n)[bsI (t.l.map Od.n) o.n]? = some o.n then (t, [], t.d, 0) else
    if t.l.length = 64 then (⟨0, []⟩, [], 0, 10) else
    (⟨t.d, t.l.take (bsI (t.l.map Od.n) o.n) ++ o :: t.l.drop (bsI (t.l.map Od.n) o.n)⟩, [], t.d, 0)) else (⟨0, []⟩, [], 0, 3)) else (⟨0, []⟩, [], 0, 50)
theorem runLen_le : ∀ (l : List Od) (s : Int), runLen s l ≤ l.length
  | [], _ => Nat.le_refl _
  | o :: r, s => by simp only [runLen]; split <;> simp [runLen_le r]
theorem runLen_get : ∀ (l : List Od) (s : Int) (k : Nat) (o : Od), k ≤ runLen s l → l[k]? = some o → (o.n = s + k + 1 ↔ k < runLen s l)
  | [], _, k, o, _, h => by simp at h
  | a :: r, s, 0, o, _, h => by
    simp at h; subst h
    simp only [runLen]; split <;> simp <;> omega
  | a :: r, s, k + 1, o, hk, h => by
    simp only [List.getElem?_cons_succ] at h
    simp only [runLen] at hk ⊢
    split at hk
    · rename_i e
      rw [if_pos e]
      have := runLen_get r (s + 1) k o (by omega) h
      omega
    · omega
theorem runLen_all {l : List Od} {s : Int} {k : Nat} {o : Od} (hk : k < runLen s l) (h : l[k]? = some o) : o.n = s + k + 1 := (runLen_get l s k o (by omega) h).2 hk
/-- the number of the last of what is carried out -/
theorem run_last {l : List Od} {o : Od} {k : Nat} (hk : k ≤ runLen o.n l) : ∃ q : Od, (o :: l.take k)[k]? = some q ∧ q.n = o.n + k := by
  cases k with
  | zero => exact ⟨o, rfl, by simp⟩
  | succ k =>
    have hl := runLen_le l o.n
    have hg : l[k]? = some (l[k]'(by omega)) := List.getElem?_eq_getElem (by omega)
    refine ⟨l[k]'(by omega), ?_, ?_⟩
    · rw [List.getElem?_cons_succ, List.getElem?_take, if_pos (by omega), hg]
    · have := runLen_all (show k < runLen o.n l by omega) hg
      omega
theorem ascO_asc : ∀ {l : List Od} {last : Int}, ascO last l = true → ∀ i j : Nat, i < j → ∀ x y, l[i]? = some x → l[j]? = some y → x.n < y.n
  | [], _, _, i, j, _, x, y, hx, _ => by simp at hx
  | a :: r, last, hok, i, j, hij, x, y, hx, hy => by
    simp only [ascO, Bool.and_eq_true] at hok
    cases j with
    | zero => omega
    | succ j =>
      simp only [List.getElem?_cons_succ] at hy
      cases i with
      | zero => simp at hx; subst hx; exact (ascO_lt hok.2 y (List.mem_of_getElem? hy)).1
      | succ i => exact ascO_asc hok.2 i j (by omega) x y (by simpa using hx) hy
theorem od_Asc {l : List Od} {s : Int} (hok : ascO s l = true) : Asc (l.map Od.n) := fun i j hij a b ha hb => by
  rw [List.getElem?_map] at ha hb
  obtain ⟨a', ha', rfl⟩ := Option.map_eq_some_iff.1 ha
  obtain ⟨b', hb', rfl⟩ := Option.map_eq_some_iff.1 hb
  exact Int.le_of_lt (ascO_asc hok i j hij _ _ ha' hb')
theorem odOk_n {o : Od} (h : odOk o = true) : 1 ≤ o.n ∧ o.n ≤ 1073741824 ∧ fitE o.k o.i o.v = 0 := by
  simp [odOk, inO] at h; omega
theorem snOk_l {t : Sn} (h : snOk t = true) : 0 ≤ t.d ∧ t.d ≤ 1073741824 ∧ t.l.length ≤ 64 ∧ ascO (t.d + 1) t.l = true := by
  simp [snOk, inO] at h; exact ⟨h.1.1.1, h.1.1.2, h.1.2, h.2⟩
theorem sdOk_l {s : Sd} (h : sdOk s = true) : 1 ≤ s.n ∧ s.n ≤ 1073741824 ∧ s.l.length ≤ 64 ∧ runO (s.n - s.l.length) s.l = true := by
  simp [sdOk, inO] at h; exact ⟨h.1.1.1, h.1.1.2, h.1.2, h.2⟩
theorem ok_ref27_Right (s : Sn) (hl : s.l.length ≤ 9223372036854775807) : PC prog n_ref27_Right [snv s] (.bool (snOk s)) := by
  refine PC_of_body b_ref27_Right (by simp) ?_
  simp only [c_ref27_Right, go_sem, Int.reduceEq, Int.reduceLT, Int.reduceLE, Int.reduceToNat, Nat.reduceLT, Nat.reduceEqDiff, Nat.reduceAdd, Nat.reduceLeDiff, Nat.reduceSub, Nat.reduceMul, ↓reduceIte, reduceCtorEq, w_app_nl, snv]
  have no : ∀ {σ : St}, snOk s = false → Pub σ (.bool false) (.bool (snOk s)) := fun h => Pub.of_eq (by rw [h]) rfl
  refine call_pc (ok_ref27_in _ _ _) (by simp [go_sem]) ?_
  try simp (maxSteps := 500000) (disch := omega) only [go_sem, Int.reduceEq, Int.reduceLT, Int.reduceLE, Int.reduceToNat, Nat.reduceLT, Nat.reduceEqDiff, Nat.reduceAdd, Nat.reduceLeDiff, Nat.reduceSub, Nat.reduceMul, ↓reduceIte, reduceCtorEq, wrap_id, w_ite_ne, w_ite_lt, Nat.sub_zero, Nat.sub_self]
  cases h1 : inO s.d 0 1073741824 <;> try simp (maxSteps := 500000) (disch := omega) only [go_sem, Int.reduceEq, Int.reduceLT, Int.reduceLE, Int.reduceToNat, Nat.reduceLT, Nat.reduceEqDiff, Nat.reduceAdd, Nat.reduceLeDiff, Nat.reduceSub, Nat.reduceMul, ↓reduceIte, reduceCtorEq, wrap_id, w_ite_ne, w_ite_lt, Nat.sub_zero, Nat.sub_self, ods_length]
  · exact no (by simp [snOk, h1])
  refine cond_d (fun h2 => ?_) (fun h2 => ?_) <;> try simp (maxSteps := 500000) (disch := omega) only [go_sem, Int.reduceEq, Int.reduceLT, Int.reduceLE, Int.reduceToNat, Nat.reduceLT, Nat.reduceEqDiff, Nat.reduceAdd, Nat.reduceLeDiff, Nat.reduceSub, Nat.reduceMul, ↓reduceIte, reduceCtorEq, wrap_id, w_ite_ne, w_ite_lt, Nat.sub_zero, Nat.sub_self, ods_length]
  · exact no (by simp [snOk]; intros; omega)
  have hn : 0 ≤ s.d ∧ s.d ≤ 1073741824 := by simpa [inO] using h1
  refine awp_upF [2, 3, 4, 18, 19, 20, 21, 22, 23, 24, 25, 26, 27, 28, 29, 30, 31, 32, 33, 34, 35, 36, 37, 38, 39, 40, 41, 42, 43, 44, 45, 46, 47, 48, 49, 50] (by kernel_rfl) s.l.length (fun k e σ => e 18 = .int .i64 k ∧ σ.ob 0 = some ⟨0, 2, 31, false, true, [snv s]⟩ ∧ ascO (s.d + 1) (s.l.take k) = true) ?_ ?_
  · exact ⟨(by first | ((try simp (maxSteps := 1000000) only [go_sem, Int.reduceEq, Int.reduceLT, Int.reduceLE, Int.reduceToNat, Nat.reduceLT, Nat.reduceEqDiff, Nat.reduceAdd, Nat.reduceLeDiff, Nat.reduceSub, Nat.reduceMul, ↓reduceIte, reduceCtorEq, w_app_nl]); done) | ((try simp (maxSteps := 1000000) only [go_sem, Int.reduceEq, Int.reduceLT, Int.reduceLE, Int.reduceToNat, Nat.reduceLT, Nat.reduceEqDiff, Nat.reduceAdd, Nat.reduceLeDiff, Nat.reduceSub, Nat.reduceMul, ↓reduceIte, reduceCtorEq, w_app_nl]); rfl) | ((try simp (maxSteps := 1000000) (disch := omega) only [go_sem, Int.reduceEq, Int.reduceLT, Int.reduceLE, Int.reduceToNat, Nat.reduceLT, Nat.reduceEqDiff, Nat.reduceAdd, Nat.reduceLeDiff, Nat.reduceSub, Nat.reduceMul, ↓reduceIte, reduceCtorEq, w_app_nl, wrap_id, w_ite_ne, w_ite_lt]); rfl) | (simp (maxSteps := 1000000) (disch := omega) only [go_sem, Int.reduceEq, Int.reduceLT, Int.reduceLE, Int.reduceToNat, Nat.reduceLT, Nat.reduceEqDiff, Nat.reduceAdd, Nat.reduceLeDiff, Nat.reduceSub, Nat.reduceMul, ↓reduceIte, reduceCtorEq, w_app_nl, wrap_id, w_ite_ne, w_ite_lt]; done)), (by first | ((try simp (maxSteps := 1000000) only [go_sem, Int.reduceEq, Int.reduceLT, Int.reduceLE, Int.reduceToNat, Nat.reduceLT, Nat.reduceEqDiff, Nat.reduceAdd, Nat.reduceLeDiff, Nat.reduceSub, Nat.reduceMul, ↓reduceIte, reduceCtorEq, w_app_nl]); done) | ((try simp (maxSteps := 1000000) only [go_sem, Int.reduceEq, Int.reduceLT, Int.reduceLE, Int.reduceToNat, Nat.reduceLT, Nat.reduceEqDiff, Nat.reduceAdd, Nat.reduceLeDiff, Nat.reduceSub, Nat.reduceMul, ↓reduceIte, reduceCtorEq, w_app_nl]); rfl) | ((try simp (maxSteps := 1000000) (disch := omega) only [go_sem, Int.reduceEq, Int.reduceLT, Int.reduceLE, Int.reduceToNat, Nat.reduceLT, Nat.reduceEqDiff, Nat.reduceAdd, Nat.reduceLeDiff, Nat.reduceSub, Nat.reduceMul, ↓reduceIte, reduceCtorEq, w_app_nl, wrap_id, w_ite_ne, w_ite_lt]); rfl) | (simp (maxSteps := 1000000) (disch := omega) only [go_sem, Int.reduceEq, Int.reduceLT, Int.reduceLE, Int.reduceToNat, Nat.reduceLT, Nat.reduceEqDiff, Nat.reduceAdd, Nat.reduceLeDiff, Nat.reduceSub, Nat.reduceMul, ↓reduceIte, reduceCtorEq, w_app_nl, wrap_id, w_ite_ne, w_ite_lt]; done)), by simp [ascO]⟩
  · rintro k fe ob c hk ⟨h18, hob, hj⟩
    simp (maxSteps := 1000000) only [go_sem, Int.reduceEq, Int.reduceLT, Int.reduceLE, Int.reduceToNat, Nat.reduceLT, Nat.reduceEqDiff, Nat.reduceAdd, Nat.reduceLeDiff, Nat.reduceSub, Nat.reduceMul, ↓reduceIte, reduceCtorEq, w_app_nl, snv] at h18 hob
    try simp (maxSteps := 500000) (disch := omega) only [go_sem, Int.reduceEq, Int.reduceLT, Int.reduceLE, Int.reduceToNat, Nat.reduceLT, Nat.reduceEqDiff, Nat.reduceAdd, Nat.reduceLeDiff, Nat.reduceSub, Nat.reduceMul, ↓reduceIte, reduceCtorEq, wrap_id, w_ite_ne, w_ite_lt, Nat.sub_zero, Nat.sub_self, h18, ods_length]
    refine cond_d (fun hlt => ?_) (fun hge => ?_)
    · have hkl : k < s.l.length := by omega
      have hk2 : s.l[k]? = some s.l[k] := List.getElem?_eq_getElem hkl
      have hst := ascO_step s.l (s.d + 1) k hkl
      rw [hj, Bool.true_and] at hst
      have hbad : ascO (s.d + 1) (s.l.take (k + 1)) = false → snOk s = false := fun h => by
        have : ascO (s.d + 1) s.l = false := by
          cases h2 : ascO (s.d + 1) s.l with
          | false => rfl
          | true => rw [ascO_take _ _ (k + 1) h2] at h; cases h
        simp [snOk, this]
      have hpr : (k = 0 → odPrev (s.d + 1) s.l k = s.d + 1) ∧ (∀ y, 0 < k → s.l[k - 1]? = some y → odPrev (s.d + 1) s.l k = y.n ∧ s.d + 1 < y.n) := by
        refine ⟨fun h => by simp [odPrev, h], fun y hk0 hy => ⟨by simp [odPrev, hy]; omega, (ascO_lt hj y ?_).1⟩⟩
        refine List.mem_of_getElem? (i := k - 1) ?_
        rw [List.getElem?_take, if_pos (by omega), hy]
      have hpl : s.d + 1 ≤ odPrev (s.d + 1) s.l k := by
        rcases Nat.eq_zero_or_pos k with h0 | h0
        · have := hpr.1 h0; omega
        · have := hpr.2 s.l[k - 1] h0 (List.getElem?_eq_getElem (by omega)); omega
      generalize s.l[k] = o at *
      generalize odPrev (s.d + 1) s.l k = pr at *
      try simp (maxSteps := 500000) (disch := omega) only [go_sem, Int.reduceEq, Int.reduceLT, Int.reduceLE, Int.reduceToNat, Nat.reduceLT, Nat.reduceEqDiff, Nat.reduceAdd, Nat.reduceLeDiff, Nat.reduceSub, Nat.reduceMul, ↓reduceIte, reduceCtorEq, wrap_id, w_ite_ne, w_ite_lt, Nat.sub_zero, Nat.sub_self, h18, hob, ods_length, ods_get, hk2, Option.map_some, odv]
      refine ⟨by omega, by omega, ?_⟩
      refine call_pc (ok_ref27_order o) (by simp [go_sem, odv]) ?_
      cases hp : odOk o <;> try simp (maxSteps := 500000) (disch := omega) only [go_sem, Int.reduceEq, Int.reduceLT, Int.reduceLE, Int.reduceToNat, Nat.reduceLT, Nat.reduceEqDiff, Nat.reduceAdd, Nat.reduceLeDiff, Nat.reduceSub, Nat.reduceMul, ↓reduceIte, reduceCtorEq, wrap_id, w_ite_ne, w_ite_lt, Nat.sub_zero, Nat.sub_self, h18, hob, ods_length]
      · exact no (hbad (by rw [hst, hp]; rfl))
      refine gd_fd rfl (fun g1 => ?_) (fun g1 => ?_) <;> try simp (maxSteps := 500000) (disch := omega) only [go_sem, Int.reduceEq, Int.reduceLT, Int.reduceLE, Int.reduceToNat, Nat.reduceLT, Nat.reduceEqDiff, Nat.reduceAdd, Nat.reduceLeDiff, Nat.reduceSub, Nat.reduceMul, ↓reduceIte, reduceCtorEq, wrap_id, w_ite_ne, w_ite_lt, Nat.sub_zero, Nat.sub_self, h18, hob]
      · exact no (hbad (by rw [hst, hp]; simp; omega))
      refine gd_td rfl (fun g2 => ?_) (fun g2 => ?_)
      · have hk0 : 0 < k := by omega
        have hy : s.l[k - 1]? = some s.l[k - 1] := List.getElem?_eq_getElem (by omega)
        obtain ⟨p1, p2⟩ := hpr.2 _ hk0 hy
        generalize s.l[k - 1] = y at *
        subst p1
        have hkn : ((k : Int) - 1).toNat = k - 1 := by omega
        try simp (maxSteps := 500000) (disch := omega) only [go_sem, Int.reduceEq, Int.reduceLT, Int.reduceLE, Int.reduceToNat, Nat.reduceLT, Nat.reduceEqDiff, Nat.reduceAdd, Nat.reduceLeDiff, Nat.reduceSub, Nat.reduceMul, ↓reduceIte, reduceCtorEq, wrap_id, w_ite_ne, w_ite_lt, Nat.sub_zero, Nat.sub_self, h18, hob, ods_length, ods_get, hy, hkn, odv, Option.map_some]
        repeat (refine And.intro (by first | omega | (rw [mxL]; omega) | (simp [maxLen]; done) | (simp [maxLen]; omega)) ?_)
        refine cond_d (fun g4 => ?_) (fun g4 => ?_) <;> try simp (maxSteps := 500000) (disch := omega) only [go_sem, Int.reduceEq, Int.reduceLT, Int.reduceLE, Int.reduceToNat, Nat.reduceLT, Nat.reduceEqDiff, Nat.reduceAdd, Nat.reduceLeDiff, Nat.reduceSub, Nat.reduceMul, ↓reduceIte, reduceCtorEq, wrap_id, w_ite_ne, w_ite_lt, Nat.sub_zero, Nat.sub_self, h18, hob]
        · exact no (hbad (by rw [hst, hp]; simp; omega))
        exact up_next hkl ⟨(by first | ((try simp (maxSteps := 1000000) only [go_sem, Int.reduceEq, Int.reduceLT, Int.reduceLE, Int.reduceToNat, Nat.reduceLT, Nat.reduceEqDiff, Nat.reduceAdd, Nat.reduceLeDiff, Nat.reduceSub, Nat.reduceMul, ↓reduceIte, reduceCtorEq, w_app_nl]); done) | ((try simp (maxSteps := 1000000) only [go_sem, Int.reduceEq, Int.reduceLT, Int.reduceLE, Int.reduceToNat, Nat.reduceLT, Nat.reduceEqDiff, Nat.reduceAdd, Nat.reduceLeDiff, Nat.reduceSub, Nat.reduceMul, ↓reduceIte, reduceCtorEq, w_app_nl]); rfl) | ((try simp (maxSteps := 1000000) (disch := omega) only [go_sem, Int.reduceEq, Int.reduceLT, Int.reduceLE, Int.reduceToNat, Nat.reduceLT, Nat.reduceEqDiff, Nat.reduceAdd, Nat.reduceLeDiff, Nat.reduceSub, Nat.reduceMul, ↓reduceIte, reduceCtorEq, w_app_nl, wrap_id, w_ite_ne, w_ite_lt]); rfl) | (simp (maxSteps := 1000000) (disch := omega) only [go_sem, Int.reduceEq, Int.reduceLT, Int.reduceLE, Int.reduceToNat, Nat.reduceLT, Nat.reduceEqDiff, Nat.reduceAdd, Nat.reduceLeDiff, Nat.reduceSub, Nat.reduceMul, ↓reduceIte, reduceCtorEq, w_app_nl, wrap_id, w_ite_ne, w_ite_lt]; done)), by try simp (maxSteps := 500000) (disch := omega) only [go_sem, Int.reduceEq, Int.reduceLT, Int.reduceLE, Int.reduceToNat, Nat.reduceLT, Nat.reduceEqDiff, Nat.reduceAdd, Nat.reduceLeDiff, Nat.reduceSub, Nat.reduceMul, ↓reduceIte, reduceCtorEq, wrap_id, w_ite_ne, w_ite_lt, Nat.sub_zero, Nat.sub_self]; exact hob, by rw [hst, hp]; simp; omega⟩
      · have hp0 := hpr.1 (by omega)
        try simp (maxSteps := 500000) (disch := omega) only [go_sem, Int.reduceEq, Int.reduceLT, Int.reduceLE, Int.reduceToNat, Nat.reduceLT, Nat.reduceEqDiff, Nat.reduceAdd, Nat.reduceLeDiff, Nat.reduceSub, Nat.reduceMul, ↓reduceIte, reduceCtorEq, wrap_id, w_ite_ne, w_ite_lt, Nat.sub_zero, Nat.sub_self, h18, hob]
        exact up_next hkl ⟨(by first | ((try simp (maxSteps := 1000000) only [go_sem, Int.reduceEq, Int.reduceLT, Int.reduceLE, Int.reduceToNat, Nat.reduceLT, Nat.reduceEqDiff, Nat.reduceAdd, Nat.reduceLeDiff, Nat.reduceSub, Nat.reduceMul, ↓reduceIte, reduceCtorEq, w_app_nl]); done) | ((try simp (maxSteps := 1000000) only [go_sem, Int.reduceEq, Int.reduceLT, Int.reduceLE, Int.reduceToNat, Nat.reduceLT, Nat.reduceEqDiff, Nat.reduceAdd, Nat.reduceLeDiff, Nat.reduceSub, Nat.reduceMul, ↓reduceIte, reduceCtorEq, w_app_nl]); rfl) | ((try simp (maxSteps := 1000000) (disch := omega) only [go_sem, Int.reduceEq, Int.reduceLT, Int.reduceLE, Int.reduceToNat, Nat.reduceLT, Nat.reduceEqDiff, Nat.reduceAdd, Nat.reduceLeDiff, Nat.reduceSub, Nat.reduceMul, ↓reduceIte, reduceCtorEq, w_app_nl, wrap_id, w_ite_ne, w_ite_lt]); rfl) | (simp (maxSteps := 1000000) (disch := omega) only [go_sem, Int.reduceEq, Int.reduceLT, Int.reduceLE, Int.reduceToNat, Nat.reduceLT, Nat.reduceEqDiff, Nat.reduceAdd, Nat.reduceLeDiff, Nat.reduceSub, Nat.reduceMul, ↓reduceIte, reduceCtorEq, w_app_nl, wrap_id, w_ite_ne, w_ite_lt]; done)), by try simp (maxSteps := 500000) (disch := omega) only [go_sem, Int.reduceEq, Int.reduceLT, Int.reduceLE, Int.reduceToNat, Nat.reduceLT, Nat.reduceEqDiff, Nat.reduceAdd, Nat.reduceLeDiff, Nat.reduceSub, Nat.reduceMul, ↓reduceIte, reduceCtorEq, wrap_id, w_ite_ne, w_ite_lt, Nat.sub_zero, Nat.sub_self]; exact hob, by rw [hst, hp]; simp; omega⟩
    · try simp (maxSteps := 500000) (disch := omega) only [go_sem, Int.reduceEq, Int.reduceLT, Int.reduceLE, Int.reduceToNat, Nat.reduceLT, Nat.reduceEqDiff, Nat.reduceAdd, Nat.reduceLeDiff, Nat.reduceSub, Nat.reduceMul, ↓reduceIte, reduceCtorEq, wrap_id, w_ite_ne, w_ite_lt, Nat.sub_zero, Nat.sub_self]
      have : k = s.l.length := by omega
      subst this
      rw [List.take_length] at hj
      exact Pub.of_eq (by simp [snOk, h1, hj]; omega) rfl
theorem ok_ref27_SameOrders (a b : List Od) (ha : a.length ≤ 9223372036854775807) : PC prog n_ref27_SameOrders [.list 4 (ods a), .list 4 (ods b)] (.bool (decide (a = b))) := by
  refine PC_of_body b_ref27_SameOrders (by simp) ?_
  simp only [c_ref27_SameOrders, go_sem, Int.reduceEq, Int.reduceLT, Int.reduceLE, Int.reduceToNat, Nat.reduceLT, Nat.reduceEqDiff, Nat.reduceAdd, Nat.reduceLeDiff, Nat.reduceSub, Nat.reduceMul, ↓reduceIte, reduceCtorEq, w_app_nl, ods_length]
  refine cond_n (fun h => ?_) (fun h => ?_) <;> try simp (maxSteps := 500000) (disch := omega) only [go_sem, Int.reduceEq, Int.reduceLT, Int.reduceLE, Int.reduceToNat, Nat.reduceLT, Nat.reduceEqDiff, Nat.reduceAdd, Nat.reduceLeDiff, Nat.reduceSub, Nat.reduceMul, ↓reduceIte, reduceCtorEq, wrap_id, w_ite_ne, w_ite_lt, Nat.sub_zero, Nat.sub_self, ods_length]
  · exact Pub.of_eq (by congr 1; simp; intro hab; exact h (by rw [hab])) rfl
  have hl : a.length = b.length := by omega
  refine awp_upF [4, 5, 13, 14, 15, 16, 17, 18, 19, 20, 21, 22, 23, 24, 25] (by kernel_rfl) a.length (fun k e _ => e 13 = .int .i64 k ∧ ∀ j, j < k → a[j]? = b[j]?) ?_ ?_
  · exact ⟨(by first | ((try simp (maxSteps := 1000000) only [go_sem, Int.reduceEq, Int.reduceLT, Int.reduceLE, Int.reduceToNat, Nat.reduceLT, Nat.reduceEqDiff, Nat.reduceAdd, Nat.reduceLeDiff, Nat.reduceSub, Nat.reduceMul, ↓reduceIte, reduceCtorEq, w_app_nl]); done) | ((try simp (maxSteps := 1000000) only [go_sem, Int.reduceEq, Int.reduceLT, Int.reduceLE, Int.reduceToNat, Nat.reduceLT, Nat.reduceEqDiff, Nat.reduceAdd, Nat.reduceLeDiff, Nat.reduceSub, Nat.reduceMul, ↓reduceIte, reduceCtorEq, w_app_nl]); rfl) | ((try simp (maxSteps := 1000000) (disch := omega) only [go_sem, Int.reduceEq, Int.reduceLT, Int.reduceLE, Int.reduceToNat, Nat.reduceLT, Nat.reduceEqDiff, Nat.reduceAdd, Nat.reduceLeDiff, Nat.reduceSub, Nat.reduceMul, ↓reduceIte, reduceCtorEq, w_app_nl, wrap_id, w_ite_ne, w_ite_lt]); rfl) | (simp (maxSteps := 1000000) (disch := omega) only [go_sem, Int.reduceEq, Int.reduceLT, Int.reduceLE, Int.reduceToNat, Nat.reduceLT, Nat.reduceEqDiff, Nat.reduceAdd, Nat.reduceLeDiff, Nat.reduceSub, Nat.reduceMul, ↓reduceIte, reduceCtorEq, w_app_nl, wrap_id, w_ite_ne, w_ite_lt]; done)), by simp⟩
  · rintro k fe ob c hk ⟨h13, hj⟩
    simp (maxSteps := 1000000) only [go_sem, Int.reduceEq, Int.reduceLT, Int.reduceLE, Int.reduceToNat, Nat.reduceLT, Nat.reduceEqDiff, Nat.reduceAdd, Nat.reduceLeDiff, Nat.reduceSub, Nat.reduceMul, ↓reduceIte, reduceCtorEq, w_app_nl] at h13
    try simp (maxSteps := 500000) (disch := omega) only [go_sem, Int.reduceEq, Int.reduceLT, Int.reduceLE, Int.reduceToNat, Nat.reduceLT, Nat.reduceEqDiff, Nat.reduceAdd, Nat.reduceLeDiff, Nat.reduceSub, Nat.reduceMul, ↓reduceIte, reduceCtorEq, wrap_id, w_ite_ne, w_ite_lt, Nat.sub_zero, Nat.sub_self, h13, ods_length]
    refine cond_d (fun hlt => ?_) (fun hge => ?_)
    · have hka : k < a.length := by omega
      have hga : a[k]? = some a[k] := List.getElem?_eq_getElem hka
      have hgb : b[k]? = some b[k] := List.getElem?_eq_getElem (by omega)
      generalize a[k] = x at *
      generalize b[k] = y at *
      try simp (maxSteps := 500000) (disch := omega) only [go_sem, Int.reduceEq, Int.reduceLT, Int.reduceLE, Int.reduceToNat, Nat.reduceLT, Nat.reduceEqDiff, Nat.reduceAdd, Nat.reduceLeDiff, Nat.reduceSub, Nat.reduceMul, ↓reduceIte, reduceCtorEq, wrap_id, w_ite_ne, w_ite_lt, Nat.sub_zero, Nat.sub_self, h13, ods_length, ods_get, hga, hgb, odv, Option.map_some]
      refine ⟨by omega, by omega, by omega, by omega, ?_⟩
      have hxy : (decide (x.n = y.n) && (decide (x.k = y.k) && (decide (x.i = y.i) && decide (x.v = y.v)))) = decide (x = y) := by cases x; cases y; simp
      rw [hxy]
      refine cond_n (fun hne => ?_) (fun heq => ?_) <;> try simp (maxSteps := 500000) (disch := omega) only [go_sem, Int.reduceEq, Int.reduceLT, Int.reduceLE, Int.reduceToNat, Nat.reduceLT, Nat.reduceEqDiff, Nat.reduceAdd, Nat.reduceLeDiff, Nat.reduceSub, Nat.reduceMul, ↓reduceIte, reduceCtorEq, wrap_id, w_ite_ne, w_ite_lt, Nat.sub_zero, Nat.sub_self, h13]
      · refine Pub.of_eq ?_ rfl
        congr 1
        simp only [Bool.false_eq, decide_eq_false_iff_not]
        intro hab
        subst hab
        rw [hga] at hgb
        exact hne (Option.some.inj hgb)
      · refine up_next hka ⟨(by first | ((try simp (maxSteps := 1000000) only [go_sem, Int.reduceEq, Int.reduceLT, Int.reduceLE, Int.reduceToNat, Nat.reduceLT, Nat.reduceEqDiff, Nat.reduceAdd, Nat.reduceLeDiff, Nat.reduceSub, Nat.reduceMul, ↓reduceIte, reduceCtorEq, w_app_nl]); done) | ((try simp (maxSteps := 1000000) only [go_sem, Int.reduceEq, Int.reduceLT, Int.reduceLE, Int.reduceToNat, Nat.reduceLT, Nat.reduceEqDiff, Nat.reduceAdd, Nat.reduceLeDiff, Nat.reduceSub, Nat.reduceMul, ↓reduceIte, reduceCtorEq, w_app_nl]); rfl) | ((try simp (maxSteps := 1000000) (disch := omega) only [go_sem, Int.reduceEq, Int.reduceLT, Int.reduceLE, Int.reduceToNat, Nat.reduceLT, Nat.reduceEqDiff, Nat.reduceAdd, Nat.reduceLeDiff, Nat.reduceSub, Nat.reduceMul, ↓reduceIte, reduceCtorEq, w_app_nl, wrap_id, w_ite_ne, w_ite_lt]); rfl) | (simp (maxSteps := 1000000) (disch := omega) only [go_sem, Int.reduceEq, Int.reduceLT, Int.reduceLE, Int.reduceToNat, Nat.reduceLT, Nat.reduceEqDiff, Nat.reduceAdd, Nat.reduceLeDiff, Nat.reduceSub, Nat.reduceMul, ↓reduceIte, reduceCtorEq, w_app_nl, wrap_id, w_ite_ne, w_ite_lt]; done)), ?_⟩
        intro j hj'
        by_cases e : j = k
        · subst e; rw [hga, hgb, heq]
        · exact hj j (by omega)
    · try simp (maxSteps := 500000) (disch := omega) only [go_sem, Int.reduceEq, Int.reduceLT, Int.reduceLE, Int.reduceToNat, Nat.reduceLT, Nat.reduceEqDiff, Nat.reduceAdd, Nat.reduceLeDiff, Nat.reduceSub, Nat.reduceMul, ↓reduceIte, reduceCtorEq, wrap_id, w_ite_ne, w_ite_lt, Nat.sub_zero, Nat.sub_self]
      exact Pub.of_eq (by congr 1; simp; exact eq_of_get hl fun j hj' => hj j (by omega)) rfl
theorem ok_slices_Equal__Order (a b : List Od) (ha : a.length ≤ 9223372036854775807) : PC prog n_slices_Equal__Order [.list 4 (ods a), .list 4 (ods b)] (.bool (decide (a = b))) := by
  refine PC_of_body b_slices_Equal__Order (by simp) ?_
  simp only [c_slices_Equal__Order, go_sem, Int.reduceEq, Int.reduceLT, Int.reduceLE, Int.reduceToNat, Nat.reduceLT, Nat.reduceEqDiff, Nat.reduceAdd, Nat.reduceLeDiff, Nat.reduceSub, Nat.reduceMul, ↓reduceIte, reduceCtorEq, w_app_nl, ods_length]
  refine cond_n (fun h => ?_) (fun h => ?_) <;> try simp (maxSteps := 500000) (disch := omega) only [go_sem, Int.reduceEq, Int.reduceLT, Int.reduceLE, Int.reduceToNat, Nat.reduceLT, Nat.reduceEqDiff, Nat.reduceAdd, Nat.reduceLeDiff, Nat.reduceSub, Nat.reduceMul, ↓reduceIte, reduceCtorEq, wrap_id, w_ite_ne, w_ite_lt, Nat.sub_zero, Nat.sub_self, ods_length]
  · exact Pub.of_eq (by congr 1; simp; intro hab; exact h (by rw [hab])) rfl
  have hl : a.length = b.length := by omega
  refine awp_upF [4, 5, 13, 14, 15, 16, 17, 18, 19, 20, 21, 22, 23, 24, 25] (by kernel_rfl) a.length (fun k e _ => e 13 = .int .i64 k ∧ ∀ j, j < k → a[j]? = b[j]?) ?_ ?_
  · exact ⟨(by first | ((try simp (maxSteps := 1000000) only [go_sem, Int.reduceEq, Int.reduceLT, Int.reduceLE, Int.reduceToNat, Nat.reduceLT, Nat.reduceEqDiff, Nat.reduceAdd, Nat.reduceLeDiff, Nat.reduceSub, Nat.reduceMul, ↓reduceIte, reduceCtorEq, w_app_nl]); done) | ((try simp (maxSteps := 1000000) only [go_sem, Int.reduceEq, Int.reduceLT, Int.reduceLE, Int.reduceToNat, Nat.reduceLT, Nat.reduceEqDiff, Nat.reduceAdd, Nat.reduceLeDiff, Nat.reduceSub, Nat.reduceMul, ↓reduceIte, reduceCtorEq, w_app_nl]); rfl) | ((try simp (maxSteps := 1000000) (disch := omega) only [go_sem, Int.reduceEq, Int.reduceLT, Int.reduceLE, Int.reduceToNat, Nat.reduceLT, Nat.reduceEqDiff, Nat.reduceAdd, Nat.reduceLeDiff, Nat.reduceSub, Nat.reduceMul, ↓reduceIte, reduceCtorEq, w_app_nl, wrap_id, w_ite_ne, w_ite_lt]); rfl) | (simp (maxSteps := 1000000) (disch := omega) only [go_sem, Int.reduceEq, Int.reduceLT, Int.reduceLE, Int.reduceToNat, Nat.reduceLT, Nat.reduceEqDiff, Nat.reduceAdd, Nat.reduceLeDiff, Nat.reduceSub, Nat.reduceMul, ↓reduceIte, reduceCtorEq, w_app_nl, wrap_id, w_ite_ne, w_ite_lt]; done)), by simp⟩
  · rintro k fe ob c hk ⟨h13, hj⟩
    simp (maxSteps := 1000000) only [go_sem, Int.reduceEq, Int.reduceLT, Int.reduceLE, Int.reduceToNat, Nat.reduceLT, Nat.reduceEqDiff, Nat.reduceAdd, Nat.reduceLeDiff, Nat.reduceSub, Nat.reduceMul, ↓reduceIte, reduceCtorEq, w_app_nl] at h13
    try simp (maxSteps := 500000) (disch := omega) only [go_sem, Int.reduceEq, Int.reduceLT, Int.reduceLE, Int.reduceToNat, Nat.reduceLT, Nat.reduceEqDiff, Nat.reduceAdd, Nat.reduceLeDiff, Nat.reduceSub, Nat.reduceMul, ↓reduceIte, reduceCtorEq, wrap_id, w_ite_ne, w_ite_lt, Nat.sub_zero, Nat.sub_self, h13, ods_length]
    refine cond_d (fun hlt => ?_) (fun hge => ?_)
    · have hka : k < a.length := by omega
      have hga : a[k]? = some a[k] := List.getElem?_eq_getElem hka
      have hgb : b[k]? = some b[k] := List.getElem?_eq_getElem (by omega)
      generalize a[k] = x at *
      generalize b[k] = y at *
      try simp (maxSteps := 500000) (disch := omega) only [go_sem, Int.reduceEq, Int.reduceLT, Int.reduceLE, Int.reduceToNat, Nat.reduceLT, Nat.reduceEqDiff, Nat.reduceAdd, Nat.reduceLeDiff, Nat.reduceSub, Nat.reduceMul, ↓reduceIte, reduceCtorEq, wrap_id, w_ite_ne, w_ite_lt, Nat.sub_zero, Nat.sub_self, h13, ods_length, ods_get, hga, hgb, odv, Option.map_some]
      refine ⟨by omega, by omega, by omega, by omega, ?_⟩
      have hxy : (decide (x.n = y.n) && (decide (x.k = y.k) && (decide (x.i = y.i) && decide (x.v = y.v)))) = decide (x = y) := by cases x; cases y; simp
      rw [hxy]
      refine cond_n (fun hne => ?_) (fun heq => ?_) <;> try simp (maxSteps := 500000) (disch := omega) only [go_sem, Int.reduceEq, Int.reduceLT, Int.reduceLE, Int.reduceToNat, Nat.reduceLT, Nat.reduceEqDiff, Nat.reduceAdd, Nat.reduceLeDiff, Nat.reduceSub, Nat.reduceMul, ↓reduceIte, reduceCtorEq, wrap_id, w_ite_ne, w_ite_lt, Nat.sub_zero, Nat.sub_self, h13]
      · refine Pub.of_eq ?_ rfl
        congr 1
        simp only [Bool.false_eq, decide_eq_false_iff_not]
        intro hab
        subst hab
        rw [hga] at hgb
        exact hne (Option.some.inj hgb)
      · refine up_next hka ⟨(by first | ((try simp (maxSteps := 1000000) only [go_sem, Int.reduceEq, Int.reduceLT, Int.reduceLE, Int.reduceToNat, Nat.reduceLT, Nat.reduceEqDiff, Nat.reduceAdd, Nat.reduceLeDiff, Nat.reduceSub, Nat.reduceMul, ↓reduceIte, reduceCtorEq, w_app_nl]); done) | ((try simp (maxSteps := 1000000) only [go_sem, Int.reduceEq, Int.reduceLT, Int.reduceLE, Int.reduceToNat, Nat.reduceLT, Nat.reduceEqDiff, Nat.reduceAdd, Nat.reduceLeDiff, Nat.reduceSub, Nat.reduceMul, ↓reduceIte, reduceCtorEq, w_app_nl]); rfl) | ((try simp (maxSteps := 1000000) (disch := omega) only [go_sem, Int.reduceEq, Int.reduceLT, Int.reduceLE, Int.reduceToNat, Nat.reduceLT, Nat.reduceEqDiff, Nat.reduceAdd, Nat.reduceLeDiff, Nat.reduceSub, Nat.reduceMul, ↓reduceIte, reduceCtorEq, w_app_nl, wrap_id, w_ite_ne, w_ite_lt]); rfl) | (simp (maxSteps := 1000000) (disch := omega) only [go_sem, Int.reduceEq, Int.reduceLT, Int.reduceLE, Int.reduceToNat, Nat.reduceLT, Nat.reduceEqDiff, Nat.reduceAdd, Nat.reduceLeDiff, Nat.reduceSub, Nat.reduceMul, ↓reduceIte, reduceCtorEq, w_app_nl, wrap_id, w_ite_ne, w_ite_lt]; done)), ?_⟩
        intro j hj'
        by_cases e : j = k
        · subst e; rw [hga, hgb, heq]
        · exact hj j (by omega)
    · try simp (maxSteps := 500000) (disch := omega) only [go_sem, Int.reduceEq, Int.reduceLT, Int.reduceLE, Int.reduceToNat, Nat.reduceLT, Nat.reduceEqDiff, Nat.reduceAdd, Nat.reduceLeDiff, Nat.reduceSub, Nat.reduceMul, ↓reduceIte, reduceCtorEq, wrap_id, w_ite_ne, w_ite_lt, Nat.sub_zero, Nat.sub_self]
      exact Pub.of_eq (by congr 1; simp; exact eq_of_get hl fun j hj' => hj j (by omega)) rfl
theorem ok_orders_Same (a b : Sd) (ha : a.l.length ≤ 9223372036854775807) : PC prog n_orders_Same [sdv a, sdv b] (.bool (decide (a = b))) := by
  refine PC_of_body b_orders_Same (by simp) ?_
  simp only [c_orders_Same, go_sem, Int.reduceEq, Int.reduceLT, Int.reduceLE, Int.reduceToNat, Nat.reduceLT, Nat.reduceEqDiff, Nat.reduceAdd, Nat.reduceLeDiff, Nat.reduceSub, Nat.reduceMul, ↓reduceIte, reduceCtorEq, w_app_nl, sdv]
  have hab : decide (a = b) = (decide (a.n = b.n) && decide (a.l = b.l)) := by cases a; cases b; simp
  rw [hab]
  refine gd_td rfl (fun g1 => ?_) (fun g1 => ?_) <;> try simp (maxSteps := 500000) (disch := omega) only [go_sem, Int.reduceEq, Int.reduceLT, Int.reduceLE, Int.reduceToNat, Nat.reduceLT, Nat.reduceEqDiff, Nat.reduceAdd, Nat.reduceLeDiff, Nat.reduceSub, Nat.reduceMul, ↓reduceIte, reduceCtorEq, wrap_id, w_ite_ne, w_ite_lt, Nat.sub_zero, Nat.sub_self]
  · refine call_pc (ok_slices_Equal__Order a.l b.l ha) (by simp [go_sem, ods_pur]) ?_
    try simp (maxSteps := 500000) (disch := omega) only [go_sem, Int.reduceEq, Int.reduceLT, Int.reduceLE, Int.reduceToNat, Nat.reduceLT, Nat.reduceEqDiff, Nat.reduceAdd, Nat.reduceLeDiff, Nat.reduceSub, Nat.reduceMul, ↓reduceIte, reduceCtorEq, wrap_id, w_ite_ne, w_ite_lt, Nat.sub_zero, Nat.sub_self]
    exact Pub.of_eq (by simp [g1]) rfl
  · exact Pub.of_eq (by simp [g1]) rfl
theorem ok_ref27_Same (a b : Sd) (ha : a.l.length ≤ 9223372036854775807) : PC prog n_ref27_Same [sdv a, sdv b] (.bool (decide (a = b))) := by
  refine PC_of_body b_ref27_Same (by simp) ?_
  simp only [c_ref27_Same, go_sem, Int.reduceEq, Int.reduceLT, Int.reduceLE, Int.reduceToNat, Nat.reduceLT, Nat.reduceEqDiff, Nat.reduceAdd, Nat.reduceLeDiff, Nat.reduceSub, Nat.reduceMul, ↓reduceIte, reduceCtorEq, w_app_nl, sdv]
  have hab : decide (a = b) = (decide (a.n = b.n) && decide (a.l = b.l)) := by cases a; cases b; simp
  rw [hab]
  refine gd_td rfl (fun g1 => ?_) (fun g1 => ?_) <;> try simp (maxSteps := 500000) (disch := omega) only [go_sem, Int.reduceEq, Int.reduceLT, Int.reduceLE, Int.reduceToNat, Nat.reduceLT, Nat.reduceEqDiff, Nat.reduceAdd, Nat.reduceLeDiff, Nat.reduceSub, Nat.reduceMul, ↓reduceIte, reduceCtorEq, wrap_id, w_ite_ne, w_ite_lt, Nat.sub_zero, Nat.sub_self]
  · refine call_pc (ok_ref27_SameOrders a.l b.l ha) (by simp [go_sem, ods_pur]) ?_
    try simp (maxSteps := 500000) (disch := omega) only [go_sem, Int.reduceEq, Int.reduceLT, Int.reduceLE, Int.reduceToNat, Nat.reduceLT, Nat.reduceEqDiff, Nat.reduceAdd, Nat.reduceLeDiff, Nat.reduceSub, Nat.reduceMul, ↓reduceIte, reduceCtorEq, wrap_id, w_ite_ne, w_ite_lt, Nat.sub_zero, Nat.sub_self]
    exact Pub.of_eq (by simp [g1]) rfl
  · exact Pub.of_eq (by simp [g1]) rfl
theorem ok_orders_Like (a b : Sn) (ha : a.l.length ≤ 9223372036854775807) : PC prog n_orders_Like [snv a, snv b] (.bool (decide (a = b))) := by
  refine PC_of_body b_orders_Like (by simp) ?_
  simp only [c_orders_Like, go_sem, Int.reduceEq, Int.reduceLT, Int.reduceLE, Int.reduceToNat, Nat.reduceLT, Nat.reduceEqDiff, Nat.reduceAdd, Nat.reduceLeDiff, Nat.reduceSub, Nat.reduceMul, ↓reduceIte, reduceCtorEq, w_app_nl, snv]
  have hab : decide (a = b) = (decide (a.d = b.d) && decide (a.l = b.l)) := by cases a; cases b; simp
  rw [hab]
  refine gd_td rfl (fun g1 => ?_) (fun g1 => ?_) <;> try simp (maxSteps := 500000) (disch := omega) only [go_sem, Int.reduceEq, Int.reduceLT, Int.reduceLE, Int.reduceToNat, Nat.reduceLT, Nat.reduceEqDiff, Nat.reduceAdd, Nat.reduceLeDiff, Nat.reduceSub, Nat.reduceMul, ↓reduceIte, reduceCtorEq, wrap_id, w_ite_ne, w_ite_lt, Nat.sub_zero, Nat.sub_self]
  · refine call_pc (ok_slices_Equal__Order a.l b.l ha) (by simp [go_sem, ods_pur]) ?_
    try simp (maxSteps := 500000) (disch := omega) only [go_sem, Int.reduceEq, Int.reduceLT, Int.reduceLE, Int.reduceToNat, Nat.reduceLT, Nat.reduceEqDiff, Nat.reduceAdd, Nat.reduceLeDiff, Nat.reduceSub, Nat.reduceMul, ↓reduceIte, reduceCtorEq, wrap_id, w_ite_ne, w_ite_lt, Nat.sub_zero, Nat.sub_self]
    exact Pub.of_eq (by simp [g1]) rfl
  · exact Pub.of_eq (by simp [g1]) rfl
theorem ok_ref27_Like (a b : Sn) (ha : a.l.length ≤ 9223372036854775807) : PC prog n_ref27_Like [snv a, snv b] (.bool (decide (a = b))) := by
  refine PC_of_body b_ref27_Like (by simp) ?_
  simp only [c_ref27_Like, go_sem, Int.reduceEq, Int.reduceLT, Int.reduceLE, Int.reduceToNat, Nat.reduceLT, Nat.reduceEqDiff, Nat.reduceAdd, Nat.reduceLeDiff, Nat.reduceSub, Nat.reduceMul, ↓reduceIte, reduceCtorEq, w_app_nl, snv]
  have hab : decide (a = b) = (decide (a.d = b.d) && decide (a.l = b.l)) := by cases a; cases b; simp
  rw [hab]
  refine gd_td rfl (fun g1 => ?_) (fun g1 => ?_) <;> try simp (maxSteps := 500000) (disch := omega) only [go_sem, Int.reduceEq, Int.reduceLT, Int.reduceLE, Int.reduceToNat, Nat.reduceLT, Nat.reduceEqDiff, Nat.reduceAdd, Nat.reduceLeDiff, Nat.reduceSub, Nat.reduceMul, ↓reduceIte, reduceCtorEq, wrap_id, w_ite_ne, w_ite_lt, Nat.sub_zero, Nat.sub_self]
  · refine call_pc (ok_ref27_SameOrders a.l b.l ha) (by simp [go_sem, ods_pur]) ?_
    try simp (maxSteps := 500000) (disch := omega) only [go_sem, Int.reduceEq, Int.reduceLT, Int.reduceLE, Int.reduceToNat, Nat.reduceLT, Nat.reduceEqDiff, Nat.reduceAdd, Nat.reduceLeDiff, Nat.reduceSub, Nat.reduceMul, ↓reduceIte, reduceCtorEq, wrap_id, w_ite_ne, w_ite_lt, Nat.sub_zero, Nat.sub_self]
    exact Pub.of_eq (by simp [g1]) rfl
  · exact Pub.of_eq (by simp [g1]) rfl
theorem ok_orders_Issue (s : Sd) (k i v : Int) (hl : s.l.length ≤ 9223372036854775807) : PC prog n_orders_Issue [sdv s, .int .i64 k, .int .i64 i, .int .i64 v] (.tuple [sdv (issS s k i v).1, odv (issS s k i v).2.1, .int .i64 (issS s k i v).2.2]) := by
  have no : ∀ {σ : St} (e : Int), issS s k i v = (⟨0, []⟩, ⟨0, 0, 0, 0⟩, e) → Pub σ (.tuple [.agg [.int .i64 0, .nil], .agg [.int .i64 0, .int .i64 0, .int .i64 0, .int .i64 0], .int .i64 e]) (.tuple [sdv (issS s k i v).1, odv (issS s k i v).2.1, .int .i64 (issS s k i v).2.2]) := by
    intro σ e h
    rw [h]
    exact Pub.tu (.cons (Pub.ag (.cons (.pure rfl) (.cons (.nl 4) .nil))) (.cons (.pure rfl) (.cons (.pure rfl) .nil)))
  refine PC_of_body b_orders_Issue (by simp) ?_
  simp only [c_orders_Issue, go_sem, Int.reduceEq, Int.reduceLT, Int.reduceLE, Int.reduceToNat, Nat.reduceLT, Nat.reduceEqDiff, Nat.reduceAdd, Nat.reduceLeDiff, Nat.reduceSub, Nat.reduceMul, ↓reduceIte, reduceCtorEq, w_app_nl, sdv]
  refine call_pc (ok_orders_Valid s hl) (by simp [go_sem, sdv, ods_pur]) ?_
  cases hok : sdOk s <;> try simp (maxSteps := 500000) (disch := omega) only [go_sem, Int.reduceEq, Int.reduceLT, Int.reduceLE, Int.reduceToNat, Nat.reduceLT, Nat.reduceEqDiff, Nat.reduceAdd, Nat.reduceLeDiff, Nat.reduceSub, Nat.reduceMul, ↓reduceIte, reduceCtorEq, wrap_id, w_ite_ne, w_ite_lt, Nat.sub_zero, Nat.sub_self]
  · exact no 50 (by simp [issS, hok])
  have hb := sdOk_l hok
  refine call_pc (ok_orders_check k i v) (by simp [go_sem]) ?_
  try simp (maxSteps := 500000) (disch := omega) only [go_sem, Int.reduceEq, Int.reduceLT, Int.reduceLE, Int.reduceToNat, Nat.reduceLT, Nat.reduceEqDiff, Nat.reduceAdd, Nat.reduceLeDiff, Nat.reduceSub, Nat.reduceMul, ↓reduceIte, reduceCtorEq, wrap_id, w_ite_ne, w_ite_lt, Nat.sub_zero, Nat.sub_self]
  refine cond_n (fun hf => ?_) (fun hf => ?_) <;> try simp (maxSteps := 500000) (disch := omega) only [go_sem, Int.reduceEq, Int.reduceLT, Int.reduceLE, Int.reduceToNat, Nat.reduceLT, Nat.reduceEqDiff, Nat.reduceAdd, Nat.reduceLeDiff, Nat.reduceSub, Nat.reduceMul, ↓reduceIte, reduceCtorEq, wrap_id, w_ite_ne, w_ite_lt, Nat.sub_zero, Nat.sub_self]
  · exact no (fitE k i v) (by simp [issS, hok, hf])
  try simp (maxSteps := 500000) (disch := omega) only [go_sem, Int.reduceEq, Int.reduceLT, Int.reduceLE, Int.reduceToNat, Nat.reduceLT, Nat.reduceEqDiff, Nat.reduceAdd, Nat.reduceLeDiff, Nat.reduceSub, Nat.reduceMul, ↓reduceIte, reduceCtorEq, wrap_id, w_ite_ne, w_ite_lt, Nat.sub_zero, Nat.sub_self, ods_length]
  have fin : s.l.length = 64 ∨ s.n = 1073741824 → issS s k i v = (⟨0, []⟩, ⟨0, 0, 0, 0⟩, 10) := fun h => by simp only [issS, hok, hf, if_true, if_pos h]
  refine gd_fd rfl (fun g1 => ?_) (fun g1 => ?_) <;> try simp (maxSteps := 500000) (disch := omega) only [go_sem, Int.reduceEq, Int.reduceLT, Int.reduceLE, Int.reduceToNat, Nat.reduceLT, Nat.reduceEqDiff, Nat.reduceAdd, Nat.reduceLeDiff, Nat.reduceSub, Nat.reduceMul, ↓reduceIte, reduceCtorEq, wrap_id, w_ite_ne, w_ite_lt, Nat.sub_zero, Nat.sub_self, ods_length]
  · exact no 10 (fin (.inl (by omega)))
  refine cond_d (fun g2 => ?_) (fun g2 => ?_) <;> try simp (maxSteps := 500000) (disch := omega) only [go_sem, Int.reduceEq, Int.reduceLT, Int.reduceLE, Int.reduceToNat, Nat.reduceLT, Nat.reduceEqDiff, Nat.reduceAdd, Nat.reduceLeDiff, Nat.reduceSub, Nat.reduceMul, ↓reduceIte, reduceCtorEq, wrap_id, w_ite_ne, w_ite_lt, Nat.sub_zero, Nat.sub_self]
  · exact no 10 (fin (.inr g2))
  have hr : issS s k i v = (⟨s.n + 1, s.l ++ [⟨s.n, k, i, v⟩]⟩, ⟨s.n, k, i, v⟩, 0) := by simp only [issS, hok, hf, if_true]; rw [if_neg (by omega)]
  rw [hr]
  refine (hcl_slices_Clone__Order _ (ods s.l) (by rw [ods_length]; omega)).mono ?_
  rintro _ τ ⟨id, g, rfl, q1, q2, q3, q4⟩
  obtain ⟨ob, m, c⟩ := τ
  have p0 := q4 0 (by simp [go_sem])
  have p1 := q4 1 (by simp [go_sem])
  have p2 := q4 2 (by simp [go_sem])
  have p3 := q4 3 (by simp [go_sem])
  simp (maxSteps := 1000000) only [go_sem, Int.reduceEq, Int.reduceLT, Int.reduceLE, Int.reduceToNat, Nat.reduceLT, Nat.reduceEqDiff, Nat.reduceAdd, Nat.reduceLeDiff, Nat.reduceSub, Nat.reduceMul, ↓reduceIte, reduceCtorEq, w_app_nl] at q1 q2 q3 p0 p1 p2 p3
  try simp (maxSteps := 500000) (disch := omega) only [go_sem, Int.reduceEq, Int.reduceLT, Int.reduceLE, Int.reduceToNat, Nat.reduceLT, Nat.reduceEqDiff, Nat.reduceAdd, Nat.reduceLeDiff, Nat.reduceSub, Nat.reduceMul, ↓reduceIte, reduceCtorEq, wrap_id, w_ite_ne, w_ite_lt, Nat.sub_zero, Nat.sub_self, ods_length, q3, p1, p2]
  refine ⟨⟨p3, p3, p0⟩, by rw [mxL]; omega, by omega, ?_⟩
  refine Pub.tu (.cons (Pub.ag (.cons (.pure rfl) (.cons ?_ .nil))) (.cons (.pure rfl) (.cons (.pure rfl) .nil)))
  refine Pub.of_sl (n := s.l.length + 1) (ty := ty_el_Order) (ro := false) (ap := true) (l := ods (s.l ++ [⟨s.n, k, i, v⟩])) ?_ (by simp [ods_length]) (ods_pur _) (ods_ok _)
  have h1 : ¬ id = 1 := by omega
  have h2 : ¬ id = 2 := by omega
  simp [h1, h2, go_sem, ods, odv]
theorem ok_ref27_Issue (s : Sd) (k i v : Int) (hl : s.l.length ≤ 9223372036854775807) : PC prog n_ref27_Issue [sdv s, .int .i64 k, .int .i64 i, .int .i64 v] (.tuple [sdv (issS s k i v).1, odv (issS s k i v).2.1, .int .i64 (issS s k i v).2.2]) := by
  have no : ∀ {σ : St} (e : Int), issS s k i v = (⟨0, []⟩, ⟨0, 0, 0, 0⟩, e) → Pub σ (.tuple [.agg [.int .i64 0, .nil], .agg [.int .i64 0, .int .i64 0, .int .i64 0, .int .i64 0], .int .i64 e]) (.tuple [sdv (issS s k i v).1, odv (issS s k i v).2.1, .int .i64 (issS s k i v).2.2]) := by
    intro σ e h
    rw [h]
    exact Pub.tu (.cons (Pub.ag (.cons (.pure rfl) (.cons (.nl 4) .nil))) (.cons (.pure rfl) (.cons (.pure rfl) .nil)))
  refine PC_of_body b_ref27_Issue (by simp) ?_
  simp only [c_ref27_Issue, go_sem, Int.reduceEq, Int.reduceLT, Int.reduceLE, Int.reduceToNat, Nat.reduceLT, Nat.reduceEqDiff, Nat.reduceAdd, Nat.reduceLeDiff, Nat.reduceSub, Nat.reduceMul, ↓reduceIte, reduceCtorEq, w_app_nl, sdv]
  refine call_pc (ok_ref27_Valid s hl) (by simp [go_sem, sdv, ods_pur]) ?_
  cases hok : sdOk s <;> try simp (maxSteps := 500000) (disch := omega) only [go_sem, Int.reduceEq, Int.reduceLT, Int.reduceLE, Int.reduceToNat, Nat.reduceLT, Nat.reduceEqDiff, Nat.reduceAdd, Nat.reduceLeDiff, Nat.reduceSub, Nat.reduceMul, ↓reduceIte, reduceCtorEq, wrap_id, w_ite_ne, w_ite_lt, Nat.sub_zero, Nat.sub_self]
  · exact no 50 (by simp [issS, hok])
  have hb := sdOk_l hok
  refine call_pc (ok_ref27_Fits k i v) (by simp [go_sem]) ?_
  try simp (maxSteps := 500000) (disch := omega) only [go_sem, Int.reduceEq, Int.reduceLT, Int.reduceLE, Int.reduceToNat, Nat.reduceLT, Nat.reduceEqDiff, Nat.reduceAdd, Nat.reduceLeDiff, Nat.reduceSub, Nat.reduceMul, ↓reduceIte, reduceCtorEq, wrap_id, w_ite_ne, w_ite_lt, Nat.sub_zero, Nat.sub_self]
  refine cond_n (fun hf => ?_) (fun hf => ?_) <;> try simp (maxSteps := 500000) (disch := omega) only [go_sem, Int.reduceEq, Int.reduceLT, Int.reduceLE, Int.reduceToNat, Nat.reduceLT, Nat.reduceEqDiff, Nat.reduceAdd, Nat.reduceLeDiff, Nat.reduceSub, Nat.reduceMul, ↓reduceIte, reduceCtorEq, wrap_id, w_ite_ne, w_ite_lt, Nat.sub_zero, Nat.sub_self]
  · exact no (fitE k i v) (by simp [issS, hok, hf])
  try simp (maxSteps := 500000) (disch := omega) only [go_sem, Int.reduceEq, Int.reduceLT, Int.reduceLE, Int.reduceToNat, Nat.reduceLT, Nat.reduceEqDiff, Nat.reduceAdd, Nat.reduceLeDiff, Nat.reduceSub, Nat.reduceMul, ↓reduceIte, reduceCtorEq, wrap_id, w_ite_ne, w_ite_lt, Nat.sub_zero, Nat.sub_self, ods_length]
  have fin : s.l.length = 64 ∨ s.n = 1073741824 → issS s k i v = (⟨0, []⟩, ⟨0, 0, 0, 0⟩, 10) := fun h => by simp only [issS, hok, hf, if_true, if_pos h]
  refine gd_fd rfl (fun g1 => ?_) (fun g1 => ?_) <;> try simp (maxSteps := 500000) (disch := omega) only [go_sem, Int.reduceEq, Int.reduceLT, Int.reduceLE, Int.reduceToNat, Nat.reduceLT, Nat.reduceEqDiff, Nat.reduceAdd, Nat.reduceLeDiff, Nat.reduceSub, Nat.reduceMul, ↓reduceIte, reduceCtorEq, wrap_id, w_ite_ne, w_ite_lt, Nat.sub_zero, Nat.sub_self, ods_length]
  · exact no 10 (fin (.inl (by omega)))
  refine cond_d (fun g2 => ?_) (fun g2 => ?_) <;> try simp (maxSteps := 500000) (disch := omega) only [go_sem, Int.reduceEq, Int.reduceLT, Int.reduceLE, Int.reduceToNat, Nat.reduceLT, Nat.reduceEqDiff, Nat.reduceAdd, Nat.reduceLeDiff, Nat.reduceSub, Nat.reduceMul, ↓reduceIte, reduceCtorEq, wrap_id, w_ite_ne, w_ite_lt, Nat.sub_zero, Nat.sub_self]
  · exact no 10 (fin (.inr g2))
  have hr : issS s k i v = (⟨s.n + 1, s.l ++ [⟨s.n, k, i, v⟩]⟩, ⟨s.n, k, i, v⟩, 0) := by simp only [issS, hok, hf, if_true]; rw [if_neg (by omega)]
  rw [hr]
  refine app_slrs (es := 4) (b := 32) (L := []) (M := ods s.l) .nil (by simp [ods_length]; omega) (by simp [ods_length]; omega) fun X1 τ1 hR1 hK1 => ?_
  try simp (maxSteps := 500000) (disch := omega) only [go_sem, Int.reduceEq, Int.reduceLT, Int.reduceLE, Int.reduceToNat, Nat.reduceLT, Nat.reduceEqDiff, Nat.reduceAdd, Nat.reduceLeDiff, Nat.reduceSub, Nat.reduceMul, ↓reduceIte, reduceCtorEq, wrap_id, w_ite_ne, w_ite_lt, Nat.sub_zero, Nat.sub_self, hR1.one, hR1.flat, hR1.cells]
  have hk := hK1.1
  have p0 := hK1.2.1 0 (by simp [go_sem]) (Oth.nil 0)
  have p1 := hK1.2.1 1 (by simp [go_sem]) (Oth.nil 1)
  have p2 := hK1.2.1 2 (by simp [go_sem]) (Oth.nil 2)
  have p3 := hK1.2.1 3 (by simp [go_sem]) (Oth.nil 3)
  have o0 := hK1.2.2 0 (by simp [go_sem]) (Oth.nil 0)
  have o3 := hK1.2.2 3 (by simp [go_sem]) (Oth.nil 3)
  have o1 := hK1.2.2 1 (by simp [go_sem]) (Oth.nil 1)
  have o2 := hK1.2.2 2 (by simp [go_sem]) (Oth.nil 2)
  simp (maxSteps := 1000000) only [go_sem, Int.reduceEq, Int.reduceLT, Int.reduceLE, Int.reduceToNat, Nat.reduceLT, Nat.reduceEqDiff, Nat.reduceAdd, Nat.reduceLeDiff, Nat.reduceSub, Nat.reduceMul, ↓reduceIte, reduceCtorEq, w_app_nl] at p0 p1 p2 p3 hk
  refine ⟨⟨p3, p3, p0⟩, ?_⟩
  refine app_slr hR1 (by simp [ods_length]; omega) (by simp [ods_length]; omega) fun X2 τ2 hR2 hK2 => ?_
  have r1 := hK2.2.1 1 (by omega) o1
  have r2 := hK2.2.1 2 (by omega) o2
  have r0 := hK2.2.1 0 (by omega) o0
  have r3 := hK2.2.1 3 (by omega) o3
  have o1 := hK2.2.2 1 (by omega) o1
  have o2 := hK2.2.2 2 (by omega) o2
  rw [p1] at r1
  rw [p2] at r2
  obtain ⟨ob2, m2, c2⟩ := τ2
  simp only at r0 r1 r2 r3
  try simp (maxSteps := 500000) (disch := omega) only [go_sem, Int.reduceEq, Int.reduceLT, Int.reduceLE, Int.reduceToNat, Nat.reduceLT, Nat.reduceEqDiff, Nat.reduceAdd, Nat.reduceLeDiff, Nat.reduceSub, Nat.reduceMul, ↓reduceIte, reduceCtorEq, wrap_id, w_ite_ne, w_ite_lt, Nat.sub_zero, Nat.sub_self, hR2.one, hR2.flat, hR2.cells, r1, r2, r0, r3]
  refine Pub.three (Pub.ag (.cons ?_ (.cons ?_ .nil))) ?_ ?_
  · exact .pure rfl
  rotate_left
  · exact .pure rfl
  · exact .pure rfl
  rw [show [] ++ ods s.l ++ [AV.agg [AV.int .i64 s.n, AV.int .i64 k, AV.int .i64 i, AV.int .i64 v]] = ods (s.l ++ [⟨s.n, k, i, v⟩]) by simp [ods, odv]] at hR2
  refine hR2.pub (fun i hi hi2 => ?_) (ods_pur _) (ods_ok _)
  have h1 : ¬ i = 1 := fun e => hi2 (by subst e; exact o1)
  have h2 : ¬ i = 2 := fun e => hi2 (by subst e; exact o2)
  simp [h1, h2, go_sem]
theorem ok_orders_numberOf (o : Od) : PC prog n_orders_numberOf [odv o] (.int .i64 o.n) := by
  refine PC_of_body b_orders_numberOf (by simp) ?_
  simp only [c_orders_numberOf, go_sem, Int.reduceEq, Int.reduceLT, Int.reduceLE, Int.reduceToNat, Nat.reduceLT, Nat.reduceEqDiff, Nat.reduceAdd, Nat.reduceLeDiff, Nat.reduceSub, Nat.reduceMul, ↓reduceIte, reduceCtorEq, w_app_nl, odv]
  try simp (maxSteps := 500000) (disch := omega) only [go_sem, Int.reduceEq, Int.reduceLT, Int.reduceLE, Int.reduceToNat, Nat.reduceLT, Nat.reduceEqDiff, Nat.reduceAdd, Nat.reduceLeDiff, Nat.reduceSub, Nat.reduceMul, ↓reduceIte, reduceCtorEq, wrap_id, w_ite_ne, w_ite_lt, Nat.sub_zero, Nat.sub_self]
  exact Pub.of_eq rfl rfl
theorem ok_orders_place_1__Order (x : Int) (h : Od) (hh : -4611686018427387904 ≤ h.n - x ∧ h.n - x ≤ 4611686018427387904) : PC prog n_orders_place_1__Order [odv h, .int .i64 x, .rptr 1 [.func n_orders_numberOf []] 0 0] (.int .i64 (h.n - x)) := by
  refine PC_of_body b_orders_place_1__Order (by simp) ?_
  simp only [c_orders_place_1__Order, go_sem, Int.reduceEq, Int.reduceLT, Int.reduceLE, Int.reduceToNat, Nat.reduceLT, Nat.reduceEqDiff, Nat.reduceAdd, Nat.reduceLeDiff, Nat.reduceSub, Nat.reduceMul, ↓reduceIte, reduceCtorEq, w_app_nl, odv]
  try simp (maxSteps := 500000) (disch := omega) only [go_sem, Int.reduceEq, Int.reduceLT, Int.reduceLE, Int.reduceToNat, Nat.reduceLT, Nat.reduceEqDiff, Nat.reduceAdd, Nat.reduceLeDiff, Nat.reduceSub, Nat.reduceMul, ↓reduceIte, reduceCtorEq, wrap_id, w_ite_ne, w_ite_lt, Nat.sub_zero, Nat.sub_self]
  refine call_pc (ok_orders_numberOf h) (by simp [go_sem, odv]) ?_
  try simp (maxSteps := 500000) (disch := omega) only [go_sem, Int.reduceEq, Int.reduceLT, Int.reduceLE, Int.reduceToNat, Nat.reduceLT, Nat.reduceEqDiff, Nat.reduceAdd, Nat.reduceLeDiff, Nat.reduceSub, Nat.reduceMul, ↓reduceIte, reduceCtorEq, wrap_id, w_ite_ne, w_ite_lt, Nat.sub_zero, Nat.sub_self]
  exact Pub.of_eq rfl rfl
theorem hc_slices_BinarySearchFunc__int (σ : St) (l : List Od) (x : Int) (f : Nat) (caps : List AV) (hl : l.length ≤ 4611686018427387904) (hs : Asc (l.map Od.n))
    (hcb : ∀ h ∈ l, ∀ τ : St, τ.n = σ.n → (∀ k, k < σ.n → τ.ob k = σ.ob k) → HC prog f (odv h :: .int .i64 x :: caps) τ (fun r τ' => r = .int .i64 (h.n - x) ∧ τ' = τ)) :
    HC prog n_slices_BinarySearchFunc__int [.list 4 (ods l), .int .i64 x, .func f caps] σ (fun r τ => r = .tuple [.int .i64 (bsI (l.map Od.n) x), .bool (decide ((l.map Od.n)[bsI (l.map Od.n) x]? = some x))] ∧ τ.n = σ.n ∧ ∀ k, k < σ.n → τ.ob k = σ.ob k) := by
  obtain ⟨L, hL⟩ : ∃ L, L = l.map Od.n := ⟨_, rfl⟩
  have hLl : L.length = l.length := by simp [hL]
  rw [← hL] at hs ⊢
  refine HC_of_body b_slices_BinarySearchFunc__int (by simp) ?_
  simp only [c_slices_BinarySearchFunc__int, go_sem, Int.reduceEq, Int.reduceLT, Int.reduceLE, Int.reduceToNat, Nat.reduceLT, Nat.reduceEqDiff, Nat.reduceAdd, Nat.reduceLeDiff, Nat.reduceSub, Nat.reduceMul, ↓reduceIte, reduceCtorEq, w_app_nl, ods_length]
  refine awp_loopF [9, 10, 11, 15, 16, 17, 18, 19, 20, 21, 22, 23, 24, 25, 26, 27, 28, 29, 30, 31, 32, 33, 34] (by kernel_rfl) (fun k e τ => (∀ k, k < σ.n → τ.ob k = σ.ob k) ∧ ∃ i j : Nat, e 9 = .int .i64 i ∧ e 10 = .int .i64 j ∧ i ≤ j ∧ j ≤ l.length ∧ k = j - i ∧ (∀ k, k < i → ∀ y, L[k]? = some y → y < x) ∧ (∀ k, j ≤ k → ∀ y, L[k]? = some y → x ≤ y)) l.length ?_ ?_
  · exact ⟨fun _ _ => rfl, 0, l.length, (by first | ((try simp (maxSteps := 1000000) only [go_sem, Int.reduceEq, Int.reduceLT, Int.reduceLE, Int.reduceToNat, Nat.reduceLT, Nat.reduceEqDiff, Nat.reduceAdd, Nat.reduceLeDiff, Nat.reduceSub, Nat.reduceMul, ↓reduceIte, reduceCtorEq, w_app_nl]); done) | ((try simp (maxSteps := 1000000) only [go_sem, Int.reduceEq, Int.reduceLT, Int.reduceLE, Int.reduceToNat, Nat.reduceLT, Nat.reduceEqDiff, Nat.reduceAdd, Nat.reduceLeDiff, Nat.reduceSub, Nat.reduceMul, ↓reduceIte, reduceCtorEq, w_app_nl]); rfl) | ((try simp (maxSteps := 1000000) (disch := omega) only [go_sem, Int.reduceEq, Int.reduceLT, Int.reduceLE, Int.reduceToNat, Nat.reduceLT, Nat.reduceEqDiff, Nat.reduceAdd, Nat.reduceLeDiff, Nat.reduceSub, Nat.reduceMul, ↓reduceIte, reduceCtorEq, w_app_nl, wrap_id, w_ite_ne, w_ite_lt]); rfl) | (simp (maxSteps := 1000000) (disch := omega) only [go_sem, Int.reduceEq, Int.reduceLT, Int.reduceLE, Int.reduceToNat, Nat.reduceLT, Nat.reduceEqDiff, Nat.reduceAdd, Nat.reduceLeDiff, Nat.reduceSub, Nat.reduceMul, ↓reduceIte, reduceCtorEq, w_app_nl, wrap_id, w_ite_ne, w_ite_lt]; done)), (by first | ((try simp (maxSteps := 1000000) only [go_sem, Int.reduceEq, Int.reduceLT, Int.reduceLE, Int.reduceToNat, Nat.reduceLT, Nat.reduceEqDiff, Nat.reduceAdd, Nat.reduceLeDiff, Nat.reduceSub, Nat.reduceMul, ↓reduceIte, reduceCtorEq, w_app_nl]); done) | ((try simp (maxSteps := 1000000) only [go_sem, Int.reduceEq, Int.reduceLT, Int.reduceLE, Int.reduceToNat, Nat.reduceLT, Nat.reduceEqDiff, Nat.reduceAdd, Nat.reduceLeDiff, Nat.reduceSub, Nat.reduceMul, ↓reduceIte, reduceCtorEq, w_app_nl]); rfl) | ((try simp (maxSteps := 1000000) (disch := omega) only [go_sem, Int.reduceEq, Int.reduceLT, Int.reduceLE, Int.reduceToNat, Nat.reduceLT, Nat.reduceEqDiff, Nat.reduceAdd, Nat.reduceLeDiff, Nat.reduceSub, Nat.reduceMul, ↓reduceIte, reduceCtorEq, w_app_nl, wrap_id, w_ite_ne, w_ite_lt]); rfl) | (simp (maxSteps := 1000000) (disch := omega) only [go_sem, Int.reduceEq, Int.reduceLT, Int.reduceLE, Int.reduceToNat, Nat.reduceLT, Nat.reduceEqDiff, Nat.reduceAdd, Nat.reduceLeDiff, Nat.reduceSub, Nat.reduceMul, ↓reduceIte, reduceCtorEq, w_app_nl, wrap_id, w_ite_ne, w_ite_lt]; done)), by omega, by omega, by omega, fun k hk => by omega, fun k hk y hy => by have := (List.getElem?_eq_some_iff.1 hy).1; omega⟩
  · rintro r fe ob c ⟨hτ, i, j, h9, h10, hij, hjl, rfl, hlo, hhi⟩
    simp (maxSteps := 1000000) only [go_sem, Int.reduceEq, Int.reduceLT, Int.reduceLE, Int.reduceToNat, Nat.reduceLT, Nat.reduceEqDiff, Nat.reduceAdd, Nat.reduceLeDiff, Nat.reduceSub, Nat.reduceMul, ↓reduceIte, reduceCtorEq, w_app_nl] at h9 h10 hτ
    try simp (maxSteps := 500000) (disch := omega) only [go_sem, Int.reduceEq, Int.reduceLT, Int.reduceLE, Int.reduceToNat, Nat.reduceLT, Nat.reduceEqDiff, Nat.reduceAdd, Nat.reduceLeDiff, Nat.reduceSub, Nat.reduceMul, ↓reduceIte, reduceCtorEq, wrap_id, w_ite_ne, w_ite_lt, Nat.sub_zero, Nat.sub_self, h9, h10]
    refine cond_d (fun hlt => ?_) (fun hge => ?_)
    · have hij2 : i < j := by omega
      try simp (maxSteps := 500000) (disch := omega) only [go_sem, Int.reduceEq, Int.reduceLT, Int.reduceLE, Int.reduceToNat, Nat.reduceLT, Nat.reduceEqDiff, Nat.reduceAdd, Nat.reduceLeDiff, Nat.reduceSub, Nat.reduceMul, ↓reduceIte, reduceCtorEq, wrap_id, w_ite_ne, w_ite_lt, Nat.sub_zero, Nat.sub_self, h9, h10, wrap_u64, bit_half, Option.some.injEq, exists_eq_left']
      generalize hm : (i + j) / 2 = m
      have hmi : ((i : Int) + j) / 2 = (m : Int) := by omega
      have hg : l[m]? = some l[m] := List.getElem?_eq_getElem (by omega)
      try simp (maxSteps := 500000) (disch := omega) only [go_sem, Int.reduceEq, Int.reduceLT, Int.reduceLE, Int.reduceToNat, Nat.reduceLT, Nat.reduceEqDiff, Nat.reduceAdd, Nat.reduceLeDiff, Nat.reduceSub, Nat.reduceMul, ↓reduceIte, reduceCtorEq, wrap_id, w_ite_ne, w_ite_lt, Nat.sub_zero, Nat.sub_self, hmi, h9, h10, ods_get, ods_length, hg, Option.map_some, odv]
      repeat (refine And.intro (by first | omega | (rw [mxL]; omega) | (simp [maxLen]; done) | (simp [maxLen]; omega)) ?_)
      refine (hcb l[m] (List.getElem_mem _) ⟨ob, σ.n, c⟩ rfl hτ).mono ?_
      rintro _ _ ⟨rfl, rfl⟩
      have hgm : L[m]? = some l[m].n := by simp [hL, hg]
      generalize l[m] = q at *
      try simp (maxSteps := 500000) (disch := omega) only [go_sem, Int.reduceEq, Int.reduceLT, Int.reduceLE, Int.reduceToNat, Nat.reduceLT, Nat.reduceEqDiff, Nat.reduceAdd, Nat.reduceLeDiff, Nat.reduceSub, Nat.reduceMul, ↓reduceIte, reduceCtorEq, wrap_id, w_ite_ne, w_ite_lt, Nat.sub_zero, Nat.sub_self, h9, h10]
      refine cond_d (fun hlt => ?_) (fun hge => ?_)
      · try simp (maxSteps := 500000) (disch := omega) only [go_sem, Int.reduceEq, Int.reduceLT, Int.reduceLE, Int.reduceToNat, Nat.reduceLT, Nat.reduceEqDiff, Nat.reduceAdd, Nat.reduceLeDiff, Nat.reduceSub, Nat.reduceMul, ↓reduceIte, reduceCtorEq, wrap_id, w_ite_ne, w_ite_lt, Nat.sub_zero, Nat.sub_self, h9, h10]
        refine ⟨j - (m + 1), by omega, _, Nat.le_refl _, rfl, fun k hk => by try simp (maxSteps := 500000) (disch := omega) only [go_sem, Int.reduceEq, Int.reduceLT, Int.reduceLE, Int.reduceToNat, Nat.reduceLT, Nat.reduceEqDiff, Nat.reduceAdd, Nat.reduceLeDiff, Nat.reduceSub, Nat.reduceMul, ↓reduceIte, reduceCtorEq, wrap_id, w_ite_ne, w_ite_lt, Nat.sub_zero, Nat.sub_self]; exact hτ k hk, m + 1, j, (by first | ((try simp (maxSteps := 1000000) only [go_sem, Int.reduceEq, Int.reduceLT, Int.reduceLE, Int.reduceToNat, Nat.reduceLT, Nat.reduceEqDiff, Nat.reduceAdd, Nat.reduceLeDiff, Nat.reduceSub, Nat.reduceMul, ↓reduceIte, reduceCtorEq, w_app_nl]); done) | ((try simp (maxSteps := 1000000) only [go_sem, Int.reduceEq, Int.reduceLT, Int.reduceLE, Int.reduceToNat, Nat.reduceLT, Nat.reduceEqDiff, Nat.reduceAdd, Nat.reduceLeDiff, Nat.reduceSub, Nat.reduceMul, ↓reduceIte, reduceCtorEq, w_app_nl]); rfl) | ((try simp (maxSteps := 1000000) (disch := omega) only [go_sem, Int.reduceEq, Int.reduceLT, Int.reduceLE, Int.reduceToNat, Nat.reduceLT, Nat.reduceEqDiff, Nat.reduceAdd, Nat.reduceLeDiff, Nat.reduceSub, Nat.reduceMul, ↓reduceIte, reduceCtorEq, w_app_nl, wrap_id, w_ite_ne, w_ite_lt]); rfl) | (simp (maxSteps := 1000000) (disch := omega) only [go_sem, Int.reduceEq, Int.reduceLT, Int.reduceLE, Int.reduceToNat, Nat.reduceLT, Nat.reduceEqDiff, Nat.reduceAdd, Nat.reduceLeDiff, Nat.reduceSub, Nat.reduceMul, ↓reduceIte, reduceCtorEq, w_app_nl, wrap_id, w_ite_ne, w_ite_lt]; done)), (by first | ((try simp (maxSteps := 1000000) only [go_sem, Int.reduceEq, Int.reduceLT, Int.reduceLE, Int.reduceToNat, Nat.reduceLT, Nat.reduceEqDiff, Nat.reduceAdd, Nat.reduceLeDiff, Nat.reduceSub, Nat.reduceMul, ↓reduceIte, reduceCtorEq, w_app_nl]); done) | ((try simp (maxSteps := 1000000) only [go_sem, Int.reduceEq, Int.reduceLT, Int.reduceLE, Int.reduceToNat, Nat.reduceLT, Nat.reduceEqDiff, Nat.reduceAdd, Nat.reduceLeDiff, Nat.reduceSub, Nat.reduceMul, ↓reduceIte, reduceCtorEq, w_app_nl]); rfl) | ((try simp (maxSteps := 1000000) (disch := omega) only [go_sem, Int.reduceEq, Int.reduceLT, Int.reduceLE, Int.reduceToNat, Nat.reduceLT, Nat.reduceEqDiff, Nat.reduceAdd, Nat.reduceLeDiff, Nat.reduceSub, Nat.reduceMul, ↓reduceIte, reduceCtorEq, w_app_nl, wrap_id, w_ite_ne, w_ite_lt]); rfl) | (simp (maxSteps := 1000000) (disch := omega) only [go_sem, Int.reduceEq, Int.reduceLT, Int.reduceLE, Int.reduceToNat, Nat.reduceLT, Nat.reduceEqDiff, Nat.reduceAdd, Nat.reduceLeDiff, Nat.reduceSub, Nat.reduceMul, ↓reduceIte, reduceCtorEq, w_app_nl, wrap_id, w_ite_ne, w_ite_lt]; done)), by omega, by omega, by omega, fun k hk y hy => ?_, hhi⟩
        by_cases e : k = m
        · subst e; rw [hgm] at hy; obtain rfl := Option.some.inj hy; omega
        · have := hs k m (by omega) y _ hy hgm; omega
      · try simp (maxSteps := 500000) (disch := omega) only [go_sem, Int.reduceEq, Int.reduceLT, Int.reduceLE, Int.reduceToNat, Nat.reduceLT, Nat.reduceEqDiff, Nat.reduceAdd, Nat.reduceLeDiff, Nat.reduceSub, Nat.reduceMul, ↓reduceIte, reduceCtorEq, wrap_id, w_ite_ne, w_ite_lt, Nat.sub_zero, Nat.sub_self, h9, h10]
        refine ⟨m - i, by omega, _, Nat.le_refl _, rfl, fun k hk => by try simp (maxSteps := 500000) (disch := omega) only [go_sem, Int.reduceEq, Int.reduceLT, Int.reduceLE, Int.reduceToNat, Nat.reduceLT, Nat.reduceEqDiff, Nat.reduceAdd, Nat.reduceLeDiff, Nat.reduceSub, Nat.reduceMul, ↓reduceIte, reduceCtorEq, wrap_id, w_ite_ne, w_ite_lt, Nat.sub_zero, Nat.sub_self]; exact hτ k hk, i, m, (by first | ((try simp (maxSteps := 1000000) only [go_sem, Int.reduceEq, Int.reduceLT, Int.reduceLE, Int.reduceToNat, Nat.reduceLT, Nat.reduceEqDiff, Nat.reduceAdd, Nat.reduceLeDiff, Nat.reduceSub, Nat.reduceMul, ↓reduceIte, reduceCtorEq, w_app_nl]); done) | ((try simp (maxSteps := 1000000) only [go_sem, Int.reduceEq, Int.reduceLT, Int.reduceLE, Int.reduceToNat, Nat.reduceLT, Nat.reduceEqDiff, Nat.reduceAdd, Nat.reduceLeDiff, Nat.reduceSub, Nat.reduceMul, ↓reduceIte, reduceCtorEq, w_app_nl]); rfl) | ((try simp (maxSteps := 1000000) (disch := omega) only [go_sem, Int.reduceEq, Int.reduceLT, Int.reduceLE, Int.reduceToNat, Nat.reduceLT, Nat.reduceEqDiff, Nat.reduceAdd, Nat.reduceLeDiff, Nat.reduceSub, Nat.reduceMul, ↓reduceIte, reduceCtorEq, w_app_nl, wrap_id, w_ite_ne, w_ite_lt]); rfl) | (simp (maxSteps := 1000000) (disch := omega) only [go_sem, Int.reduceEq, Int.reduceLT, Int.reduceLE, Int.reduceToNat, Nat.reduceLT, Nat.reduceEqDiff, Nat.reduceAdd, Nat.reduceLeDiff, Nat.reduceSub, Nat.reduceMul, ↓reduceIte, reduceCtorEq, w_app_nl, wrap_id, w_ite_ne, w_ite_lt]; done)), (by first | ((try simp (maxSteps := 1000000) only [go_sem, Int.reduceEq, Int.reduceLT, Int.reduceLE, Int.reduceToNat, Nat.reduceLT, Nat.reduceEqDiff, Nat.reduceAdd, Nat.reduceLeDiff, Nat.reduceSub, Nat.reduceMul, ↓reduceIte, reduceCtorEq, w_app_nl]); done) | ((try simp (maxSteps := 1000000) only [go_sem, Int.reduceEq, Int.reduceLT, Int.reduceLE, Int.reduceToNat, Nat.reduceLT, Nat.reduceEqDiff, Nat.reduceAdd, Nat.reduceLeDiff, Nat.reduceSub, Nat.reduceMul, ↓reduceIte, reduceCtorEq, w_app_nl]); rfl) | ((try simp (maxSteps := 1000000) (disch := omega) only [go_sem, Int.reduceEq, Int.reduceLT, Int.reduceLE, Int.reduceToNat, Nat.reduceLT, Nat.reduceEqDiff, Nat.reduceAdd, Nat.reduceLeDiff, Nat.reduceSub, Nat.reduceMul, ↓reduceIte, reduceCtorEq, w_app_nl, wrap_id, w_ite_ne, w_ite_lt]); rfl) | (simp (maxSteps := 1000000) (disch := omega) only [go_sem, Int.reduceEq, Int.reduceLT, Int.reduceLE, Int.reduceToNat, Nat.reduceLT, Nat.reduceEqDiff, Nat.reduceAdd, Nat.reduceLeDiff, Nat.reduceSub, Nat.reduceMul, ↓reduceIte, reduceCtorEq, w_app_nl, wrap_id, w_ite_ne, w_ite_lt]; done)), by omega, by omega, by omega, hlo, fun k hk y hy => ?_⟩
        by_cases e : k = m
        · subst e; rw [hgm] at hy; obtain rfl := Option.some.inj hy; omega
        · have := hs m k (by omega) _ y hgm hy; omega
    · have hij2 : i = j := by omega
      subst hij2
      have hb := bsI_eq L x i (by omega) hlo hhi
      rw [hb]
      try simp (maxSteps := 500000) (disch := omega) only [go_sem, Int.reduceEq, Int.reduceLT, Int.reduceLE, Int.reduceToNat, Nat.reduceLT, Nat.reduceEqDiff, Nat.reduceAdd, Nat.reduceLeDiff, Nat.reduceSub, Nat.reduceMul, ↓reduceIte, reduceCtorEq, wrap_id, w_ite_ne, w_ite_lt, Nat.sub_zero, Nat.sub_self, h9, h10]
      refine gd_td rfl (fun h => ?_) (fun h => ?_)
      · have hg : l[i]? = some l[i] := List.getElem?_eq_getElem (by omega)
        try simp (maxSteps := 500000) (disch := omega) only [go_sem, Int.reduceEq, Int.reduceLT, Int.reduceLE, Int.reduceToNat, Nat.reduceLT, Nat.reduceEqDiff, Nat.reduceAdd, Nat.reduceLeDiff, Nat.reduceSub, Nat.reduceMul, ↓reduceIte, reduceCtorEq, wrap_id, w_ite_ne, w_ite_lt, Nat.sub_zero, Nat.sub_self, h9, h10, ods_get, ods_length, hg, Option.map_some, odv]
        repeat (refine And.intro (by first | omega | (rw [mxL]; omega) | (simp [maxLen]; done) | (simp [maxLen]; omega)) ?_)
        refine (hcb l[i] (List.getElem_mem _) ⟨ob, σ.n, c⟩ rfl hτ).mono ?_
        rintro _ _ ⟨rfl, rfl⟩
        try simp (maxSteps := 500000) (disch := omega) only [go_sem, Int.reduceEq, Int.reduceLT, Int.reduceLE, Int.reduceToNat, Nat.reduceLT, Nat.reduceEqDiff, Nat.reduceAdd, Nat.reduceLeDiff, Nat.reduceSub, Nat.reduceMul, ↓reduceIte, reduceCtorEq, wrap_id, w_ite_ne, w_ite_lt, Nat.sub_zero, Nat.sub_self, h9, h10]
        refine ⟨?_, hτ⟩
        have hgm : L[i]? = some l[i].n := by simp [hL, hg]
        rw [hgm]
        simp only [Option.some.injEq]
        congr 3
        by_cases e : l[i].n = x
        · simp [e]
        · have : ¬ l[i].n - x = 0 := by omega
          simp [e, this]
      · try simp (maxSteps := 500000) (disch := omega) only [go_sem, Int.reduceEq, Int.reduceLT, Int.reduceLE, Int.reduceToNat, Nat.reduceLT, Nat.reduceEqDiff, Nat.reduceAdd, Nat.reduceLeDiff, Nat.reduceSub, Nat.reduceMul, ↓reduceIte, reduceCtorEq, wrap_id, w_ite_ne, w_ite_lt, Nat.sub_zero, Nat.sub_self, h9, h10]
        refine ⟨?_, hτ⟩
        rw [List.getElem?_eq_none (by omega)]
        simp
theorem ok_orders_place__Order (l : List Od) (o : Od) (s : Int) (hl : l.length ≤ 64) (hok : ascO s l = true) (ho : odOk o = true) : PC prog n_orders_place__Order [.list 4 (ods l), odv o, .func n_orders_numberOf []] (.tuple [.int .i64 (bsI (l.map Od.n) o.n), .bool (decide ((l.map Od.n)[bsI (l.map Od.n) o.n]? = some o.n))]) := by
  have hs := od_Asc hok
  have hn := odOk_n ho
  refine PC_of_body b_orders_place__Order (by simp) ?_
  simp only [c_orders_place__Order, go_sem, Int.reduceEq, Int.reduceLT, Int.reduceLE, Int.reduceToNat, Nat.reduceLT, Nat.reduceEqDiff, Nat.reduceAdd, Nat.reduceLeDiff, Nat.reduceSub, Nat.reduceMul, ↓reduceIte, reduceCtorEq, w_app_nl, odv]
  try simp (maxSteps := 500000) (disch := omega) only [go_sem, Int.reduceEq, Int.reduceLT, Int.reduceLE, Int.reduceToNat, Nat.reduceLT, Nat.reduceEqDiff, Nat.reduceAdd, Nat.reduceLeDiff, Nat.reduceSub, Nat.reduceMul, ↓reduceIte, reduceCtorEq, wrap_id, w_ite_ne, w_ite_lt, Nat.sub_zero, Nat.sub_self]
  refine call_pc (ok_orders_numberOf o) (by simp [go_sem, odv]) ?_
  try simp (maxSteps := 500000) (disch := omega) only [go_sem, Int.reduceEq, Int.reduceLT, Int.reduceLE, Int.reduceToNat, Nat.reduceLT, Nat.reduceEqDiff, Nat.reduceAdd, Nat.reduceLeDiff, Nat.reduceSub, Nat.reduceMul, ↓reduceIte, reduceCtorEq, wrap_id, w_ite_ne, w_ite_lt, Nat.sub_zero, Nat.sub_self]
  refine (hc_slices_BinarySearchFunc__int _ l o.n _ _ (by omega) hs (fun h hh τ hn' hτ => ?_)).mono ?_
  · have hb := ascO_lt hok h hh
    have hb2 := odOk_n hb.2
    refine call_lent (ok_orders_place_1__Order o.n h (by omega)) (.cons (.pure (by simp [go_sem, odv])) (.cons (.pure rfl) (.cons ?_ .nil))) rfl ⟨rfl, rfl⟩
    have h0 : τ.ob 1 = some ⟨1, 1, 63, false, true, [.func n_orders_numberOf []]⟩ := hτ 1 (by simp [go_sem])
    refine .ptr h0 rfl rfl rfl (by simp) (fun i a b ha hb => ?_) (by simp [okE, go_sem])
    rw [ha] at hb
    obtain rfl := Option.some.inj hb
    cases i with
    | zero => simp at ha; subst ha; exact .pure rfl
    | succ i => simp at ha
  · rintro _ τ ⟨rfl, _, _⟩
    try simp (maxSteps := 500000) (disch := omega) only [go_sem, Int.reduceEq, Int.reduceLT, Int.reduceLE, Int.reduceToNat, Nat.reduceLT, Nat.reduceEqDiff, Nat.reduceAdd, Nat.reduceLeDiff, Nat.reduceSub, Nat.reduceMul, ↓reduceIte, reduceCtorEq, wrap_id, w_ite_ne, w_ite_lt, Nat.sub_zero, Nat.sub_self]
    exact Pub.of_eq rfl rfl
theorem ok_slices_IndexFunc__Order (l : List Od) (f : Nat) (caps : List AV) (p : Od → Bool) (hc : ∀ x ∈ caps, x.pur = true) (hl : l.length ≤ 9223372036854775807) (hcb : ∀ x ∈ l, PC prog f (odv x :: caps) (.bool (p x))) :
    PC prog n_slices_IndexFunc__Order [.list 4 (ods l), .func f caps] (.int .i64 (match l.findIdx? p with | some i => (i : Int) | none => -1)) := by
  refine PC_of_body b_slices_IndexFunc__Order (by simp) ?_
  simp only [c_slices_IndexFunc__Order, go_sem, Int.reduceEq, Int.reduceLT, Int.reduceLE, Int.reduceToNat, Nat.reduceLT, Nat.reduceEqDiff, Nat.reduceAdd, Nat.reduceLeDiff, Nat.reduceSub, Nat.reduceMul, ↓reduceIte, reduceCtorEq, w_app_nl, ods_length]
  refine awp_upF [4, 5, 8, 9, 10, 11, 12, 13, 14, 15, 16, 17, 18] (by kernel_rfl) l.length (fun k e _ => e 8 = .int .i64 k ∧ (l.take k).all (fun x => !p x) = true) ?_ ?_
  · exact ⟨(by first | ((try simp (maxSteps := 1000000) only [go_sem, Int.reduceEq, Int.reduceLT, Int.reduceLE, Int.reduceToNat, Nat.reduceLT, Nat.reduceEqDiff, Nat.reduceAdd, Nat.reduceLeDiff, Nat.reduceSub, Nat.reduceMul, ↓reduceIte, reduceCtorEq, w_app_nl]); done) | ((try simp (maxSteps := 1000000) only [go_sem, Int.reduceEq, Int.reduceLT, Int.reduceLE, Int.reduceToNat, Nat.reduceLT, Nat.reduceEqDiff, Nat.reduceAdd, Nat.reduceLeDiff, Nat.reduceSub, Nat.reduceMul, ↓reduceIte, reduceCtorEq, w_app_nl]); rfl) | ((try simp (maxSteps := 1000000) (disch := omega) only [go_sem, Int.reduceEq, Int.reduceLT, Int.reduceLE, Int.reduceToNat, Nat.reduceLT, Nat.reduceEqDiff, Nat.reduceAdd, Nat.reduceLeDiff, Nat.reduceSub, Nat.reduceMul, ↓reduceIte, reduceCtorEq, w_app_nl, wrap_id, w_ite_ne, w_ite_lt]); rfl) | (simp (maxSteps := 1000000) (disch := omega) only [go_sem, Int.reduceEq, Int.reduceLT, Int.reduceLE, Int.reduceToNat, Nat.reduceLT, Nat.reduceEqDiff, Nat.reduceAdd, Nat.reduceLeDiff, Nat.reduceSub, Nat.reduceMul, ↓reduceIte, reduceCtorEq, w_app_nl, wrap_id, w_ite_ne, w_ite_lt]; done)), by simp⟩
  · rintro k fe ob c hk ⟨h8, hj⟩
    simp (maxSteps := 1000000) only [go_sem, Int.reduceEq, Int.reduceLT, Int.reduceLE, Int.reduceToNat, Nat.reduceLT, Nat.reduceEqDiff, Nat.reduceAdd, Nat.reduceLeDiff, Nat.reduceSub, Nat.reduceMul, ↓reduceIte, reduceCtorEq, w_app_nl] at h8
    try simp (maxSteps := 500000) (disch := omega) only [go_sem, Int.reduceEq, Int.reduceLT, Int.reduceLE, Int.reduceToNat, Nat.reduceLT, Nat.reduceEqDiff, Nat.reduceAdd, Nat.reduceLeDiff, Nat.reduceSub, Nat.reduceMul, ↓reduceIte, reduceCtorEq, wrap_id, w_ite_ne, w_ite_lt, Nat.sub_zero, Nat.sub_self, h8, ods_length]
    refine cond_d (fun hlt => ?_) (fun hge => ?_)
    · have hkl : k < l.length := by omega
      have hk2 : l[k]? = some l[k] := List.getElem?_eq_getElem hkl
      have hst : (l.take (k + 1)).all (fun x => !p x) = !p l[k] := by
        rw [List.take_add_one, hk2, List.all_append, hj]; simp
      have hfi : p l[k] = true → l.findIdx? p = some k := fun hp => by
        rw [List.findIdx?_eq_some_iff_getElem]
        refine ⟨hkl, hp, fun j hj' => ?_⟩
        rw [List.all_eq_true] at hj
        have := hj l[j] (by rw [List.mem_take_iff_getElem]; exact ⟨j, by omega, rfl⟩)
        simpa using this
      have hmem : l[k] ∈ l := List.getElem_mem _
      generalize l[k] = x at *
      try simp (maxSteps := 500000) (disch := omega) only [go_sem, Int.reduceEq, Int.reduceLT, Int.reduceLE, Int.reduceToNat, Nat.reduceLT, Nat.reduceEqDiff, Nat.reduceAdd, Nat.reduceLeDiff, Nat.reduceSub, Nat.reduceMul, ↓reduceIte, reduceCtorEq, wrap_id, w_ite_ne, w_ite_lt, Nat.sub_zero, Nat.sub_self, h8, ods_length, ods_get, hk2, Option.map_some, odv]
      refine ⟨by omega, by omega, ?_⟩
      refine call_pc (hcb x hmem) (by simpa [go_sem, odv] using hc) ?_
      try simp (maxSteps := 500000) (disch := omega) only [go_sem, Int.reduceEq, Int.reduceLT, Int.reduceLE, Int.reduceToNat, Nat.reduceLT, Nat.reduceEqDiff, Nat.reduceAdd, Nat.reduceLeDiff, Nat.reduceSub, Nat.reduceMul, ↓reduceIte, reduceCtorEq, wrap_id, w_ite_ne, w_ite_lt, Nat.sub_zero, Nat.sub_self]
      cases hp : p x
      · try simp (maxSteps := 500000) (disch := omega) only [go_sem, Int.reduceEq, Int.reduceLT, Int.reduceLE, Int.reduceToNat, Nat.reduceLT, Nat.reduceEqDiff, Nat.reduceAdd, Nat.reduceLeDiff, Nat.reduceSub, Nat.reduceMul, ↓reduceIte, reduceCtorEq, wrap_id, w_ite_ne, w_ite_lt, Nat.sub_zero, Nat.sub_self, h8]
        exact up_next hkl ⟨(by first | ((try simp (maxSteps := 1000000) only [go_sem, Int.reduceEq, Int.reduceLT, Int.reduceLE, Int.reduceToNat, Nat.reduceLT, Nat.reduceEqDiff, Nat.reduceAdd, Nat.reduceLeDiff, Nat.reduceSub, Nat.reduceMul, ↓reduceIte, reduceCtorEq, w_app_nl]); done) | ((try simp (maxSteps := 1000000) only [go_sem, Int.reduceEq, Int.reduceLT, Int.reduceLE, Int.reduceToNat, Nat.reduceLT, Nat.reduceEqDiff, Nat.reduceAdd, Nat.reduceLeDiff, Nat.reduceSub, Nat.reduceMul, ↓reduceIte, reduceCtorEq, w_app_nl]); rfl) | ((try simp (maxSteps := 1000000) (disch := omega) only [go_sem, Int.reduceEq, Int.reduceLT, Int.reduceLE, Int.reduceToNat, Nat.reduceLT, Nat.reduceEqDiff, Nat.reduceAdd, Nat.reduceLeDiff, Nat.reduceSub, Nat.reduceMul, ↓reduceIte, reduceCtorEq, w_app_nl, wrap_id, w_ite_ne, w_ite_lt]); rfl) | (simp (maxSteps := 1000000) (disch := omega) only [go_sem, Int.reduceEq, Int.reduceLT, Int.reduceLE, Int.reduceToNat, Nat.reduceLT, Nat.reduceEqDiff, Nat.reduceAdd, Nat.reduceLeDiff, Nat.reduceSub, Nat.reduceMul, ↓reduceIte, reduceCtorEq, w_app_nl, wrap_id, w_ite_ne, w_ite_lt]; done)), by rw [hst, hp]; rfl⟩
      · try simp (maxSteps := 500000) (disch := omega) only [go_sem, Int.reduceEq, Int.reduceLT, Int.reduceLE, Int.reduceToNat, Nat.reduceLT, Nat.reduceEqDiff, Nat.reduceAdd, Nat.reduceLeDiff, Nat.reduceSub, Nat.reduceMul, ↓reduceIte, reduceCtorEq, wrap_id, w_ite_ne, w_ite_lt, Nat.sub_zero, Nat.sub_self, h8]
        rw [hfi hp]
        exact Pub.of_eq rfl rfl
    · try simp (maxSteps := 500000) (disch := omega) only [go_sem, Int.reduceEq, Int.reduceLT, Int.reduceLE, Int.reduceToNat, Nat.reduceLT, Nat.reduceEqDiff, Nat.reduceAdd, Nat.reduceLeDiff, Nat.reduceSub, Nat.reduceMul, ↓reduceIte, reduceCtorEq, wrap_id, w_ite_ne, w_ite_lt, Nat.sub_zero, Nat.sub_self]
      have : k = l.length := by omega
      subst this
      rw [List.take_length] at hj
      have : l.findIdx? p = none := by
        rw [List.findIdx?_eq_none_iff]
        intro x hx
        rw [List.all_eq_true] at hj
        simpa using hj x hx
      rw [this]
      exact Pub.of_eq rfl rfl
theorem filter_take_succ {α : Type} (l : List α) (q : α → Bool) (j : Nat) (x : α) (h : l[j]? = some x) : (l.take (j + 1)).filter q = (l.take j).filter q ++ (if q x = true then [x] else []) := by
  rw [List.take_add_one, h, List.filter_append]
  cases hq : q x <;> simp [hq]
/-- What DeleteFunc leaves of an object: what is kept, and something behind it. -/
def DelF (σ : St) (id g es : Nat) (ty : TypeId) (K : List AV) (r : AV) (τ : St) : Prop :=
  (∃ Z, τ.ob id = some ⟨g, es, ty, false, true, K ++ Z⟩) ∧ (r = .sl id g es 0 K.length ∨ (K = [] ∧ r = .list es [])) ∧ σ.n ≤ τ.n ∧ ∀ k, k < σ.n → k ≠ id → τ.ob k = σ.ob k
theorem DelF.pub {σ : St} {id g es : Nat} {ty : TypeId} {K : List AV} {r : AV} {τ τ' : St} (h : DelF σ id g es ty K r τ) (ht : τ'.ob id = τ.ob id) (hp : ∀ x ∈ K, x.pur = true) (hk : ∀ x ∈ K, okE es x) : Pub τ' r (.list es K) := by
  obtain ⟨⟨Z, h1⟩, rfl | ⟨rfl, rfl⟩, _⟩ := h
  · rw [← ht] at h1
    have e : ((K ++ Z).drop 0).take K.length = K := by simp
    refine .sl h1 rfl rfl (by simp) (by simp) (fun i x y hx hy => ?_) hk
    simp only [] at hx
    rw [e, hy] at hx
    obtain rfl := Option.some.inj hx
    exact .pure (hp _ (List.mem_of_getElem? hy))
  · exact .pure rfl
theorem DelF.one {σ : St} {id g es : Nat} {ty : TypeId} {K : List AV} {r : AV} {τ : St} (h : DelF σ id g es ty K r τ) : r.one = true ∧ r.flat = true ∧ r.cells = [r] := by
  obtain ⟨_, rfl | ⟨_, rfl⟩, _⟩ := h <;> exact ⟨rfl, rfl, rfl⟩
theorem hc_slices_DeleteFunc__Order (σ : St) (id g : Nat) (ty : TypeId) (l : List Od) (f : Nat) (cs ds : List AV) (p : Od → Bool) (hob : σ.ob id = some ⟨g, 4, ty, false, true, ods l⟩) (hid : id < σ.n) (hd : ∀ x ∈ ds, x.pur = true) (hl : l.length ≤ 4611686018427387904)
    (hp : ∀ τ : St, (∀ k, k < σ.n → k ≠ id → τ.ob k = σ.ob k) → Lent τ cs ds) (hcb : ∀ x ∈ l, PC prog f (odv x :: ds) (.bool (p x))) :
    HC prog n_slices_DeleteFunc__Order [.sl id g 4 0 l.length, .func f cs] σ (DelF σ id g 4 ty (ods (l.filter fun x => !p x))) := by
  obtain ⟨ob0, n0, c0⟩ := σ
  simp only at hob hid hp
  refine HC_of_body b_slices_DeleteFunc__Order (by simp) ?_
  simp only [c_slices_DeleteFunc__Order, go_sem, Int.reduceEq, Int.reduceLT, Int.reduceLE, Int.reduceToNat, Nat.reduceLT, Nat.reduceEqDiff, Nat.reduceAdd, Nat.reduceLeDiff, Nat.reduceSub, Nat.reduceMul, ↓reduceIte, reduceCtorEq, w_app_nl]
  have h0 := hp ⟨ob0, n0, c0⟩ (fun _ _ _ => rfl)
  refine call_lent (ok_slices_IndexFunc__Order l f ds p hd (by omega) hcb) (.cons (Pub.of_sl hob (by rw [ods_length]) (ods_pur l) (ods_ok l)) (.cons (.func h0.get.1 h0.get.2) .nil)) rfl ?_
  cases hf : l.findIdx? p with
  | none =>
    rw [List.findIdx?_eq_none_iff] at hf
    have he : l.filter (fun x => !p x) = l := List.filter_eq_self.2 fun x hx => by simp [hf x hx]
    rw [he]
    try simp (maxSteps := 500000) (disch := omega) only [go_sem, Int.reduceEq, Int.reduceLT, Int.reduceLE, Int.reduceToNat, Nat.reduceLT, Nat.reduceEqDiff, Nat.reduceAdd, Nat.reduceLeDiff, Nat.reduceSub, Nat.reduceMul, ↓reduceIte, reduceCtorEq, wrap_id, w_ite_ne, w_ite_lt, Nat.sub_zero, Nat.sub_self]
    exact ⟨⟨[], by rw [List.append_nil]; exact hob⟩, .inl (by rw [ods_length]), Nat.le_refl _, fun _ _ _ => rfl⟩
  | some i0 =>
    obtain ⟨hi0, hpi, hlo⟩ := List.findIdx?_eq_some_iff_getElem.1 hf
    have hg0 : l[i0]? = some l[i0] := List.getElem?_eq_getElem hi0
    have hne : ¬ ((i0 : Int) = -1) := by omega
    try simp (maxSteps := 500000) (disch := omega) only [go_sem, Int.reduceEq, Int.reduceLT, Int.reduceLE, Int.reduceToNat, Nat.reduceLT, Nat.reduceEqDiff, Nat.reduceAdd, Nat.reduceLeDiff, Nat.reduceSub, Nat.reduceMul, ↓reduceIte, reduceCtorEq, wrap_id, w_ite_ne, w_ite_lt, Nat.sub_zero, Nat.sub_self, hne]
    refine awp_loopF [5, 6, 7, 16, 17, 18, 19, 20, 21, 22, 23, 24, 25, 26, 27, 28, 29, 30, 31, 32, 33, 34, 35] (by kernel_rfl) (fun r e τ => ∃ (i j : Nat) (M : List Od), e 5 = .int .i64 i ∧ e 6 = .int .i64 j ∧ i < j ∧ j ≤ l.length ∧ r = l.length - j ∧ M.length = l.length ∧ τ.ob id = some ⟨g, 4, ty, false, true, ods M⟩ ∧
      M.take i = (l.take j).filter (fun x => !p x) ∧ M.drop j = l.drop j ∧ ∀ k, k < n0 → k ≠ id → τ.ob k = ob0 k) (l.length - (i0 + 1)) ?_ ?_
    · refine ⟨i0, i0 + 1, l, (by first | ((try simp (maxSteps := 1000000) only [go_sem, Int.reduceEq, Int.reduceLT, Int.reduceLE, Int.reduceToNat, Nat.reduceLT, Nat.reduceEqDiff, Nat.reduceAdd, Nat.reduceLeDiff, Nat.reduceSub, Nat.reduceMul, ↓reduceIte, reduceCtorEq, w_app_nl]); done) | ((try simp (maxSteps := 1000000) only [go_sem, Int.reduceEq, Int.reduceLT, Int.reduceLE, Int.reduceToNat, Nat.reduceLT, Nat.reduceEqDiff, Nat.reduceAdd, Nat.reduceLeDiff, Nat.reduceSub, Nat.reduceMul, ↓reduceIte, reduceCtorEq, w_app_nl]); rfl) | ((try simp (maxSteps := 1000000) (disch := omega) only [go_sem, Int.reduceEq, Int.reduceLT, Int.reduceLE, Int.reduceToNat, Nat.reduceLT, Nat.reduceEqDiff, Nat.reduceAdd, Nat.reduceLeDiff, Nat.reduceSub, Nat.reduceMul, ↓reduceIte, reduceCtorEq, w_app_nl, wrap_id, w_ite_ne, w_ite_lt]); rfl) | (simp (maxSteps := 1000000) (disch := omega) only [go_sem, Int.reduceEq, Int.reduceLT, Int.reduceLE, Int.reduceToNat, Nat.reduceLT, Nat.reduceEqDiff, Nat.reduceAdd, Nat.reduceLeDiff, Nat.reduceSub, Nat.reduceMul, ↓reduceIte, reduceCtorEq, w_app_nl, wrap_id, w_ite_ne, w_ite_lt]; done)), (by first | ((try simp (maxSteps := 1000000) only [go_sem, Int.reduceEq, Int.reduceLT, Int.reduceLE, Int.reduceToNat, Nat.reduceLT, Nat.reduceEqDiff, Nat.reduceAdd, Nat.reduceLeDiff, Nat.reduceSub, Nat.reduceMul, ↓reduceIte, reduceCtorEq, w_app_nl]); done) | ((try simp (maxSteps := 1000000) only [go_sem, Int.reduceEq, Int.reduceLT, Int.reduceLE, Int.reduceToNat, Nat.reduceLT, Nat.reduceEqDiff, Nat.reduceAdd, Nat.reduceLeDiff, Nat.reduceSub, Nat.reduceMul, ↓reduceIte, reduceCtorEq, w_app_nl]); rfl) | ((try simp (maxSteps := 1000000) (disch := omega) only [go_sem, Int.reduceEq, Int.reduceLT, Int.reduceLE, Int.reduceToNat, Nat.reduceLT, Nat.reduceEqDiff, Nat.reduceAdd, Nat.reduceLeDiff, Nat.reduceSub, Nat.reduceMul, ↓reduceIte, reduceCtorEq, w_app_nl, wrap_id, w_ite_ne, w_ite_lt]); rfl) | (simp (maxSteps := 1000000) (disch := omega) only [go_sem, Int.reduceEq, Int.reduceLT, Int.reduceLE, Int.reduceToNat, Nat.reduceLT, Nat.reduceEqDiff, Nat.reduceAdd, Nat.reduceLeDiff, Nat.reduceSub, Nat.reduceMul, ↓reduceIte, reduceCtorEq, w_app_nl, wrap_id, w_ite_ne, w_ite_lt]; done)), by omega, by omega, rfl, rfl, hob, ?_, rfl, fun _ _ _ => rfl⟩
      rw [filter_take_succ l _ i0 _ hg0]
      simp only [hpi, Bool.not_true, Bool.false_eq_true, if_false, List.append_nil]
      rw [List.filter_eq_self.2]
      intro x hx
      rw [List.mem_take_iff_getElem] at hx
      obtain ⟨j, hj, rfl⟩ := hx
      have := hlo j (by omega)
      simpa using this
    · rintro r fe ob c ⟨i, j, M, h5, h6, hij, hjl, rfl, hM, ho, hT, hD, hk⟩
      simp (maxSteps := 1000000) only [go_sem, Int.reduceEq, Int.reduceLT, Int.reduceLE, Int.reduceToNat, Nat.reduceLT, Nat.reduceEqDiff, Nat.reduceAdd, Nat.reduceLeDiff, Nat.reduceSub, Nat.reduceMul, ↓reduceIte, reduceCtorEq, w_app_nl] at h5 h6 ho hk
      try simp (maxSteps := 500000) (disch := omega) only [go_sem, Int.reduceEq, Int.reduceLT, Int.reduceLE, Int.reduceToNat, Nat.reduceLT, Nat.reduceEqDiff, Nat.reduceAdd, Nat.reduceLeDiff, Nat.reduceSub, Nat.reduceMul, ↓reduceIte, reduceCtorEq, wrap_id, w_ite_ne, w_ite_lt, Nat.sub_zero, Nat.sub_self, h5, h6]
      refine cond_d (fun hlt => ?_) (fun hge => ?_)
      · have hjl2 : j < l.length := by omega
        have hg : l[j]? = some l[j] := List.getElem?_eq_getElem hjl2
        have hgM : M[j]? = some l[j] := by
          have := congrArg (fun z => z[0]?) hD
          simpa [hg] using this
        have hmem : l[j] ∈ l := List.getElem_mem _
        have hft := filter_take_succ l (fun x => !p x) j _ hg
        have hDs : M.drop (j + 1) = l.drop (j + 1) := by rw [← List.drop_drop, ← List.drop_drop, hD]
        generalize l[j] = x at *
        have hidn : ¬ id = n0 := by omega
        try simp (maxSteps := 500000) (disch := omega) only [go_sem, Int.reduceEq, Int.reduceLT, Int.reduceLE, Int.reduceToNat, Nat.reduceLT, Nat.reduceEqDiff, Nat.reduceAdd, Nat.reduceLeDiff, Nat.reduceSub, Nat.reduceMul, ↓reduceIte, reduceCtorEq, wrap_id, w_ite_ne, w_ite_lt, Nat.sub_zero, Nat.sub_self, h5, h6, ho, ods_length, ods_get, hgM, Option.map_some, odv, hidn]
        refine ⟨by omega, by omega, ?_⟩
        refine call_lent (hcb x hmem) (.cons (.pure (by simp [go_sem, odv])) (hp _ fun k hk1 hk2 => ?_)) rfl ?_
        · have : ¬ k = n0 := by omega
          try simp (maxSteps := 500000) (disch := omega) only [go_sem, Int.reduceEq, Int.reduceLT, Int.reduceLE, Int.reduceToNat, Nat.reduceLT, Nat.reduceEqDiff, Nat.reduceAdd, Nat.reduceLeDiff, Nat.reduceSub, Nat.reduceMul, ↓reduceIte, reduceCtorEq, wrap_id, w_ite_ne, w_ite_lt, Nat.sub_zero, Nat.sub_self, this]
          exact hk k hk1 hk2
        cases hpx : p x
        · try simp (maxSteps := 500000) (disch := omega) only [go_sem, Int.reduceEq, Int.reduceLT, Int.reduceLE, Int.reduceToNat, Nat.reduceLT, Nat.reduceEqDiff, Nat.reduceAdd, Nat.reduceLeDiff, Nat.reduceSub, Nat.reduceMul, ↓reduceIte, reduceCtorEq, wrap_id, w_ite_ne, w_ite_lt, Nat.sub_zero, Nat.sub_self, h5, h6, ho, hidn, ods_length]
          refine ⟨by omega, by omega, ?_⟩
          have hgi : (ods M)[i]? = some (odv M[i]) := by rw [ods_get, List.getElem?_eq_getElem (by omega)]; rfl
          try simp (maxSteps := 500000) (disch := omega) only [go_sem, Int.reduceEq, Int.reduceLT, Int.reduceLE, Int.reduceToNat, Nat.reduceLT, Nat.reduceEqDiff, Nat.reduceAdd, Nat.reduceLeDiff, Nat.reduceSub, Nat.reduceMul, ↓reduceIte, reduceCtorEq, wrap_id, w_ite_ne, w_ite_lt, Nat.sub_zero, Nat.sub_self, hgi, odv]
          refine ⟨l.length - (j + 1), by omega, _, Nat.le_refl _, rfl, i + 1, j + 1, M.set i x, (by first | ((try simp (maxSteps := 1000000) only [go_sem, Int.reduceEq, Int.reduceLT, Int.reduceLE, Int.reduceToNat, Nat.reduceLT, Nat.reduceEqDiff, Nat.reduceAdd, Nat.reduceLeDiff, Nat.reduceSub, Nat.reduceMul, ↓reduceIte, reduceCtorEq, w_app_nl]); done) | ((try simp (maxSteps := 1000000) only [go_sem, Int.reduceEq, Int.reduceLT, Int.reduceLE, Int.reduceToNat, Nat.reduceLT, Nat.reduceEqDiff, Nat.reduceAdd, Nat.reduceLeDiff, Nat.reduceSub, Nat.reduceMul, ↓reduceIte, reduceCtorEq, w_app_nl]); rfl) | ((try simp (maxSteps := 1000000) (disch := omega) only [go_sem, Int.reduceEq, Int.reduceLT, Int.reduceLE, Int.reduceToNat, Nat.reduceLT, Nat.reduceEqDiff, Nat.reduceAdd, Nat.reduceLeDiff, Nat.reduceSub, Nat.reduceMul, ↓reduceIte, reduceCtorEq, w_app_nl, wrap_id, w_ite_ne, w_ite_lt]); rfl) | (simp (maxSteps := 1000000) (disch := omega) only [go_sem, Int.reduceEq, Int.reduceLT, Int.reduceLE, Int.reduceToNat, Nat.reduceLT, Nat.reduceEqDiff, Nat.reduceAdd, Nat.reduceLeDiff, Nat.reduceSub, Nat.reduceMul, ↓reduceIte, reduceCtorEq, w_app_nl, wrap_id, w_ite_ne, w_ite_lt]; done)), (by first | ((try simp (maxSteps := 1000000) only [go_sem, Int.reduceEq, Int.reduceLT, Int.reduceLE, Int.reduceToNat, Nat.reduceLT, Nat.reduceEqDiff, Nat.reduceAdd, Nat.reduceLeDiff, Nat.reduceSub, Nat.reduceMul, ↓reduceIte, reduceCtorEq, w_app_nl]); done) | ((try simp (maxSteps := 1000000) only [go_sem, Int.reduceEq, Int.reduceLT, Int.reduceLE, Int.reduceToNat, Nat.reduceLT, Nat.reduceEqDiff, Nat.reduceAdd, Nat.reduceLeDiff, Nat.reduceSub, Nat.reduceMul, ↓reduceIte, reduceCtorEq, w_app_nl]); rfl) | ((try simp (maxSteps := 1000000) (disch := omega) only [go_sem, Int.reduceEq, Int.reduceLT, Int.reduceLE, Int.reduceToNat, Nat.reduceLT, Nat.reduceEqDiff, Nat.reduceAdd, Nat.reduceLeDiff, Nat.reduceSub, Nat.reduceMul, ↓reduceIte, reduceCtorEq, w_app_nl, wrap_id, w_ite_ne, w_ite_lt]); rfl) | (simp (maxSteps := 1000000) (disch := omega) only [go_sem, Int.reduceEq, Int.reduceLT, Int.reduceLE, Int.reduceToNat, Nat.reduceLT, Nat.reduceEqDiff, Nat.reduceAdd, Nat.reduceLeDiff, Nat.reduceSub, Nat.reduceMul, ↓reduceIte, reduceCtorEq, w_app_nl, wrap_id, w_ite_ne, w_ite_lt]; done)), by omega, by omega, rfl, by simp [hM], ?_, ?_, ?_, fun k hk1 hk2 => ?_⟩
          · try simp (maxSteps := 500000) (disch := omega) only [go_sem, Int.reduceEq, Int.reduceLT, Int.reduceLE, Int.reduceToNat, Nat.reduceLT, Nat.reduceEqDiff, Nat.reduceAdd, Nat.reduceLeDiff, Nat.reduceSub, Nat.reduceMul, ↓reduceIte, reduceCtorEq, wrap_id, w_ite_ne, w_ite_lt, Nat.sub_zero, Nat.sub_self]
            simp [ods, odv, List.map_set, hid]
          · rw [hft, hpx, ← hT, List.take_add_one, List.take_set_of_le (by omega), List.getElem?_set_self (by omega)]
            rfl
          · rw [List.drop_set_of_lt (by omega), hDs]
          · have : ¬ k = n0 := by omega
            try simp (maxSteps := 500000) (disch := omega) only [go_sem, Int.reduceEq, Int.reduceLT, Int.reduceLE, Int.reduceToNat, Nat.reduceLT, Nat.reduceEqDiff, Nat.reduceAdd, Nat.reduceLeDiff, Nat.reduceSub, Nat.reduceMul, ↓reduceIte, reduceCtorEq, wrap_id, w_ite_ne, w_ite_lt, Nat.sub_zero, Nat.sub_self, this, hk2]
            exact hk k hk1 hk2
        · try simp (maxSteps := 500000) (disch := omega) only [go_sem, Int.reduceEq, Int.reduceLT, Int.reduceLE, Int.reduceToNat, Nat.reduceLT, Nat.reduceEqDiff, Nat.reduceAdd, Nat.reduceLeDiff, Nat.reduceSub, Nat.reduceMul, ↓reduceIte, reduceCtorEq, wrap_id, w_ite_ne, w_ite_lt, Nat.sub_zero, Nat.sub_self, h5, h6, ho, hidn, ods_length]
          refine ⟨l.length - (j + 1), by omega, _, Nat.le_refl _, rfl, i, j + 1, M, (by first | ((try simp (maxSteps := 1000000) only [go_sem, Int.reduceEq, Int.reduceLT, Int.reduceLE, Int.reduceToNat, Nat.reduceLT, Nat.reduceEqDiff, Nat.reduceAdd, Nat.reduceLeDiff, Nat.reduceSub, Nat.reduceMul, ↓reduceIte, reduceCtorEq, w_app_nl]); done) | ((try simp (maxSteps := 1000000) only [go_sem, Int.reduceEq, Int.reduceLT, Int.reduceLE, Int.reduceToNat, Nat.reduceLT, Nat.reduceEqDiff, Nat.reduceAdd, Nat.reduceLeDiff, Nat.reduceSub, Nat.reduceMul, ↓reduceIte, reduceCtorEq, w_app_nl]); rfl) | ((try simp (maxSteps := 1000000) (disch := omega) only [go_sem, Int.reduceEq, Int.reduceLT, Int.reduceLE, Int.reduceToNat, Nat.reduceLT, Nat.reduceEqDiff, Nat.reduceAdd, Nat.reduceLeDiff, Nat.reduceSub, Nat.reduceMul, ↓reduceIte, reduceCtorEq, w_app_nl, wrap_id, w_ite_ne, w_ite_lt]); rfl) | (simp (maxSteps := 1000000) (disch := omega) only [go_sem, Int.reduceEq, Int.reduceLT, Int.reduceLE, Int.reduceToNat, Nat.reduceLT, Nat.reduceEqDiff, Nat.reduceAdd, Nat.reduceLeDiff, Nat.reduceSub, Nat.reduceMul, ↓reduceIte, reduceCtorEq, w_app_nl, wrap_id, w_ite_ne, w_ite_lt]; done)), (by first | ((try simp (maxSteps := 1000000) only [go_sem, Int.reduceEq, Int.reduceLT, Int.reduceLE, Int.reduceToNat, Nat.reduceLT, Nat.reduceEqDiff, Nat.reduceAdd, Nat.reduceLeDiff, Nat.reduceSub, Nat.reduceMul, ↓reduceIte, reduceCtorEq, w_app_nl]); done) | ((try simp (maxSteps := 1000000) only [go_sem, Int.reduceEq, Int.reduceLT, Int.reduceLE, Int.reduceToNat, Nat.reduceLT, Nat.reduceEqDiff, Nat.reduceAdd, Nat.reduceLeDiff, Nat.reduceSub, Nat.reduceMul, ↓reduceIte, reduceCtorEq, w_app_nl]); rfl) | ((try simp (maxSteps := 1000000) (disch := omega) only [go_sem, Int.reduceEq, Int.reduceLT, Int.reduceLE, Int.reduceToNat, Nat.reduceLT, Nat.reduceEqDiff, Nat.reduceAdd, Nat.reduceLeDiff, Nat.reduceSub, Nat.reduceMul, ↓reduceIte, reduceCtorEq, w_app_nl, wrap_id, w_ite_ne, w_ite_lt]); rfl) | (simp (maxSteps := 1000000) (disch := omega) only [go_sem, Int.reduceEq, Int.reduceLT, Int.reduceLE, Int.reduceToNat, Nat.reduceLT, Nat.reduceEqDiff, Nat.reduceAdd, Nat.reduceLeDiff, Nat.reduceSub, Nat.reduceMul, ↓reduceIte, reduceCtorEq, w_app_nl, wrap_id, w_ite_ne, w_ite_lt]; done)), by omega, by omega, rfl, hM, ?_, ?_, hDs, fun k hk1 hk2 => ?_⟩
          · try simp (maxSteps := 500000) (disch := omega) only [go_sem, Int.reduceEq, Int.reduceLT, Int.reduceLE, Int.reduceToNat, Nat.reduceLT, Nat.reduceEqDiff, Nat.reduceAdd, Nat.reduceLeDiff, Nat.reduceSub, Nat.reduceMul, ↓reduceIte, reduceCtorEq, wrap_id, w_ite_ne, w_ite_lt, Nat.sub_zero, Nat.sub_self, hidn]
          · rw [hft, hpx, ← hT]
            simp
          · have : ¬ k = n0 := by omega
            try simp (maxSteps := 500000) (disch := omega) only [go_sem, Int.reduceEq, Int.reduceLT, Int.reduceLE, Int.reduceToNat, Nat.reduceLT, Nat.reduceEqDiff, Nat.reduceAdd, Nat.reduceLeDiff, Nat.reduceSub, Nat.reduceMul, ↓reduceIte, reduceCtorEq, wrap_id, w_ite_ne, w_ite_lt, Nat.sub_zero, Nat.sub_self, this]
            exact hk k hk1 hk2
      · have hjl3 : j = l.length := by omega
        subst hjl3
        rw [List.take_length] at hT
        rw [← hT]
        try simp (maxSteps := 500000) (disch := omega) only [go_sem, Int.reduceEq, Int.reduceLT, Int.reduceLE, Int.reduceToNat, Nat.reduceLT, Nat.reduceEqDiff, Nat.reduceAdd, Nat.reduceLeDiff, Nat.reduceSub, Nat.reduceMul, ↓reduceIte, reduceCtorEq, wrap_id, w_ite_ne, w_ite_lt, Nat.sub_zero, Nat.sub_self, h5, h6]
        refine ⟨⟨_, ho, rfl⟩, by omega, by omega, fun h => by omega, fun _ => ?_⟩
        try simp (maxSteps := 500000) (disch := omega) only [go_sem, Int.reduceEq, Int.reduceLT, Int.reduceLE, Int.reduceToNat, Nat.reduceLT, Nat.reduceEqDiff, Nat.reduceAdd, Nat.reduceLeDiff, Nat.reduceSub, Nat.reduceMul, ↓reduceIte, reduceCtorEq, wrap_id, w_ite_ne, w_ite_lt, Nat.sub_zero, Nat.sub_self, h5, h6, ho, ods_length]
        refine ⟨by omega, by omega, by omega, ?_⟩
        have hil : i + (l.length - i) = l.length := by omega
        have hKl : ((ods (M.take i))).length = i := by rw [ods_length, List.length_take]; omega
        have hkk : ∀ (Y : Option AObj) k, k < n0 → ¬ k = id → (upd ob id Y) k = ob0 k := fun Y k h1 h2 => by rw [upd_ne _ _ _ _ h2]; exact hk k h1 h2
        have hZ : (ods M).take i = ods (M.take i) := by simp [ods, List.map_take]
        refine ⟨fun h => ?_, fun h => ?_⟩
        · subst h
          try simp (maxSteps := 500000) (disch := omega) only [go_sem, Int.reduceEq, Int.reduceLT, Int.reduceLE, Int.reduceToNat, Nat.reduceLT, Nat.reduceEqDiff, Nat.reduceAdd, Nat.reduceLeDiff, Nat.reduceSub, Nat.reduceMul, ↓reduceIte, reduceCtorEq, wrap_id, w_ite_ne, w_ite_lt, Nat.sub_zero, Nat.sub_self]
          refine ⟨⟨List.replicate (l.length - 0) (.agg [.int .i64 0, .int .i64 0, .int .i64 0, .int .i64 0]) ++ (ods M).drop (0 + (l.length - 0)), ?_⟩, .inr ⟨by simp [ods], rfl⟩, Nat.le_refl _, hkk _⟩
          simp [ods, go_sem]
        · try simp (maxSteps := 500000) (disch := omega) only [go_sem, Int.reduceEq, Int.reduceLT, Int.reduceLE, Int.reduceToNat, Nat.reduceLT, Nat.reduceEqDiff, Nat.reduceAdd, Nat.reduceLeDiff, Nat.reduceSub, Nat.reduceMul, ↓reduceIte, reduceCtorEq, wrap_id, w_ite_ne, w_ite_lt, Nat.sub_zero, Nat.sub_self]
          refine ⟨⟨List.replicate (l.length - i) (.agg [.int .i64 0, .int .i64 0, .int .i64 0, .int .i64 0]) ++ (ods M).drop (i + (l.length - i)), ?_⟩, .inl (by rw [hKl]), Nat.le_refl _, hkk _⟩
          simp [go_sem, hZ]
end Go.Proofs.Try
