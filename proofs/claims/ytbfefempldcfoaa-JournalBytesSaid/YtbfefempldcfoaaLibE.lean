/- OWN WORK, put together by tools/asm.py, seat.py, mini.py. -/
import Derived.Test.YtbfefempldcfoaaLibD
set_option linter.unusedSimpArgs false
set_option linter.unusedVariables false
set_option maxRecDepth 100000
set_option maxHeartbeats 1000000
namespace Go.Proofs.Try
open Go.Ab Go
open Int renaming reduceEq → jA, reduceLT → jB, reduceLE → jC, reduceToNat → jD
open Go.Ab renaming w_ite_ne → jM, w_ite_lt → jN, wrap_id → jO, w_app_nl → jP
open Nat renaming reduceLT → jE, reduceEqDiff → jF, reduceAdd → jG, reduceLeDiff → jH, reduceSub → jI, reduceMul → jJ, sub_zero → jK, sub_self → jL
structure Od where
 n : Int
 k : Int
 i : Int
 v : Int
 deriving DecidableEq
def odv (o : Od) : AV := .agg [.int .i64 o.n, .int .i64 o.k, .int .i64 o.i, .int .i64 o.v]
def ods (l : List Od) : List AV := l.map odv
theorem ods_length (l : List Od) : (ods l).length = l.length := by simp [ods]
theorem ods_get (l : List Od) (i : Nat) : (ods l)[i]? = (l[i]?).map odv := by simp [ods]
theorem ods_pur (l : List Od) : ∀ x ∈ ods l, x.pur = true := by simp [ods, odv, go_sem]
theorem ods_ok (l : List Od) : ∀ x ∈ ods l, okE 4 x := by simp [ods, odv, okE, go_sem]
def inO (x a b : Int) : Bool := decide (a ≤ x) && decide (x ≤ b)
def fitE (k i v : Int) : Int :=
 if k = 1 then (if i = 0 ∧ inO v 0 1073741824 = true then 0 else 1) else
 if k = 2 then (if inO i 0 7 = true ∧ v = 0 then 0 else 1) else
 if k = 3 then (if inO i 0 5 = true ∧ inO v 0 1 = true then 0 else 1) else 5
def odOk (o : Od) : Bool := inO o.n 1 1073741824 && decide (fitE o.k o.i o.v = 0)
def runO : Int → List Od → Bool
 | _, [] => true
 | s, o :: r => odOk o && decide (o.n = s) && runO (s + 1) r
def ascO : Int → List Od → Bool
 | _, [] => true
 | s, o :: r => odOk o && decide (s < o.n) && ascO o.n r
structure Sd where
 n : Int
 l : List Od
 deriving DecidableEq
def sdv (s : Sd) : AV := .agg [.int .i64 s.n, .list 4 (ods s.l)]
def sdOk (s : Sd) : Bool := inO s.n 1 1073741824 && decide (s.l.length ≤ 64) && runO (s.n - s.l.length) s.l
structure Sn where
 d : Int
 l : List Od
 deriving DecidableEq
def snv (s : Sn) : AV := .agg [.int .i64 s.d, .list 4 (ods s.l)]
def snOk (s : Sn) : Bool := inO s.d 0 1073741824 && decide (s.l.length ≤ 64) && ascO (s.d + 1) s.l
theorem runO_step : ∀ (l : List Od) (s : Int) (k : Nat) (hk : k < l.length), runO s (l.take (k + 1)) = (runO s (l.take k) && (odOk l[k] && decide (l[k].n = s + k)))
 | [], _, k, hk => by simp at hk
 | o :: r, s, 0, _ => by simp [runO]
 | o :: r, s, k + 1, hk => by
  have hk' : k < r.length := by simpa using hk
  simp only [List.take_succ_cons, runO, List.getElem_cons_succ]
  rw [runO_step r (s + 1) k hk', Bool.and_assoc]
  have : s + 1 + (k : Int) = s + ((k + 1 : Nat) : Int) := by omega
  rw [this, Bool.and_assoc, Bool.and_assoc]
theorem runO_take : ∀ (l : List Od) (s : Int) (k : Nat), runO s l = true → runO s (l.take k) = true
 | [], _, k, _ => by simp [runO]
 | o :: r, s, 0, _ => by simp [runO]
 | o :: r, s, k + 1, h => by
  simp only [runO, Bool.and_eq_true, List.take_succ_cons] at h ⊢
  exact ⟨h.1, runO_take r (s + 1) k h.2⟩
def odPrev (s : Int) (l : List Od) (k : Nat) : Int := if k = 0 then s else ((l[k - 1]?).map Od.n).getD s
theorem ascO_step : ∀ (l : List Od) (s : Int) (k : Nat) (hk : k < l.length), ascO s (l.take (k + 1)) = (ascO s (l.take k) && (odOk l[k] && decide (odPrev s l k < l[k].n)))
 | [], _, k, hk => by simp at hk
 | o :: r, s, 0, _ => by simp [ascO, odPrev]
 | o :: r, s, k + 1, hk => by
  have hk' : k < r.length := by simpa using hk
  simp only [List.take_succ_cons, ascO, List.getElem_cons_succ]
  rw [ascO_step r o.n k hk', Bool.and_assoc, Bool.and_assoc, Bool.and_assoc]
  congr 4
  cases k with
  | zero => simp [odPrev]
  | succ k =>
   have : r[k]? = some r[k] := List.getElem?_eq_getElem (by omega)
   simp [odPrev, this]
theorem ascO_take : ∀ (l : List Od) (s : Int) (k : Nat), ascO s l = true → ascO s (l.take k) = true
 | [], _, k, _ => by simp [ascO]
 | o :: r, s, 0, _ => by simp [ascO]
 | o :: r, s, k + 1, h => by
  simp only [ascO, Bool.and_eq_true, List.take_succ_cons] at h ⊢
  exact ⟨h.1, ascO_take r o.n k h.2⟩
theorem ascO_lt : ∀ {l : List Od} {s : Int}, ascO s l = true → ∀ o ∈ l, s < o.n ∧ odOk o = true
 | [], _, _, o, ho => by simp at ho
 | a :: r, s, h, o, ho => by
  simp only [ascO, Bool.and_eq_true, decide_eq_true_eq] at h
  rcases List.mem_cons.1 ho with rfl | ho
  ·exact ⟨h.1.2, h.1.1⟩
  ·have := ascO_lt h.2 o ho
   exact ⟨by omega, this.2⟩
theorem filter_take_succ {α : Type} (l : List α) (q : α → Bool) (j : Nat) (x : α) (h : l[j]? = some x) : (l.take (j + 1)).filter q = (l.take j).filter q ++ (if q x = true then [x] else []) := by
 rw [List.take_add_one, h, List.filter_append]
 cases hq : q x <;> simp [hq]
theorem ok_ref27_in (x a b : Int) : PC prog n_ref27_in [.int .i64 x, .int .i64 a, .int .i64 b] (.bool (inO x a b)) := by
 refine PC_of_body b_ref27_in (by simp) ?_
 simp only [c_ref27_in, go_sem, jA, jB, jC, jD, jE, jF, jG, jH, jI, jJ, ↓reduceIte, reduceCtorEq, jP]
 refine gd_td rfl (fun h => ?_) (fun h => ?_) <;> try simp (disch := omega) only [go_sem, jA, jB, jC, jD, jE, jF, jG, jH, jI, jJ, ↓reduceIte, reduceCtorEq, jO, jM, jN, jK, jL]
 ·exact Pub.of_eq (by simp [inO, h]) rfl
 ·exact Pub.of_eq (by simp [inO, h]) rfl
theorem ok_ref27_Fits (k i v : Int) : PC prog n_ref27_Fits [.int .i64 k, .int .i64 i, .int .i64 v] (.int .i64 (fitE k i v)) := by
 refine PC_of_body b_ref27_Fits (by simp) ?_
 simp only [c_ref27_Fits, go_sem, jA, jB, jC, jD, jE, jF, jG, jH, jI, jJ, ↓reduceIte, reduceCtorEq, jP]
 refine cond_d (fun h1 => ?_) (fun h1 => ?_) <;> try simp (disch := omega) only [go_sem, jA, jB, jC, jD, jE, jF, jG, jH, jI, jJ, ↓reduceIte, reduceCtorEq, jO, jM, jN, jK, jL]
 ·refine gd_fn rfl (fun h2 => ?_) (fun h2 => ?_) <;> try simp (disch := omega) only [go_sem, jA, jB, jC, jD, jE, jF, jG, jH, jI, jJ, ↓reduceIte, reduceCtorEq, jO, jM, jN, jK, jL]
  ·exact Pub.of_eq (by simp [fitE, h1, h2]) rfl
  ·refine call_pc (ok_ref27_in _ _ _) (by simp [go_sem]) ?_
   cases h3 : inO v 0 1073741824 <;> try simp (disch := omega) only [go_sem, jA, jB, jC, jD, jE, jF, jG, jH, jI, jJ, ↓reduceIte, reduceCtorEq, jO, jM, jN, jK, jL]
   ·exact Pub.of_eq (by simp [fitE, h1, h2, h3]) rfl
   ·exact Pub.of_eq (by simp [fitE, h1, h2, h3]) rfl
 refine cond_d (fun h2 => ?_) (fun h2 => ?_) <;> try simp (disch := omega) only [go_sem, jA, jB, jC, jD, jE, jF, jG, jH, jI, jJ, ↓reduceIte, reduceCtorEq, jO, jM, jN, jK, jL]
 ·refine call_pc (ok_ref27_in _ _ _) (by simp [go_sem]) ?_
  cases h3 : inO i 0 7 <;> try simp (disch := omega) only [go_sem, jA, jB, jC, jD, jE, jF, jG, jH, jI, jJ, ↓reduceIte, reduceCtorEq, jO, jM, jN, jK, jL]
  ·exact Pub.of_eq (by simp [fitE, h1, h2, h3]) rfl
  ·refine cond_n (fun h4 => ?_) (fun h4 => ?_) <;> try simp (disch := omega) only [go_sem, jA, jB, jC, jD, jE, jF, jG, jH, jI, jJ, ↓reduceIte, reduceCtorEq, jO, jM, jN, jK, jL]
   ·exact Pub.of_eq (by simp [fitE, h1, h2, h3, h4]) rfl
   ·exact Pub.of_eq (by simp [fitE, h1, h2, h3, h4]) rfl
 refine cond_d (fun h3 => ?_) (fun h3 => ?_) <;> try simp (disch := omega) only [go_sem, jA, jB, jC, jD, jE, jF, jG, jH, jI, jJ, ↓reduceIte, reduceCtorEq, jO, jM, jN, jK, jL]
 ·refine call_pc (ok_ref27_in _ _ _) (by simp [go_sem]) ?_
  cases h4 : inO i 0 5 <;> try simp (disch := omega) only [go_sem, jA, jB, jC, jD, jE, jF, jG, jH, jI, jJ, ↓reduceIte, reduceCtorEq, jO, jM, jN, jK, jL]
  ·exact Pub.of_eq (by simp [fitE, h1, h2, h3, h4]) rfl
  ·refine call_pc (ok_ref27_in _ _ _) (by simp [go_sem]) ?_
   cases h5 : inO v 0 1 <;> try simp (disch := omega) only [go_sem, jA, jB, jC, jD, jE, jF, jG, jH, jI, jJ, ↓reduceIte, reduceCtorEq, jO, jM, jN, jK, jL]
   ·exact Pub.of_eq (by simp [fitE, h1, h2, h3, h4, h5]) rfl
   ·exact Pub.of_eq (by simp [fitE, h1, h2, h3, h4, h5]) rfl
 ·exact Pub.of_eq (by simp [fitE, h1, h2, h3]) rfl
theorem ok_ref27_order (o : Od) : PC prog n_ref27_order [odv o] (.bool (odOk o)) := by
 refine PC_of_body b_ref27_order (by simp) ?_
 simp only [c_ref27_order, go_sem, jA, jB, jC, jD, jE, jF, jG, jH, jI, jJ, ↓reduceIte, reduceCtorEq, jP, odv]
 try simp (disch := omega) only [go_sem, jA, jB, jC, jD, jE, jF, jG, jH, jI, jJ, ↓reduceIte, reduceCtorEq, jO, jM, jN, jK, jL]
 refine call_pc (ok_ref27_in _ _ _) (by simp [go_sem]) ?_
 cases h1 : inO o.n 1 1073741824 <;> try simp (disch := omega) only [go_sem, jA, jB, jC, jD, jE, jF, jG, jH, jI, jJ, ↓reduceIte, reduceCtorEq, jO, jM, jN, jK, jL]
 ·exact Pub.of_eq (by simp [odOk, h1]) rfl
 ·refine call_pc (ok_ref27_Fits _ _ _) (by simp [go_sem]) ?_
  try simp (disch := omega) only [go_sem, jA, jB, jC, jD, jE, jF, jG, jH, jI, jJ, ↓reduceIte, reduceCtorEq, jO, jM, jN, jK, jL]
  exact Pub.of_eq (by simp [odOk, h1]) rfl
theorem ok_ref27_Valid (s : Sd) (hl : s.l.length ≤ 9223372036854775807) : PC prog n_ref27_Valid [sdv s] (.bool (sdOk s)) := by
 refine PC_of_body b_ref27_Valid (by simp) ?_
 simp only [c_ref27_Valid, go_sem, jA, jB, jC, jD, jE, jF, jG, jH, jI, jJ, ↓reduceIte, reduceCtorEq, jP, sdv]
 have no : ∀ {σ : St}, sdOk s = false → Pub σ (.bool false) (.bool (sdOk s)) := fun h => Pub.of_eq (by rw [h]) rfl
 refine call_pc (ok_ref27_in _ _ _) (by simp [go_sem]) ?_
 try simp (disch := omega) only [go_sem, jA, jB, jC, jD, jE, jF, jG, jH, jI, jJ, ↓reduceIte, reduceCtorEq, jO, jM, jN, jK, jL]
 cases h1 : inO s.n 1 1073741824 <;> try simp (disch := omega) only [go_sem, jA, jB, jC, jD, jE, jF, jG, jH, jI, jJ, ↓reduceIte, reduceCtorEq, jO, jM, jN, jK, jL, ods_length]
 ·exact no (by simp [sdOk, h1])
 refine cond_d (fun h2 => ?_) (fun h2 => ?_) <;> try simp (disch := omega) only [go_sem, jA, jB, jC, jD, jE, jF, jG, jH, jI, jJ, ↓reduceIte, reduceCtorEq, jO, jM, jN, jK, jL, ods_length]
 ·exact no (by simp [sdOk]; intros; omega)
 have hn : 1 ≤ s.n ∧ s.n ≤ 1073741824 := by simpa [inO] using h1
 refine awp_upF [2, 3, 4, 18, 19, 20, 21, 22, 23, 24, 25, 26, 27, 28, 29, 30, 31, 32, 33, 34, 35, 36, 37, 38, 39] (by kernel_rfl) s.l.length (fun k e σ => e 18 = .int .i64 k ∧ σ.ob 0 = some ⟨0, 2, 70, false, true, [sdv s]⟩ ∧ runO (s.n - s.l.length) (s.l.take k) = true) ?_ ?_
 ·exact ⟨(by first | rfl | (simp (disch := omega) only [go_sem, jA, jB, jC, jD, jE, jF, jG, jH, jI, jJ, ↓reduceIte, reduceCtorEq, jP, jO, jM, jN]; try rfl)), (by first | rfl | (simp (disch := omega) only [go_sem, jA, jB, jC, jD, jE, jF, jG, jH, jI, jJ, ↓reduceIte, reduceCtorEq, jP, jO, jM, jN]; try rfl)), by simp [runO]⟩
 ·rintro k fe ob c hk ⟨h18, hob, hj⟩
  simp (maxSteps := 1000000) only [go_sem, jA, jB, jC, jD, jE, jF, jG, jH, jI, jJ, ↓reduceIte, reduceCtorEq, jP, sdv] at h18 hob
  try simp (disch := omega) only [go_sem, jA, jB, jC, jD, jE, jF, jG, jH, jI, jJ, ↓reduceIte, reduceCtorEq, jO, jM, jN, jK, jL, h18, ods_length]
  refine cond_d (fun hlt => ?_) (fun hge => ?_)
  ·have hkl : k < s.l.length := by omega
   have hk2 : s.l[k]? = some s.l[k] := List.getElem?_eq_getElem hkl
   have hst := runO_step s.l (s.n - s.l.length) k hkl
   rw [hj, Bool.true_and] at hst
   have hbad : runO (s.n - s.l.length) (s.l.take (k + 1)) = false → sdOk s = false := fun h => by
    have : runO (s.n - s.l.length) s.l = false := by
     cases h2 : runO (s.n - s.l.length) s.l with
     | false => rfl
     | true => rw [runO_take _ _ (k + 1) h2] at h; cases h
    simp [sdOk, this]
   generalize s.l[k] = o at *
   try simp (disch := omega) only [go_sem, jA, jB, jC, jD, jE, jF, jG, jH, jI, jJ, ↓reduceIte, reduceCtorEq, jO, jM, jN, jK, jL, h18, hob, ods_length, ods_get, hk2, Option.map_some, odv]
   refine ⟨by omega, by omega, ?_⟩
   refine call_pc (ok_ref27_order o) (by simp [go_sem, odv]) ?_
   cases hp : odOk o <;> try simp (disch := omega) only [go_sem, jA, jB, jC, jD, jE, jF, jG, jH, jI, jJ, ↓reduceIte, reduceCtorEq, jO, jM, jN, jK, jL, h18, hob, ods_length]
   ·exact no (hbad (by rw [hst, hp]; rfl))
   refine cond_n (fun g => ?_) (fun g => ?_) <;> try simp (disch := omega) only [go_sem, jA, jB, jC, jD, jE, jF, jG, jH, jI, jJ, ↓reduceIte, reduceCtorEq, jO, jM, jN, jK, jL, h18, hob]
   ·exact no (hbad (by rw [hst, hp]; simp; omega))
   ·exact up_next hkl ⟨(by first | rfl | (simp (disch := omega) only [go_sem, jA, jB, jC, jD, jE, jF, jG, jH, jI, jJ, ↓reduceIte, reduceCtorEq, jP, jO, jM, jN]; try rfl)), by try simp (disch := omega) only [go_sem, jA, jB, jC, jD, jE, jF, jG, jH, jI, jJ, ↓reduceIte, reduceCtorEq, jO, jM, jN, jK, jL]; exact hob, by rw [hst, hp]; simp; omega⟩
  ·try simp (disch := omega) only [go_sem, jA, jB, jC, jD, jE, jF, jG, jH, jI, jJ, ↓reduceIte, reduceCtorEq, jO, jM, jN, jK, jL]
   have : k = s.l.length := by omega
   subst this
   rw [List.take_length] at hj
   exact Pub.of_eq (by simp [sdOk, h1, hj]; omega) rfl
def issS (s : Sd) (k i v : Int) : Sd × Od × Int :=
 if sdOk s = true then (if fitE k i v = 0 then (if s.l.length = 64 ∨ s.n = 1073741824 then (⟨0, []⟩, ⟨0, 0, 0, 0⟩, 10)
  else (⟨s.n + 1, s.l ++ [⟨s.n, k, i, v⟩]⟩, ⟨s.n, k, i, v⟩, 0)) else (⟨0, []⟩, ⟨0, 0, 0, 0⟩, fitE k i v)) else (⟨0, []⟩, ⟨0, 0, 0, 0⟩, 50)
def cnfS (s : Sd) (n : Int) : Sd × Int :=
 if sdOk s = true then (if n < 0 ∨ s.n ≤ n then (⟨0, []⟩, 1) else (⟨s.n, s.l.filter fun o => !decide (o.n ≤ n)⟩, 0)) else (⟨0, []⟩, 50)
def runLen : Int → List Od → Nat
 | _, [] => 0
 | s, o :: r => if o.n = s + 1 then runLen (s + 1) r + 1 else 0
def takT (t : Sn) (o : Od) : Sn × List Od × Int × Int :=
 if snOk t = true then (if odOk o = true then (if o.n ≤ t.d then (t, [], t.d, 0) else
  if o.n = t.d + 1 then (⟨t.d + 1 + runLen o.n t.l, t.l.drop (runLen o.n t.l)⟩, o :: t.l.take (runLen o.n t.l), t.d + 1 + runLen o.n t.l, 0) else
  if (t.l.map Od.n)[bsI (t.l.map Od.n) o.n]? = some o.n then (t, [], t.d, 0) else
  if t.l.length = 64 then (⟨0, []⟩, [], 0, 10) else
  (⟨t.d, t.l.take (bsI (t.l.map Od.n) o.n) ++ o :: t.l.drop (bsI (t.l.map Od.n) o.n)⟩, [], t.d, 0)) else (⟨0, []⟩, [], 0, 3)) else (⟨0, []⟩, [], 0, 50)
theorem runLen_le : ∀ (l : List Od) (s : Int), runLen s l ≤ l.length
 | [], _ => Nat.le_refl _
 | o :: r, s => by simp only [runLen]; split <;> simp [runLen_le r]
theorem runLen_get : ∀ (l : List Od) (s : Int) (k : Nat) (o : Od), k ≤ runLen s l → l[k]? = some o → (o.n = s + k + 1 ↔ k < runLen s l)
 | [], _, k, o, _, h => by simp at h
 | a :: r, s, 0, o, _, h => by
  simp at h; subst h
  simp only [runLen]; split <;> simp <;> omega
 | a :: r, s, k + 1, o, hk, h => by
  simp only [List.getElem?_cons_succ] at h
  simp only [runLen] at hk ⊢
  split at hk
  ·rename_i e
   rw [if_pos e]
   have := runLen_get r (s + 1) k o (by omega) h
   omega
  ·omega
theorem runLen_all {l : List Od} {s : Int} {k : Nat} {o : Od} (hk : k < runLen s l) (h : l[k]? = some o) : o.n = s + k + 1 := (runLen_get l s k o (by omega) h).2 hk
theorem odOk_n {o : Od} (h : odOk o = true) : 1 ≤ o.n ∧ o.n ≤ 1073741824 ∧ fitE o.k o.i o.v = 0 := by
 simp [odOk, inO] at h; omega
theorem snOk_l {t : Sn} (h : snOk t = true) : 0 ≤ t.d ∧ t.d ≤ 1073741824 ∧ t.l.length ≤ 64 ∧ ascO (t.d + 1) t.l = true := by
 simp [snOk, inO] at h; exact ⟨h.1.1.1, h.1.1.2, h.1.2, h.2⟩
theorem sdOk_l {s : Sd} (h : sdOk s = true) : 1 ≤ s.n ∧ s.n ≤ 1073741824 ∧ s.l.length ≤ 64 ∧ runO (s.n - s.l.length) s.l = true := by
 simp [sdOk, inO] at h; exact ⟨h.1.1.1, h.1.1.2, h.1.2, h.2⟩
theorem ok_ref27_Right (s : Sn) (hl : s.l.length ≤ 9223372036854775807) : PC prog n_ref27_Right [snv s] (.bool (snOk s)) := by
 refine PC_of_body b_ref27_Right (by simp) ?_
 simp only [c_ref27_Right, go_sem, jA, jB, jC, jD, jE, jF, jG, jH, jI, jJ, ↓reduceIte, reduceCtorEq, jP, snv]
 have no : ∀ {σ : St}, snOk s = false → Pub σ (.bool false) (.bool (snOk s)) := fun h => Pub.of_eq (by rw [h]) rfl
 refine call_pc (ok_ref27_in _ _ _) (by simp [go_sem]) ?_
 try simp (disch := omega) only [go_sem, jA, jB, jC, jD, jE, jF, jG, jH, jI, jJ, ↓reduceIte, reduceCtorEq, jO, jM, jN, jK, jL]
 cases h1 : inO s.d 0 1073741824 <;> try simp (disch := omega) only [go_sem, jA, jB, jC, jD, jE, jF, jG, jH, jI, jJ, ↓reduceIte, reduceCtorEq, jO, jM, jN, jK, jL, ods_length]
 ·exact no (by simp [snOk, h1])
 refine cond_d (fun h2 => ?_) (fun h2 => ?_) <;> try simp (disch := omega) only [go_sem, jA, jB, jC, jD, jE, jF, jG, jH, jI, jJ, ↓reduceIte, reduceCtorEq, jO, jM, jN, jK, jL, ods_length]
 ·exact no (by simp [snOk]; intros; omega)
 have hn : 0 ≤ s.d ∧ s.d ≤ 1073741824 := by simpa [inO] using h1
 refine awp_upF [2, 3, 4, 18, 19, 20, 21, 22, 23, 24, 25, 26, 27, 28, 29, 30, 31, 32, 33, 34, 35, 36, 37, 38, 39, 40, 41, 42, 43, 44, 45, 46, 47, 48, 49, 50] (by kernel_rfl) s.l.length (fun k e σ => e 18 = .int .i64 k ∧ σ.ob 0 = some ⟨0, 2, 97, false, true, [snv s]⟩ ∧ ascO (s.d + 1) (s.l.take k) = true) ?_ ?_
 ·exact ⟨(by first | rfl | (simp (disch := omega) only [go_sem, jA, jB, jC, jD, jE, jF, jG, jH, jI, jJ, ↓reduceIte, reduceCtorEq, jP, jO, jM, jN]; try rfl)), (by first | rfl | (simp (disch := omega) only [go_sem, jA, jB, jC, jD, jE, jF, jG, jH, jI, jJ, ↓reduceIte, reduceCtorEq, jP, jO, jM, jN]; try rfl)), by simp [ascO]⟩
 ·rintro k fe ob c hk ⟨h18, hob, hj⟩
  simp (maxSteps := 1000000) only [go_sem, jA, jB, jC, jD, jE, jF, jG, jH, jI, jJ, ↓reduceIte, reduceCtorEq, jP, snv] at h18 hob
  try simp (disch := omega) only [go_sem, jA, jB, jC, jD, jE, jF, jG, jH, jI, jJ, ↓reduceIte, reduceCtorEq, jO, jM, jN, jK, jL, h18, ods_length]
  refine cond_d (fun hlt => ?_) (fun hge => ?_)
  ·have hkl : k < s.l.length := by omega
   have hk2 : s.l[k]? = some s.l[k] := List.getElem?_eq_getElem hkl
   have hst := ascO_step s.l (s.d + 1) k hkl
   rw [hj, Bool.true_and] at hst
   have hbad : ascO (s.d + 1) (s.l.take (k + 1)) = false → snOk s = false := fun h => by
    have : ascO (s.d + 1) s.l = false := by
     cases h2 : ascO (s.d + 1) s.l with
     | false => rfl
     | true => rw [ascO_take _ _ (k + 1) h2] at h; cases h
    simp [snOk, this]
   have hpr : (k = 0 → odPrev (s.d + 1) s.l k = s.d + 1) ∧ (∀ y, 0 < k → s.l[k - 1]? = some y → odPrev (s.d + 1) s.l k = y.n ∧ s.d + 1 < y.n) := by
    refine ⟨fun h => by simp [odPrev, h], fun y hk0 hy => ⟨by simp [odPrev, hy]; omega, (ascO_lt hj y ?_).1⟩⟩
    refine List.mem_of_getElem? (i := k - 1) ?_
    rw [List.getElem?_take, if_pos (by omega), hy]
   have hpl : s.d + 1 ≤ odPrev (s.d + 1) s.l k := by
    rcases Nat.eq_zero_or_pos k with h0 | h0
    ·have := hpr.1 h0; omega
    ·have := hpr.2 s.l[k - 1] h0 (List.getElem?_eq_getElem (by omega)); omega
   generalize s.l[k] = o at *
   generalize odPrev (s.d + 1) s.l k = pr at *
   try simp (disch := omega) only [go_sem, jA, jB, jC, jD, jE, jF, jG, jH, jI, jJ, ↓reduceIte, reduceCtorEq, jO, jM, jN, jK, jL, h18, hob, ods_length, ods_get, hk2, Option.map_some, odv]
   refine ⟨by omega, by omega, ?_⟩
   refine call_pc (ok_ref27_order o) (by simp [go_sem, odv]) ?_
   cases hp : odOk o <;> try simp (disch := omega) only [go_sem, jA, jB, jC, jD, jE, jF, jG, jH, jI, jJ, ↓reduceIte, reduceCtorEq, jO, jM, jN, jK, jL, h18, hob, ods_length]
   ·exact no (hbad (by rw [hst, hp]; rfl))
   refine gd_fd rfl (fun g1 => ?_) (fun g1 => ?_) <;> try simp (disch := omega) only [go_sem, jA, jB, jC, jD, jE, jF, jG, jH, jI, jJ, ↓reduceIte, reduceCtorEq, jO, jM, jN, jK, jL, h18, hob]
   ·exact no (hbad (by rw [hst, hp]; simp; omega))
   refine gd_td rfl (fun g2 => ?_) (fun g2 => ?_)
   ·have hk0 : 0 < k := by omega
    have hy : s.l[k - 1]? = some s.l[k - 1] := List.getElem?_eq_getElem (by omega)
    obtain ⟨p1, p2⟩ := hpr.2 _ hk0 hy
    generalize s.l[k - 1] = y at *
    subst p1
    have hkn : ((k : Int) - 1).toNat = k - 1 := by omega
    try simp (disch := omega) only [go_sem, jA, jB, jC, jD, jE, jF, jG, jH, jI, jJ, ↓reduceIte, reduceCtorEq, jO, jM, jN, jK, jL, h18, hob, ods_length, ods_get, hy, hkn, odv, Option.map_some]
    repeat (refine And.intro (by first | omega | (rw [mxL]; omega) | (simp [maxLen]; done) | (simp [maxLen]; omega)) ?_)
    refine cond_d (fun g4 => ?_) (fun g4 => ?_) <;> try simp (disch := omega) only [go_sem, jA, jB, jC, jD, jE, jF, jG, jH, jI, jJ, ↓reduceIte, reduceCtorEq, jO, jM, jN, jK, jL, h18, hob]
    ·exact no (hbad (by rw [hst, hp]; simp; omega))
    exact up_next hkl ⟨(by first | rfl | (simp (disch := omega) only [go_sem, jA, jB, jC, jD, jE, jF, jG, jH, jI, jJ, ↓reduceIte, reduceCtorEq, jP, jO, jM, jN]; try rfl)), by try simp (disch := omega) only [go_sem, jA, jB, jC, jD, jE, jF, jG, jH, jI, jJ, ↓reduceIte, reduceCtorEq, jO, jM, jN, jK, jL]; exact hob, by rw [hst, hp]; simp; omega⟩
   ·have hp0 := hpr.1 (by omega)
    try simp (disch := omega) only [go_sem, jA, jB, jC, jD, jE, jF, jG, jH, jI, jJ, ↓reduceIte, reduceCtorEq, jO, jM, jN, jK, jL, h18, hob]
    exact up_next hkl ⟨(by first | rfl | (simp (disch := omega) only [go_sem, jA, jB, jC, jD, jE, jF, jG, jH, jI, jJ, ↓reduceIte, reduceCtorEq, jP, jO, jM, jN]; try rfl)), by try simp (disch := omega) only [go_sem, jA, jB, jC, jD, jE, jF, jG, jH, jI, jJ, ↓reduceIte, reduceCtorEq, jO, jM, jN, jK, jL]; exact hob, by rw [hst, hp]; simp; omega⟩
  ·try simp (disch := omega) only [go_sem, jA, jB, jC, jD, jE, jF, jG, jH, jI, jJ, ↓reduceIte, reduceCtorEq, jO, jM, jN, jK, jL]
   have : k = s.l.length := by omega
   subst this
   rw [List.take_length] at hj
   exact Pub.of_eq (by simp [snOk, h1, hj]; omega) rfl
theorem ok_ref27_Issue (s : Sd) (k i v : Int) (hl : s.l.length ≤ 9223372036854775807) : PC prog n_ref27_Issue [sdv s, .int .i64 k, .int .i64 i, .int .i64 v] (.tuple [sdv (issS s k i v).1, odv (issS s k i v).2.1, .int .i64 (issS s k i v).2.2]) := by
 have no : ∀ {σ : St} (e : Int), issS s k i v = (⟨0, []⟩, ⟨0, 0, 0, 0⟩, e) → Pub σ (.tuple [.agg [.int .i64 0, .nil], .agg [.int .i64 0, .int .i64 0, .int .i64 0, .int .i64 0], .int .i64 e]) (.tuple [sdv (issS s k i v).1, odv (issS s k i v).2.1, .int .i64 (issS s k i v).2.2]) := by
  intro σ e h
  rw [h]
  exact Pub.tu (.cons (Pub.ag (.cons (.pure rfl) (.cons (.nl 4) .nil))) (.cons (.pure rfl) (.cons (.pure rfl) .nil)))
 refine PC_of_body b_ref27_Issue (by simp) ?_
 simp only [c_ref27_Issue, go_sem, jA, jB, jC, jD, jE, jF, jG, jH, jI, jJ, ↓reduceIte, reduceCtorEq, jP, sdv]
 refine call_pc (ok_ref27_Valid s hl) (by simp [go_sem, sdv, ods_pur]) ?_
 cases hok : sdOk s <;> try simp (disch := omega) only [go_sem, jA, jB, jC, jD, jE, jF, jG, jH, jI, jJ, ↓reduceIte, reduceCtorEq, jO, jM, jN, jK, jL]
 ·exact no 50 (by simp [issS, hok])
 have hb := sdOk_l hok
 refine call_pc (ok_ref27_Fits k i v) (by simp [go_sem]) ?_
 try simp (disch := omega) only [go_sem, jA, jB, jC, jD, jE, jF, jG, jH, jI, jJ, ↓reduceIte, reduceCtorEq, jO, jM, jN, jK, jL]
 refine cond_n (fun hf => ?_) (fun hf => ?_) <;> try simp (disch := omega) only [go_sem, jA, jB, jC, jD, jE, jF, jG, jH, jI, jJ, ↓reduceIte, reduceCtorEq, jO, jM, jN, jK, jL]
 ·exact no (fitE k i v) (by simp [issS, hok, hf])
 try simp (disch := omega) only [go_sem, jA, jB, jC, jD, jE, jF, jG, jH, jI, jJ, ↓reduceIte, reduceCtorEq, jO, jM, jN, jK, jL, ods_length]
 have fin : s.l.length = 64 ∨ s.n = 1073741824 → issS s k i v = (⟨0, []⟩, ⟨0, 0, 0, 0⟩, 10) := fun h => by simp only [issS, hok, hf, if_true, if_pos h]
 refine gd_fd rfl (fun g1 => ?_) (fun g1 => ?_) <;> try simp (disch := omega) only [go_sem, jA, jB, jC, jD, jE, jF, jG, jH, jI, jJ, ↓reduceIte, reduceCtorEq, jO, jM, jN, jK, jL, ods_length]
 ·exact no 10 (fin (.inl (by omega)))
 refine cond_d (fun g2 => ?_) (fun g2 => ?_) <;> try simp (disch := omega) only [go_sem, jA, jB, jC, jD, jE, jF, jG, jH, jI, jJ, ↓reduceIte, reduceCtorEq, jO, jM, jN, jK, jL]
 ·exact no 10 (fin (.inr g2))
 have hr : issS s k i v = (⟨s.n + 1, s.l ++ [⟨s.n, k, i, v⟩]⟩, ⟨s.n, k, i, v⟩, 0) := by simp only [issS, hok, hf, if_true]; rw [if_neg (by omega)]
 rw [hr]
 refine app_slrs (es := 4) (b := 32) (L := []) (M := ods s.l) .nil (by simp [ods_length]; omega) (by simp [ods_length]; omega) fun X1 τ1 hR1 hK1 => ?_
 try simp (disch := omega) only [go_sem, jA, jB, jC, jD, jE, jF, jG, jH, jI, jJ, ↓reduceIte, reduceCtorEq, jO, jM, jN, jK, jL, hR1.one, hR1.flat, hR1.cells]
 have hk := hK1.1
 have p0 := hK1.2.1 0 (by simp [go_sem]) (Oth.nil 0)
 have p1 := hK1.2.1 1 (by simp [go_sem]) (Oth.nil 1)
 have p2 := hK1.2.1 2 (by simp [go_sem]) (Oth.nil 2)
 have p3 := hK1.2.1 3 (by simp [go_sem]) (Oth.nil 3)
 have o0 := hK1.2.2 0 (by simp [go_sem]) (Oth.nil 0)
 have o3 := hK1.2.2 3 (by simp [go_sem]) (Oth.nil 3)
 have o1 := hK1.2.2 1 (by simp [go_sem]) (Oth.nil 1)
 have o2 := hK1.2.2 2 (by simp [go_sem]) (Oth.nil 2)
 simp (maxSteps := 1000000) only [go_sem, jA, jB, jC, jD, jE, jF, jG, jH, jI, jJ, ↓reduceIte, reduceCtorEq, jP] at p0 p1 p2 p3 hk
 refine ⟨⟨p3, p3, p0⟩, ?_⟩
 refine app_slr hR1 (by simp [ods_length]; omega) (by simp [ods_length]; omega) fun X2 τ2 hR2 hK2 => ?_
 have r1 := hK2.2.1 1 (by omega) o1
 have r2 := hK2.2.1 2 (by omega) o2
 have r0 := hK2.2.1 0 (by omega) o0
 have r3 := hK2.2.1 3 (by omega) o3
 have o1 := hK2.2.2 1 (by omega) o1
 have o2 := hK2.2.2 2 (by omega) o2
 rw [p1] at r1
 rw [p2] at r2
 obtain ⟨ob2, m2, c2⟩ := τ2
 simp only at r0 r1 r2 r3
 try simp (disch := omega) only [go_sem, jA, jB, jC, jD, jE, jF, jG, jH, jI, jJ, ↓reduceIte, reduceCtorEq, jO, jM, jN, jK, jL, hR2.one, hR2.flat, hR2.cells, r1, r2, r0, r3]
 refine Pub.three (Pub.ag (.cons ?_ (.cons ?_ .nil))) ?_ ?_
 ·exact .pure rfl
 rotate_left
 ·exact .pure rfl
 ·exact .pure rfl
 rw [show [] ++ ods s.l ++ [AV.agg [AV.int .i64 s.n, AV.int .i64 k, AV.int .i64 i, AV.int .i64 v]] = ods (s.l ++ [⟨s.n, k, i, v⟩]) by simp [ods, odv]] at hR2
 refine hR2.pub (fun i hi hi2 => ?_) (ods_pur _) (ods_ok _)
 have h1 : ¬ i = 1 := fun e => hi2 (by subst e; exact o1)
 have h2 : ¬ i = 2 := fun e => hi2 (by subst e; exact o2)
 simp [h1, h2, go_sem]
theorem ok_ref27_Confirm (s : Sd) (n : Int) (hl : s.l.length ≤ 9223372036854775807) : PC prog n_ref27_Confirm [sdv s, .int .i64 n] (.tuple [sdv (cnfS s n).1, .int .i64 (cnfS s n).2]) := by
 have no : ∀ {σ : St} (e : Int), cnfS s n = (⟨0, []⟩, e) → Pub σ (.tuple [.agg [.int .i64 0, .nil], .int .i64 e]) (.tuple [sdv (cnfS s n).1, .int .i64 (cnfS s n).2]) := by
  intro σ e h
  rw [h]
  exact Pub.pair (Pub.ag (.cons (.pure rfl) (.cons (.nl 4) .nil))) (.pure rfl)
 refine PC_of_body b_ref27_Confirm (by simp) ?_
 simp only [c_ref27_Confirm, go_sem, jA, jB, jC, jD, jE, jF, jG, jH, jI, jJ, ↓reduceIte, reduceCtorEq, jP, sdv]
 refine call_pc (ok_ref27_Valid s hl) (by simp [go_sem, sdv, ods_pur]) ?_
 cases hok : sdOk s <;> try simp (disch := omega) only [go_sem, jA, jB, jC, jD, jE, jF, jG, jH, jI, jJ, ↓reduceIte, reduceCtorEq, jO, jM, jN, jK, jL]
 ·exact no 50 (by simp [cnfS, hok])
 have hb := sdOk_l hok
 have fin : n < 0 ∨ s.n ≤ n → cnfS s n = (⟨0, []⟩, 1) := fun h => by simp only [cnfS, hok, if_true, if_pos h]
 refine gd_fd rfl (fun g1 => ?_) (fun g1 => ?_) <;> try simp (disch := omega) only [go_sem, jA, jB, jC, jD, jE, jF, jG, jH, jI, jJ, ↓reduceIte, reduceCtorEq, jO, jM, jN, jK, jL]
 ·exact no 1 (fin (.inl (by omega)))
 refine cond_d (fun g2 => ?_) (fun g2 => ?_) <;> try simp (disch := omega) only [go_sem, jA, jB, jC, jD, jE, jF, jG, jH, jI, jJ, ↓reduceIte, reduceCtorEq, jO, jM, jN, jK, jL]
 ·exact no 1 (fin (.inr g2))
 have hr : cnfS s n = (⟨s.n, s.l.filter fun o => !decide (o.n ≤ n)⟩, 0) := by simp only [cnfS, hok, if_true]; rw [if_neg (by omega)]
 rw [hr]
 try simp (disch := omega) only [go_sem, jA, jB, jC, jD, jE, jF, jG, jH, jI, jJ, ↓reduceIte, reduceCtorEq, jO, jM, jN, jK, jL, ods_length]
 refine awp_upG [8, 28, 29, 30, 31, 32, 33, 34, 35, 36, 37, 38, 39, 40, 41, 42] (by kernel_rfl) s.l.length (fun k e σ => e 28 = .int .i64 k ∧ ∃ X, σ.ob 2 = some ⟨2, 2, 70, false, true, [.agg [.int .i64 s.n, X]]⟩ ∧ SlR 4 39 σ (ods ((s.l.take k).filter fun o => !decide (o.n ≤ n))) X ∧ Oth X 2 ∧ Oth X 1 ∧ σ.ob 1 = some ⟨1, 2, 70, false, true, [.agg [.int .i64 0, .nil]]⟩) ?_ ?_
 ·exact ⟨(by first | rfl | (simp (disch := omega) only [go_sem, jA, jB, jC, jD, jE, jF, jG, jH, jI, jJ, ↓reduceIte, reduceCtorEq, jP, jO, jM, jN]; try rfl)), .nil, (by first | rfl | (simp (disch := omega) only [go_sem, jA, jB, jC, jD, jE, jF, jG, jH, jI, jJ, ↓reduceIte, reduceCtorEq, jP, jO, jM, jN]; try rfl)), .nil, Oth.nil _, Oth.nil _, (by first | rfl | (simp (disch := omega) only [go_sem, jA, jB, jC, jD, jE, jF, jG, jH, jI, jJ, ↓reduceIte, reduceCtorEq, jP, jO, jM, jN]; try rfl))⟩
 ·rintro k fe ob m c hk hm ⟨h28, X, h2, hR, ho2, ho1, h1⟩
  simp (maxSteps := 1000000) only [go_sem, jA, jB, jC, jD, jE, jF, jG, jH, jI, jJ, ↓reduceIte, reduceCtorEq, jP] at h28 h2 h1 hR hm
  have hfl : ((s.l.take k).filter fun o => !decide (o.n ≤ n)).length ≤ 64 := Nat.le_trans (List.length_filter_le _ _) (by simp; omega)
  try simp (disch := omega) only [go_sem, jA, jB, jC, jD, jE, jF, jG, jH, jI, jJ, ↓reduceIte, reduceCtorEq, jO, jM, jN, jK, jL, h28, ods_length]
  refine cond_d (fun hlt => ?_) (fun hge => ?_)
  ·have hkl : k < s.l.length := by omega
   have hk2 : s.l[k]? = some s.l[k] := List.getElem?_eq_getElem hkl
   have hft := filter_take_succ s.l (fun o => !decide (o.n ≤ n)) k _ hk2
   generalize s.l[k] = o at *
   try simp (disch := omega) only [go_sem, jA, jB, jC, jD, jE, jF, jG, jH, jI, jJ, ↓reduceIte, reduceCtorEq, jO, jM, jN, jK, jL, h28, ods_length, ods_get, hk2, odv, Option.map_some]
   refine ⟨by omega, by omega, ?_⟩
   refine cond_d (fun g => ?_) (fun g => ?_)
   ·have hm1 : ¬ m = 1 := by omega
    have hm2 : ¬ m = 2 := by omega
    try simp (disch := omega) only [go_sem, jA, jB, jC, jD, jE, jF, jG, jH, jI, jJ, ↓reduceIte, reduceCtorEq, jO, jM, jN, jK, jL, h28, h2, hm2]
    refine app_slr (hR.move (Nat.le_succ _) fun i hi _ => (by simp only at hi; try simp (disch := omega) only [go_sem, jA, jB, jC, jD, jE, jF, jG, jH, jI, jJ, ↓reduceIte, reduceCtorEq, jO, jM, jN, jK, jL])) (by rw [ods_length]; omega) (by rw [ods_length]; omega) fun X2 τ2 hR2 hK2 => ?_
    have hn2 := hK2.1
    have r2 := hK2.2.1 2 (by simp only; omega) ho2
    have r1 := hK2.2.1 1 (by simp only; omega) ho1
    have o2 := hK2.2.2 2 (by simp only; omega) ho2
    have o1 := hK2.2.2 1 (by simp only; omega) ho1
    obtain ⟨ob2, m2, c2⟩ := τ2
    simp only at r1 r2 hn2
    try simp (disch := omega) only [go_sem, jA, jB, jC, jD, jE, jF, jG, jH, jI, jJ, ↓reduceIte, reduceCtorEq, jO, jM, jN, jK, jL, hm1, hm2, h2, h1] at r1 r2
    try simp (disch := omega) only [go_sem, jA, jB, jC, jD, jE, jF, jG, jH, jI, jJ, ↓reduceIte, reduceCtorEq, jO, jM, jN, jK, jL, h28, r2, hR2.one, hR2.flat, hR2.cells]
    have hft1 := hft.trans (by rw [show (!decide (o.n ≤ n)) = true by simp; omega, if_pos rfl])
    refine up_nextG m2 hkl (by omega) ⟨(by first | rfl | (simp (disch := omega) only [go_sem, jA, jB, jC, jD, jE, jF, jG, jH, jI, jJ, ↓reduceIte, reduceCtorEq, jP, jO, jM, jN]; try rfl)), X2, (by first | rfl | (simp (disch := omega) only [go_sem, jA, jB, jC, jD, jE, jF, jG, jH, jI, jJ, ↓reduceIte, reduceCtorEq, jP, jO, jM, jN]; try rfl)), ?_, o2, o1, by try simp (disch := omega) only [go_sem, jA, jB, jC, jD, jE, jF, jG, jH, jI, jJ, ↓reduceIte, reduceCtorEq, jO, jM, jN, jK, jL]; exact r1⟩
    rw [hft1, show ∀ L : List Od, ods (L ++ [o]) = ods L ++ [AV.agg [.int .i64 o.n, .int .i64 o.k, .int .i64 o.i, .int .i64 o.v]] from fun L => by simp [ods, odv]]
    refine hR2.move (Nat.le_refl _) fun i hi hi2 => ?_
    have : ¬ i = 2 := fun e => hi2 (by subst e; exact o2)
    simp only at hi
    try simp (disch := omega) only [go_sem, jA, jB, jC, jD, jE, jF, jG, jH, jI, jJ, ↓reduceIte, reduceCtorEq, jO, jM, jN, jK, jL, this]
   ·try simp (disch := omega) only [go_sem, jA, jB, jC, jD, jE, jF, jG, jH, jI, jJ, ↓reduceIte, reduceCtorEq, jO, jM, jN, jK, jL, h28]
    have hft1 := hft.trans (by rw [show (!decide (o.n ≤ n)) = false by simp; omega, if_neg (by simp), List.append_nil])
    have hm1 : ¬ m = 1 := by omega
    have hm2 : ¬ m = 2 := by omega
    refine up_nextG m hkl hm ⟨(by first | rfl | (simp (disch := omega) only [go_sem, jA, jB, jC, jD, jE, jF, jG, jH, jI, jJ, ↓reduceIte, reduceCtorEq, jP, jO, jM, jN]; try rfl)), X, ?_, ?_, ho2, ho1, ?_⟩
    ·try simp (disch := omega) only [go_sem, jA, jB, jC, jD, jE, jF, jG, jH, jI, jJ, ↓reduceIte, reduceCtorEq, jO, jM, jN, jK, jL, hm2]; exact h2
    ·rw [hft1]
     refine hR.move (Nat.le_refl _) fun i hi _ => ?_
     simp only at hi
     try simp (disch := omega) only [go_sem, jA, jB, jC, jD, jE, jF, jG, jH, jI, jJ, ↓reduceIte, reduceCtorEq, jO, jM, jN, jK, jL]
    ·try simp (disch := omega) only [go_sem, jA, jB, jC, jD, jE, jF, jG, jH, jI, jJ, ↓reduceIte, reduceCtorEq, jO, jM, jN, jK, jL, hm1]; exact h1
  ·have hkl : k = s.l.length := by omega
   subst hkl
   rw [List.take_length] at hR
   try simp (disch := omega) only [go_sem, jA, jB, jC, jD, jE, jF, jG, jH, jI, jJ, ↓reduceIte, reduceCtorEq, jO, jM, jN, jK, jL, h2, h1, hR.one]
   refine Pub.pair (Pub.ag (.cons ?_ (.cons ?_ .nil))) ?_
   ·exact .pure rfl
   rotate_left
   ·exact .pure rfl
   refine hR.pub (fun i hi hi2 => ?_) (ods_pur _) (ods_ok _)
   have : ¬ i = 1 := fun e => hi2 (by subst e; exact ho1)
   simp [this, go_sem]
abbrev ty_el_Order : TypeId := 39
def EaR (σ : St) (L : List AV) (k id g : Nat) (E : AV) : Prop := (k = L.length ∧ (E = .nil ∨ E = .list 4 [])) ∨ (E = .sl id g 4 k (L.length - k) ∧ σ.ob id = some ⟨g, 4, ty_el_Order, false, true, L⟩)
theorem ok_ref27_Take (t : Sn) (o : Od) (hl : t.l.length ≤ 9223372036854775807) : PC prog n_ref27_Take [snv t, odv o] (.tuple [snv (takT t o).1, .list 4 (ods (takT t o).2.1), .int .i64 (takT t o).2.2.1, .int .i64 (takT t o).2.2.2]) := by
 have no : ∀ {σ : St} (e : Int), takT t o = (⟨0, []⟩, [], 0, e) → Pub σ (.tuple [.agg [.int .i64 0, .nil], .nil, .int .i64 0, .int .i64 e]) (.tuple [snv (takT t o).1, .list 4 (ods (takT t o).2.1), .int .i64 (takT t o).2.2.1, .int .i64 (takT t o).2.2.2]) := by
  intro σ e h
  rw [h]
  exact Pub.tu (.cons (Pub.ag (.cons (.pure rfl) (.cons (.nl 4) .nil))) (.cons (.nl 4) (.cons (.pure rfl) (.cons (.pure rfl) .nil))))
 refine PC_of_body b_ref27_Take (by simp) ?_
 simp only [c_ref27_Take, go_sem, jA, jB, jC, jD, jE, jF, jG, jH, jI, jJ, ↓reduceIte, reduceCtorEq, jP, snv, odv]
 refine call_pc (ok_ref27_Right t hl) (by simp [go_sem, snv, ods_pur]) ?_
 cases hok : snOk t <;> try simp (disch := omega) only [go_sem, jA, jB, jC, jD, jE, jF, jG, jH, jI, jJ, ↓reduceIte, reduceCtorEq, jO, jM, jN, jK, jL]
 ·exact no 50 (by simp [takT, hok])
 have hb := snOk_l hok
 refine call_pc (ok_ref27_order o) (by simp [go_sem, odv]) ?_
 cases hoo : odOk o <;> try simp (disch := omega) only [go_sem, jA, jB, jC, jD, jE, jF, jG, jH, jI, jJ, ↓reduceIte, reduceCtorEq, jO, jM, jN, jK, jL]
 ·exact no 3 (by simp [takT, hok, hoo])
 have ho := odOk_n hoo
 refine app_slrs (es := 4) (b := 32) (L := []) (M := ods t.l) .nil (by simp [ods_length]; omega) (by simp [ods_length]; omega) fun X τ hX hK => ?_
 rw [List.nil_append] at hX
 have e0 := hK.2.1 0 (by simp [go_sem]) (Oth.nil 0)
 have e1 := hK.2.1 1 (by simp [go_sem]) (Oth.nil 1)
 have e2 := hK.2.1 2 (by simp [go_sem]) (Oth.nil 2)
 have o0 := hK.2.2 0 (by simp [go_sem]) (Oth.nil 0)
 have o1 := hK.2.2 1 (by simp [go_sem]) (Oth.nil 1)
 have o2 := hK.2.2 2 (by simp [go_sem]) (Oth.nil 2)
 have hn := hK.1
 clear hK
 obtain ⟨ob, m, c⟩ := τ
 simp (maxSteps := 1000000) only [go_sem, jA, jB, jC, jD, jE, jF, jG, jH, jI, jJ, ↓reduceIte, reduceCtorEq, jP] at e0 e1 e2 hn
 have okd : ∀ {σ : St} (L : List Od) (d : Int), takT t o = (⟨d, L⟩, [], d, 0) → ∀ X, Pub σ X (.list 4 (ods L)) → Pub σ (.tuple [.agg [.int .i64 d, X], .nil, .int .i64 d, .int .i64 0]) (.tuple [.agg [.int .i64 (takT t o).1.d, .list 4 (ods (takT t o).1.l)], .list 4 (ods (takT t o).2.1), .int .i64 (takT t o).2.2.1, .int .i64 (takT t o).2.2.2]) := by
  intro σ L d h X hX
  rw [h]
  exact Pub.tu (.cons (Pub.ag (.cons (.pure rfl) (.cons hX .nil))) (.cons (.nl 4) (.cons (.pure rfl) (.cons (.pure rfl) .nil))))
 have n2 : ∀ i, ¬ Oth X i → ¬ i = 2 := fun i h e => h (by subst e; exact o2)
 try simp (disch := omega) only [go_sem, jA, jB, jC, jD, jE, jF, jG, jH, jI, jJ, ↓reduceIte, reduceCtorEq, jO, jM, jN, jK, jL, e0, e1]
 refine cond_d (fun g1 => ?_) (fun g1 => ?_)
 ·try simp (disch := omega) only [go_sem, jA, jB, jC, jD, jE, jF, jG, jH, jI, jJ, ↓reduceIte, reduceCtorEq, jO, jM, jN, jK, jL, e0, e2, hX.one, hX.flat, hX.cells]
  refine okd t.l t.d (by simp only [takT, hok, hoo, if_true, if_pos g1]) _ (hX.pub (fun i hi h => ?_) (ods_pur _) (ods_ok _))
  have := n2 i h
  simp [this, go_sem]
 try simp (disch := omega) only [go_sem, jA, jB, jC, jD, jE, jF, jG, jH, jI, jJ, ↓reduceIte, reduceCtorEq, jO, jM, jN, jK, jL, e0, e1]
 refine cond_d (fun g2 => ?_) (fun g2 => ?_)
 ·have htk : takT t o = (⟨t.d + 1 + runLen o.n t.l, t.l.drop (runLen o.n t.l)⟩, o :: t.l.take (runLen o.n t.l), t.d + 1 + runLen o.n t.l, 0) := by
   simp only [takT, hok, hoo, if_true]; rw [if_neg (by omega), if_pos (by omega)]
  have hRl := runLen_le t.l o.n
  obtain ⟨id, g, hE, hid, hid2⟩ : ∃ id g, EaR ⟨ob, m, c⟩ (ods t.l) 0 id g X ∧ id < m ∧ ¬ id = 2 := by
   rcases hX with ⟨rfl, h⟩ | ⟨id, g, rfl, h1, h2⟩
   ·exact ⟨1, 0, .inl ⟨by rw [h]; rfl, .inl rfl⟩, by omega, by omega⟩
   ·exact ⟨id, g, .inr ⟨rfl, h2⟩, h1, o2.ne⟩
  try simp (disch := omega) only [go_sem, jA, jB, jC, jD, jE, jF, jG, jH, jI, jJ, ↓reduceIte, reduceCtorEq, jO, jM, jN, jK, jL, e0, e1]
  refine loop_cut [8, 9, 10, 46, 47, 48, 49, 50, 51, 52, 53, 54, 55, 56, 57, 58, 59, 60, 61, 62, 63, 64, 65, 66, 67] (by kernel_rfl) (fun e σ => σ.ob 2 = some ⟨2, 2, 97, false, true, [AV.agg [.int .i64 0, .nil]]⟩ ∧ e 10 = .int .i64 (t.d + 1 + runLen o.n t.l) ∧
   EaR σ (ods t.l) (runLen o.n t.l) id g (e 8) ∧ SlR 4 ty_el_Order σ (ods (o :: t.l.take (runLen o.n t.l))) (e 9) ∧ Oth (e 9) 2 ∧ Oth (e 9) id ∧ m + 1 ≤ σ.n) ?_ ?_
  ·refine awp_upG [8, 9, 10, 46, 47, 48, 49, 50, 51, 52, 53, 54, 55, 56, 57, 58, 59, 60, 61, 62, 63, 64, 65, 66, 67] (by kernel_rfl) (runLen o.n t.l) (fun k e σ => σ.ob 2 = some ⟨2, 2, 97, false, true, [AV.agg [.int .i64 0, .nil]]⟩ ∧ e 10 = .int .i64 (t.d + 1 + k) ∧
    EaR σ (ods t.l) k id g (e 8) ∧ SlR 4 ty_el_Order σ (ods (o :: t.l.take k)) (e 9) ∧ Oth (e 9) 2 ∧ Oth (e 9) id) ?_ ?_
   ·try simp (disch := omega) only [go_sem, jA, jB, jC, jD, jE, jF, jG, jH, jI, jJ, ↓reduceIte, reduceCtorEq, jO, jM, jN, jK, jL]
    refine ⟨e2, by simp, ?_, .inr ⟨m, c, rfl, by simp [go_sem], by try simp (disch := omega) only [go_sem, jA, jB, jC, jD, jE, jF, jG, jH, jI, jJ, ↓reduceIte, reduceCtorEq, jO, jM, jN, jK, jL]; simp [ods, odv]⟩, Oth.sl (by omega), Oth.sl (by omega)⟩
    rcases hE with h | ⟨h1, h2⟩
    ·exact .inl h
    ·exact .inr ⟨h1, by try simp (disch := omega) only [go_sem, jA, jB, jC, jD, jE, jF, jG, jH, jI, jJ, ↓reduceIte, reduceCtorEq, jO, jM, jN, jK, jL]; exact h2⟩
   ·rintro k fe ob m' c' hk hm ⟨h2, h10, hE, hX, x2, xi⟩
    have hm' : m + 1 ≤ m' := hm
    obtain ⟨Y, h9⟩ : ∃ Y, fe 9 = Y := ⟨_, rfl⟩
    obtain ⟨E, h8⟩ : ∃ E, fe 8 = E := ⟨_, rfl⟩
    simp (maxSteps := 1000000) only [go_sem, jA, jB, jC, jD, jE, jF, jG, jH, jI, jJ, ↓reduceIte, reduceCtorEq, jP] at h2 h10 hX hE x2 xi
    rw [h9] at hX x2 xi
    rw [h8] at hE
    rcases hX with ⟨_, h⟩ | ⟨id2, g2, hXX, hx1, hx2⟩
    ·simp [ods] at h
    have hxl : (ods (o :: t.l.take k)).length = k + 1 := by simp [ods]; omega
    rw [hxl] at hXX
    subst hXX
    have i22 : ¬ id2 = 2 := x2.ne
    have i2i : ¬ id2 = id := xi.ne
    by_cases hkR : k < runLen o.n t.l
    ·have hkl : k < t.l.length := by omega
     rcases hE with ⟨h, _⟩ | ⟨rfl, hob⟩
     ·rw [ods_length] at h; omega
     simp only at hx1 hx2 hob
     have hg : t.l[k]? = some t.l[k] := List.getElem?_eq_getElem hkl
     have hgn := runLen_all hkR hg
     have hst : ods (o :: t.l.take k) ++ [odv t.l[k]] = ods (o :: t.l.take (k + 1)) := by rw [List.take_add_one, hg]; simp only [ods, List.map_cons, List.map_append, Option.toList_some, List.map_nil, List.cons_append]
     generalize t.l[k] = y at *
     have hgy : (ods t.l)[k]? = some (odv y) := by rw [ods_get, hg]; rfl
     try simp (disch := omega) only [go_sem, jA, jB, jC, jD, jE, jF, jG, jH, jI, jJ, ↓reduceIte, reduceCtorEq, jO, jM, jN, jK, jL, h8, h9, h10, ods_length]
     refine gd_td rfl (fun hpos => ?_) (fun h => absurd h (by omega))
     try simp (disch := omega) only [go_sem, jA, jB, jC, jD, jE, jF, jG, jH, jI, jJ, ↓reduceIte, reduceCtorEq, jO, jM, jN, jK, jL, h8, h9, h10, hob, hgy, ods_length, odv]
     refine ⟨by omega, ?_⟩
     refine cond_d (fun _ => ?_) (fun h => absurd (show y.n = t.d + 1 + k + 1 by omega) h)
     have hmx : k + 1 + 1 ≤ maxLen := by rw [mxL]; omega
     have hl2 : (ods (o :: t.l.take (k + 1))).length = k + 1 + 1 := by simp [ods]; omega
     have h2m : 2 < m' := by omega
     have hidm : id < m' := by omega
     try simp (disch := omega) only [go_sem, jA, jB, jC, jD, jE, jF, jG, jH, jI, jJ, ↓reduceIte, reduceCtorEq, jO, jM, jN, jK, jL, h8, h9, h10, hob, hgy, hx2, hxl, odv, ods_length, Nat.sub_sub]
     refine ⟨by omega, fun he => ⟨by omega, hmx, by omega, up_nextG m' hkR hm ?_⟩, fun he => ⟨by omega, hmx, by omega, up_nextG m' hkR hm ?_⟩⟩
     ·try simp (disch := omega) only [go_sem, jA, jB, jC, jD, jE, jF, jG, jH, jI, jJ, ↓reduceIte, reduceCtorEq, jO, jM, jN, jK, jL, h2]
      exact ⟨by congr 1; omega, .inl ⟨by rw [ods_length]; omega, .inr rfl⟩, .inr ⟨id2, c', by rw [hl2], hx1, by try simp (disch := omega) only [go_sem, jA, jB, jC, jD, jE, jF, jG, jH, jI, jJ, ↓reduceIte, reduceCtorEq, jO, jM, jN, jK, jL]; rw [← hst]; rfl⟩, Oth.sl i22, Oth.sl i2i⟩
     ·try simp (disch := omega) only [go_sem, jA, jB, jC, jD, jE, jF, jG, jH, jI, jJ, ↓reduceIte, reduceCtorEq, jO, jM, jN, jK, jL, h2]
      exact ⟨by congr 1; omega, .inr ⟨by rw [ods_length], by try simp (disch := omega) only [go_sem, jA, jB, jC, jD, jE, jF, jG, jH, jI, jJ, ↓reduceIte, reduceCtorEq, jO, jM, jN, jK, jL]; exact hob⟩, .inr ⟨id2, c', by rw [hl2], hx1, by try simp (disch := omega) only [go_sem, jA, jB, jC, jD, jE, jF, jG, jH, jI, jJ, ↓reduceIte, reduceCtorEq, jO, jM, jN, jK, jL]; rw [← hst]; rfl⟩, Oth.sl i22, Oth.sl i2i⟩
    ·have hkR2 : k = runLen o.n t.l := by omega
     subst hkR2
     have hrg : ∀ y, t.l[runLen o.n t.l]? = some y → ¬ y.n = t.d + 1 + runLen o.n t.l + 1 := fun y hy => by
      have := runLen_get t.l o.n (runLen o.n t.l) y (Nat.le_refl _) hy
      omega
     have key : ob 2 = some ⟨2, 2, 97, false, true, [AV.agg [.int .i64 0, .nil]]⟩ ∧
       EaR ⟨ob, m', c'⟩ (ods t.l) (runLen o.n t.l) id g E ∧ SlR 4 ty_el_Order ⟨ob, m', c'⟩ (ods (o :: t.l.take (runLen o.n t.l))) (.sl id2 g2 4 0 (runLen o.n t.l + 1)) ∧ Oth (.sl id2 g2 4 0 (runLen o.n t.l + 1)) 2 ∧ Oth (.sl id2 g2 4 0 (runLen o.n t.l + 1)) id ∧ m + 1 ≤ m' :=
      ⟨h2, hE, .inr ⟨id2, g2, by rw [hxl], hx1, hx2⟩, x2, xi, hm'⟩
     generalize runLen o.n t.l = R at *
     rcases hE with ⟨h, rfl | rfl⟩ | ⟨rfl, hob⟩
     ·try simp (disch := omega) only [go_sem, jA, jB, jC, jD, jE, jF, jG, jH, jI, jJ, ↓reduceIte, reduceCtorEq, jO, jM, jN, jK, jL, h8, h9, h10]
      exact key
     ·try simp (disch := omega) only [go_sem, jA, jB, jC, jD, jE, jF, jG, jH, jI, jJ, ↓reduceIte, reduceCtorEq, jO, jM, jN, jK, jL, h8, h9, h10]
      exact key
     ·try simp (disch := omega) only [go_sem, jA, jB, jC, jD, jE, jF, jG, jH, jI, jJ, ↓reduceIte, reduceCtorEq, jO, jM, jN, jK, jL, h8, h9, h10, ods_length]
      refine gd_td rfl (fun hpos => ?_) (fun h => ?_)
      ·have hkl : R < t.l.length := by omega
       have hg : t.l[R]? = some t.l[R] := List.getElem?_eq_getElem hkl
       have hgn := hrg _ hg
       generalize t.l[R] = y at *
       have hgy : (ods t.l)[R]? = some (odv y) := by rw [ods_get, hg]; rfl
       simp only at hob hx2
       try simp (disch := omega) only [go_sem, jA, jB, jC, jD, jE, jF, jG, jH, jI, jJ, ↓reduceIte, reduceCtorEq, jO, jM, jN, jK, jL, h8, h9, h10, hob, hgy, ods_length, odv]
       refine ⟨by omega, ?_⟩
       refine cond_d (fun h => absurd h hgn) (fun _ => ?_)
       try simp (disch := omega) only [go_sem, jA, jB, jC, jD, jE, jF, jG, jH, jI, jJ, ↓reduceIte, reduceCtorEq, jO, jM, jN, jK, jL, h8, h9, h10]
       rw [ods_length] at key
       exact key
      ·try simp (disch := omega) only [go_sem, jA, jB, jC, jD, jE, jF, jG, jH, jI, jJ, ↓reduceIte, reduceCtorEq, jO, jM, jN, jK, jL, h8, h9, h10]
       rw [ods_length] at key
       exact key
  ·rintro fe σ1 ⟨h2, h10, hE, hX, x2, xi, hn⟩
   obtain ⟨ob, m', c'⟩ := σ1
   obtain ⟨Y, h9⟩ : ∃ Y, fe 9 = Y := ⟨_, rfl⟩
   obtain ⟨E, h8⟩ : ∃ E, fe 8 = E := ⟨_, rfl⟩
   simp (maxSteps := 1000000) only [go_sem, jA, jB, jC, jD, jE, jF, jG, jH, jI, jJ, ↓reduceIte, reduceCtorEq, jP] at h2 h10 hX hE hn x2 xi
   rw [h9] at hX x2 xi
   rw [h8] at hE
   have hod : (ods t.l).drop (runLen o.n t.l) = ods (t.l.drop (runLen o.n t.l)) := by simp [ods]
   rw [htk]
   generalize runLen o.n t.l = R at *
   have hEo : E.one = true := by rcases hE with ⟨_, rfl | rfl⟩ | ⟨rfl, _⟩ <;> rfl
   have hEf : E.flat = true := by rcases hE with ⟨_, rfl | rfl⟩ | ⟨rfl, _⟩ <;> rfl
   have hEc : E.cells = [E] := by rcases hE with ⟨_, rfl | rfl⟩ | ⟨rfl, _⟩ <;> rfl
   try simp (disch := omega) only [go_sem, jA, jB, jC, jD, jE, jF, jG, jH, jI, jJ, ↓reduceIte, reduceCtorEq, jO, jM, jN, jK, jL, h8, h9, h10, h2, hEo, hEf, hEc]
   refine Pub.tu (.cons (Pub.ag (.cons (.pure rfl) (.cons ?_ .nil))) (.cons ?_ (.cons (.pure rfl) (.cons (.pure rfl) .nil))))
   ·rw [← hod]
    rcases hE with ⟨h, rfl | rfl⟩ | ⟨rfl, hob⟩
    ·rw [h, List.drop_length]; exact .nl 4
    ·rw [h, List.drop_length]; exact .pure rfl
    ·refine .sl (o := ⟨g, 4, ty_el_Order, false, true, ods t.l⟩) ?_ rfl rfl (by simp only [ods_length]; omega) (by simp) (fun i x y hx hy => ?_) (fun x hx => ods_ok _ x (List.mem_of_mem_drop hx))
     ·simp only at hob
      simp [hob, hid2, go_sem]
     ·have : ((ods t.l).drop R).take ((ods t.l).length - R) = (ods t.l).drop R := List.take_of_length_le (by simp)
      simp only [] at hx
      rw [this, hy] at hx
      obtain rfl := Option.some.inj hx
      exact .pure (ods_pur t.l _ (List.mem_of_mem_drop (List.mem_of_getElem? hy)))
   ·refine hX.pub (fun i hi h => ?_) (ods_pur _) (ods_ok _)
    have : ¬ i = 2 := fun e => h (by subst e; exact x2)
    simp [this, go_sem]
 ·obtain ⟨N, hN⟩ : ∃ N, N = t.l.map Od.n := ⟨_, rfl⟩
  have hin := bsI_le N o.n
  have htk : takT t o = if N[bsI N o.n]? = some o.n then (t, [], t.d, 0) else if t.l.length = 64 then (⟨0, []⟩, [], 0, 10) else (⟨t.d, t.l.take (bsI N o.n) ++ o :: t.l.drop (bsI N o.n)⟩, [], t.d, 0) := by
   simp only [takT, hok, hoo, if_true, ← hN]; rw [if_neg (by omega), if_neg (by omega)]
  have hNl : N.length = t.l.length := by simp [hN]
  have hNg : ∀ (k : Nat) y, t.l[k]? = some y → N[k]? = some y.n := fun k y h => by rw [hN, List.getElem?_map, h]; rfl
  rw [hNl] at hin
  clear hN
  have hE := ER.of_slr hX
  have X1 := hX.one
  have X2 := hX.flat
  have X3 := hX.cells
  try simp (disch := omega) only [go_sem, jA, jB, jC, jD, jE, jF, jG, jH, jI, jJ, ↓reduceIte, reduceCtorEq, jO, jM, jN, jK, jL]
  refine loop_cut [11, 73, 74, 75, 76, 77, 78, 79, 80, 81, 82, 83, 84, 85, 86, 87, 88] (by kernel_rfl) (fun e σ => e 11 = .int .i64 (bsI N o.n) ∧ (∀ i, i < m → σ.ob i = ob i) ∧ σ.n = m) ?_ ?_
  ·refine awp_upF [11, 73, 74, 75, 76, 77, 78, 79, 80, 81, 82, 83, 84, 85, 86, 87, 88] (by kernel_rfl) t.l.length (fun k e σ => e 11 = .int .i64 k ∧ k ≤ bsI N o.n ∧ ∀ i, i < m → σ.ob i = ob i) ?_ ?_
   ·exact ⟨(by first | rfl | (simp (disch := omega) only [go_sem, jA, jB, jC, jD, jE, jF, jG, jH, jI, jJ, ↓reduceIte, reduceCtorEq, jP, jO, jM, jN]; try rfl)), Nat.zero_le _, fun _ _ => rfl⟩
   ·rintro k fe ob' c' hk ⟨h11, hj, hf⟩
    simp (maxSteps := 1000000) only [go_sem, jA, jB, jC, jD, jE, jF, jG, jH, jI, jJ, ↓reduceIte, reduceCtorEq, jP] at h11 hf
    have hE' : ER 4 ⟨ob', m, c'⟩ (ods t.l) X := hE.keep (Nat.le_refl _) fun i hi _ => hf i hi
    try simp (disch := omega) only [go_sem, jA, jB, jC, jD, jE, jF, jG, jH, jI, jJ, ↓reduceIte, reduceCtorEq, jO, jM, jN, jK, jL, h11]
    refine hE'.len ?_
    try simp (disch := omega) only [go_sem, jA, jB, jC, jD, jE, jF, jG, jH, jI, jJ, ↓reduceIte, reduceCtorEq, jO, jM, jN, jK, jL, h11, ods_length]
    refine gd_td rfl (fun g5 => ?_) (fun g5 => ?_)
    ·have hkl : k < t.l.length := by omega
     have hk2 : t.l[k]? = some t.l[k] := List.getElem?_eq_getElem hkl
     have hkm := hNg k _ hk2
     generalize t.l[k] = y at *
     have hgy : (ods t.l)[k]? = some (odv y) := by rw [ods_get, hk2]; rfl
     rcases hX with ⟨rfl, h⟩ | ⟨id, g, rfl, h1, h2⟩
     ·have : t.l = [] := by simpa [ods] using h
      rw [this] at hkl; simp at hkl
     simp only at h2 h1
     have f1 := hf 1 (by omega)
     rw [e1] at f1
     have f2 := hf id h1
     rw [h2] at f2
     try simp (disch := omega) only [go_sem, jA, jB, jC, jD, jE, jF, jG, jH, jI, jJ, ↓reduceIte, reduceCtorEq, jO, jM, jN, jK, jL, h11, f2, hgy, ods_length, f1, odv]
     refine ⟨by omega, by omega, ?_⟩
     refine cond_d (fun g6 => ?_) (fun g6 => ?_) <;> try simp (disch := omega) only [go_sem, jA, jB, jC, jD, jE, jF, jG, jH, jI, jJ, ↓reduceIte, reduceCtorEq, jO, jM, jN, jK, jL, h11]
     ·refine up_next hkl ⟨(by first | rfl | (simp (disch := omega) only [go_sem, jA, jB, jC, jD, jE, jF, jG, jH, jI, jJ, ↓reduceIte, reduceCtorEq, jP, jO, jM, jN]; try rfl)), ?_, fun i hi => ?_⟩
      ·rcases Nat.lt_or_ge k (bsI N o.n) with h1 | h1
       ·exact h1
       ·have h2 : k = bsI N o.n := by omega
        rw [h2] at hkm
        have := bsI_at hkm
        omega
      ·try simp (disch := omega) only [go_sem, jA, jB, jC, jD, jE, jF, jG, jH, jI, jJ, ↓reduceIte, reduceCtorEq, jO, jM, jN, jK, jL]
       exact hf i hi
     ·exact ⟨by rw [Nat.le_antisymm (bsI_le_of hkm (by omega)) hj], hf⟩
    ·try simp (disch := omega) only [go_sem, jA, jB, jC, jD, jE, jF, jG, jH, jI, jJ, ↓reduceIte, reduceCtorEq, jO, jM, jN, jK, jL, h11]
     exact ⟨by rw [show bsI N o.n = k by omega], hf⟩
  ·rintro fe ⟨ob', m', c'⟩ ⟨h11, hf, hm'⟩
   simp only at hm' hf
   subst hm'
   have hE' : ER 4 ⟨ob', m', c'⟩ (ods t.l) X := hE.keep (Nat.le_refl _) fun i hi _ => hf i hi
   simp (maxSteps := 1000000) only [go_sem, jA, jB, jC, jD, jE, jF, jG, jH, jI, jJ, ↓reduceIte, reduceCtorEq, jP] at h11
   generalize bsI N o.n = i at *
   have f0 := hf 0 (by omega)
   have f1 := hf 1 (by omega)
   have f2 := hf 2 (by omega)
   rw [e0] at f0
   rw [e1] at f1
   rw [e2] at f2
   try simp (disch := omega) only [go_sem, jA, jB, jC, jD, jE, jF, jG, jH, jI, jJ, ↓reduceIte, reduceCtorEq, jO, jM, jN, jK, jL, h11]
   refine hE'.len ?_
   try simp (disch := omega) only [go_sem, jA, jB, jC, jD, jE, jF, jG, jH, jI, jJ, ↓reduceIte, reduceCtorEq, jO, jM, jN, jK, jL, h11, ods_length]
   have there : N[i]? = some o.n → Pub ⟨upd ob' 2 (some ⟨2, 2, 97, false, true, [AV.agg [.int .i64 t.d, X]]⟩), m', c'⟩ (.tuple [.agg [.int .i64 t.d, X], .nil, .int .i64 t.d, .int .i64 0]) (.tuple [.agg [.int .i64 (takT t o).1.d, .list 4 (ods (takT t o).1.l)], .list 4 (ods (takT t o).2.1), .int .i64 (takT t o).2.2.1, .int .i64 (takT t o).2.2.2]) := fun h => by
    rw [if_pos h] at htk
    refine okd t.l t.d htk _ (hE'.pub (ods_pur _) (ods_ok _) fun j hj h o h2 => ⟨o.ro, ?_⟩)
    have := n2 j h
    simp only at h2
    simp [this, go_sem, h2]
   refine gd_td rfl (fun g5 => ?_) (fun g5 => ?_)
   ·have hil : i < t.l.length := by omega
    have hk2 : t.l[i]? = some t.l[i] := List.getElem?_eq_getElem hil
    have hkm := hNg i _ hk2
    generalize t.l[i] = y at *
    have hgy : (ods t.l)[i]? = some (odv y) := by rw [ods_get, hk2]; rfl
    rcases hX with ⟨_, h⟩ | ⟨id, g, hXe, h1, h2⟩
    ·have : t.l = [] := by simpa [ods] using h
     rw [this] at hil; simp at hil
    simp only at h2 h1
    have fi := hf id h1
    rw [h2] at fi
    rw [ods_length] at hXe
    rw [hXe]
    try simp (disch := omega) only [go_sem, jA, jB, jC, jD, jE, jF, jG, jH, jI, jJ, ↓reduceIte, reduceCtorEq, jO, jM, jN, jK, jL, h11, fi, hgy, ods_length, f1, odv]
    rw [← hXe]
    refine ⟨by omega, by omega, ?_⟩
    refine cond_d (fun g6 => ?_) (fun g6 => ?_)
    ·try simp (disch := omega) only [go_sem, jA, jB, jC, jD, jE, jF, jG, jH, jI, jJ, ↓reduceIte, reduceCtorEq, jO, jM, jN, jK, jL, f0, f2, X1, X2, X3]
     exact there (by rw [hkm, g6])
    have hat : ¬ N[i]? = some o.n := by rw [hkm]; intro h; exact g6 (Option.some.inj h)
    rw [if_neg hat] at htk
    try simp (disch := omega) only [go_sem, jA, jB, jC, jD, jE, jF, jG, jH, jI, jJ, ↓reduceIte, reduceCtorEq, jO, jM, jN, jK, jL, h11]
    refine hE'.len ?_
    try simp (disch := omega) only [go_sem, jA, jB, jC, jD, jE, jF, jG, jH, jI, jJ, ↓reduceIte, reduceCtorEq, jO, jM, jN, jK, jL, h11, ods_length]
    refine cond_d (fun g3 => ?_) (fun g3 => ?_)
    ·try simp (disch := omega) only [go_sem, jA, jB, jC, jD, jE, jF, jG, jH, jI, jJ, ↓reduceIte, reduceCtorEq, jO, jM, jN, jK, jL, f2]
     exact no 10 (by rw [htk, if_pos (by omega)])
    rw [if_neg (by omega)] at htk
    try simp (disch := omega) only [go_sem, jA, jB, jC, jD, jE, jF, jG, jH, jI, jJ, ↓reduceIte, reduceCtorEq, jO, jM, jN, jK, jL, h11, f1]
    refine hE'.drop rfl (by rw [ods_length]; omega) fun D hD hoD => ?_
    try simp (disch := omega) only [go_sem, jA, jB, jC, jD, jE, jF, jG, jH, jI, jJ, ↓reduceIte, reduceCtorEq, jO, jM, jN, jK, jL, h11, f1]
    refine hE'.take rfl (by rw [ods_length]; omega) fun T hT hoT => ?_
    try simp (disch := omega) only [go_sem, jA, jB, jC, jD, jE, jF, jG, jH, jI, jJ, ↓reduceIte, reduceCtorEq, jO, jM, jN, jK, jL, h11, f1]
    refine app_er hT (app_slrs .nil (by simp [ods_length]; omega) (by simp [ods_length]; omega) fun Y1 τ1 hR1 hK1 => ?_)
    have k1 := hK1.2.1 1 (by simp only; omega) (Oth.nil 1)
    simp only [f1] at k1
    try simp (disch := omega) only [go_sem, jA, jB, jC, jD, jE, jF, jG, jH, jI, jJ, ↓reduceIte, reduceCtorEq, jO, jM, jN, jK, jL, k1, f1]
    have hRX : ∀ x ∈ tagR 10 X.oid ++ [(5, 1)] ++ tagR 3 X.oid, x.2 < m' := app_lt (app_lt (tagR_lt hE'.oid) (by simp; omega)) (tagR_lt hE'.oid)
    refine ⟨hkeep_lt hRX fun j hj => hK1.2.1 j hj (Oth.nil j), ?_⟩
    refine app_slr hR1 (by simp [ods_length]; omega) (by simp [ods_length]; omega) fun Y2 τ2 hR2 hK2 => ?_
    try simp (disch := omega) only [go_sem, jA, jB, jC, jD, jE, jF, jG, jH, jI, jJ, ↓reduceIte, reduceCtorEq, jO, jM, jN, jK, jL]
    refine ⟨hkeep_lt hRX fun j hj => hK2.2.1 j (Nat.lt_of_lt_of_le hj hK1.1) (hK1.2.2 j hj (Oth.nil j)), ?_⟩
    refine app_er (hD.keep (hK1.trans hK2).1 fun j hj h => (hK1.trans hK2).2.1 j hj (Oth.nil j)) (app_slrs hR2 (by simp [ods_length]; omega) (by simp [ods_length]; omega) fun Y3 τ3 hR3 hK3 => ?_)
    have hK := (hK1.trans hK2).trans hK3
    have k0 := hK.2.1 0 (by simp only; omega) (Oth.nil 0)
    have k2 := hK.2.1 2 (by simp only; omega) (Oth.nil 2)
    have oy := hK.2.2 2 (by simp only; omega) (Oth.nil 2)
    simp only [f0, f2] at k0 k2
    obtain ⟨ob3, m3, c3⟩ := τ3
    simp only at k0 k2
    try simp (disch := omega) only [go_sem, jA, jB, jC, jD, jE, jF, jG, jH, jI, jJ, ↓reduceIte, reduceCtorEq, jO, jM, jN, jK, jL, h11, k0, k2, hR3.one, hR3.flat, hR3.cells]
    rw [show [] ++ (ods t.l).take i ++ [AV.agg [.int .i64 o.n, .int .i64 o.k, .int .i64 o.i, .int .i64 o.v]] ++ (ods t.l).drop i = ods (t.l.take i ++ o :: t.l.drop i) by simp [ods, odv]] at hR3
    have hK12 := hK1.trans hK2
    refine ⟨hkeep_lt hRX fun j hj => hK3.2.1 j (Nat.lt_of_lt_of_le hj hK12.1) (hK12.2.2 j hj (Oth.nil j)), ?_⟩
    refine okd _ t.d htk _ (hR3.pub (fun j hj h => ?_) (ods_pur _) (ods_ok _))
    have : ¬ j = 2 := fun e => h (by subst e; exact oy)
    simp [this, go_sem]
   ·have hat : ¬ N[i]? = some o.n := by rw [List.getElem?_eq_none (by omega)]; simp
    rw [if_neg hat] at htk
    try simp (disch := omega) only [go_sem, jA, jB, jC, jD, jE, jF, jG, jH, jI, jJ, ↓reduceIte, reduceCtorEq, jO, jM, jN, jK, jL, h11]
    refine hE'.len ?_
    try simp (disch := omega) only [go_sem, jA, jB, jC, jD, jE, jF, jG, jH, jI, jJ, ↓reduceIte, reduceCtorEq, jO, jM, jN, jK, jL, h11, ods_length]
    refine cond_d (fun g3 => ?_) (fun g3 => ?_)
    ·try simp (disch := omega) only [go_sem, jA, jB, jC, jD, jE, jF, jG, jH, jI, jJ, ↓reduceIte, reduceCtorEq, jO, jM, jN, jK, jL, f2]
     exact no 10 (by rw [htk, if_pos (by omega)])
    rw [if_neg (by omega)] at htk
    try simp (disch := omega) only [go_sem, jA, jB, jC, jD, jE, jF, jG, jH, jI, jJ, ↓reduceIte, reduceCtorEq, jO, jM, jN, jK, jL, h11, f1]
    refine hE'.drop rfl (by rw [ods_length]; omega) fun D hD hoD => ?_
    try simp (disch := omega) only [go_sem, jA, jB, jC, jD, jE, jF, jG, jH, jI, jJ, ↓reduceIte, reduceCtorEq, jO, jM, jN, jK, jL, h11, f1]
    refine hE'.take rfl (by rw [ods_length]; omega) fun T hT hoT => ?_
    try simp (disch := omega) only [go_sem, jA, jB, jC, jD, jE, jF, jG, jH, jI, jJ, ↓reduceIte, reduceCtorEq, jO, jM, jN, jK, jL, h11, f1]
    refine app_er hT (app_slrs .nil (by simp [ods_length]; omega) (by simp [ods_length]; omega) fun Y1 τ1 hR1 hK1 => ?_)
    have k1 := hK1.2.1 1 (by simp only; omega) (Oth.nil 1)
    simp only [f1] at k1
    try simp (disch := omega) only [go_sem, jA, jB, jC, jD, jE, jF, jG, jH, jI, jJ, ↓reduceIte, reduceCtorEq, jO, jM, jN, jK, jL, k1, f1]
    have hRX : ∀ x ∈ tagR 10 X.oid ++ [(5, 1)] ++ tagR 3 X.oid, x.2 < m' := app_lt (app_lt (tagR_lt hE'.oid) (by simp; omega)) (tagR_lt hE'.oid)
    refine ⟨hkeep_lt hRX fun j hj => hK1.2.1 j hj (Oth.nil j), ?_⟩
    refine app_slr hR1 (by simp [ods_length]; omega) (by simp [ods_length]; omega) fun Y2 τ2 hR2 hK2 => ?_
    try simp (disch := omega) only [go_sem, jA, jB, jC, jD, jE, jF, jG, jH, jI, jJ, ↓reduceIte, reduceCtorEq, jO, jM, jN, jK, jL]
    refine ⟨hkeep_lt hRX fun j hj => hK2.2.1 j (Nat.lt_of_lt_of_le hj hK1.1) (hK1.2.2 j hj (Oth.nil j)), ?_⟩
    refine app_er (hD.keep (hK1.trans hK2).1 fun j hj h => (hK1.trans hK2).2.1 j hj (Oth.nil j)) (app_slrs hR2 (by simp [ods_length]; omega) (by simp [ods_length]; omega) fun Y3 τ3 hR3 hK3 => ?_)
    have hK := (hK1.trans hK2).trans hK3
    have k0 := hK.2.1 0 (by simp only; omega) (Oth.nil 0)
    have k2 := hK.2.1 2 (by simp only; omega) (Oth.nil 2)
    have oy := hK.2.2 2 (by simp only; omega) (Oth.nil 2)
    simp only [f0, f2] at k0 k2
    obtain ⟨ob3, m3, c3⟩ := τ3
    simp only at k0 k2
    try simp (disch := omega) only [go_sem, jA, jB, jC, jD, jE, jF, jG, jH, jI, jJ, ↓reduceIte, reduceCtorEq, jO, jM, jN, jK, jL, h11, k0, k2, hR3.one, hR3.flat, hR3.cells]
    rw [show [] ++ (ods t.l).take i ++ [AV.agg [.int .i64 o.n, .int .i64 o.k, .int .i64 o.i, .int .i64 o.v]] ++ (ods t.l).drop i = ods (t.l.take i ++ o :: t.l.drop i) by simp [ods, odv]] at hR3
    have hK12 := hK1.trans hK2
    refine ⟨hkeep_lt hRX fun j hj => hK3.2.1 j (Nat.lt_of_lt_of_le hj hK12.1) (hK12.2.2 j hj (Oth.nil j)), ?_⟩
    refine okd _ t.d htk _ (hR3.pub (fun j hj h => ?_) (ods_pur _) (ods_ok _))
    have : ¬ j = 2 := fun e => h (by subst e; exact oy)
    simp [this, go_sem]
theorem DeckR.mono {σ τ : St} {id g : Nat} {t : List Int} {W W' : AV → Prop} {r : AV} (k : ∀ r, W r → W' r) (h : DeckR σ id g t W r τ) : DeckR σ id g t W' r τ := by
 obtain ⟨a, c, h, e⟩ := h; exact ⟨a, c, k _ h, e⟩
def OdB (k i v : Int) : Prop := 1 ≤ k ∧ k ≤ 3 ∧ 0 ≤ i ∧ i ≤ 1000 ∧ 0 ≤ v ∧ v ≤ 1000
theorem hc_flow_OrderB (σ : St) (id g : Nat) (t : List Int) (at' : Nat) (n : Int) (hl : t.length ≤ 9223372036854775807) (hid : id < σ.n) (hob : σ.ob id = some ⟨g, 2, ty_Deck, false, true, [deckV t at']⟩) :
  HC prog n_flow_Order [.ptr id g 2 0 0, .int .i64 n] σ (DeckR σ id g t fun r => ∃ k i v, r = odv ⟨n, k, i, v⟩ ∧ OdB k i v) := by
 refine HC.deck hid ?_
 obtain ⟨ob0, n0, c0⟩ := σ
 simp only at hob hid
 refine HC_of_body b_flow_Order (by simp) ?_
 simp only [c_flow_Order, go_sem, jA, jB, jC, jD, jE, jF, jG, jH, jI, jJ, ↓reduceIte, reduceCtorEq, jP]
 have h0 : ¬ id = n0 := by omega
 have h1 : ¬ id = n0 + 1 := by omega
 have h2 : ¬ n0 = id := by omega
 have h3 : ¬ n0 + 1 = id := by omega
 have fin : ∀ (ob' : Nat → Option AObj) (c' : Nat) (k i v : Int) (at2 : Nat), ob' id = some ⟨g, 2, ty_Deck, false, true, [deckV t at2]⟩ → (∀ i, i < n0 → i ≠ id → ob' i = ob0 i) → OdB k i v → Deck0 ⟨ob0, n0, c0⟩ id g t (fun r => ∃ k i v, r = odv ⟨n, k, i, v⟩ ∧ OdB k i v) (.agg [.int .i64 n, .int .i64 k, .int .i64 i, .int .i64 v]) ⟨ob', n0 + 2, c'⟩ :=
  fun ob' c' k i v at2 h1 h2 h3 => ⟨_, at2, .pure rfl, ⟨k, i, v, rfl, h3⟩, h1, h2⟩
 refine call_hc (ok_mk_Deck_Next _ id g ty_Deck true t at' 3 (by try simp (disch := omega) only [go_sem, jA, jB, jC, jD, jE, jF, jG, jH, jI, jJ, ↓reduceIte, reduceCtorEq, jO, jM, jN, jK, jL]; exact hob) (by omega) hl) ?_
 have hx1 := deckR_bd t at' 3
 generalize deckR t at' 3 = dr at *
 obtain ⟨x1, at1⟩ := dr
 simp only at hx1
 try simp (disch := omega) only [go_sem, jA, jB, jC, jD, jE, jF, jG, jH, jI, jJ, ↓reduceIte, reduceCtorEq, jO, jM, jN, jK, jL, h0, h1, h2, h3]
 refine cond_d (fun g1 => ?_) (fun g1 => ?_)
 ·try simp (disch := omega) only [go_sem, jA, jB, jC, jD, jE, jF, jG, jH, jI, jJ, ↓reduceIte, reduceCtorEq, jO, jM, jN, jK, jL, h0, h1, h2, h3]
  refine call_hc (ok_mk_Deck_Next _ id g ty_Deck true t at1 50 (by try simp (disch := omega) only [go_sem, jA, jB, jC, jD, jE, jF, jG, jH, jI, jJ, ↓reduceIte, reduceCtorEq, jO, jM, jN, jK, jL, h0, h1]) (by omega) hl) ?_
  have hx2 := deckR_bd t at1 50
  generalize deckR t at1 50 = dr at *
  obtain ⟨x2, at2⟩ := dr
  simp only at hx2
  try simp (disch := omega) only [go_sem, jA, jB, jC, jD, jE, jF, jG, jH, jI, jJ, ↓reduceIte, reduceCtorEq, jO, jM, jN, jK, jL, h0, h1, h2, h3]
  exact fin _ _ _ _ _ at2 (by try simp (disch := omega) only [go_sem, jA, jB, jC, jD, jE, jF, jG, jH, jI, jJ, ↓reduceIte, reduceCtorEq, jO, jM, jN, jK, jL, h0, h1]) (fun i hi hi2 => by
   have j0 : ¬ i = n0 := by omega
   have j1 : ¬ i = n0 + 1 := by omega
   try simp (disch := omega) only [go_sem, jA, jB, jC, jD, jE, jF, jG, jH, jI, jJ, ↓reduceIte, reduceCtorEq, jO, jM, jN, jK, jL, j0, j1, hi2]) (by unfold OdB; omega)
 try simp (disch := omega) only [go_sem, jA, jB, jC, jD, jE, jF, jG, jH, jI, jJ, ↓reduceIte, reduceCtorEq, jO, jM, jN, jK, jL, h0, h1, h2, h3]
 refine cond_d (fun g2 => ?_) (fun g2 => ?_)
 ·try simp (disch := omega) only [go_sem, jA, jB, jC, jD, jE, jF, jG, jH, jI, jJ, ↓reduceIte, reduceCtorEq, jO, jM, jN, jK, jL, h0, h1, h2, h3]
  refine call_hc (ok_mk_Deck_Next _ id g ty_Deck true t at1 8 (by try simp (disch := omega) only [go_sem, jA, jB, jC, jD, jE, jF, jG, jH, jI, jJ, ↓reduceIte, reduceCtorEq, jO, jM, jN, jK, jL, h0, h1]) (by omega) hl) ?_
  have hx2 := deckR_bd t at1 8
  generalize deckR t at1 8 = dr at *
  obtain ⟨x2, at2⟩ := dr
  simp only at hx2
  try simp (disch := omega) only [go_sem, jA, jB, jC, jD, jE, jF, jG, jH, jI, jJ, ↓reduceIte, reduceCtorEq, jO, jM, jN, jK, jL, h0, h1, h2, h3]
  exact fin _ _ _ _ _ at2 (by try simp (disch := omega) only [go_sem, jA, jB, jC, jD, jE, jF, jG, jH, jI, jJ, ↓reduceIte, reduceCtorEq, jO, jM, jN, jK, jL, h0, h1]) (fun i hi hi2 => by
   have j0 : ¬ i = n0 := by omega
   have j1 : ¬ i = n0 + 1 := by omega
   try simp (disch := omega) only [go_sem, jA, jB, jC, jD, jE, jF, jG, jH, jI, jJ, ↓reduceIte, reduceCtorEq, jO, jM, jN, jK, jL, j0, j1, hi2]) (by unfold OdB; omega)
 try simp (disch := omega) only [go_sem, jA, jB, jC, jD, jE, jF, jG, jH, jI, jJ, ↓reduceIte, reduceCtorEq, jO, jM, jN, jK, jL, h0, h1, h2, h3]
 refine call_hc (ok_mk_Deck_Next _ id g ty_Deck true t at1 6 (by try simp (disch := omega) only [go_sem, jA, jB, jC, jD, jE, jF, jG, jH, jI, jJ, ↓reduceIte, reduceCtorEq, jO, jM, jN, jK, jL, h0, h1]) (by omega) hl) ?_
 have hx2 := deckR_bd t at1 6
 generalize deckR t at1 6 = dr at *
 obtain ⟨x2, at2⟩ := dr
 simp only at hx2
 try simp (disch := omega) only [go_sem, jA, jB, jC, jD, jE, jF, jG, jH, jI, jJ, ↓reduceIte, reduceCtorEq, jO, jM, jN, jK, jL, h0, h1, h2, h3]
 refine call_hc (ok_mk_Deck_Next _ id g ty_Deck true t at2 2 (by try simp (disch := omega) only [go_sem, jA, jB, jC, jD, jE, jF, jG, jH, jI, jJ, ↓reduceIte, reduceCtorEq, jO, jM, jN, jK, jL, h0, h1]) (by omega) hl) ?_
 have hx3 := deckR_bd t at2 2
 generalize deckR t at2 2 = dr at *
 obtain ⟨x3, at3⟩ := dr
 simp only at hx3
 try simp (disch := omega) only [go_sem, jA, jB, jC, jD, jE, jF, jG, jH, jI, jJ, ↓reduceIte, reduceCtorEq, jO, jM, jN, jK, jL, h0, h1, h2, h3]
 exact fin _ _ _ _ _ at3 (by try simp (disch := omega) only [go_sem, jA, jB, jC, jD, jE, jF, jG, jH, jI, jJ, ↓reduceIte, reduceCtorEq, jO, jM, jN, jK, jL, h0, h1]) (fun i hi hi2 => by
  have j0 : ¬ i = n0 := by omega
  have j1 : ¬ i = n0 + 1 := by omega
  try simp (disch := omega) only [go_sem, jA, jB, jC, jD, jE, jF, jG, jH, jI, jJ, ↓reduceIte, reduceCtorEq, jO, jM, jN, jK, jL, j0, j1, hi2]) (by unfold OdB; omega)
theorem hc_flow_Order (σ : St) (id g : Nat) (t : List Int) (at' : Nat) (n : Int) (hl : t.length ≤ 9223372036854775807) (hid : id < σ.n) (hob : σ.ob id = some ⟨g, 2, ty_Deck, false, true, [deckV t at']⟩) :
  HC prog n_flow_Order [.ptr id g 2 0 0, .int .i64 n] σ (DeckR σ id g t fun r => ∃ k i v, r = odv ⟨n, k, i, v⟩) :=
 (hc_flow_OrderB σ id g t at' n hl hid hob).mono fun _ _ h => h.mono fun _ ⟨k, i, v, h, _⟩ => ⟨k, i, v, h⟩
def YL (Y : AV) (l : List Od) : Prop := Y = .list 4 (ods l) ∨ (Y = .nil ∧ l = [])
theorem YL.nlr {Y : AV} {l : List Od} (h : YL Y l) (n : Int) : NlR (.agg [.int .i64 n, Y]) (.agg [.int .i64 n, .list 4 (ods l)]) := by
 refine NlR.agg (.cons .rfl (.cons ?_ .nil))
 rcases h with rfl | ⟨rfl, rfl⟩
 ·exact .rfl
 ·exact .nil 4
theorem YL.pur {Y : AV} {l : List Od} (h : YL Y l) (n : Int) : (AV.agg [.int .i64 n, Y]).pur = true := by rcases h with rfl | ⟨rfl, rfl⟩ <;> rfl
theorem YL.pur1 {Y : AV} {l : List Od} (h : YL Y l) : Y.pur1 = true := by rcases h with rfl | ⟨rfl, rfl⟩ <;> rfl
theorem YL.one {Y : AV} {l : List Od} (h : YL Y l) : Y.one = true ∧ Y.flat = true ∧ Y.cells = [Y] := by rcases h with rfl | ⟨rfl, rfl⟩ <;> exact ⟨rfl, rfl, rfl⟩
theorem YL.len {Y : AV} {l : List Od} (h : YL Y l) {σ : St} {K : AV → St → Prop} (k : K (.int .i64 l.length) σ) : lenC Y σ K := by
 rcases h with rfl | ⟨rfl, rfl⟩
 ·simpa [lenC, ods] using k
 ·simpa [lenC] using k
theorem YL.pub {σ : St} {Y : AV} {l : List Od} (h : YL Y l) (n : Int) : Pub σ (.agg [.int .i64 n, Y]) (.agg [.int .i64 n, .list 4 (ods l)]) := by
 refine Pub.ag (.cons (.pure rfl) (.cons ?_ .nil))
 rcases h with rfl | ⟨rfl, rfl⟩
 ·exact .pure rfl
 ·exact .nl 4
theorem issS_len (s : Sd) (k i v : Int) : (issS s k i v).1.l.length ≤ 64 := by
 unfold issS
 split
 ·rename_i h
  have := (sdOk_l h).2.2.1
  split
  ·split
   ·simp
   ·simp; omega
  ·simp
 ·simp
theorem takT_len (t : Sn) (o : Od) : (takT t o).1.l.length ≤ 64 ∧ (takT t o).2.1.length ≤ 65 := by
 unfold takT
 split
 ·rename_i h
  have := (snOk_l h).2.2.1
  have h2 := runLen_le t.l o.n
  split
  ·split
   ·exact ⟨this, by simp⟩
   ·split
    ·refine ⟨by simp; omega, by simp; omega⟩
    ·split
     ·exact ⟨this, by simp⟩
     ·split
      ·simp
      ·have := bsI_le (t.l.map Od.n) o.n
       simp at this
       refine ⟨by simp; omega, by simp⟩
  ·simp
 ·simp
theorem cnfS_len (s : Sd) (n : Int) : (cnfS s n).1.l.length ≤ 64 := by
 unfold cnfS
 split
 ·rename_i h
  have := (sdOk_l h).2.2.1
  split
  ·simp
  ·exact Nat.le_trans (List.length_filter_le _ _) this
 ·simp
def SdW (s : Sd) : Prop := s.l.length ≤ 64 ∧ 0 ≤ s.n ∧ s.n ≤ 1073741824
theorem issS_w (s : Sd) (k i v : Int) : SdW (issS s k i v).1 := by
 refine ⟨issS_len s k i v, ?_⟩
 unfold issS
 split
 ·rename_i h
  have h1 := sdOk_l h
  split
  ·split
   ·simp
   ·rename_i h2; simp only; omega
  ·simp
 ·simp
theorem cnfS_w (s : Sd) (n : Int) : SdW (cnfS s n).1 := by
 refine ⟨cnfS_len s n, ?_⟩
 unfold cnfS
 split
 ·rename_i h
  have h1 := sdOk_l h
  split
  ·simp
  ·simp only; omega
 ·simp
def LinesB (r : AV) : Prop := ∃ (s : Sd) (u : Sn), r = .tuple [sdv s, snv u] ∧ SdW s ∧ u.l.length ≤ 64
theorem hc_flow_LinesB (σ : St) (id g : Nat) (t : List Int) (at' : Nat) (hl : t.length ≤ 9223372036854775807) (hid : id < σ.n) (hob : σ.ob id = some ⟨g, 2, ty_Deck, false, true, [deckV t at']⟩) :
  HC prog n_flow_Lines [.ptr id g 2 0 0] σ (DeckR σ id g t LinesB) := by
 refine HC.deck hid ?_
 obtain ⟨ob0, n0, c0⟩ := σ
 simp only at hob hid
 refine HC_of_body b_flow_Lines (by simp) ?_
 simp only [c_flow_Lines, go_sem, jA, jB, jC, jD, jE, jF, jG, jH, jI, jJ, ↓reduceIte, reduceCtorEq, jP]
 have h0 : ¬ id = n0 := by omega
 have h1 : ¬ id = n0 + 1 := by omega
 have h2 : ¬ id = n0 + 2 := by omega
 have h3 : ¬ id = n0 + 3 := by omega
 try simp (disch := omega) only [go_sem, jA, jB, jC, jD, jE, jF, jG, jH, jI, jJ, ↓reduceIte, reduceCtorEq, jO, jM, jN, jK, jL]
 refine call_hc (ok_mk_Deck_Next _ id g ty_Deck true t at' 15 (by try simp (disch := omega) only [go_sem, jA, jB, jC, jD, jE, jF, jG, jH, jI, jJ, ↓reduceIte, reduceCtorEq, jO, jM, jN, jK, jL, h0, h1, h2, h3]; exact hob) (by omega) hl) ?_
 have hx1 := deckR_bd t at' 15
 generalize deckR t at' 15 = dr at *
 obtain ⟨x0, at0⟩ := dr
 simp only at hx1
 try simp (disch := omega) only [go_sem, jA, jB, jC, jD, jE, jF, jG, jH, jI, jJ, ↓reduceIte, reduceCtorEq, jO, jM, jN, jK, jL, h0, h1, h2, h3]
 refine awp_upF [6, 7, 8, 9, 10, 11, 16, 17, 18, 19, 20, 21, 22, 23, 24, 25, 26, 27, 28, 29, 30, 31, 32, 33, 34, 35, 36, 37, 38, 39, 40, 41, 42, 43, 44, 45, 46, 47, 48, 49, 50, 51, 52, 53, 54, 55, 56, 57, 58, 59, 60, 61, 62, 63, 64, 65, 66, 67, 68, 69, 70] (by kernel_rfl) x0.toNat (fun k e σ => e 6 = .int .i64 (x0 - k) ∧ (∃ at1, σ.ob id = some ⟨g, 2, ty_Deck, false, true, [deckV t at1]⟩) ∧
  (∃ (s : Sd) (Y : AV), YL Y s.l ∧ SdW s ∧ σ.ob (n0 + 1 + 1) = some ⟨c0 + 1 + 1, 2, 70, false, true, [.agg [.int .i64 s.n, Y]]⟩) ∧
  (∃ (u : Sn) (Z : AV), YL Z u.l ∧ u.l.length ≤ 64 ∧ σ.ob (n0 + 1 + 1 + 1) = some ⟨c0 + 1 + 1 + 1, 2, 97, false, true, [.agg [.int .i64 u.d, Z]]⟩) ∧
  σ.ob n0 = some ⟨c0, 2, 70, false, true, [.agg [.int .i64 0, .nil]]⟩ ∧ σ.ob (n0 + 1) = some ⟨c0 + 1, 2, 97, false, true, [.agg [.int .i64 0, .nil]]⟩ ∧ ∀ i, i < n0 → i ≠ id → σ.ob i = ob0 i) ?_ ?_
 ·refine ⟨by try simp (disch := omega) only [go_sem, jA, jB, jC, jD, jE, jF, jG, jH, jI, jJ, ↓reduceIte, reduceCtorEq, jO, jM, jN, jK, jL]; simp, ⟨at0, by try simp (disch := omega) only [go_sem, jA, jB, jC, jD, jE, jF, jG, jH, jI, jJ, ↓reduceIte, reduceCtorEq, jO, jM, jN, jK, jL]⟩, ⟨⟨1, []⟩, .nil, .inr ⟨rfl, rfl⟩, by simp [SdW], by try simp (disch := omega) only [go_sem, jA, jB, jC, jD, jE, jF, jG, jH, jI, jJ, ↓reduceIte, reduceCtorEq, jO, jM, jN, jK, jL]⟩, ⟨⟨0, []⟩, .nil, .inr ⟨rfl, rfl⟩, by simp, by try simp (disch := omega) only [go_sem, jA, jB, jC, jD, jE, jF, jG, jH, jI, jJ, ↓reduceIte, reduceCtorEq, jO, jM, jN, jK, jL]⟩, by try simp (disch := omega) only [go_sem, jA, jB, jC, jD, jE, jF, jG, jH, jI, jJ, ↓reduceIte, reduceCtorEq, jO, jM, jN, jK, jL], by try simp (disch := omega) only [go_sem, jA, jB, jC, jD, jE, jF, jG, jH, jI, jJ, ↓reduceIte, reduceCtorEq, jO, jM, jN, jK, jL], fun i hi hi2 => ?_⟩
  try simp (disch := omega) only [go_sem, jA, jB, jC, jD, jE, jF, jG, jH, jI, jJ, ↓reduceIte, reduceCtorEq, jO, jM, jN, jK, jL, hi2]
 ·rintro k fe ob c hk ⟨h6, ⟨at1, hd⟩, ⟨s, Y, hY, hsl, hs⟩, ⟨u, Z, hZ, hul, hu⟩, ha, hb, hfr⟩
  simp (maxSteps := 1000000) only [go_sem, jA, jB, jC, jD, jE, jF, jG, jH, jI, jJ, ↓reduceIte, reduceCtorEq, jP] at h6 hd hs hu ha hb hfr
  obtain ⟨Y1, Y2, Y3⟩ := hY.one
  obtain ⟨Z1, Z2, Z3⟩ := hZ.one
  try simp (disch := omega) only [go_sem, jA, jB, jC, jD, jE, jF, jG, jH, jI, jJ, ↓reduceIte, reduceCtorEq, jO, jM, jN, jK, jL, h6]
  refine cond_d (fun hlt => ?_) (fun hge => ?_)
  ·have hkl : k < x0.toNat := by omega
   have Yp := hY.pur1
   have Zp := hZ.pur1
   try simp (disch := omega) only [go_sem, jA, jB, jC, jD, jE, jF, jG, jH, jI, jJ, ↓reduceIte, reduceCtorEq, jO, jM, jN, jK, jL]
   refine call_hc (ok_mk_Deck_Next _ id g ty_Deck true t at1 4 (by try simp (disch := omega) only [go_sem, jA, jB, jC, jD, jE, jF, jG, jH, jI, jJ, ↓reduceIte, reduceCtorEq, jO, jM, jN, jK, jL]; exact hd) (by omega) hl) ?_
   have hx2 := deckR_bd t at1 4
   generalize deckR t at1 4 = dr at *
   obtain ⟨x2, at2⟩ := dr
   simp only at hx2
   try simp (disch := omega) only [go_sem, jA, jB, jC, jD, jE, jF, jG, jH, jI, jJ, ↓reduceIte, reduceCtorEq, jO, jM, jN, jK, jL]
   have hx3 : x2 = 0 ∨ x2 = 1 ∨ x2 = 2 ∨ x2 = 3 := by omega
   rcases hx3 with rfl | rfl | rfl | rfl
   ·try simp (disch := omega) only [go_sem, jA, jB, jC, jD, jE, jF, jG, jH, jI, jJ, ↓reduceIte, reduceCtorEq, jO, jM, jN, jK, jL]
    try simp (disch := omega) only [go_sem, jA, jB, jC, jD, jE, jF, jG, jH, jI, jJ, ↓reduceIte, reduceCtorEq, jO, jM, jN, jK, jL, hd]
    refine (hc_flow_Order _ id g t at2 1 hl (by simp only; omega) (by try simp (disch := omega) only [go_sem, jA, jB, jC, jD, jE, jF, jG, jH, jI, jJ, ↓reduceIte, reduceCtorEq, jO, jM, jN, jK, jL])).mono ?_
    rintro _ _ ⟨at3, c3, ⟨kk, ii, vv, rfl⟩, rfl⟩
    try simp (disch := omega) only [go_sem, jA, jB, jC, jD, jE, jF, jG, jH, jI, jJ, ↓reduceIte, reduceCtorEq, jO, jM, jN, jK, jL, odv, hs]
    refine call_pc (pc_nl (ok_ref27_Issue s kk ii vv (by have := hsl.1; omega)) (.cons (hY.nlr _) (NlRs.refl _))) (by simp [Yp, go_sem]) ?_
    have hl2 := issS_w s kk ii vv
    generalize issS s kk ii vv = T at *
    obtain ⟨s', o', er⟩ := T
    simp only at hl2
    try simp (disch := omega) only [go_sem, jA, jB, jC, jD, jE, jF, jG, jH, jI, jJ, ↓reduceIte, reduceCtorEq, jO, jM, jN, jK, jL, sdv, odv, hs, h6]
    refine up_next hkl ⟨by try simp (disch := omega) only [go_sem, jA, jB, jC, jD, jE, jF, jG, jH, jI, jJ, ↓reduceIte, reduceCtorEq, jO, jM, jN, jK, jL]; congr 1; omega, ⟨at3, by try simp (disch := omega) only [go_sem, jA, jB, jC, jD, jE, jF, jG, jH, jI, jJ, ↓reduceIte, reduceCtorEq, jO, jM, jN, jK, jL]; try exact hd⟩, ⟨s', _, .inl rfl, hl2, by try simp (disch := omega) only [go_sem, jA, jB, jC, jD, jE, jF, jG, jH, jI, jJ, ↓reduceIte, reduceCtorEq, jO, jM, jN, jK, jL]; try exact hs⟩, ⟨u, Z, hZ, hul, by try simp (disch := omega) only [go_sem, jA, jB, jC, jD, jE, jF, jG, jH, jI, jJ, ↓reduceIte, reduceCtorEq, jO, jM, jN, jK, jL]; try exact hu⟩, by try simp (disch := omega) only [go_sem, jA, jB, jC, jD, jE, jF, jG, jH, jI, jJ, ↓reduceIte, reduceCtorEq, jO, jM, jN, jK, jL]; exact ha, by try simp (disch := omega) only [go_sem, jA, jB, jC, jD, jE, jF, jG, jH, jI, jJ, ↓reduceIte, reduceCtorEq, jO, jM, jN, jK, jL]; exact hb, fun i hi hi2 => ?_⟩
    try simp (disch := omega) only [go_sem, jA, jB, jC, jD, jE, jF, jG, jH, jI, jJ, ↓reduceIte, reduceCtorEq, jO, jM, jN, jK, jL, hi2]
    exact hfr i hi hi2
   ·try simp (disch := omega) only [go_sem, jA, jB, jC, jD, jE, jF, jG, jH, jI, jJ, ↓reduceIte, reduceCtorEq, jO, jM, jN, jK, jL]
    try simp (disch := omega) only [go_sem, jA, jB, jC, jD, jE, jF, jG, jH, jI, jJ, ↓reduceIte, reduceCtorEq, jO, jM, jN, jK, jL, hd]
    refine (hc_flow_Order _ id g t at2 1 hl (by simp only; omega) (by try simp (disch := omega) only [go_sem, jA, jB, jC, jD, jE, jF, jG, jH, jI, jJ, ↓reduceIte, reduceCtorEq, jO, jM, jN, jK, jL])).mono ?_
    rintro _ _ ⟨at3, c3, ⟨kk, ii, vv, rfl⟩, rfl⟩
    try simp (disch := omega) only [go_sem, jA, jB, jC, jD, jE, jF, jG, jH, jI, jJ, ↓reduceIte, reduceCtorEq, jO, jM, jN, jK, jL, odv, hs]
    refine call_pc (pc_nl (ok_ref27_Issue s kk ii vv (by have := hsl.1; omega)) (.cons (hY.nlr _) (NlRs.refl _))) (by simp [Yp, go_sem]) ?_
    have hl2 := issS_w s kk ii vv
    generalize issS s kk ii vv = T at *
    obtain ⟨s', o', er⟩ := T
    simp only at hl2
    try simp (disch := omega) only [go_sem, jA, jB, jC, jD, jE, jF, jG, jH, jI, jJ, ↓reduceIte, reduceCtorEq, jO, jM, jN, jK, jL, sdv, odv, hs, h6]
    refine up_next hkl ⟨by try simp (disch := omega) only [go_sem, jA, jB, jC, jD, jE, jF, jG, jH, jI, jJ, ↓reduceIte, reduceCtorEq, jO, jM, jN, jK, jL]; congr 1; omega, ⟨at3, by try simp (disch := omega) only [go_sem, jA, jB, jC, jD, jE, jF, jG, jH, jI, jJ, ↓reduceIte, reduceCtorEq, jO, jM, jN, jK, jL]; try exact hd⟩, ⟨s', _, .inl rfl, hl2, by try simp (disch := omega) only [go_sem, jA, jB, jC, jD, jE, jF, jG, jH, jI, jJ, ↓reduceIte, reduceCtorEq, jO, jM, jN, jK, jL]; try exact hs⟩, ⟨u, Z, hZ, hul, by try simp (disch := omega) only [go_sem, jA, jB, jC, jD, jE, jF, jG, jH, jI, jJ, ↓reduceIte, reduceCtorEq, jO, jM, jN, jK, jL]; try exact hu⟩, by try simp (disch := omega) only [go_sem, jA, jB, jC, jD, jE, jF, jG, jH, jI, jJ, ↓reduceIte, reduceCtorEq, jO, jM, jN, jK, jL]; exact ha, by try simp (disch := omega) only [go_sem, jA, jB, jC, jD, jE, jF, jG, jH, jI, jJ, ↓reduceIte, reduceCtorEq, jO, jM, jN, jK, jL]; exact hb, fun i hi hi2 => ?_⟩
    try simp (disch := omega) only [go_sem, jA, jB, jC, jD, jE, jF, jG, jH, jI, jJ, ↓reduceIte, reduceCtorEq, jO, jM, jN, jK, jL, hi2]
    exact hfr i hi hi2
   ·try simp (disch := omega) only [go_sem, jA, jB, jC, jD, jE, jF, jG, jH, jI, jJ, ↓reduceIte, reduceCtorEq, jO, jM, jN, jK, jL]
    try simp (disch := omega) only [go_sem, jA, jB, jC, jD, jE, jF, jG, jH, jI, jJ, ↓reduceIte, reduceCtorEq, jO, jM, jN, jK, jL, hs, hu]
    refine hY.len ?_
    try simp (disch := omega) only [go_sem, jA, jB, jC, jD, jE, jF, jG, jH, jI, jJ, ↓reduceIte, reduceCtorEq, jO, jM, jN, jK, jL]
    refine cond_d (fun g1 => ?_) (fun g1 => ?_)
    ·try simp (disch := omega) only [go_sem, jA, jB, jC, jD, jE, jF, jG, jH, jI, jJ, ↓reduceIte, reduceCtorEq, jO, jM, jN, jK, jL, hs, hu, hd]
     rcases hY with rfl | ⟨rfl, h⟩
     ·try simp (disch := omega) only [go_sem, jA, jB, jC, jD, jE, jF, jG, jH, jI, jJ, ↓reduceIte, reduceCtorEq, jO, jM, jN, jK, jL, hd, hs, hu, ods_length]
      refine call_hc (ok_mk_Deck_Next _ id g ty_Deck true t at2 s.l.length (by try simp (disch := omega) only [go_sem, jA, jB, jC, jD, jE, jF, jG, jH, jI, jJ, ↓reduceIte, reduceCtorEq, jO, jM, jN, jK, jL]) (by have := hsl.1; omega) hl) ?_
      have hx4 := deckR_bd t at2 s.l.length
      generalize deckR t at2 s.l.length = dr at *
      obtain ⟨x4, at3⟩ := dr
      simp only at hx4
      have hx5 : x4.toNat < s.l.length := by omega
      have hg : s.l[x4.toNat]? = some s.l[x4.toNat] := List.getElem?_eq_getElem hx5
      generalize s.l[x4.toNat] = y at *
      try simp (disch := omega) only [go_sem, jA, jB, jC, jD, jE, jF, jG, jH, jI, jJ, ↓reduceIte, reduceCtorEq, jO, jM, jN, jK, jL, ods_length, ods_get, hg, Option.map_some, odv, hu, hs]
      refine ⟨by omega, by omega, ?_⟩
      refine call_pc (pc_nl (ok_ref27_Take u y (by omega)) (.cons (hZ.nlr _) (NlRs.refl _))) (by simp [Zp, go_sem, odv]) ?_
      have hl2 := (takT_len u y).1
      generalize takT u y = T at *
      obtain ⟨u', l', m', er⟩ := T
      simp only at hl2
      try simp (disch := omega) only [go_sem, jA, jB, jC, jD, jE, jF, jG, jH, jI, jJ, ↓reduceIte, reduceCtorEq, jO, jM, jN, jK, jL, snv, odv, hs, hu, h6]
      refine cond_d (fun g3 => ?_) (fun g3 => ?_)
      ·try simp (disch := omega) only [go_sem, jA, jB, jC, jD, jE, jF, jG, jH, jI, jJ, ↓reduceIte, reduceCtorEq, jO, jM, jN, jK, jL, hs, hu, h6]
       refine up_next hkl ⟨by try simp (disch := omega) only [go_sem, jA, jB, jC, jD, jE, jF, jG, jH, jI, jJ, ↓reduceIte, reduceCtorEq, jO, jM, jN, jK, jL]; congr 1; omega, ⟨at3, by try simp (disch := omega) only [go_sem, jA, jB, jC, jD, jE, jF, jG, jH, jI, jJ, ↓reduceIte, reduceCtorEq, jO, jM, jN, jK, jL]; try exact hd⟩, ⟨s, _, .inl rfl, hsl, by try simp (disch := omega) only [go_sem, jA, jB, jC, jD, jE, jF, jG, jH, jI, jJ, ↓reduceIte, reduceCtorEq, jO, jM, jN, jK, jL]; try exact hs⟩, ⟨u', _, .inl rfl, hl2, by try simp (disch := omega) only [go_sem, jA, jB, jC, jD, jE, jF, jG, jH, jI, jJ, ↓reduceIte, reduceCtorEq, jO, jM, jN, jK, jL]; try exact hu⟩, by try simp (disch := omega) only [go_sem, jA, jB, jC, jD, jE, jF, jG, jH, jI, jJ, ↓reduceIte, reduceCtorEq, jO, jM, jN, jK, jL]; exact ha, by try simp (disch := omega) only [go_sem, jA, jB, jC, jD, jE, jF, jG, jH, jI, jJ, ↓reduceIte, reduceCtorEq, jO, jM, jN, jK, jL]; exact hb, fun i hi hi2 => ?_⟩
       try simp (disch := omega) only [go_sem, jA, jB, jC, jD, jE, jF, jG, jH, jI, jJ, ↓reduceIte, reduceCtorEq, jO, jM, jN, jK, jL, hi2]
       exact hfr i hi hi2
      ·try simp (disch := omega) only [go_sem, jA, jB, jC, jD, jE, jF, jG, jH, jI, jJ, ↓reduceIte, reduceCtorEq, jO, jM, jN, jK, jL, h6]
       refine up_next hkl ⟨by try simp (disch := omega) only [go_sem, jA, jB, jC, jD, jE, jF, jG, jH, jI, jJ, ↓reduceIte, reduceCtorEq, jO, jM, jN, jK, jL]; congr 1; omega, ⟨at3, by try simp (disch := omega) only [go_sem, jA, jB, jC, jD, jE, jF, jG, jH, jI, jJ, ↓reduceIte, reduceCtorEq, jO, jM, jN, jK, jL]; try exact hd⟩, ⟨s, _, .inl rfl, hsl, by try simp (disch := omega) only [go_sem, jA, jB, jC, jD, jE, jF, jG, jH, jI, jJ, ↓reduceIte, reduceCtorEq, jO, jM, jN, jK, jL]; try exact hs⟩, ⟨u, Z, hZ, hul, by try simp (disch := omega) only [go_sem, jA, jB, jC, jD, jE, jF, jG, jH, jI, jJ, ↓reduceIte, reduceCtorEq, jO, jM, jN, jK, jL]; try exact hu⟩, by try simp (disch := omega) only [go_sem, jA, jB, jC, jD, jE, jF, jG, jH, jI, jJ, ↓reduceIte, reduceCtorEq, jO, jM, jN, jK, jL]; exact ha, by try simp (disch := omega) only [go_sem, jA, jB, jC, jD, jE, jF, jG, jH, jI, jJ, ↓reduceIte, reduceCtorEq, jO, jM, jN, jK, jL]; exact hb, fun i hi hi2 => ?_⟩
       try simp (disch := omega) only [go_sem, jA, jB, jC, jD, jE, jF, jG, jH, jI, jJ, ↓reduceIte, reduceCtorEq, jO, jM, jN, jK, jL, hi2]
       exact hfr i hi hi2
     ·rw [h] at g1; simp at g1
    ·try simp (disch := omega) only [go_sem, jA, jB, jC, jD, jE, jF, jG, jH, jI, jJ, ↓reduceIte, reduceCtorEq, jO, jM, jN, jK, jL, h6]
     refine up_next hkl ⟨by try simp (disch := omega) only [go_sem, jA, jB, jC, jD, jE, jF, jG, jH, jI, jJ, ↓reduceIte, reduceCtorEq, jO, jM, jN, jK, jL]; congr 1; omega, ⟨at2, by try simp (disch := omega) only [go_sem, jA, jB, jC, jD, jE, jF, jG, jH, jI, jJ, ↓reduceIte, reduceCtorEq, jO, jM, jN, jK, jL]; try exact hd⟩, ⟨s, Y, hY, hsl, by try simp (disch := omega) only [go_sem, jA, jB, jC, jD, jE, jF, jG, jH, jI, jJ, ↓reduceIte, reduceCtorEq, jO, jM, jN, jK, jL]; try exact hs⟩, ⟨u, Z, hZ, hul, by try simp (disch := omega) only [go_sem, jA, jB, jC, jD, jE, jF, jG, jH, jI, jJ, ↓reduceIte, reduceCtorEq, jO, jM, jN, jK, jL]; try exact hu⟩, by try simp (disch := omega) only [go_sem, jA, jB, jC, jD, jE, jF, jG, jH, jI, jJ, ↓reduceIte, reduceCtorEq, jO, jM, jN, jK, jL]; exact ha, by try simp (disch := omega) only [go_sem, jA, jB, jC, jD, jE, jF, jG, jH, jI, jJ, ↓reduceIte, reduceCtorEq, jO, jM, jN, jK, jL]; exact hb, fun i hi hi2 => ?_⟩
     try simp (disch := omega) only [go_sem, jA, jB, jC, jD, jE, jF, jG, jH, jI, jJ, ↓reduceIte, reduceCtorEq, jO, jM, jN, jK, jL, hi2]
     exact hfr i hi hi2
   ·try simp (disch := omega) only [go_sem, jA, jB, jC, jD, jE, jF, jG, jH, jI, jJ, ↓reduceIte, reduceCtorEq, jO, jM, jN, jK, jL]
    try simp (disch := omega) only [go_sem, jA, jB, jC, jD, jE, jF, jG, jH, jI, jJ, ↓reduceIte, reduceCtorEq, jO, jM, jN, jK, jL, hs, hu]
    refine call_pc (pc_nl (ok_ref27_Confirm s u.d (by have := hsl.1; omega)) (.cons (hY.nlr _) (NlRs.refl _))) (by simp [Yp, go_sem]) ?_
    have hl2 := cnfS_w s u.d
    generalize cnfS s u.d = T at *
    obtain ⟨s', er⟩ := T
    simp only at hl2
    try simp (disch := omega) only [go_sem, jA, jB, jC, jD, jE, jF, jG, jH, jI, jJ, ↓reduceIte, reduceCtorEq, jO, jM, jN, jK, jL, sdv, odv, hs, h6]
    refine up_next hkl ⟨by try simp (disch := omega) only [go_sem, jA, jB, jC, jD, jE, jF, jG, jH, jI, jJ, ↓reduceIte, reduceCtorEq, jO, jM, jN, jK, jL]; congr 1; omega, ⟨at2, by try simp (disch := omega) only [go_sem, jA, jB, jC, jD, jE, jF, jG, jH, jI, jJ, ↓reduceIte, reduceCtorEq, jO, jM, jN, jK, jL]; try exact hd⟩, ⟨s', _, .inl rfl, hl2, by try simp (disch := omega) only [go_sem, jA, jB, jC, jD, jE, jF, jG, jH, jI, jJ, ↓reduceIte, reduceCtorEq, jO, jM, jN, jK, jL]; try exact hs⟩, ⟨u, Z, hZ, hul, by try simp (disch := omega) only [go_sem, jA, jB, jC, jD, jE, jF, jG, jH, jI, jJ, ↓reduceIte, reduceCtorEq, jO, jM, jN, jK, jL]; try exact hu⟩, by try simp (disch := omega) only [go_sem, jA, jB, jC, jD, jE, jF, jG, jH, jI, jJ, ↓reduceIte, reduceCtorEq, jO, jM, jN, jK, jL]; exact ha, by try simp (disch := omega) only [go_sem, jA, jB, jC, jD, jE, jF, jG, jH, jI, jJ, ↓reduceIte, reduceCtorEq, jO, jM, jN, jK, jL]; exact hb, fun i hi hi2 => ?_⟩
    try simp (disch := omega) only [go_sem, jA, jB, jC, jD, jE, jF, jG, jH, jI, jJ, ↓reduceIte, reduceCtorEq, jO, jM, jN, jK, jL, hi2]
    exact hfr i hi hi2
  ·try simp (disch := omega) only [go_sem, jA, jB, jC, jD, jE, jF, jG, jH, jI, jJ, ↓reduceIte, reduceCtorEq, jO, jM, jN, jK, jL, ha, hb, hs, hu, Y1, Y2, Y3, Z1, Z2, Z3]
   refine ⟨.tuple [sdv s, snv u], at1, Pub.tu (.cons (hY.pub _) (.cons (hZ.pub _) .nil)), ⟨s, u, rfl, hsl, hul⟩, by try simp (disch := omega) only [go_sem, jA, jB, jC, jD, jE, jF, jG, jH, jI, jJ, ↓reduceIte, reduceCtorEq, jO, jM, jN, jK, jL]; exact hd, fun i hi hi2 => ?_⟩
   simp only at hi
   try simp (disch := omega) only [go_sem, jA, jB, jC, jD, jE, jF, jG, jH, jI, jJ, ↓reduceIte, reduceCtorEq, jO, jM, jN, jK, jL]
   exact hfr i hi hi2
end Go.Proofs.Try
