/-
  OWN WORK, put together by tools/asm.py: what functions do.
-/
import Derived.Test.YtfkkhdbmignmaaaCode
set_option linter.unusedSimpArgs false
set_option linter.unusedVariables false
set_option maxRecDepth 100000
set_option maxHeartbeats 1000000
namespace Go.Proofs.Try
open Go.Ab Go
theorem tmod_mod (n k : Int) (hk : 0 < k) : (n.tmod k + k).tmod k = n % k := by
  have h2 := Int.tmod_eq_emod (a := n) (b := k)
  have h3 := Int.emod_nonneg n (show k ≠ 0 by omega)
  have h4 := Int.emod_lt_of_pos n hk
  have h5 : 0 ≤ n.tmod k + k := by rw [h2]; split <;> omega
  rw [Int.tmod_eq_emod_of_nonneg h5, Int.add_emod_right, h2]
  split
  · simp
  · rw [show ((k.natAbs : Nat) : Int) = k by omega, Int.sub_emod_right]; exact Int.emod_emod_of_dvd n (Int.dvd_refl k)
theorem tmod_bd (n k : Int) (hk : 0 < k) : -k < n.tmod k ∧ n.tmod k < k := by
  have h2 := Int.tmod_eq_emod (a := n) (b := k)
  have h3 := Int.emod_nonneg n (show k ≠ 0 by omega)
  have h4 := Int.emod_lt_of_pos n hk
  by_cases h : 0 ≤ n ∨ k ∣ n
  · rw [if_pos h] at h2; omega
  · rw [if_neg h] at h2
    have : n % k ≠ 0 := fun h0 => h (.inr (Int.dvd_of_emod_eq_zero h0))
    omega
def ints (l : List Int) : List AV := l.map (.int .i64)
theorem ints_length (l : List Int) : (ints l).length = l.length := by simp [ints]
theorem ints_get (l : List Int) (i : Nat) : (ints l)[i]? = (l[i]?).map (AV.int .i64) := by simp [ints]
theorem ints_append (l r : List Int) : ints l ++ ints r = ints (l ++ r) := by simp [ints]
theorem ints_pur (l : List Int) : ∀ x ∈ ints l, x.pur = true := by simp [ints, go_sem]
theorem ints_ok (l : List Int) : ∀ x ∈ ints l, okE 1 x := by simp [ints, okE, go_sem]
/-- two numbers that are bounds -/
structure Bd where
  lo : Int
  hi : Int
  deriving DecidableEq, Inhabited
def bdv (b : Bd) : AV := .agg [.int .i64 b.lo, .int .i64 b.hi]
def bds (l : List Bd) : List AV := l.map bdv
theorem bds_length (l : List Bd) : (bds l).length = l.length := by simp [bds]
theorem bds_get (l : List Bd) (i : Nat) : (bds l)[i]? = (l[i]?).map bdv := by simp [bds]
theorem bds_append (l r : List Bd) : bds l ++ bds r = bds (l ++ r) := by simp [bds]
theorem bds_pur (l : List Bd) : ∀ x ∈ bds l, x.pur = true := by simp [bds, bdv, go_sem]
theorem bds_ok (l : List Bd) : ∀ x ∈ bds l, okE 2 x := by simp [bds, bdv, okE, go_sem]
/-- the index of the first element with p; -1 -/
def firstIdx {α : Type} (p : α → Bool) (l : List α) : Int := match l.findIdx? p with | some i => (i : Int) | none => -1
theorem firstIdx_at {α : Type} (p : α → Bool) (l : List α) (k : Nat) (hk : k < l.length) (h1 : ∀ j, j < k → ∀ x, l[j]? = some x → p x = false) (h2 : p l[k] = true) : firstIdx p l = k := by
  have : l.findIdx? p = some k := by
    rw [List.findIdx?_eq_some_iff_getElem]
    exact ⟨hk, h2, fun j hj => by have := h1 j hj l[j] (List.getElem?_eq_getElem _); simp [this]⟩
  simp [firstIdx, this]
theorem firstIdx_none {α : Type} (p : α → Bool) (l : List α) (h1 : ∀ j, j < l.length → ∀ x, l[j]? = some x → p x = false) : firstIdx p l = -1 := by
  have : l.findIdx? p = none := by
    rw [List.findIdx?_eq_none_iff]
    intro x hx
    obtain ⟨j, hj⟩ := List.getElem?_of_mem hx
    exact h1 j (List.getElem?_eq_some_iff.1 hj).1 x hj
  simp [firstIdx, this]
theorem firstIdx_any {α : Type} (p : α → Bool) (l : List α) : decide (0 ≤ firstIdx p l) = l.any p := by
  unfold firstIdx
  cases h : l.findIdx? p with
  | none =>
    rw [List.findIdx?_eq_none_iff] at h
    have : l.any p = false := by rw [List.any_eq_false]; intro x hx; simpa using h x hx
    rw [this]; simp
  | some i =>
    obtain ⟨hi, h1, _⟩ := List.findIdx?_eq_some_iff_getElem.1 h
    have : l.any p = true := List.any_eq_true.2 ⟨_, List.getElem_mem hi, h1⟩
    rw [this]; simp
theorem lt_snoc {α : Type} {l : List α} {k : Nat} {P : α → Prop} (hj : ∀ j, j < k → ∀ x, l[j]? = some x → P x) (hk : k < l.length) (h : P l[k]) : ∀ j, j < k + 1 → ∀ x, l[j]? = some x → P x := by
  intro j hj' x hx
  by_cases e : j = k
  · subst e; rw [List.getElem?_eq_getElem hk] at hx; obtain rfl := Option.some.inj hx; exact h
  · exact hj j (by omega) x hx
def flow1 (n : Int) : Bool := decide (0 ≤ n) && decide (n ≤ 1073741824)
theorem flow1_iff (n : Int) : flow1 n = true ↔ 0 ≤ n ∧ n ≤ 1073741824 := by simp [flow1]
/-- f, k times -/
def runS {α : Type} (f : α → α) (b : α) : Nat → α
  | 0 => b
  | k + 1 => f (runS f b k)
/-- what the first k times give, one behind the other -/
def pathS {α : Type} (f : α → α) (b : α) (k : Nat) : List α := (List.range k).map fun i => runS f b (i + 1)
theorem pathS_zero {α : Type} (f : α → α) (b : α) : pathS f b 0 = [] := rfl
theorem pathS_succ {α : Type} (f : α → α) (b : α) (k : Nat) : pathS f b (k + 1) = pathS f b k ++ [runS f b (k + 1)] := by simp [pathS, List.range_succ]
theorem pathS_length {α : Type} (f : α → α) (b : α) (k : Nat) : (pathS f b k).length = k := by simp [pathS]
theorem pathS_get {α : Type} (f : α → α) (b : α) (k i : Nat) (h : i < k) : (pathS f b k)[i]? = some (runS f b (i + 1)) := by simp [pathS, h]
theorem ints_snoc (l : List Int) (n : Int) : ints l ++ [.int .i64 n] = ints (l ++ [n]) := by simp [ints]
theorem ok_mk_Mod (n k : Int) (hk : 0 < k) (hk2 : k ≤ 4611686018427387904) : PC prog n_mk_Mod [.int .i64 n, .int .i64 k] (.int .i64 (n % k)) := by
  have h1 := tmod_bd n k hk
  refine PC_of_body b_mk_Mod (by simp) ?_
  simp (disch := omega) only [c_mk_Mod, go_sem, Nat.zero_add, Int.reduceLT, Int.reduceLE, Int.reduceToNat, Nat.reduceLT, eq_self, Int.toNat_zero, Int.toNat_one, Nat.reduceEqDiff, Nat.reduceAdd, Nat.reduceLeDiff, Nat.reduceSub, Nat.reduceMul, ↓reduceIte, reduceCtorEq, Nat.add_zero, Int.toNat_natCast, List.getElem?_map, Option.map_some, List.length_map, Int.cast_ofNat_Int, decide_true, decide_false, wrap_id]
  exact ⟨by omega, by omega, Pub.of_eq (by rw [tmod_mod n k hk]) rfl⟩
theorem ok_quantity_Within (n m : Int) : PC prog n_quantity_Within [.int .i64 n, .int .i64 m] (.bool (decide (0 ≤ n) && decide (n ≤ m))) := by
  refine PC_of_body b_quantity_Within (by simp) ?_
  simp only [c_quantity_Within, go_sem, Nat.zero_add, Int.reduceLT, Int.reduceLE, Int.reduceToNat, Nat.reduceLT, eq_self, Int.toNat_zero, Int.toNat_one, Nat.reduceEqDiff, Nat.reduceAdd, Nat.reduceLeDiff, Nat.reduceSub, Nat.reduceMul, ↓reduceIte, reduceCtorEq, Nat.add_zero, Int.toNat_natCast, List.getElem?_map, Option.map_some, List.length_map, Int.cast_ofNat_Int, decide_true, decide_false]
  refine gd_td rfl (fun h => ?_) (fun h => ?_) <;> simp (maxSteps := 1000000) only [go_sem, Nat.zero_add, Int.reduceLT, Int.reduceLE, Int.reduceToNat, Nat.reduceLT, eq_self, Int.toNat_zero, Int.toNat_one, Nat.reduceEqDiff, Nat.reduceAdd, Nat.reduceLeDiff, Nat.reduceSub, Nat.reduceMul, ↓reduceIte, reduceCtorEq, Nat.add_zero, Int.toNat_natCast, List.getElem?_map, Option.map_some, List.length_map, Int.cast_ofNat_Int, decide_true, decide_false]
  all_goals exact Pub.of_eq (by simp [*]) rfl
theorem ok_slices_IndexFunc__int (l : List Int) (hl : l.length ≤ 9223372036854775807) (f : Nat) (caps : List AV) (hcaps : caps.all AV.pur1 = true) (p : Int → Bool) (hp : ∀ x ∈ l, PC prog f (.int .i64 x :: caps) (.bool (p x))) :
    PC prog n_slices_IndexFunc__int [.list 1 (ints l), .func f caps] (.int .i64 (firstIdx p l)) := by
  refine PC_of_body b_slices_IndexFunc__int (by simp) ?_
  simp only [c_slices_IndexFunc__int, go_sem, Nat.zero_add, Int.reduceLT, Int.reduceLE, Int.reduceToNat, Nat.reduceLT, eq_self, Int.toNat_zero, Int.toNat_one, Nat.reduceEqDiff, Nat.reduceAdd, Nat.reduceLeDiff, Nat.reduceSub, Nat.reduceMul, ↓reduceIte, reduceCtorEq, Nat.add_zero, Int.toNat_natCast, List.getElem?_map, Option.map_some, List.length_map, Int.cast_ofNat_Int, decide_true, decide_false]
  refine awp_up l.length (fun k e _ => e 0 = .list 1 (ints l) ∧ e 1 = .func f caps ∧ e 7 = .int .i64 l.length ∧ e 8 = .int .i64 k ∧ ∀ j, j < k → ∀ x, l[j]? = some x → p x = false) ?_ ?_
  · simp [go_sem, ints]
  · rintro k e ob c hk ⟨h0, h1, h7, h8, hj⟩
    simp (maxSteps := 1000000) only [go_sem, Nat.zero_add, Int.reduceLT, Int.reduceLE, Int.reduceToNat, Nat.reduceLT, eq_self, Int.toNat_zero, Int.toNat_one, Nat.reduceEqDiff, Nat.reduceAdd, Nat.reduceLeDiff, Nat.reduceSub, Nat.reduceMul, ↓reduceIte, reduceCtorEq, Nat.add_zero, Int.toNat_natCast, List.getElem?_map, Option.map_some, List.length_map, Int.cast_ofNat_Int, decide_true, decide_false, h7, h8]
    refine cond_d (fun hlt => ?_) (fun hge => ?_)
    · have hkl : k < l.length := by omega
      have hg : l[k]? = some l[k] := List.getElem?_eq_getElem hkl
      simp (maxSteps := 1000000) only [go_sem, Nat.zero_add, Int.reduceLT, Int.reduceLE, Int.reduceToNat, Nat.reduceLT, eq_self, Int.toNat_zero, Int.toNat_one, Nat.reduceEqDiff, Nat.reduceAdd, Nat.reduceLeDiff, Nat.reduceSub, Nat.reduceMul, ↓reduceIte, reduceCtorEq, Nat.add_zero, Int.toNat_natCast, List.getElem?_map, Option.map_some, List.length_map, Int.cast_ofNat_Int, decide_true, decide_false, h0, h1, h8, ints, hg]
      refine ⟨by omega, by omega, call_pc (hp _ (List.getElem_mem hkl)) (by simp only [List.all_eq_true] at hcaps; simp [go_sem]; intro a ha; have := hcaps a ha; cases a <;> simp_all [AV.pur, AV.pur1]) ?_⟩
      try simp (maxSteps := 1000000) only [go_sem, Nat.zero_add, Int.reduceLT, Int.reduceLE, Int.reduceToNat, Nat.reduceLT, eq_self, Int.toNat_zero, Int.toNat_one, Nat.reduceEqDiff, Nat.reduceAdd, Nat.reduceLeDiff, Nat.reduceSub, Nat.reduceMul, ↓reduceIte, reduceCtorEq, Nat.add_zero, Int.toNat_natCast, List.getElem?_map, Option.map_some, List.length_map, Int.cast_ofNat_Int, decide_true, decide_false]
      refine cond_split (fun hp1 => ?_) (fun hp0 => ?_) <;> simp (maxSteps := 1000000) only [go_sem, Nat.zero_add, Int.reduceLT, Int.reduceLE, Int.reduceToNat, Nat.reduceLT, eq_self, Int.toNat_zero, Int.toNat_one, Nat.reduceEqDiff, Nat.reduceAdd, Nat.reduceLeDiff, Nat.reduceSub, Nat.reduceMul, ↓reduceIte, reduceCtorEq, Nat.add_zero, Int.toNat_natCast, List.getElem?_map, Option.map_some, List.length_map, Int.cast_ofNat_Int, decide_true, decide_false, h8]
      · exact Pub.of_eq (by rw [firstIdx_at p l k hkl hj hp1]) rfl
      · simp (disch := omega) only [wrap_id]
        exact up_next hkl ⟨by simp [go_sem, h0, ints], by simp [go_sem, h1], by simp [go_sem, h7], by simp [go_sem], lt_snoc hj hkl hp0⟩
    · try simp (maxSteps := 1000000) only [go_sem, Nat.zero_add, Int.reduceLT, Int.reduceLE, Int.reduceToNat, Nat.reduceLT, eq_self, Int.toNat_zero, Int.toNat_one, Nat.reduceEqDiff, Nat.reduceAdd, Nat.reduceLeDiff, Nat.reduceSub, Nat.reduceMul, ↓reduceIte, reduceCtorEq, Nat.add_zero, Int.toNat_natCast, List.getElem?_map, Option.map_some, List.length_map, Int.cast_ofNat_Int, decide_true, decide_false]
      exact Pub.of_eq (by rw [firstIdx_none p l (fun j hj' => hj j (by omega))]) rfl
theorem ok_slices_ContainsFunc__int (l : List Int) (hl : l.length ≤ 9223372036854775807) (f : Nat) (caps : List AV) (hcaps : caps.all AV.pur1 = true) (p : Int → Bool) (hp : ∀ x ∈ l, PC prog f (.int .i64 x :: caps) (.bool (p x))) :
    PC prog n_slices_ContainsFunc__int [.list 1 (ints l), .func f caps] (.bool (l.any p)) := by
  refine PC_of_body b_slices_ContainsFunc__int (by simp) ?_
  simp only [c_slices_ContainsFunc__int, go_sem, Nat.zero_add, Int.reduceLT, Int.reduceLE, Int.reduceToNat, Nat.reduceLT, eq_self, Int.toNat_zero, Int.toNat_one, Nat.reduceEqDiff, Nat.reduceAdd, Nat.reduceLeDiff, Nat.reduceSub, Nat.reduceMul, ↓reduceIte, reduceCtorEq, Nat.add_zero, Int.toNat_natCast, List.getElem?_map, Option.map_some, List.length_map, Int.cast_ofNat_Int, decide_true, decide_false]
  refine call_pc (ok_slices_IndexFunc__int l hl f caps hcaps p hp) (by simp [go_sem, hcaps]) ?_
  try simp (maxSteps := 1000000) only [go_sem, Nat.zero_add, Int.reduceLT, Int.reduceLE, Int.reduceToNat, Nat.reduceLT, eq_self, Int.toNat_zero, Int.toNat_one, Nat.reduceEqDiff, Nat.reduceAdd, Nat.reduceLeDiff, Nat.reduceSub, Nat.reduceMul, ↓reduceIte, reduceCtorEq, Nat.add_zero, Int.toNat_natCast, List.getElem?_map, Option.map_some, List.length_map, Int.cast_ofNat_Int, decide_true, decide_false]
  exact Pub.of_eq (by rw [firstIdx_any]) rfl
def towardS (a t u d : Int) : Int := if a < t then min (a + u) t else max (a - d) t
theorem ok_ramp_toward (a t u d : Int) (ha : 0 ≤ a ∧ a ≤ 1073741824) (hu : 0 ≤ u ∧ u ≤ 1073741824) (hd : 0 ≤ d ∧ d ≤ 1073741824) :
    PC prog n_ramp_toward [.int .i64 a, .int .i64 t, .int .i64 u, .int .i64 d] (.int .i64 (towardS a t u d)) := by
  refine PC_of_body b_ramp_toward (by simp) ?_
  simp only [c_ramp_toward, go_sem, Nat.zero_add, Int.reduceLT, Int.reduceLE, Int.reduceToNat, Nat.reduceLT, eq_self, Int.toNat_zero, Int.toNat_one, Nat.reduceEqDiff, Nat.reduceAdd, Nat.reduceLeDiff, Nat.reduceSub, Nat.reduceMul, ↓reduceIte, reduceCtorEq, Nat.add_zero, Int.toNat_natCast, List.getElem?_map, Option.map_some, List.length_map, Int.cast_ofNat_Int, decide_true, decide_false]
  refine cond_d (fun h => ?_) (fun h => ?_) <;> simp (maxSteps := 1000000) (disch := omega) only [go_sem, Nat.zero_add, Int.reduceLT, Int.reduceLE, Int.reduceToNat, Nat.reduceLT, eq_self, Int.toNat_zero, Int.toNat_one, Nat.reduceEqDiff, Nat.reduceAdd, Nat.reduceLeDiff, Nat.reduceSub, Nat.reduceMul, ↓reduceIte, reduceCtorEq, Nat.add_zero, Int.toNat_natCast, List.getElem?_map, Option.map_some, List.length_map, Int.cast_ofNat_Int, decide_true, decide_false, wrap_id]
  all_goals exact Pub.of_eq (by simp [towardS, *]) rfl
theorem ok_ramp_flows_1 (n : Int) : PC prog n_ramp_flows_1 [.int .i64 n] (.bool (!flow1 n)) := by
  refine PC_of_body b_ramp_flows_1 (by simp) ?_
  simp only [c_ramp_flows_1, go_sem, Nat.zero_add, Int.reduceLT, Int.reduceLE, Int.reduceToNat, Nat.reduceLT, eq_self, Int.toNat_zero, Int.toNat_one, Nat.reduceEqDiff, Nat.reduceAdd, Nat.reduceLeDiff, Nat.reduceSub, Nat.reduceMul, ↓reduceIte, reduceCtorEq, Nat.add_zero, Int.toNat_natCast, List.getElem?_map, Option.map_some, List.length_map, Int.cast_ofNat_Int, decide_true, decide_false]
  refine call_pc (ok_quantity_Within _ _) (by simp [go_sem]) ?_
  try simp (maxSteps := 1000000) only [go_sem, Nat.zero_add, Int.reduceLT, Int.reduceLE, Int.reduceToNat, Nat.reduceLT, eq_self, Int.toNat_zero, Int.toNat_one, Nat.reduceEqDiff, Nat.reduceAdd, Nat.reduceLeDiff, Nat.reduceSub, Nat.reduceMul, ↓reduceIte, reduceCtorEq, Nat.add_zero, Int.toNat_natCast, List.getElem?_map, Option.map_some, List.length_map, Int.cast_ofNat_Int, decide_true, decide_false]
  exact Pub.of_eq rfl rfl
theorem ok_ramp_flows (l : List Int) (hl : l.length ≤ 9223372036854775807) : PC prog n_ramp_flows [.list 1 (ints l)] (.bool (l.all flow1)) := by
  refine PC_of_body b_ramp_flows (by simp) ?_
  simp only [c_ramp_flows, go_sem, Nat.zero_add, Int.reduceLT, Int.reduceLE, Int.reduceToNat, Nat.reduceLT, eq_self, Int.toNat_zero, Int.toNat_one, Nat.reduceEqDiff, Nat.reduceAdd, Nat.reduceLeDiff, Nat.reduceSub, Nat.reduceMul, ↓reduceIte, reduceCtorEq, Nat.add_zero, Int.toNat_natCast, List.getElem?_map, Option.map_some, List.length_map, Int.cast_ofNat_Int, decide_true, decide_false]
  refine call_pc (ok_slices_ContainsFunc__int l hl _ [] rfl (fun n => !flow1 n) (fun x _ => ok_ramp_flows_1 x)) (by simp [go_sem]) ?_
  try simp (maxSteps := 1000000) only [go_sem, Nat.zero_add, Int.reduceLT, Int.reduceLE, Int.reduceToNat, Nat.reduceLT, eq_self, Int.toNat_zero, Int.toNat_one, Nat.reduceEqDiff, Nat.reduceAdd, Nat.reduceLeDiff, Nat.reduceSub, Nat.reduceMul, ↓reduceIte, reduceCtorEq, Nat.add_zero, Int.toNat_natCast, List.getElem?_map, Option.map_some, List.length_map, Int.cast_ofNat_Int, decide_true, decide_false]
  exact Pub.of_eq (by simp [List.not_any_eq_all_not]) rfl
theorem eq_of_get {α : Type} {a b : List α} (hl : a.length = b.length) (h : ∀ j, j < a.length → a[j]? = b[j]?) : a = b := by
  apply List.ext_getElem? ; intro j
  by_cases hj : j < a.length
  · exact h j hj
  · rw [List.getElem?_eq_none (by omega), List.getElem?_eq_none (by omega)]
theorem ok_ref01_Same (a b : List Int) (ha : a.length ≤ 9223372036854775807) : PC prog n_ref01_Same [.list 1 (ints a), .list 1 (ints b)] (.bool (decide (a = b))) := by
  refine PC_of_body b_ref01_Same (by simp) ?_
  simp only [c_ref01_Same, go_sem, Nat.zero_add, Int.reduceLT, Int.reduceLE, Int.reduceToNat, Nat.reduceLT, eq_self, Int.toNat_zero, Int.toNat_one, Nat.reduceEqDiff, Nat.reduceAdd, Nat.reduceLeDiff, Nat.reduceSub, Nat.reduceMul, ↓reduceIte, reduceCtorEq, Nat.add_zero, Int.toNat_natCast, List.getElem?_map, Option.map_some, List.length_map, Int.cast_ofNat_Int, decide_true, decide_false, ints_length]
  refine cond_n (fun h => ?_) (fun h => ?_) <;> simp (maxSteps := 1000000) only [go_sem, Nat.zero_add, Int.reduceLT, Int.reduceLE, Int.reduceToNat, Nat.reduceLT, eq_self, Int.toNat_zero, Int.toNat_one, Nat.reduceEqDiff, Nat.reduceAdd, Nat.reduceLeDiff, Nat.reduceSub, Nat.reduceMul, ↓reduceIte, reduceCtorEq, Nat.add_zero, Int.toNat_natCast, List.getElem?_map, Option.map_some, List.length_map, Int.cast_ofNat_Int, decide_true, decide_false]
  · exact Pub.of_eq (by congr 1; simp; intro hab; exact h (by rw [hab])) rfl
  have hl : a.length = b.length := by omega
  refine awp_up a.length (fun k e _ => e 0 = .list 1 (ints a) ∧ e 1 = .list 1 (ints b) ∧ e 12 = .int .i64 a.length ∧ e 13 = .int .i64 k ∧ ∀ j, j < k → a[j]? = b[j]?) ?_ ?_
  · simp [go_sem, ints_length]
  · rintro k e ob c hk ⟨h0, h1, h12, h13, hj⟩
    simp (maxSteps := 1000000) only [go_sem, Nat.zero_add, Int.reduceLT, Int.reduceLE, Int.reduceToNat, Nat.reduceLT, eq_self, Int.toNat_zero, Int.toNat_one, Nat.reduceEqDiff, Nat.reduceAdd, Nat.reduceLeDiff, Nat.reduceSub, Nat.reduceMul, ↓reduceIte, reduceCtorEq, Nat.add_zero, Int.toNat_natCast, List.getElem?_map, Option.map_some, List.length_map, Int.cast_ofNat_Int, decide_true, decide_false, h12, h13]
    refine cond_d (fun hlt => ?_) (fun hge => ?_)
    · have hka : k < a.length := by omega
      have hga : a[k]? = some a[k] := List.getElem?_eq_getElem hka
      have hgb : b[k]? = some b[k] := List.getElem?_eq_getElem (by omega)
      simp (maxSteps := 1000000) only [go_sem, Nat.zero_add, Int.reduceLT, Int.reduceLE, Int.reduceToNat, Nat.reduceLT, eq_self, Int.toNat_zero, Int.toNat_one, Nat.reduceEqDiff, Nat.reduceAdd, Nat.reduceLeDiff, Nat.reduceSub, Nat.reduceMul, ↓reduceIte, reduceCtorEq, Nat.add_zero, Int.toNat_natCast, List.getElem?_map, Option.map_some, List.length_map, Int.cast_ofNat_Int, decide_true, decide_false, h0, h1, ints_length, ints_get, hga, hgb, h13]
      refine ⟨by omega, by omega, by omega, by omega, cond_n (fun hne => ?_) (fun heq => ?_)⟩ <;> simp (maxSteps := 1000000) (disch := omega) only [go_sem, Nat.zero_add, Int.reduceLT, Int.reduceLE, Int.reduceToNat, Nat.reduceLT, eq_self, Int.toNat_zero, Int.toNat_one, Nat.reduceEqDiff, Nat.reduceAdd, Nat.reduceLeDiff, Nat.reduceSub, Nat.reduceMul, ↓reduceIte, reduceCtorEq, Nat.add_zero, Int.toNat_natCast, List.getElem?_map, Option.map_some, List.length_map, Int.cast_ofNat_Int, decide_true, decide_false, wrap_id, h13]
      · exact Pub.of_eq (by congr 1; simp; intro hab; subst hab; exact hne rfl) rfl
      · refine up_next hka ⟨by simp [go_sem, h0], by simp [go_sem, h1], by simp [go_sem, h12], by simp [go_sem], ?_⟩
        intro j hj'
        by_cases e : j = k
        · subst e; rw [hga, hgb, heq]
        · exact hj j (by omega)
    · try simp (maxSteps := 1000000) only [go_sem, Nat.zero_add, Int.reduceLT, Int.reduceLE, Int.reduceToNat, Nat.reduceLT, eq_self, Int.toNat_zero, Int.toNat_one, Nat.reduceEqDiff, Nat.reduceAdd, Nat.reduceLeDiff, Nat.reduceSub, Nat.reduceMul, ↓reduceIte, reduceCtorEq, Nat.add_zero, Int.toNat_natCast, List.getElem?_map, Option.map_some, List.length_map, Int.cast_ofNat_Int, decide_true, decide_false]
      exact Pub.of_eq (by congr 1; simp; exact eq_of_get hl fun j hj' => hj j (by omega)) rfl
def pathR (b t u d s : Int) : List Int × Int := if [b, t, u, d].all flow1 then if 0 ≤ s ∧ s ≤ 4096 then (pathS (fun a => towardS a t u d) b s.toNat, 0) else ([], 10) else ([], 1)
theorem toward_flow (a t u d : Int) (ha : flow1 a = true) (ht : flow1 t = true) (hu : flow1 u = true) (hd : flow1 d = true) : flow1 (towardS a t u d) = true := by
  rw [flow1_iff] at *
  unfold towardS
  split <;> omega
theorem run_flow (b t u d : Int) (hb : flow1 b = true) (ht : flow1 t = true) (hu : flow1 u = true) (hd : flow1 d = true) (k : Nat) : flow1 (runS (fun a => towardS a t u d) b k) = true := by
  induction k with
  | zero => exact hb
  | succ k ih => exact toward_flow _ t u d ih ht hu hd
theorem ok_ramp_Path (b t u d s : Int) : PC prog n_ramp_Path [.int .i64 b, .int .i64 t, .int .i64 u, .int .i64 d, .int .i64 s] (.tuple [.list 1 (ints (pathR b t u d s).1), .int .i64 (pathR b t u d s).2]) := by
  refine PC_of_body b_ramp_Path (by simp) ?_
  simp only [c_ramp_Path, go_sem, Nat.zero_add, Int.reduceLT, Int.reduceLE, Int.reduceToNat, Nat.reduceLT, eq_self, Int.toNat_zero, Int.toNat_one, Nat.reduceEqDiff, Nat.reduceAdd, Nat.reduceLeDiff, Nat.reduceSub, Nat.reduceMul, ↓reduceIte, reduceCtorEq, Nat.add_zero, Int.toNat_natCast, List.getElem?_map, Option.map_some, List.length_map, Int.cast_ofNat_Int, decide_true, decide_false]
  refine call_pc (ok_ramp_flows [b, t, u, d] (by simp)) (by simp [ints, go_sem]) ?_
  try simp (maxSteps := 1000000) only [go_sem, Nat.zero_add, Int.reduceLT, Int.reduceLE, Int.reduceToNat, Nat.reduceLT, eq_self, Int.toNat_zero, Int.toNat_one, Nat.reduceEqDiff, Nat.reduceAdd, Nat.reduceLeDiff, Nat.reduceSub, Nat.reduceMul, ↓reduceIte, reduceCtorEq, Nat.add_zero, Int.toNat_natCast, List.getElem?_map, Option.map_some, List.length_map, Int.cast_ofNat_Int, decide_true, decide_false]
  refine cond_split (fun h => ?_) (fun h => ?_) <;> simp (maxSteps := 1000000) only [go_sem, Nat.zero_add, Int.reduceLT, Int.reduceLE, Int.reduceToNat, Nat.reduceLT, eq_self, Int.toNat_zero, Int.toNat_one, Nat.reduceEqDiff, Nat.reduceAdd, Nat.reduceLeDiff, Nat.reduceSub, Nat.reduceMul, ↓reduceIte, reduceCtorEq, Nat.add_zero, Int.toNat_natCast, List.getElem?_map, Option.map_some, List.length_map, Int.cast_ofNat_Int, decide_true, decide_false]
  · rw [show pathR b t u d s = ([], 1) by simp at h; simp [pathR]; intro h1 h2 h3 h4; simp_all]
    exact Pub.pair (.nl 1) (.pure rfl)
  have h : [b, t, u, d].all flow1 = true := by simpa using h
  refine call_pc (ok_quantity_Within s 4096) (by simp [go_sem]) ?_
  try simp (maxSteps := 1000000) only [go_sem, Nat.zero_add, Int.reduceLT, Int.reduceLE, Int.reduceToNat, Nat.reduceLT, eq_self, Int.toNat_zero, Int.toNat_one, Nat.reduceEqDiff, Nat.reduceAdd, Nat.reduceLeDiff, Nat.reduceSub, Nat.reduceMul, ↓reduceIte, reduceCtorEq, Nat.add_zero, Int.toNat_natCast, List.getElem?_map, Option.map_some, List.length_map, Int.cast_ofNat_Int, decide_true, decide_false]
  refine cond_split (fun hs => ?_) (fun hs => ?_) <;> simp (maxSteps := 1000000) only [go_sem, Nat.zero_add, Int.reduceLT, Int.reduceLE, Int.reduceToNat, Nat.reduceLT, eq_self, Int.toNat_zero, Int.toNat_one, Nat.reduceEqDiff, Nat.reduceAdd, Nat.reduceLeDiff, Nat.reduceSub, Nat.reduceMul, ↓reduceIte, reduceCtorEq, Nat.add_zero, Int.toNat_natCast, List.getElem?_map, Option.map_some, List.length_map, Int.cast_ofNat_Int, decide_true, decide_false]
  · rw [show pathR b t u d s = ([], 10) by simp at hs; simp only [pathR]; rw [if_pos h, if_neg (by omega)]]
    exact Pub.pair (.nl 1) (.pure rfl)
  simp at hs
  have hp : pathR b t u d s = (pathS (fun a => towardS a t u d) b s.toNat, 0) := by simp only [pathR]; rw [if_pos h, if_pos hs]
  rw [hp]
  simp only [List.all_cons, List.all_nil, Bool.and_true, Bool.and_eq_true] at h
  obtain ⟨hb, ht, hu, hd⟩ := h
  have hst : ((s.toNat : Nat) : Int) = s := Int.toNat_of_nonneg hs.1
  refine awp_up s.toNat (fun k e σ => e 0 = .int .i64 (runS (fun a => towardS a t u d) b k) ∧ e 1 = .int .i64 t ∧ e 2 = .int .i64 u ∧ e 3 = .int .i64 d ∧ e 25 = .int .i64 s ∧ e 26 = .int .i64 k ∧
    ∃ g, e 12 = .sl 0 g 1 0 k ∧ σ.ob 0 = some ⟨g, 1, 3, false, true, ints (pathS (fun a => towardS a t u d) b k)⟩) ?_ ?_
  · simp [go_sem, runS, pathS_zero, ints]
  · rintro k e ob c hk ⟨h0, h1, h2, h3, h25, h26, g, h12, hob⟩
    simp only at hob
    simp (maxSteps := 1000000) only [go_sem, Nat.zero_add, Int.reduceLT, Int.reduceLE, Int.reduceToNat, Nat.reduceLT, eq_self, Int.toNat_zero, Int.toNat_one, Nat.reduceEqDiff, Nat.reduceAdd, Nat.reduceLeDiff, Nat.reduceSub, Nat.reduceMul, ↓reduceIte, reduceCtorEq, Nat.add_zero, Int.toNat_natCast, List.getElem?_map, Option.map_some, List.length_map, Int.cast_ofNat_Int, decide_true, decide_false, h25, h26]
    refine cond_d (fun hlt => ?_) (fun hge => ?_)
    · have hkl : k < s.toNat := by omega
      have hf := run_flow b t u d hb ht hu hd k
      simp (maxSteps := 1000000) only [go_sem, Nat.zero_add, Int.reduceLT, Int.reduceLE, Int.reduceToNat, Nat.reduceLT, eq_self, Int.toNat_zero, Int.toNat_one, Nat.reduceEqDiff, Nat.reduceAdd, Nat.reduceLeDiff, Nat.reduceSub, Nat.reduceMul, ↓reduceIte, reduceCtorEq, Nat.add_zero, Int.toNat_natCast, List.getElem?_map, Option.map_some, List.length_map, Int.cast_ofNat_Int, decide_true, decide_false, h0, h1, h2, h3]
      refine call_pc (ok_ramp_toward _ t u d ((flow1_iff _).1 hf) ((flow1_iff _).1 hu) ((flow1_iff _).1 hd)) (by simp [go_sem]) ?_
      simp (maxSteps := 1000000) only [go_sem, Nat.zero_add, Int.reduceLT, Int.reduceLE, Int.reduceToNat, Nat.reduceLT, eq_self, Int.toNat_zero, Int.toNat_one, Nat.reduceEqDiff, Nat.reduceAdd, Nat.reduceLeDiff, Nat.reduceSub, Nat.reduceMul, ↓reduceIte, reduceCtorEq, Nat.add_zero, Int.toNat_natCast, List.getElem?_map, Option.map_some, List.length_map, Int.cast_ofNat_Int, decide_true, decide_false, h12, hob]
      refine ⟨by simp [pathS_length, ints_length], by simp [maxLen]; omega, by omega, ?_⟩
      simp (maxSteps := 1000000) (disch := omega) only [go_sem, Nat.zero_add, Int.reduceLT, Int.reduceLE, Int.reduceToNat, Nat.reduceLT, eq_self, Int.toNat_zero, Int.toNat_one, Nat.reduceEqDiff, Nat.reduceAdd, Nat.reduceLeDiff, Nat.reduceSub, Nat.reduceMul, ↓reduceIte, reduceCtorEq, Nat.add_zero, Int.toNat_natCast, List.getElem?_map, Option.map_some, List.length_map, Int.cast_ofNat_Int, decide_true, decide_false, wrap_id, h26]
      refine up_next hkl ⟨by simp [go_sem, runS], by simp [go_sem, h1], by simp [go_sem, h2], by simp [go_sem, h3], by simp [go_sem, h25], by simp [go_sem], _, by simp [go_sem]; rfl, ?_⟩
      simp [go_sem, ints_snoc, pathS_succ, runS]
    · have hks : k = s.toNat := by omega
      subst hks
      simp (maxSteps := 1000000) only [go_sem, Nat.zero_add, Int.reduceLT, Int.reduceLE, Int.reduceToNat, Nat.reduceLT, eq_self, Int.toNat_zero, Int.toNat_one, Nat.reduceEqDiff, Nat.reduceAdd, Nat.reduceLeDiff, Nat.reduceSub, Nat.reduceMul, ↓reduceIte, reduceCtorEq, Nat.add_zero, Int.toNat_natCast, List.getElem?_map, Option.map_some, List.length_map, Int.cast_ofNat_Int, decide_true, decide_false, h12]
      exact Pub.pair (Pub.of_sl hob (by simp [ints, pathS_length]) (ints_pur _) (ints_ok _)) (.pure rfl)
def stepsR (b t u d : Int) : Int × Bool × Int :=
  if [b, t, u, d].all flow1 then
    if t = b then (0, true, 0) else if (if t - b < 0 then d else u) = 0 then (0, false, 0)
    else (((if t - b < 0 then 0 - (t - b) else t - b) + (if t - b < 0 then d else u) - 1).tdiv (if t - b < 0 then d else u), true, 0)
  else (0, false, 1)
def trip (x : Int × Bool × Int) : AV := .tuple [.int .i64 x.1, .bool x.2.1, .int .i64 x.2.2]
theorem tdiv_bd (a b : Int) (ha : 0 ≤ a) (hb : 0 < b) : 0 ≤ a.tdiv b ∧ a.tdiv b ≤ a := by
  constructor
  · exact Int.tdiv_nonneg ha (by omega)
  · rw [Int.tdiv_eq_ediv_of_nonneg ha]; exact Int.ediv_le_self b ha
theorem ok_ramp_Steps (b t u d : Int) : PC prog n_ramp_Steps [.int .i64 b, .int .i64 t, .int .i64 u, .int .i64 d] (trip (stepsR b t u d)) := by
  refine PC_of_body b_ramp_Steps (by simp) ?_
  simp only [c_ramp_Steps, go_sem, Nat.zero_add, Int.reduceLT, Int.reduceLE, Int.reduceToNat, Nat.reduceLT, eq_self, Int.toNat_zero, Int.toNat_one, Nat.reduceEqDiff, Nat.reduceAdd, Nat.reduceLeDiff, Nat.reduceSub, Nat.reduceMul, ↓reduceIte, reduceCtorEq, Nat.add_zero, Int.toNat_natCast, List.getElem?_map, Option.map_some, List.length_map, Int.cast_ofNat_Int, decide_true, decide_false]
  refine call_pc (ok_ramp_flows [b, t, u, d] (by simp)) (by simp [ints, go_sem]) ?_
  try simp (maxSteps := 1000000) only [go_sem, Nat.zero_add, Int.reduceLT, Int.reduceLE, Int.reduceToNat, Nat.reduceLT, eq_self, Int.toNat_zero, Int.toNat_one, Nat.reduceEqDiff, Nat.reduceAdd, Nat.reduceLeDiff, Nat.reduceSub, Nat.reduceMul, ↓reduceIte, reduceCtorEq, Nat.add_zero, Int.toNat_natCast, List.getElem?_map, Option.map_some, List.length_map, Int.cast_ofNat_Int, decide_true, decide_false]
  refine cond_split (fun h => ?_) (fun h => ?_) <;> simp (maxSteps := 1000000) only [go_sem, Nat.zero_add, Int.reduceLT, Int.reduceLE, Int.reduceToNat, Nat.reduceLT, eq_self, Int.toNat_zero, Int.toNat_one, Nat.reduceEqDiff, Nat.reduceAdd, Nat.reduceLeDiff, Nat.reduceSub, Nat.reduceMul, ↓reduceIte, reduceCtorEq, Nat.add_zero, Int.toNat_natCast, List.getElem?_map, Option.map_some, List.length_map, Int.cast_ofNat_Int, decide_true, decide_false]
  · refine Pub.of_eq ?_ (by simp [trip, go_sem, AV.pur])
    rw [show stepsR b t u d = (0, false, 1) by simp only [stepsR]; rw [if_neg (by intro h2; simp_all)]]
    rfl
  have h : [b, t, u, d].all flow1 = true := by simpa using h
  have h' := h
  simp only [List.all_cons, List.all_nil, Bool.and_true, Bool.and_eq_true, flow1_iff] at h'
  obtain ⟨hb, ht, hu, hd⟩ := h'
  simp (maxSteps := 1000000) (disch := omega) only [go_sem, Nat.zero_add, Int.reduceLT, Int.reduceLE, Int.reduceToNat, Nat.reduceLT, eq_self, Int.toNat_zero, Int.toNat_one, Nat.reduceEqDiff, Nat.reduceAdd, Nat.reduceLeDiff, Nat.reduceSub, Nat.reduceMul, ↓reduceIte, reduceCtorEq, Nat.add_zero, Int.toNat_natCast, List.getElem?_map, Option.map_some, List.length_map, Int.cast_ofNat_Int, decide_true, decide_false, wrap_id]
  refine cond_d (fun hw => ?_) (fun hw => ?_) <;> simp (maxSteps := 1000000) (disch := omega) only [go_sem, Nat.zero_add, Int.reduceLT, Int.reduceLE, Int.reduceToNat, Nat.reduceLT, eq_self, Int.toNat_zero, Int.toNat_one, Nat.reduceEqDiff, Nat.reduceAdd, Nat.reduceLeDiff, Nat.reduceSub, Nat.reduceMul, ↓reduceIte, reduceCtorEq, Nat.add_zero, Int.toNat_natCast, List.getElem?_map, Option.map_some, List.length_map, Int.cast_ofNat_Int, decide_true, decide_false, wrap_id] <;> refine cond_d (fun hz => ?_) (fun hz => ?_) <;> simp (maxSteps := 1000000) (disch := omega) only [go_sem, Nat.zero_add, Int.reduceLT, Int.reduceLE, Int.reduceToNat, Nat.reduceLT, eq_self, Int.toNat_zero, Int.toNat_one, Nat.reduceEqDiff, Nat.reduceAdd, Nat.reduceLeDiff, Nat.reduceSub, Nat.reduceMul, ↓reduceIte, reduceCtorEq, Nat.add_zero, Int.toNat_natCast, List.getElem?_map, Option.map_some, List.length_map, Int.cast_ofNat_Int, decide_true, decide_false, wrap_id]
  · omega
  · refine cond_d (fun hs => ?_) (fun hs => ?_) <;> simp (maxSteps := 1000000) (disch := omega) only [go_sem, Nat.zero_add, Int.reduceLT, Int.reduceLE, Int.reduceToNat, Nat.reduceLT, eq_self, Int.toNat_zero, Int.toNat_one, Nat.reduceEqDiff, Nat.reduceAdd, Nat.reduceLeDiff, Nat.reduceSub, Nat.reduceMul, ↓reduceIte, reduceCtorEq, Nat.add_zero, Int.toNat_natCast, List.getElem?_map, Option.map_some, List.length_map, Int.cast_ofNat_Int, decide_true, decide_false, wrap_id]
    · refine Pub.of_eq ?_ (by simp [trip, go_sem, AV.pur])
      simp only [stepsR]; rw [if_pos h, if_neg (by omega), if_pos hw, if_pos hs]; rfl
    · have := tdiv_bd (0 - (t - b) + d - 1) d (by omega) (by omega)
      simp (maxSteps := 1000000) (disch := omega) only [go_sem, Nat.zero_add, Int.reduceLT, Int.reduceLE, Int.reduceToNat, Nat.reduceLT, eq_self, Int.toNat_zero, Int.toNat_one, Nat.reduceEqDiff, Nat.reduceAdd, Nat.reduceLeDiff, Nat.reduceSub, Nat.reduceMul, ↓reduceIte, reduceCtorEq, Nat.add_zero, Int.toNat_natCast, List.getElem?_map, Option.map_some, List.length_map, Int.cast_ofNat_Int, decide_true, decide_false, wrap_id]
      refine ⟨hs, Pub.of_eq ?_ (by simp [trip, go_sem, AV.pur])⟩
      simp only [stepsR]; rw [if_pos h, if_neg (by omega)]; simp only [if_pos hw]; rw [if_neg hs]; rfl
  · refine Pub.of_eq ?_ (by simp [trip, go_sem, AV.pur])
    simp only [stepsR]; rw [if_pos h, if_pos (by omega)]; rfl
  · refine cond_d (fun hs => ?_) (fun hs => ?_) <;> simp (maxSteps := 1000000) (disch := omega) only [go_sem, Nat.zero_add, Int.reduceLT, Int.reduceLE, Int.reduceToNat, Nat.reduceLT, eq_self, Int.toNat_zero, Int.toNat_one, Nat.reduceEqDiff, Nat.reduceAdd, Nat.reduceLeDiff, Nat.reduceSub, Nat.reduceMul, ↓reduceIte, reduceCtorEq, Nat.add_zero, Int.toNat_natCast, List.getElem?_map, Option.map_some, List.length_map, Int.cast_ofNat_Int, decide_true, decide_false, wrap_id]
    · refine Pub.of_eq ?_ (by simp [trip, go_sem, AV.pur])
      simp only [stepsR]; rw [if_pos h, if_neg (by omega)]; simp only [if_neg hw]; rw [if_pos hs]; rfl
    · have := tdiv_bd (t - b + u - 1) u (by omega) (by omega)
      simp (maxSteps := 1000000) (disch := omega) only [go_sem, Nat.zero_add, Int.reduceLT, Int.reduceLE, Int.reduceToNat, Nat.reduceLT, eq_self, Int.toNat_zero, Int.toNat_one, Nat.reduceEqDiff, Nat.reduceAdd, Nat.reduceLeDiff, Nat.reduceSub, Nat.reduceMul, ↓reduceIte, reduceCtorEq, Nat.add_zero, Int.toNat_natCast, List.getElem?_map, Option.map_some, List.length_map, Int.cast_ofNat_Int, decide_true, decide_false, wrap_id]
      refine ⟨hs, Pub.of_eq ?_ (by simp [trip, go_sem, AV.pur])⟩
      simp only [stepsR]; rw [if_pos h, if_neg (by omega)]; simp only [if_neg hw]; rw [if_neg hs]; rfl
theorem ok_law21_awake : PC prog n_law21_awake [] (.bool true) := by
  refine PC_of_body b_law21_awake (by simp) ?_
  simp only [c_law21_awake, go_sem, Nat.zero_add, Int.reduceLT, Int.reduceLE, Int.reduceToNat, Nat.reduceLT, eq_self, Int.toNat_zero, Int.toNat_one, Nat.reduceEqDiff, Nat.reduceAdd, Nat.reduceLeDiff, Nat.reduceSub, Nat.reduceMul, ↓reduceIte, reduceCtorEq, Nat.add_zero, Int.toNat_natCast, List.getElem?_map, Option.map_some, List.length_map, Int.cast_ofNat_Int, decide_true, decide_false]
  refine call_pc (ok_ramp_Path 10 25 6 4 4) (by simp [go_sem]) ?_
  simp (maxSteps := 1000000) only [go_sem, Nat.zero_add, Int.reduceLT, Int.reduceLE, Int.reduceToNat, Nat.reduceLT, eq_self, Int.toNat_zero, Int.toNat_one, Nat.reduceEqDiff, Nat.reduceAdd, Nat.reduceLeDiff, Nat.reduceSub, Nat.reduceMul, ↓reduceIte, reduceCtorEq, Nat.add_zero, Int.toNat_natCast, List.getElem?_map, Option.map_some, List.length_map, Int.cast_ofNat_Int, decide_true, decide_false, show pathR 10 25 6 4 4 = ([16, 22, 25, 25], 0) by decide]
  refine call_pc (ok_ramp_Steps 10 25 6 4) (by simp [go_sem]) ?_
  simp (maxSteps := 1000000) only [go_sem, Nat.zero_add, Int.reduceLT, Int.reduceLE, Int.reduceToNat, Nat.reduceLT, eq_self, Int.toNat_zero, Int.toNat_one, Nat.reduceEqDiff, Nat.reduceAdd, Nat.reduceLeDiff, Nat.reduceSub, Nat.reduceMul, ↓reduceIte, reduceCtorEq, Nat.add_zero, Int.toNat_natCast, List.getElem?_map, Option.map_some, List.length_map, Int.cast_ofNat_Int, decide_true, decide_false, trip, show stepsR 10 25 6 4 = (3, true, 0) by decide, decide_true]
  refine call_pc (ok_ref01_Same [16, 22, 25, 25] [16, 22, 25, 25] (by simp)) (by simp [ints, go_sem]) ?_
  simp (maxSteps := 1000000) only [go_sem, Nat.zero_add, Int.reduceLT, Int.reduceLE, Int.reduceToNat, Nat.reduceLT, eq_self, Int.toNat_zero, Int.toNat_one, Nat.reduceEqDiff, Nat.reduceAdd, Nat.reduceLeDiff, Nat.reduceSub, Nat.reduceMul, ↓reduceIte, reduceCtorEq, Nat.add_zero, Int.toNat_natCast, List.getElem?_map, Option.map_some, List.length_map, Int.cast_ofNat_Int, decide_true, decide_false, decide_true]
  exact Pub.of_eq rfl rfl
/-- A deck: its numbers, and how many are drawn. -/
def deckV (l : List Int) (at' : Nat) : AV := .agg [.list 1 (ints l), .int .i64 at']
def deckR (l : List Int) (at' : Nat) (n : Int) : Int × Nat := if n < 1 ∨ l.length ≤ at' then (0, at') else (l.getD at' 0 % n, at' + 1)
theorem deckR_bd (l : List Int) (at' : Nat) (n : Int) : 0 ≤ (deckR l at' n).1 ∧ ((deckR l at' n).1 = 0 ∨ (deckR l at' n).1 < n) := by
  unfold deckR
  split
  · simp
  · have h1 := Int.emod_nonneg (l.getD at' 0) (show n ≠ 0 by omega)
    have h2 := Int.emod_lt_of_pos (l.getD at' 0) (show 0 < n by omega)
    exact ⟨h1, .inr h2⟩
theorem deckR_at (l : List Int) (at' : Nat) (n : Int) (h : at' ≤ l.length) : (deckR l at' n).2 ≤ l.length := by
  unfold deckR; split <;> simp <;> omega
theorem upd_self {α : Type} (f : Nat → α) (i : Nat) (x : α) (h : f i = x) : upd f i x = f := by
  funext j; by_cases e : j = i
  · subst e; rw [upd_same, h]
  · rw [upd_ne _ _ _ _ e]
abbrev ty_Deck : TypeId := 58
theorem ok_mk_New (σ : St) (l : List Int) : HC prog n_mk_New [.list 1 (ints l)] σ (fun r σ' => r = .ptr σ.n σ.c 2 0 0 ∧ σ' = σ.push 2 ty_Deck [deckV l 0]) := by
  refine HC_of_body b_mk_New (by simp) ?_
  simp only [c_mk_New, go_sem, Nat.zero_add, Int.reduceLT, Int.reduceLE, Int.reduceToNat, Nat.reduceLT, eq_self, Int.toNat_zero, Int.toNat_one, Nat.reduceEqDiff, Nat.reduceAdd, Nat.reduceLeDiff, Nat.reduceSub, Nat.reduceMul, ↓reduceIte, reduceCtorEq, Nat.add_zero, Int.toNat_natCast, List.getElem?_map, Option.map_some, List.length_map, Int.cast_ofNat_Int, decide_true, decide_false]
  simp [deckV]
theorem ok_mk_Deck_Next (σ : St) (id g : Nat) (ty : TypeId) (ap : Bool) (l : List Int) (at' : Nat) (n : Int) (hob : σ.ob id = some ⟨g, 2, ty, false, ap, [deckV l at']⟩) (hn : n ≤ 4611686018427387904) (hl : l.length ≤ 9223372036854775807) :
    HC prog n_mk_Deck_Next [.ptr id g 2 0 0, .int .i64 n] σ (fun r σ' => r = .int .i64 (deckR l at' n).1 ∧ σ' = ⟨upd σ.ob id (some ⟨g, 2, ty, false, ap, [deckV l (deckR l at' n).2]⟩), σ.n, σ.c⟩) := by
  obtain ⟨ob, nn, cc⟩ := σ
  simp only at hob
  refine HC_of_body b_mk_Deck_Next (by simp) ?_
  simp only [c_mk_Deck_Next, go_sem, Nat.zero_add, Int.reduceLT, Int.reduceLE, Int.reduceToNat, Nat.reduceLT, eq_self, Int.toNat_zero, Int.toNat_one, Nat.reduceEqDiff, Nat.reduceAdd, Nat.reduceLeDiff, Nat.reduceSub, Nat.reduceMul, ↓reduceIte, reduceCtorEq, Nat.add_zero, Int.toNat_natCast, List.getElem?_map, Option.map_some, List.length_map, Int.cast_ofNat_Int, decide_true, decide_false, hob, deckV]
  have no : (n < 1 ∨ l.length ≤ at') → AV.int IntKind.i64 0 = AV.int IntKind.i64 (deckR l at' n).fst ∧ St.mk ob nn cc = St.mk (upd ob id (some ⟨g, 2, ty, false, ap, [.agg [.list 1 (ints l), .int .i64 (deckR l at' n).2]]⟩)) nn cc := by
    intro h
    rw [show deckR l at' n = (0, at') by unfold deckR; rw [if_pos h]]
    exact ⟨rfl, by have h1 := upd_self ob id _ hob; simp only [deckV] at h1 ⊢; rw [h1]⟩
  refine gd_fd rfl (fun h => ?_) (fun h => ?_) <;> simp (maxSteps := 1000000) only [go_sem, Nat.zero_add, Int.reduceLT, Int.reduceLE, Int.reduceToNat, Nat.reduceLT, eq_self, Int.toNat_zero, Int.toNat_one, Nat.reduceEqDiff, Nat.reduceAdd, Nat.reduceLeDiff, Nat.reduceSub, Nat.reduceMul, ↓reduceIte, reduceCtorEq, Nat.add_zero, Int.toNat_natCast, List.getElem?_map, Option.map_some, List.length_map, Int.cast_ofNat_Int, decide_true, decide_false, hob, deckV, ints_length]
  · exact no (.inl h)
  refine cond_d (fun h2 => ?_) (fun h2 => ?_) <;> simp (maxSteps := 1000000) only [go_sem, Nat.zero_add, Int.reduceLT, Int.reduceLE, Int.reduceToNat, Nat.reduceLT, eq_self, Int.toNat_zero, Int.toNat_one, Nat.reduceEqDiff, Nat.reduceAdd, Nat.reduceLeDiff, Nat.reduceSub, Nat.reduceMul, ↓reduceIte, reduceCtorEq, Nat.add_zero, Int.toNat_natCast, List.getElem?_map, Option.map_some, List.length_map, Int.cast_ofNat_Int, decide_true, decide_false, hob, deckV, ints_length, ints_get]
  · exact no (.inr (by omega))
  have hat : at' < l.length := by omega
  have hg : l[at']? = some l[at'] := List.getElem?_eq_getElem hat
  have hd : deckR l at' n = (l[at'] % n, at' + 1) := by unfold deckR; rw [if_neg (by omega)]; simp [List.getD_eq_getElem?_getD, hg]
  simp (maxSteps := 1000000) (disch := omega) only [go_sem, Nat.zero_add, Int.reduceLT, Int.reduceLE, Int.reduceToNat, Nat.reduceLT, eq_self, Int.toNat_zero, Int.toNat_one, Nat.reduceEqDiff, Nat.reduceAdd, Nat.reduceLeDiff, Nat.reduceSub, Nat.reduceMul, ↓reduceIte, reduceCtorEq, Nat.add_zero, Int.toNat_natCast, List.getElem?_map, Option.map_some, List.length_map, Int.cast_ofNat_Int, decide_true, decide_false, hg, wrap_id]
  refine ⟨by omega, by omega, call_pc (ok_mk_Mod _ n (by omega) (by omega)) (by simp [go_sem]) ?_⟩
  simp (maxSteps := 1000000) only [go_sem, Nat.zero_add, Int.reduceLT, Int.reduceLE, Int.reduceToNat, Nat.reduceLT, eq_self, Int.toNat_zero, Int.toNat_one, Nat.reduceEqDiff, Nat.reduceAdd, Nat.reduceLeDiff, Nat.reduceSub, Nat.reduceMul, ↓reduceIte, reduceCtorEq, Nat.add_zero, Int.toNat_natCast, List.getElem?_map, Option.map_some, List.length_map, Int.cast_ofNat_Int, decide_true, decide_false, hd]
  simp
def withinGo (u d : Int) : Nat → Int → List Int → Int × Bool
  | _, _, [] => (0, true)
  | i, b, n :: r => if flow1 n = true ∧ n - b ≤ u ∧ b - n ≤ d then withinGo u d (i + 1) n r else (i, false)
def withinR (l : List Int) (b u d : Int) : Int × Bool := if [b, u, d].all flow1 then withinGo u d 0 b l else (0, false)
theorem drop_cons {α : Type} (l : List α) (k : Nat) (h : k < l.length) : l.drop k = l[k] :: l.drop (k + 1) := List.drop_eq_getElem_cons h
theorem ok_ramp_Within (l : List Int) (b u d : Int) (hl : l.length ≤ 9223372036854775807) : PC prog n_ramp_Within [.list 1 (ints l), .int .i64 b, .int .i64 u, .int .i64 d] (.tuple [.int .i64 (withinR l b u d).1, .bool (withinR l b u d).2]) := by
  refine PC_of_body b_ramp_Within (by simp) ?_
  simp only [c_ramp_Within, go_sem, Nat.zero_add, Int.reduceLT, Int.reduceLE, Int.reduceToNat, Nat.reduceLT, eq_self, Int.toNat_zero, Int.toNat_one, Nat.reduceEqDiff, Nat.reduceAdd, Nat.reduceLeDiff, Nat.reduceSub, Nat.reduceMul, ↓reduceIte, reduceCtorEq, Nat.add_zero, Int.toNat_natCast, List.getElem?_map, Option.map_some, List.length_map, Int.cast_ofNat_Int, decide_true, decide_false]
  refine call_pc (ok_ramp_flows [b, u, d] (by simp)) (by simp [ints, go_sem]) ?_
  try simp (maxSteps := 1000000) only [go_sem, Nat.zero_add, Int.reduceLT, Int.reduceLE, Int.reduceToNat, Nat.reduceLT, eq_self, Int.toNat_zero, Int.toNat_one, Nat.reduceEqDiff, Nat.reduceAdd, Nat.reduceLeDiff, Nat.reduceSub, Nat.reduceMul, ↓reduceIte, reduceCtorEq, Nat.add_zero, Int.toNat_natCast, List.getElem?_map, Option.map_some, List.length_map, Int.cast_ofNat_Int, decide_true, decide_false]
  refine cond_split (fun h => ?_) (fun h => ?_) <;> simp (maxSteps := 1000000) only [go_sem, Nat.zero_add, Int.reduceLT, Int.reduceLE, Int.reduceToNat, Nat.reduceLT, eq_self, Int.toNat_zero, Int.toNat_one, Nat.reduceEqDiff, Nat.reduceAdd, Nat.reduceLeDiff, Nat.reduceSub, Nat.reduceMul, ↓reduceIte, reduceCtorEq, Nat.add_zero, Int.toNat_natCast, List.getElem?_map, Option.map_some, List.length_map, Int.cast_ofNat_Int, decide_true, decide_false, ints_length]
  · refine Pub.of_eq ?_ (by simp [go_sem, AV.pur])
    rw [show withinR l b u d = (0, false) by simp only [withinR]; rw [if_neg (by intro h2; simp_all)]]
  have h : [b, u, d].all flow1 = true := by simpa using h
  have h' := h
  simp only [List.all_cons, List.all_nil, Bool.and_true, Bool.and_eq_true] at h'
  obtain ⟨hb, hu, hd⟩ := h'
  have hw : withinR l b u d = withinGo u d 0 b l := by simp only [withinR]; rw [if_pos h]
  rw [hw]
  have hu' := (flow1_iff u).1 hu
  have hd' := (flow1_iff d).1 hd
  refine awp_up l.length (fun k e _ => ∃ p, e 1 = .int .i64 p ∧ flow1 p = true ∧ e 2 = .int .i64 u ∧ e 3 = .int .i64 d ∧ e 18 = .list 1 (ints l) ∧ e 19 = .int .i64 l.length ∧ e 20 = .int .i64 k ∧ withinGo u d 0 b l = withinGo u d k p (l.drop k)) ?_ ?_
  · exact ⟨b, by simp [go_sem, hb]⟩
  · rintro k e ob c hk ⟨p, h1, hp, h2, h3, h18, h19, h20, hgo⟩
    simp (maxSteps := 1000000) only [go_sem, Nat.zero_add, Int.reduceLT, Int.reduceLE, Int.reduceToNat, Nat.reduceLT, eq_self, Int.toNat_zero, Int.toNat_one, Nat.reduceEqDiff, Nat.reduceAdd, Nat.reduceLeDiff, Nat.reduceSub, Nat.reduceMul, ↓reduceIte, reduceCtorEq, Nat.add_zero, Int.toNat_natCast, List.getElem?_map, Option.map_some, List.length_map, Int.cast_ofNat_Int, decide_true, decide_false, h19, h20]
    have hp' := (flow1_iff p).1 hp
    refine cond_d (fun hlt => ?_) (fun hge => ?_)
    · have hkl : k < l.length := by omega
      have hg : l[k]? = some l[k] := List.getElem?_eq_getElem hkl
      rw [hgo, drop_cons l k hkl, withinGo]
      simp (maxSteps := 1000000) only [go_sem, Nat.zero_add, Int.reduceLT, Int.reduceLE, Int.reduceToNat, Nat.reduceLT, eq_self, Int.toNat_zero, Int.toNat_one, Nat.reduceEqDiff, Nat.reduceAdd, Nat.reduceLeDiff, Nat.reduceSub, Nat.reduceMul, ↓reduceIte, reduceCtorEq, Nat.add_zero, Int.toNat_natCast, List.getElem?_map, Option.map_some, List.length_map, Int.cast_ofNat_Int, decide_true, decide_false, h18, h20, ints_length, ints_get, hg]
      refine ⟨by omega, by omega, call_pc (ok_ramp_flows [l[k]] (by simp)) (by simp [ints, go_sem]) ?_⟩
      try simp (maxSteps := 1000000) only [go_sem, Nat.zero_add, Int.reduceLT, Int.reduceLE, Int.reduceToNat, Nat.reduceLT, eq_self, Int.toNat_zero, Int.toNat_one, Nat.reduceEqDiff, Nat.reduceAdd, Nat.reduceLeDiff, Nat.reduceSub, Nat.reduceMul, ↓reduceIte, reduceCtorEq, Nat.add_zero, Int.toNat_natCast, List.getElem?_map, Option.map_some, List.length_map, Int.cast_ofNat_Int, decide_true, decide_false]
      refine gd_f rfl (fun hf => ?_) (fun hf => ?_) <;> simp (maxSteps := 1000000) only [go_sem, Nat.zero_add, Int.reduceLT, Int.reduceLE, Int.reduceToNat, Nat.reduceLT, eq_self, Int.toNat_zero, Int.toNat_one, Nat.reduceEqDiff, Nat.reduceAdd, Nat.reduceLeDiff, Nat.reduceSub, Nat.reduceMul, ↓reduceIte, reduceCtorEq, Nat.add_zero, Int.toNat_natCast, List.getElem?_map, Option.map_some, List.length_map, Int.cast_ofNat_Int, decide_true, decide_false, h1, h2, h3]
      · refine Pub.of_eq ?_ (by simp [go_sem, AV.pur])
        rw [if_neg (by intro hh; simp_all)]
      have hf : flow1 l[k] = true := by simpa using hf
      have hf' := (flow1_iff _).1 hf
      simp (maxSteps := 1000000) (disch := omega) only [go_sem, Nat.zero_add, Int.reduceLT, Int.reduceLE, Int.reduceToNat, Nat.reduceLT, eq_self, Int.toNat_zero, Int.toNat_one, Nat.reduceEqDiff, Nat.reduceAdd, Nat.reduceLeDiff, Nat.reduceSub, Nat.reduceMul, ↓reduceIte, reduceCtorEq, Nat.add_zero, Int.toNat_natCast, List.getElem?_map, Option.map_some, List.length_map, Int.cast_ofNat_Int, decide_true, decide_false, wrap_id]
      refine gd_fd rfl (fun hh => ?_) (fun hh => ?_) <;> simp (maxSteps := 1000000) (disch := omega) only [go_sem, Nat.zero_add, Int.reduceLT, Int.reduceLE, Int.reduceToNat, Nat.reduceLT, eq_self, Int.toNat_zero, Int.toNat_one, Nat.reduceEqDiff, Nat.reduceAdd, Nat.reduceLeDiff, Nat.reduceSub, Nat.reduceMul, ↓reduceIte, reduceCtorEq, Nat.add_zero, Int.toNat_natCast, List.getElem?_map, Option.map_some, List.length_map, Int.cast_ofNat_Int, decide_true, decide_false, wrap_id, h1, h3]
      · refine Pub.of_eq ?_ (by simp [go_sem, AV.pur])
        rw [if_neg (by omega)]
      refine cond_d (fun hh2 => ?_) (fun hh2 => ?_) <;> simp (maxSteps := 1000000) (disch := omega) only [go_sem, Nat.zero_add, Int.reduceLT, Int.reduceLE, Int.reduceToNat, Nat.reduceLT, eq_self, Int.toNat_zero, Int.toNat_one, Nat.reduceEqDiff, Nat.reduceAdd, Nat.reduceLeDiff, Nat.reduceSub, Nat.reduceMul, ↓reduceIte, reduceCtorEq, Nat.add_zero, Int.toNat_natCast, List.getElem?_map, Option.map_some, List.length_map, Int.cast_ofNat_Int, decide_true, decide_false, wrap_id, h20]
      · refine Pub.of_eq ?_ (by simp [go_sem, AV.pur])
        rw [if_neg (by omega)]
      · rw [if_pos ⟨hf, by omega, by omega⟩]
        refine up_next hkl ⟨l[k], by simp [go_sem], hf, by simp [go_sem, h2], by simp [go_sem, h3], by simp [go_sem, h18], by simp [go_sem, h19], by simp [go_sem], rfl⟩
    · try simp (maxSteps := 1000000) only [go_sem, Nat.zero_add, Int.reduceLT, Int.reduceLE, Int.reduceToNat, Nat.reduceLT, eq_self, Int.toNat_zero, Int.toNat_one, Nat.reduceEqDiff, Nat.reduceAdd, Nat.reduceLeDiff, Nat.reduceSub, Nat.reduceMul, ↓reduceIte, reduceCtorEq, Nat.add_zero, Int.toNat_natCast, List.getElem?_map, Option.map_some, List.length_map, Int.cast_ofNat_Int, decide_true, decide_false]
      refine Pub.of_eq ?_ (by simp [go_sem, AV.pur])
      rw [hgo, List.drop_eq_nil_of_le (by omega)]; rfl
def boundsR (b u d s : Int) : Bd × Int := if [b, u, d].all flow1 then if 0 ≤ s ∧ s ≤ 4096 then (⟨max (b - d * s) 0, min (b + u * s) 1073741824⟩, 0) else (⟨0, 0⟩, 10) else (⟨0, 0⟩, 1)
theorem ok_ramp_Bounds (b u d s : Int) : PC prog n_ramp_Bounds [.int .i64 b, .int .i64 u, .int .i64 d, .int .i64 s] (.tuple [bdv (boundsR b u d s).1, .int .i64 (boundsR b u d s).2]) := by
  refine PC_of_body b_ramp_Bounds (by simp) ?_
  simp only [c_ramp_Bounds, go_sem, Nat.zero_add, Int.reduceLT, Int.reduceLE, Int.reduceToNat, Nat.reduceLT, eq_self, Int.toNat_zero, Int.toNat_one, Nat.reduceEqDiff, Nat.reduceAdd, Nat.reduceLeDiff, Nat.reduceSub, Nat.reduceMul, ↓reduceIte, reduceCtorEq, Nat.add_zero, Int.toNat_natCast, List.getElem?_map, Option.map_some, List.length_map, Int.cast_ofNat_Int, decide_true, decide_false]
  refine call_pc (ok_ramp_flows [b, u, d] (by simp)) (by simp [ints, go_sem]) ?_
  try simp (maxSteps := 1000000) only [go_sem, Nat.zero_add, Int.reduceLT, Int.reduceLE, Int.reduceToNat, Nat.reduceLT, eq_self, Int.toNat_zero, Int.toNat_one, Nat.reduceEqDiff, Nat.reduceAdd, Nat.reduceLeDiff, Nat.reduceSub, Nat.reduceMul, ↓reduceIte, reduceCtorEq, Nat.add_zero, Int.toNat_natCast, List.getElem?_map, Option.map_some, List.length_map, Int.cast_ofNat_Int, decide_true, decide_false]
  refine cond_split (fun h => ?_) (fun h => ?_) <;> simp (maxSteps := 1000000) only [go_sem, Nat.zero_add, Int.reduceLT, Int.reduceLE, Int.reduceToNat, Nat.reduceLT, eq_self, Int.toNat_zero, Int.toNat_one, Nat.reduceEqDiff, Nat.reduceAdd, Nat.reduceLeDiff, Nat.reduceSub, Nat.reduceMul, ↓reduceIte, reduceCtorEq, Nat.add_zero, Int.toNat_natCast, List.getElem?_map, Option.map_some, List.length_map, Int.cast_ofNat_Int, decide_true, decide_false]
  · refine Pub.of_eq ?_ (by simp [bdv, go_sem, AV.pur])
    rw [show boundsR b u d s = (⟨0, 0⟩, 1) by simp only [boundsR]; rw [if_neg (by intro h2; simp_all)]]
    rfl
  have h : [b, u, d].all flow1 = true := by simpa using h
  refine call_pc (ok_quantity_Within s 4096) (by simp [go_sem]) ?_
  try simp (maxSteps := 1000000) only [go_sem, Nat.zero_add, Int.reduceLT, Int.reduceLE, Int.reduceToNat, Nat.reduceLT, eq_self, Int.toNat_zero, Int.toNat_one, Nat.reduceEqDiff, Nat.reduceAdd, Nat.reduceLeDiff, Nat.reduceSub, Nat.reduceMul, ↓reduceIte, reduceCtorEq, Nat.add_zero, Int.toNat_natCast, List.getElem?_map, Option.map_some, List.length_map, Int.cast_ofNat_Int, decide_true, decide_false]
  refine cond_split (fun hs => ?_) (fun hs => ?_) <;> simp (maxSteps := 1000000) only [go_sem, Nat.zero_add, Int.reduceLT, Int.reduceLE, Int.reduceToNat, Nat.reduceLT, eq_self, Int.toNat_zero, Int.toNat_one, Nat.reduceEqDiff, Nat.reduceAdd, Nat.reduceLeDiff, Nat.reduceSub, Nat.reduceMul, ↓reduceIte, reduceCtorEq, Nat.add_zero, Int.toNat_natCast, List.getElem?_map, Option.map_some, List.length_map, Int.cast_ofNat_Int, decide_true, decide_false]
  · refine Pub.of_eq ?_ (by simp [bdv, go_sem, AV.pur])
    rw [show boundsR b u d s = (⟨0, 0⟩, 10) by simp at hs; simp only [boundsR]; rw [if_pos h, if_neg (by omega)]]
    rfl
  simp at hs
  have h' := h
  simp only [List.all_cons, List.all_nil, Bool.and_true, Bool.and_eq_true, flow1_iff] at h'
  obtain ⟨hb, hu, hd⟩ := h'
  have m1 : 0 ≤ d * s := Int.mul_nonneg hd.1 hs.1
  have m2 : d * s ≤ 1073741824 * 4096 := Int.mul_le_mul hd.2 hs.2 hs.1 (by omega)
  have m3 : 0 ≤ u * s := Int.mul_nonneg hu.1 hs.1
  have m4 : u * s ≤ 1073741824 * 4096 := Int.mul_le_mul hu.2 hs.2 hs.1 (by omega)
  simp (maxSteps := 1000000) (disch := omega) only [go_sem, Nat.zero_add, Int.reduceLT, Int.reduceLE, Int.reduceToNat, Nat.reduceLT, eq_self, Int.toNat_zero, Int.toNat_one, Nat.reduceEqDiff, Nat.reduceAdd, Nat.reduceLeDiff, Nat.reduceSub, Nat.reduceMul, ↓reduceIte, reduceCtorEq, Nat.add_zero, Int.toNat_natCast, List.getElem?_map, Option.map_some, List.length_map, Int.cast_ofNat_Int, decide_true, decide_false, wrap_id]
  refine Pub.of_eq ?_ (by simp [bdv, go_sem, AV.pur])
  rw [show boundsR b u d s = (⟨max (b - d * s) 0, min (b + u * s) 1073741824⟩, 0) by simp only [boundsR]; rw [if_pos h, if_pos hs]]
  rfl
theorem upd_upd {α : Type} (f : Nat → α) (i : Nat) (x y : α) : upd (upd f i x) i y = upd f i y := by funext j; by_cases e : j = i <;> simp [upd, e]
theorem take_snoc {α : Type} (l : List α) (k : Nat) (h : k < l.length) : l.take (k + 1) = l.take k ++ [l[k]] := by rw [List.take_add_one, List.getElem?_eq_getElem h]; rfl
theorem bds_snoc (l : List Bd) (b : Bd) : bds l ++ [bdv b] = bds (l ++ [b]) := by simp [bds]
def okBd (b : Bd) : Prop := 0 ≤ b.lo ∧ b.lo ≤ 1073741824 ∧ 0 ≤ b.hi ∧ b.hi ≤ 1073741824
def meetR (a b : Bd) : Bd × Bool := if a.hi < a.lo ∨ b.hi < b.lo ∨ min a.hi b.hi < max a.lo b.lo then (⟨0, 0⟩, false) else (⟨max a.lo b.lo, min a.hi b.hi⟩, true)
def stepB (u d : Int) (f : Bd) : Bd := ⟨f.lo - d, f.hi + u⟩
def throughGo (u d : Int) : Bd → List Bd → Option (List Bd)
  | _, [] => some []
  | f, x :: r => if (meetR (stepB u d f) x).2 then (throughGo u d (meetR (stepB u d f) x).1 r).map ((meetR (stepB u d f) x).1 :: ·) else none
theorem meetR_ok {a b : Bd} (h : (meetR a b).2 = true) : (meetR a b).1 = ⟨max a.lo b.lo, min a.hi b.hi⟩ ∧ a.lo ≤ a.hi ∧ b.lo ≤ b.hi ∧ max a.lo b.lo ≤ min a.hi b.hi := by
  unfold meetR at h ⊢
  split at h
  · cases h
  · rename_i hh
    rw [if_neg hh]
    exact ⟨rfl, by omega, by omega, by omega⟩
theorem meetR_comm (a b : Bd) : meetR a b = meetR b a := by
  unfold meetR
  rw [Int.max_comm b.lo, Int.min_comm b.hi]
  by_cases h : a.hi < a.lo ∨ b.hi < b.lo ∨ min a.hi b.hi < max a.lo b.lo
  · rw [if_pos h, if_pos (by omega)]
  · rw [if_neg h, if_neg (by omega)]
theorem ok_quantity_Meet (a b : Bd) : PC prog n_quantity_Meet [bdv a, bdv b] (.tuple [bdv (meetR a b).1, .bool (meetR a b).2]) := by
  refine PC_of_body b_quantity_Meet (by simp) ?_
  simp only [c_quantity_Meet, go_sem, Nat.zero_add, Int.reduceLT, Int.reduceLE, Int.reduceToNat, Nat.reduceLT, eq_self, Int.toNat_zero, Int.toNat_one, Nat.reduceEqDiff, Nat.reduceAdd, Nat.reduceLeDiff, Nat.reduceSub, Nat.reduceMul, ↓reduceIte, reduceCtorEq, Nat.add_zero, Int.toNat_natCast, List.getElem?_map, Option.map_some, List.length_map, Int.cast_ofNat_Int, decide_true, decide_false, bdv]
  refine gd_fd rfl (fun h1 => ?_) (fun h1 => ?_) <;> simp (maxSteps := 1000000) only [go_sem, Nat.zero_add, Int.reduceLT, Int.reduceLE, Int.reduceToNat, Nat.reduceLT, eq_self, Int.toNat_zero, Int.toNat_one, Nat.reduceEqDiff, Nat.reduceAdd, Nat.reduceLeDiff, Nat.reduceSub, Nat.reduceMul, ↓reduceIte, reduceCtorEq, Nat.add_zero, Int.toNat_natCast, List.getElem?_map, Option.map_some, List.length_map, Int.cast_ofNat_Int, decide_true, decide_false]
  · exact Pub.of_eq (by unfold meetR; rw [if_pos (.inl h1)]) (by simp [go_sem, AV.pur])
  refine gd_fd rfl (fun h2 => ?_) (fun h2 => ?_) <;> simp (maxSteps := 1000000) only [go_sem, Nat.zero_add, Int.reduceLT, Int.reduceLE, Int.reduceToNat, Nat.reduceLT, eq_self, Int.toNat_zero, Int.toNat_one, Nat.reduceEqDiff, Nat.reduceAdd, Nat.reduceLeDiff, Nat.reduceSub, Nat.reduceMul, ↓reduceIte, reduceCtorEq, Nat.add_zero, Int.toNat_natCast, List.getElem?_map, Option.map_some, List.length_map, Int.cast_ofNat_Int, decide_true, decide_false]
  · exact Pub.of_eq (by unfold meetR; rw [if_pos (.inr (.inl h2))]) (by simp [go_sem, AV.pur])
  refine cond_d (fun h3 => ?_) (fun h3 => ?_) <;> simp (maxSteps := 1000000) only [go_sem, Nat.zero_add, Int.reduceLT, Int.reduceLE, Int.reduceToNat, Nat.reduceLT, eq_self, Int.toNat_zero, Int.toNat_one, Nat.reduceEqDiff, Nat.reduceAdd, Nat.reduceLeDiff, Nat.reduceSub, Nat.reduceMul, ↓reduceIte, reduceCtorEq, Nat.add_zero, Int.toNat_natCast, List.getElem?_map, Option.map_some, List.length_map, Int.cast_ofNat_Int, decide_true, decide_false]
  · exact Pub.of_eq (by unfold meetR; rw [if_pos (.inr (.inr h3))]) (by simp [go_sem, AV.pur])
  · exact Pub.of_eq (by unfold meetR; rw [if_neg (by omega)]) (by simp [go_sem, AV.pur])
theorem ok_ref01_Meet (a b : Bd) : PC prog n_ref01_Meet [bdv a, bdv b] (.tuple [bdv (meetR a b).1, .bool (meetR a b).2]) := by
  refine PC_of_body b_ref01_Meet (by simp) ?_
  simp only [c_ref01_Meet, go_sem, Nat.zero_add, Int.reduceLT, Int.reduceLE, Int.reduceToNat, Nat.reduceLT, eq_self, Int.toNat_zero, Int.toNat_one, Nat.reduceEqDiff, Nat.reduceAdd, Nat.reduceLeDiff, Nat.reduceSub, Nat.reduceMul, ↓reduceIte, reduceCtorEq, Nat.add_zero, Int.toNat_natCast, List.getElem?_map, Option.map_some, List.length_map, Int.cast_ofNat_Int, decide_true, decide_false, bdv]
  refine gd_fd rfl (fun h1 => ?_) (fun h1 => ?_) <;> simp (maxSteps := 1000000) only [go_sem, Nat.zero_add, Int.reduceLT, Int.reduceLE, Int.reduceToNat, Nat.reduceLT, eq_self, Int.toNat_zero, Int.toNat_one, Nat.reduceEqDiff, Nat.reduceAdd, Nat.reduceLeDiff, Nat.reduceSub, Nat.reduceMul, ↓reduceIte, reduceCtorEq, Nat.add_zero, Int.toNat_natCast, List.getElem?_map, Option.map_some, List.length_map, Int.cast_ofNat_Int, decide_true, decide_false]
  · exact Pub.of_eq (by unfold meetR; rw [if_pos (.inl h1)]) (by simp [go_sem, AV.pur])
  refine gd_fd rfl (fun h2 => ?_) (fun h2 => ?_) <;> simp (maxSteps := 1000000) only [go_sem, Nat.zero_add, Int.reduceLT, Int.reduceLE, Int.reduceToNat, Nat.reduceLT, eq_self, Int.toNat_zero, Int.toNat_one, Nat.reduceEqDiff, Nat.reduceAdd, Nat.reduceLeDiff, Nat.reduceSub, Nat.reduceMul, ↓reduceIte, reduceCtorEq, Nat.add_zero, Int.toNat_natCast, List.getElem?_map, Option.map_some, List.length_map, Int.cast_ofNat_Int, decide_true, decide_false]
  · exact Pub.of_eq (by unfold meetR; rw [if_pos (.inr (.inl h2))]) (by simp [go_sem, AV.pur])
  refine cond_d (fun h3 => ?_) (fun h3 => ?_) <;> simp (maxSteps := 1000000) only [go_sem, Nat.zero_add, Int.reduceLT, Int.reduceLE, Int.reduceToNat, Nat.reduceLT, eq_self, Int.toNat_zero, Int.toNat_one, Nat.reduceEqDiff, Nat.reduceAdd, Nat.reduceLeDiff, Nat.reduceSub, Nat.reduceMul, ↓reduceIte, reduceCtorEq, Nat.add_zero, Int.toNat_natCast, List.getElem?_map, Option.map_some, List.length_map, Int.cast_ofNat_Int, decide_true, decide_false]
  · exact Pub.of_eq (by unfold meetR; rw [if_pos (.inr (.inr h3))]) (by simp [go_sem, AV.pur])
  · exact Pub.of_eq (by unfold meetR; rw [if_neg (by omega)]) (by simp [go_sem, AV.pur])
theorem ok_ramp_through (f : Bd) (due : List Bd) (u d : Int) (hl : due.length ≤ 4096) (hu : 0 ≤ u ∧ u ≤ 1073741824) (hd : 0 ≤ d ∧ d ≤ 1073741824) (hf : okBd f) (hdue : ∀ x ∈ due, okBd x) :
    PC prog n_ramp_through [bdv f, .list 2 (bds due), .int .i64 u, .int .i64 d] (.tuple [.list 2 (bds ((throughGo u d f due).getD [])), .bool (throughGo u d f due).isSome]) := by
  refine PC_of_body b_ramp_through (by simp) ?_
  simp only [c_ramp_through, go_sem, Nat.zero_add, Int.reduceLT, Int.reduceLE, Int.reduceToNat, Nat.reduceLT, eq_self, Int.toNat_zero, Int.toNat_one, Nat.reduceEqDiff, Nat.reduceAdd, Nat.reduceLeDiff, Nat.reduceSub, Nat.reduceMul, ↓reduceIte, reduceCtorEq, Nat.add_zero, Int.toNat_natCast, List.getElem?_map, Option.map_some, List.length_map, Int.cast_ofNat_Int, decide_true, decide_false, bds_length]
  refine ⟨by simp [bdv, go_sem], by simp [bdv, go_sem], ?_⟩
  refine awp_upF [8, 9, 10, 12, 13, 14, 17, 18, 19, 20, 21, 22, 23, 24, 25, 26, 27, 28, 29, 30, 31, 32, 33, 34, 35, 36, 37, 38, 39, 40, 41, 42] (by kernel_rfl) due.length (fun r e σ => ∃ g f' L, e 10 = .sl 1 g 2 0 r ∧ e 17 = .int .i64 r ∧ σ.ob 0 = some ⟨0, 2, 35, false, true, [bdv f']⟩ ∧ σ.ob 1 = some ⟨g, 2, 35, false, true, bds L⟩ ∧ L.length = r ∧ okBd f' ∧ throughGo u d f due = (throughGo u d f' (due.drop r)).map (L ++ ·)) ?_ ?_
  · exact ⟨_, f, [], (by first | ((try simp (maxSteps := 1000000) only [go_sem, Nat.zero_add, Int.reduceLT, Int.reduceLE, Int.reduceToNat, Nat.reduceLT, eq_self, Int.toNat_zero, Int.toNat_one, Nat.reduceEqDiff, Nat.reduceAdd, Nat.reduceLeDiff, Nat.reduceSub, Nat.reduceMul, ↓reduceIte, reduceCtorEq, Nat.add_zero, Int.toNat_natCast, List.getElem?_map, Option.map_some, List.length_map, Int.cast_ofNat_Int, decide_true, decide_false]); done) | ((try simp (maxSteps := 1000000) only [go_sem, Nat.zero_add, Int.reduceLT, Int.reduceLE, Int.reduceToNat, Nat.reduceLT, eq_self, Int.toNat_zero, Int.toNat_one, Nat.reduceEqDiff, Nat.reduceAdd, Nat.reduceLeDiff, Nat.reduceSub, Nat.reduceMul, ↓reduceIte, reduceCtorEq, Nat.add_zero, Int.toNat_natCast, List.getElem?_map, Option.map_some, List.length_map, Int.cast_ofNat_Int, decide_true, decide_false]); rfl)), (by first | ((try simp (maxSteps := 1000000) only [go_sem, Nat.zero_add, Int.reduceLT, Int.reduceLE, Int.reduceToNat, Nat.reduceLT, eq_self, Int.toNat_zero, Int.toNat_one, Nat.reduceEqDiff, Nat.reduceAdd, Nat.reduceLeDiff, Nat.reduceSub, Nat.reduceMul, ↓reduceIte, reduceCtorEq, Nat.add_zero, Int.toNat_natCast, List.getElem?_map, Option.map_some, List.length_map, Int.cast_ofNat_Int, decide_true, decide_false]); done) | ((try simp (maxSteps := 1000000) only [go_sem, Nat.zero_add, Int.reduceLT, Int.reduceLE, Int.reduceToNat, Nat.reduceLT, eq_self, Int.toNat_zero, Int.toNat_one, Nat.reduceEqDiff, Nat.reduceAdd, Nat.reduceLeDiff, Nat.reduceSub, Nat.reduceMul, ↓reduceIte, reduceCtorEq, Nat.add_zero, Int.toNat_natCast, List.getElem?_map, Option.map_some, List.length_map, Int.cast_ofNat_Int, decide_true, decide_false]); rfl)), by simp [go_sem], by simp [go_sem, bds], rfl, hf, by simp⟩
  · rintro r fe ob c hr ⟨g, f', L, h10, h17, ho0, ho1, hL, hf', hgo⟩
    simp (maxSteps := 1000000) only [go_sem, Nat.zero_add, Int.reduceLT, Int.reduceLE, Int.reduceToNat, Nat.reduceLT, eq_self, Int.toNat_zero, Int.toNat_one, Nat.reduceEqDiff, Nat.reduceAdd, Nat.reduceLeDiff, Nat.reduceSub, Nat.reduceMul, ↓reduceIte, reduceCtorEq, Nat.add_zero, Int.toNat_natCast, List.getElem?_map, Option.map_some, List.length_map, Int.cast_ofNat_Int, decide_true, decide_false] at h10 h17 ho0 ho1
    simp (maxSteps := 1000000) only [go_sem, Nat.zero_add, Int.reduceLT, Int.reduceLE, Int.reduceToNat, Nat.reduceLT, eq_self, Int.toNat_zero, Int.toNat_one, Nat.reduceEqDiff, Nat.reduceAdd, Nat.reduceLeDiff, Nat.reduceSub, Nat.reduceMul, ↓reduceIte, reduceCtorEq, Nat.add_zero, Int.toNat_natCast, List.getElem?_map, Option.map_some, List.length_map, Int.cast_ofNat_Int, decide_true, decide_false, h17]
    refine cond_d (fun hlt => ?_) (fun hge => ?_)
    · have hrl : r < due.length := by omega
      have hx := hdue _ (List.getElem_mem hrl)
      rw [List.drop_eq_getElem_cons hrl, throughGo] at hgo
      unfold okBd at hx hf'
      simp (maxSteps := 1000000) (disch := omega) only [go_sem, Nat.zero_add, Int.reduceLT, Int.reduceLE, Int.reduceToNat, Nat.reduceLT, eq_self, Int.toNat_zero, Int.toNat_one, Nat.reduceEqDiff, Nat.reduceAdd, Nat.reduceLeDiff, Nat.reduceSub, Nat.reduceMul, ↓reduceIte, reduceCtorEq, Nat.add_zero, Int.toNat_natCast, List.getElem?_map, Option.map_some, List.length_map, Int.cast_ofNat_Int, decide_true, decide_false, wrap_id, bds_length, bds_get, List.getElem?_eq_getElem hrl, h10, h17, ho0, ho1, bdv]
      repeat (refine And.intro (by first | omega | (simp [maxLen]; done) | (simp [maxLen]; omega)) ?_)
      refine call_pc (ok_quantity_Meet (stepB u d f') due[r]) (by simp [go_sem, bdv]) ?_
      cases hm : (meetR (stepB u d f') due[r]).2
      · rw [if_neg (by rw [hm]; simp)] at hgo
        simp (maxSteps := 1000000) only [go_sem, Nat.zero_add, Int.reduceLT, Int.reduceLE, Int.reduceToNat, Nat.reduceLT, eq_self, Int.toNat_zero, Int.toNat_one, Nat.reduceEqDiff, Nat.reduceAdd, Nat.reduceLeDiff, Nat.reduceSub, Nat.reduceMul, ↓reduceIte, reduceCtorEq, Nat.add_zero, Int.toNat_natCast, List.getElem?_map, Option.map_some, List.length_map, Int.cast_ofNat_Int, decide_true, decide_false, bdv, hm, hgo, Option.map_none]
        exact Pub.pair (.nl 2) (.pure rfl)
      · rw [if_pos hm] at hgo
        obtain ⟨hm1, hm2, hm3, hm4⟩ := meetR_ok hm
        simp (maxSteps := 1000000) (disch := omega) only [go_sem, Nat.zero_add, Int.reduceLT, Int.reduceLE, Int.reduceToNat, Nat.reduceLT, eq_self, Int.toNat_zero, Int.toNat_one, Nat.reduceEqDiff, Nat.reduceAdd, Nat.reduceLeDiff, Nat.reduceSub, Nat.reduceMul, ↓reduceIte, reduceCtorEq, Nat.add_zero, Int.toNat_natCast, List.getElem?_map, Option.map_some, List.length_map, Int.cast_ofNat_Int, decide_true, decide_false, wrap_id, bdv, hm, h10, h17, ho0, ho1]
        repeat (refine And.intro (by first | omega | (simp [maxLen]; done) | (simp [maxLen]; omega)) ?_)
        refine ⟨by simp [bds_length, hL], by simp [maxLen]; omega, by omega, ?_⟩
        try repeat (refine And.intro (by first | omega | (simp [maxLen]; done) | (simp [maxLen]; omega)) ?_)
        refine up_next hrl ⟨_, (meetR (stepB u d f') due[r]).1, L ++ [(meetR (stepB u d f') due[r]).1], (by first | ((try simp (maxSteps := 1000000) only [go_sem, Nat.zero_add, Int.reduceLT, Int.reduceLE, Int.reduceToNat, Nat.reduceLT, eq_self, Int.toNat_zero, Int.toNat_one, Nat.reduceEqDiff, Nat.reduceAdd, Nat.reduceLeDiff, Nat.reduceSub, Nat.reduceMul, ↓reduceIte, reduceCtorEq, Nat.add_zero, Int.toNat_natCast, List.getElem?_map, Option.map_some, List.length_map, Int.cast_ofNat_Int, decide_true, decide_false]); done) | ((try simp (maxSteps := 1000000) only [go_sem, Nat.zero_add, Int.reduceLT, Int.reduceLE, Int.reduceToNat, Nat.reduceLT, eq_self, Int.toNat_zero, Int.toNat_one, Nat.reduceEqDiff, Nat.reduceAdd, Nat.reduceLeDiff, Nat.reduceSub, Nat.reduceMul, ↓reduceIte, reduceCtorEq, Nat.add_zero, Int.toNat_natCast, List.getElem?_map, Option.map_some, List.length_map, Int.cast_ofNat_Int, decide_true, decide_false]); rfl)), (by first | ((try simp (maxSteps := 1000000) only [go_sem, Nat.zero_add, Int.reduceLT, Int.reduceLE, Int.reduceToNat, Nat.reduceLT, eq_self, Int.toNat_zero, Int.toNat_one, Nat.reduceEqDiff, Nat.reduceAdd, Nat.reduceLeDiff, Nat.reduceSub, Nat.reduceMul, ↓reduceIte, reduceCtorEq, Nat.add_zero, Int.toNat_natCast, List.getElem?_map, Option.map_some, List.length_map, Int.cast_ofNat_Int, decide_true, decide_false]); done) | ((try simp (maxSteps := 1000000) only [go_sem, Nat.zero_add, Int.reduceLT, Int.reduceLE, Int.reduceToNat, Nat.reduceLT, eq_self, Int.toNat_zero, Int.toNat_one, Nat.reduceEqDiff, Nat.reduceAdd, Nat.reduceLeDiff, Nat.reduceSub, Nat.reduceMul, ↓reduceIte, reduceCtorEq, Nat.add_zero, Int.toNat_natCast, List.getElem?_map, Option.map_some, List.length_map, Int.cast_ofNat_Int, decide_true, decide_false]); rfl)), by simp [go_sem, bdv], ?_, by simp [hL], ?_, ?_⟩
        · simp [go_sem, bds, bdv]
        · rw [hm1]; unfold okBd; simp only [stepB] at hm4 ⊢; omega
        · rw [hgo, Option.map_map]; congr 1; funext z; simp
    · simp (maxSteps := 1000000) only [go_sem, Nat.zero_add, Int.reduceLT, Int.reduceLE, Int.reduceToNat, Nat.reduceLT, eq_self, Int.toNat_zero, Int.toNat_one, Nat.reduceEqDiff, Nat.reduceAdd, Nat.reduceLeDiff, Nat.reduceSub, Nat.reduceMul, ↓reduceIte, reduceCtorEq, Nat.add_zero, Int.toNat_natCast, List.getElem?_map, Option.map_some, List.length_map, Int.cast_ofNat_Int, decide_true, decide_false, h10]
      rw [hgo, List.drop_of_length_le (by omega)]
      simp only [throughGo, Option.map_some, Option.getD_some, List.append_nil, Option.isSome_some]
      exact Pub.pair (Pub.of_sl ho1 (by simp [bds_length, hL]) (bds_pur _) (bds_ok _)) (.pure rfl)
/-- A new object with these elements, behind one that is forgotten. -/
def NewSl (σ : St) (es : Nat) (ty : TypeId) (l : List AV) (r : AV) (σ' : St) : Prop := ∃ g c, r = .sl (σ.n + 1) g es 0 l.length ∧ σ' = ⟨upd (upd σ.ob σ.n none) (σ.n + 1) (some ⟨g, es, ty, false, true, l⟩), σ.n + 2, c⟩
def NewSl1 (σ : St) (es : Nat) (ty : TypeId) (l : List AV) (r : AV) (σ' : St) : Prop := ∃ g c o, r = .sl (σ.n + 1) g es 0 l.length ∧ σ' = ⟨upd (upd σ.ob σ.n (some o)) (σ.n + 1) (some ⟨g, es, ty, false, true, l⟩), σ.n + 2, c⟩
theorem HC.new {f : Nat} {args : List AV} {σ : St} {es : Nat} {ty : TypeId} {l : List AV} (h : HC prog f args σ (NewSl1 σ es ty l)) : HC prog f args σ (NewSl σ es ty l) := by
  refine h.sub ?_
  rintro r σ' ⟨g, c, o, rfl, rfl⟩
  refine ⟨_, ?_, g, c, rfl, rfl⟩
  intro i o' h
  simp only [upd] at h ⊢
  split at h
  · rename_i hi; rw [if_pos hi]; exact h
  · rename_i hi
    rw [if_neg hi]
    split at h
    · cases h
    · rename_i h2; rw [if_neg h2]; exact h
/-- An object is laid anew; of the others those below are left. -/
def PutAt (σ : St) (id : Nat) (o : AObj) (v : AV) (r : AV) (σ' : St) : Prop := r = v ∧ ∃ c, σ' = ⟨upd (fun i => if i < σ.n then σ.ob i else none) id (some o), σ.n, c⟩
def PutAt0 (σ : St) (id : Nat) (o : AObj) (v : AV) (r : AV) (σ' : St) : Prop := r = v ∧ σ'.n = σ.n ∧ σ'.ob id = some o ∧ ∀ i, i < σ.n → i ≠ id → σ'.ob i = σ.ob i
theorem HC.putAt {f : Nat} {args : List AV} {σ : St} {id : Nat} {o : AObj} {v : AV} (h : HC prog f args σ (PutAt0 σ id o v)) : HC prog f args σ (PutAt σ id o v) := by
  refine h.sub ?_
  rintro r σ' ⟨rfl, hn, ho, hlt⟩
  refine ⟨upd (fun i => if i < σ.n then σ.ob i else none) id (some o), ?_, rfl, σ'.c, by rw [hn]⟩
  intro i o' h
  simp only [upd] at h
  split at h
  · rename_i hi; rw [hi, ho]; exact h
  · rename_i hne
    split at h
    · rename_i hi; rw [hlt i hi hne]; exact h
    · cases h
/-- the first r elements and the last r have changed places -/
def revP {α : Type} [Inhabited α] (l : List α) (r : Nat) : List α := (List.range l.length).map fun k => if k < r ∨ l.length - r ≤ k then l.getD (l.length - 1 - k) default else l.getD k default
theorem revP_length {α : Type} [Inhabited α] (l : List α) (r : Nat) : (revP l r).length = l.length := by simp [revP]
theorem revP_get {α : Type} [Inhabited α] (l : List α) (r k : Nat) (h : k < l.length) : (revP l r)[k]? = some (if k < r ∨ l.length - r ≤ k then l.getD (l.length - 1 - k) default else l.getD k default) := by simp [revP, h]
theorem revP_zero {α : Type} [Inhabited α] (l : List α) : revP l 0 = l := by
  apply List.ext_getElem? ; intro k
  by_cases h : k < l.length
  · rw [revP_get l 0 k h, if_neg (by omega), List.getD_eq_getElem?_getD, List.getElem?_eq_getElem h]; rfl
  · rw [List.getElem?_eq_none (by rw [revP_length]; omega), List.getElem?_eq_none (by omega)]
theorem revP_end {α : Type} [Inhabited α] (l : List α) (r : Nat) (h : l.length ≤ 2 * r + 1) : revP l r = l.reverse := by
  apply List.ext_getElem? ; intro k
  by_cases hk : k < l.length
  · rw [revP_get l r k hk, List.getElem?_reverse hk]
    split
    · rw [List.getD_eq_getElem?_getD, List.getElem?_eq_getElem (by omega)]; rfl
    · have : l.length - 1 - k = k := by omega
      rw [this, List.getD_eq_getElem?_getD, List.getElem?_eq_getElem hk]; rfl
  · rw [List.getElem?_eq_none (by rw [revP_length]; omega), List.getElem?_eq_none (by simp; omega)]
theorem revP_step {α : Type} [Inhabited α] (l : List α) (r : Nat) (h : r < l.length - 1 - r) (x y : α) (hx : (revP l r)[l.length - 1 - r]? = some x) (hy : (revP l r)[r]? = some y) : ((revP l r).set r x).set (l.length - 1 - r) y = revP l (r + 1) := by
  rw [revP_get l r _ (by omega), if_neg (by omega)] at hx
  rw [revP_get l r _ (by omega), if_neg (by omega)] at hy
  have hx := Option.some.inj hx
  have hy := Option.some.inj hy
  apply List.ext_getElem? ; intro k
  by_cases hk : k < l.length
  · rw [revP_get l (r + 1) k hk, List.getElem?_set, List.getElem?_set, revP_get l r k hk]
    simp only [List.length_set, revP_length]
    by_cases e1 : l.length - 1 - r = k
    · rw [if_pos e1, if_pos (by omega), if_pos (by omega), ← hy, show l.length - 1 - k = r by omega]
    · rw [if_neg e1]
      by_cases e2 : r = k
      · rw [if_pos e2, if_pos (by omega), if_pos (by omega), ← hx, show l.length - 1 - k = l.length - 1 - r by omega]
      · rw [if_neg e2]
        congr 1
        by_cases e3 : k < r ∨ l.length - r ≤ k
        · rw [if_pos e3, if_pos (by omega)]
        · rw [if_neg e3, if_neg (by omega)]
  · rw [List.getElem?_eq_none (by simp [revP_length]; omega), List.getElem?_eq_none (by rw [revP_length]; omega)]
theorem bds_set (l : List Bd) (i : Nat) (b : Bd) : (bds l).set i (bdv b) = bds (l.set i b) := by simp [bds, List.map_set]
theorem hc_slices_Clone__Bounds (σ : St) (l : List Bd) (hl : l.length * 16 ≤ 140737488355328) : HC prog n_slices_Clone__Bounds [.list 2 (bds l)] σ (NewSl σ 2 35 (bds l)) := by
  refine HC.new (HC_of_body b_slices_Clone__Bounds (by simp) ?_)
  obtain ⟨ob, n, c⟩ := σ
  simp only [c_slices_Clone__Bounds, go_sem, Nat.zero_add, Int.reduceLT, Int.reduceLE, Int.reduceToNat, Nat.reduceLT, eq_self, Int.toNat_zero, Int.toNat_one, Nat.reduceEqDiff, Nat.reduceAdd, Nat.reduceLeDiff, Nat.reduceSub, Nat.reduceMul, ↓reduceIte, reduceCtorEq, Nat.add_zero, Int.toNat_natCast, List.getElem?_map, Option.map_some, List.length_map, Int.cast_ofNat_Int, decide_true, decide_false]
  have hn1 : ¬ n + 1 = n := by omega
  refine isnil_l (fun h => ?_) (fun h => ?_)
  · have : l = [] := by cases l <;> simp_all [bds]
    subst this
    refine ⟨?_, ?_⟩
    · try simp (maxSteps := 1000000) only [go_sem, Nat.zero_add, Int.reduceLT, Int.reduceLE, Int.reduceToNat, Nat.reduceLT, eq_self, Int.toNat_zero, Int.toNat_one, Nat.reduceEqDiff, Nat.reduceAdd, Nat.reduceLeDiff, Nat.reduceSub, Nat.reduceMul, ↓reduceIte, reduceCtorEq, Nat.add_zero, Int.toNat_natCast, List.getElem?_map, Option.map_some, List.length_map, Int.cast_ofNat_Int, decide_true, decide_false]
      exact ⟨_, _, _, rfl, rfl⟩
    · simp (maxSteps := 1000000) only [go_sem, Nat.zero_add, Int.reduceLT, Int.reduceLE, Int.reduceToNat, Nat.reduceLT, eq_self, Int.toNat_zero, Int.toNat_one, Nat.reduceEqDiff, Nat.reduceAdd, Nat.reduceLeDiff, Nat.reduceSub, Nat.reduceMul, ↓reduceIte, reduceCtorEq, Nat.add_zero, Int.toNat_natCast, List.getElem?_map, Option.map_some, List.length_map, Int.cast_ofNat_Int, decide_true, decide_false, bds_length, hn1]
      repeat (refine And.intro (by first | omega | (simp [maxLen]; done) | (simp [maxLen]; omega)) ?_)
      exact ⟨_, _, _, rfl, by rw [upd_upd]⟩
  · simp (maxSteps := 1000000) only [go_sem, Nat.zero_add, Int.reduceLT, Int.reduceLE, Int.reduceToNat, Nat.reduceLT, eq_self, Int.toNat_zero, Int.toNat_one, Nat.reduceEqDiff, Nat.reduceAdd, Nat.reduceLeDiff, Nat.reduceSub, Nat.reduceMul, ↓reduceIte, reduceCtorEq, Nat.add_zero, Int.toNat_natCast, List.getElem?_map, Option.map_some, List.length_map, Int.cast_ofNat_Int, decide_true, decide_false, bds_length, hn1]
    repeat (refine And.intro (by first | omega | (simp [maxLen]; done) | (simp [maxLen]; omega)) ?_)
    exact ⟨_, _, _, by rw [bds_length], by rw [upd_upd]⟩
theorem hc_slices_Reverse__Bounds (σ : St) (id g : Nat) (ty : TypeId) (ap : Bool) (l : List Bd) (hl : l.length ≤ 4611686018427387904) (hid : id < σ.n) (hob : σ.ob id = some ⟨g, 2, ty, false, ap, bds l⟩) :
    HC prog n_slices_Reverse__Bounds [.sl id g 2 0 l.length] σ (PutAt σ id ⟨g, 2, ty, false, ap, bds l.reverse⟩ (.tuple [])) := by
  refine HC.putAt (HC_of_body b_slices_Reverse__Bounds (by simp) ?_)
  obtain ⟨ob0, n0, c0⟩ := σ
  simp only at hid hob
  simp (disch := omega) only [c_slices_Reverse__Bounds, go_sem, Nat.zero_add, Int.reduceLT, Int.reduceLE, Int.reduceToNat, Nat.reduceLT, eq_self, Int.toNat_zero, Int.toNat_one, Nat.reduceEqDiff, Nat.reduceAdd, Nat.reduceLeDiff, Nat.reduceSub, Nat.reduceMul, ↓reduceIte, reduceCtorEq, Nat.add_zero, Int.toNat_natCast, List.getElem?_map, Option.map_some, List.length_map, Int.cast_ofNat_Int, decide_true, decide_false, wrap_id]
  refine awp_upF [2, 3, 7, 8, 9, 10, 11, 12, 13, 14, 15, 16, 17, 18, 19, 20, 21, 22, 23, 24, 25, 26, 27] (by kernel_rfl) (l.length / 2) (fun r e σ => e 2 = .int .i64 r ∧ e 3 = .int .i64 ((l.length : Int) - 1 - r) ∧ σ.ob id = some ⟨g, 2, ty, false, ap, bds (revP l r)⟩ ∧ ∀ i, i < n0 → i ≠ id → σ.ob i = ob0 i) ?_ ?_
  · exact ⟨(by first | ((try simp (maxSteps := 1000000) only [go_sem, Nat.zero_add, Int.reduceLT, Int.reduceLE, Int.reduceToNat, Nat.reduceLT, eq_self, Int.toNat_zero, Int.toNat_one, Nat.reduceEqDiff, Nat.reduceAdd, Nat.reduceLeDiff, Nat.reduceSub, Nat.reduceMul, ↓reduceIte, reduceCtorEq, Nat.add_zero, Int.toNat_natCast, List.getElem?_map, Option.map_some, List.length_map, Int.cast_ofNat_Int, decide_true, decide_false]); done) | ((try simp (maxSteps := 1000000) only [go_sem, Nat.zero_add, Int.reduceLT, Int.reduceLE, Int.reduceToNat, Nat.reduceLT, eq_self, Int.toNat_zero, Int.toNat_one, Nat.reduceEqDiff, Nat.reduceAdd, Nat.reduceLeDiff, Nat.reduceSub, Nat.reduceMul, ↓reduceIte, reduceCtorEq, Nat.add_zero, Int.toNat_natCast, List.getElem?_map, Option.map_some, List.length_map, Int.cast_ofNat_Int, decide_true, decide_false]); rfl)), by simp [go_sem], by rw [revP_zero]; exact hob, fun i _ _ => rfl⟩
  · rintro r fe ob c hr ⟨h2, h3, hob2, hlt0⟩
    simp (maxSteps := 1000000) only [go_sem, Nat.zero_add, Int.reduceLT, Int.reduceLE, Int.reduceToNat, Nat.reduceLT, eq_self, Int.toNat_zero, Int.toNat_one, Nat.reduceEqDiff, Nat.reduceAdd, Nat.reduceLeDiff, Nat.reduceSub, Nat.reduceMul, ↓reduceIte, reduceCtorEq, Nat.add_zero, Int.toNat_natCast, List.getElem?_map, Option.map_some, List.length_map, Int.cast_ofNat_Int, decide_true, decide_false] at h2 h3 hob2 hlt0
    simp (maxSteps := 1000000) only [go_sem, Nat.zero_add, Int.reduceLT, Int.reduceLE, Int.reduceToNat, Nat.reduceLT, eq_self, Int.toNat_zero, Int.toNat_one, Nat.reduceEqDiff, Nat.reduceAdd, Nat.reduceLeDiff, Nat.reduceSub, Nat.reduceMul, ↓reduceIte, reduceCtorEq, Nat.add_zero, Int.toNat_natCast, List.getElem?_map, Option.map_some, List.length_map, Int.cast_ofNat_Int, decide_true, decide_false, h2, h3]
    refine cond_d (fun hlt => ?_) (fun hge => ?_)
    · have hrr : r < l.length - 1 - r := by omega
      obtain ⟨x, hx⟩ : ∃ x, (revP l r)[l.length - 1 - r]? = some x := ⟨_, List.getElem?_eq_getElem (by rw [revP_length]; omega)⟩
      obtain ⟨y, hy⟩ : ∃ y, (revP l r)[r]? = some y := ⟨_, List.getElem?_eq_getElem (by rw [revP_length]; omega)⟩
      have hj : ((l.length : Int) - 1 - (r : Int)).toNat = l.length - 1 - r := by omega
      have hlx : ∀ (z : Bd) (i : Nat), (bds ((revP l r).set i z)).length = l.length := fun z i => by simp [bds, revP_length]
      have hy2 : ((revP l r).set r x)[l.length - 1 - r]? = some x := by rw [List.getElem?_set_ne (by omega)]; exact hx
      have hs1 : (bds (revP l r)).set r (.agg [.int .i64 x.lo, .int .i64 x.hi]) = bds ((revP l r).set r x) := bds_set _ _ _
      have hs2 : (bds ((revP l r).set r x)).set (l.length - 1 - r) (.agg [.int .i64 y.lo, .int .i64 y.hi]) = bds (revP l (r + 1)) := by
        rw [← revP_step l r hrr x y hx hy]; exact bds_set _ _ _
      simp (maxSteps := 1000000) (disch := omega) only [go_sem, Nat.zero_add, Int.reduceLT, Int.reduceLE, Int.reduceToNat, Nat.reduceLT, eq_self, Int.toNat_zero, Int.toNat_one, Nat.reduceEqDiff, Nat.reduceAdd, Nat.reduceLeDiff, Nat.reduceSub, Nat.reduceMul, ↓reduceIte, reduceCtorEq, Nat.add_zero, Int.toNat_natCast, List.getElem?_map, Option.map_some, List.length_map, Int.cast_ofNat_Int, decide_true, decide_false, h2, h3, hob2, wrap_id, bds_length, bds_get, revP_length, hj, hx, hy, bdv, hs1, hs2, hy2]
      repeat (refine And.intro (by first | omega | (simp [maxLen]; done) | (simp [maxLen]; omega)) ?_)
      refine up_next (by omega) ⟨(by first | ((try simp (maxSteps := 1000000) only [go_sem, Nat.zero_add, Int.reduceLT, Int.reduceLE, Int.reduceToNat, Nat.reduceLT, eq_self, Int.toNat_zero, Int.toNat_one, Nat.reduceEqDiff, Nat.reduceAdd, Nat.reduceLeDiff, Nat.reduceSub, Nat.reduceMul, ↓reduceIte, reduceCtorEq, Nat.add_zero, Int.toNat_natCast, List.getElem?_map, Option.map_some, List.length_map, Int.cast_ofNat_Int, decide_true, decide_false]); done) | ((try simp (maxSteps := 1000000) only [go_sem, Nat.zero_add, Int.reduceLT, Int.reduceLE, Int.reduceToNat, Nat.reduceLT, eq_self, Int.toNat_zero, Int.toNat_one, Nat.reduceEqDiff, Nat.reduceAdd, Nat.reduceLeDiff, Nat.reduceSub, Nat.reduceMul, ↓reduceIte, reduceCtorEq, Nat.add_zero, Int.toNat_natCast, List.getElem?_map, Option.map_some, List.length_map, Int.cast_ofNat_Int, decide_true, decide_false]); rfl)), ?_, ?_, ?_⟩
      · (try simp (maxSteps := 1000000) only [go_sem, Nat.zero_add, Int.reduceLT, Int.reduceLE, Int.reduceToNat, Nat.reduceLT, eq_self, Int.toNat_zero, Int.toNat_one, Nat.reduceEqDiff, Nat.reduceAdd, Nat.reduceLeDiff, Nat.reduceSub, Nat.reduceMul, ↓reduceIte, reduceCtorEq, Nat.add_zero, Int.toNat_natCast, List.getElem?_map, Option.map_some, List.length_map, Int.cast_ofNat_Int, decide_true, decide_false]); congr 1; omega
      · simp (maxSteps := 1000000) only [go_sem, Nat.zero_add, Int.reduceLT, Int.reduceLE, Int.reduceToNat, Nat.reduceLT, eq_self, Int.toNat_zero, Int.toNat_one, Nat.reduceEqDiff, Nat.reduceAdd, Nat.reduceLeDiff, Nat.reduceSub, Nat.reduceMul, ↓reduceIte, reduceCtorEq, Nat.add_zero, Int.toNat_natCast, List.getElem?_map, Option.map_some, List.length_map, Int.cast_ofNat_Int, decide_true, decide_false, hid]
      · intro i hi hne
        simp (maxSteps := 1000000) only [go_sem, Nat.zero_add, Int.reduceLT, Int.reduceLE, Int.reduceToNat, Nat.reduceLT, eq_self, Int.toNat_zero, Int.toNat_one, Nat.reduceEqDiff, Nat.reduceAdd, Nat.reduceLeDiff, Nat.reduceSub, Nat.reduceMul, ↓reduceIte, reduceCtorEq, Nat.add_zero, Int.toNat_natCast, List.getElem?_map, Option.map_some, List.length_map, Int.cast_ofNat_Int, decide_true, decide_false, hi, hne]
        exact hlt0 i hi hne
    · try simp (maxSteps := 1000000) only [go_sem, Nat.zero_add, Int.reduceLT, Int.reduceLE, Int.reduceToNat, Nat.reduceLT, eq_self, Int.toNat_zero, Int.toNat_one, Nat.reduceEqDiff, Nat.reduceAdd, Nat.reduceLeDiff, Nat.reduceSub, Nat.reduceMul, ↓reduceIte, reduceCtorEq, Nat.add_zero, Int.toNat_natCast, List.getElem?_map, Option.map_some, List.length_map, Int.cast_ofNat_Int, decide_true, decide_false]
      refine ⟨rfl, rfl, ?_, hlt0⟩
      rw [revP_end l r (by omega)] at hob2
      exact hob2
theorem ok_ramp_reversed__Bounds (l : List Bd) (hl : l.length ≤ 1000000) : PC prog n_ramp_reversed__Bounds [.list 2 (bds l)] (.list 2 (bds l.reverse)) := by
  refine PC_of_body b_ramp_reversed__Bounds (by simp) ?_
  simp only [c_ramp_reversed__Bounds, go_sem, Nat.zero_add, Int.reduceLT, Int.reduceLE, Int.reduceToNat, Nat.reduceLT, eq_self, Int.toNat_zero, Int.toNat_one, Nat.reduceEqDiff, Nat.reduceAdd, Nat.reduceLeDiff, Nat.reduceSub, Nat.reduceMul, ↓reduceIte, reduceCtorEq, Nat.add_zero, Int.toNat_natCast, List.getElem?_map, Option.map_some, List.length_map, Int.cast_ofNat_Int, decide_true, decide_false]
  refine HC.mono (hc_slices_Clone__Bounds _ l (by omega)) ?_
  rintro v σ' ⟨g, c, rfl, rfl⟩
  simp (maxSteps := 1000000) only [go_sem, Nat.zero_add, Int.reduceLT, Int.reduceLE, Int.reduceToNat, Nat.reduceLT, eq_self, Int.toNat_zero, Int.toNat_one, Nat.reduceEqDiff, Nat.reduceAdd, Nat.reduceLeDiff, Nat.reduceSub, Nat.reduceMul, ↓reduceIte, reduceCtorEq, Nat.add_zero, Int.toNat_natCast, List.getElem?_map, Option.map_some, List.length_map, Int.cast_ofNat_Int, decide_true, decide_false, bds_length]
  refine HC.mono (hc_slices_Reverse__Bounds _ 1 g _ true l (by omega) (by simp) (by simp [go_sem]; rfl)) ?_
  rintro v σ' ⟨rfl, c, rfl⟩
  try simp (maxSteps := 1000000) only [go_sem, Nat.zero_add, Int.reduceLT, Int.reduceLE, Int.reduceToNat, Nat.reduceLT, eq_self, Int.toNat_zero, Int.toNat_one, Nat.reduceEqDiff, Nat.reduceAdd, Nat.reduceLeDiff, Nat.reduceSub, Nat.reduceMul, ↓reduceIte, reduceCtorEq, Nat.add_zero, Int.toNat_natCast, List.getElem?_map, Option.map_some, List.length_map, Int.cast_ofNat_Int, decide_true, decide_false]
  exact Pub.of_sl (ty := 35) (ro := false) (ap := true) (by simp [upd]) (by simp [bds]) (bds_pur _) (bds_ok _)
theorem ok_slices_IndexFunc__Bounds (l : List Bd) (hl : l.length ≤ 9223372036854775807) (f : Nat) (p : Bd → Bool) (hp : ∀ x ∈ l, PC prog f [bdv x] (.bool (p x))) :
    PC prog n_slices_IndexFunc__Bounds [.list 2 (bds l), .func f []] (.int .i64 (firstIdx p l)) := by
  refine PC_of_body b_slices_IndexFunc__Bounds (by simp) ?_
  simp only [c_slices_IndexFunc__Bounds, go_sem, Nat.zero_add, Int.reduceLT, Int.reduceLE, Int.reduceToNat, Nat.reduceLT, eq_self, Int.toNat_zero, Int.toNat_one, Nat.reduceEqDiff, Nat.reduceAdd, Nat.reduceLeDiff, Nat.reduceSub, Nat.reduceMul, ↓reduceIte, reduceCtorEq, Nat.add_zero, Int.toNat_natCast, List.getElem?_map, Option.map_some, List.length_map, Int.cast_ofNat_Int, decide_true, decide_false, bds_length]
  refine awp_upF [4, 5, 8, 9, 10, 11, 12, 13, 14, 15, 16, 17, 18] (by kernel_rfl) l.length (fun k e _ => e 8 = .int .i64 k ∧ ∀ j, j < k → ∀ x, l[j]? = some x → p x = false) ?_ ?_
  · simp [go_sem]
  · rintro k fe ob c hk ⟨h8, hj⟩
    simp (maxSteps := 1000000) only [go_sem, Nat.zero_add, Int.reduceLT, Int.reduceLE, Int.reduceToNat, Nat.reduceLT, eq_self, Int.toNat_zero, Int.toNat_one, Nat.reduceEqDiff, Nat.reduceAdd, Nat.reduceLeDiff, Nat.reduceSub, Nat.reduceMul, ↓reduceIte, reduceCtorEq, Nat.add_zero, Int.toNat_natCast, List.getElem?_map, Option.map_some, List.length_map, Int.cast_ofNat_Int, decide_true, decide_false] at h8
    simp (maxSteps := 1000000) only [go_sem, Nat.zero_add, Int.reduceLT, Int.reduceLE, Int.reduceToNat, Nat.reduceLT, eq_self, Int.toNat_zero, Int.toNat_one, Nat.reduceEqDiff, Nat.reduceAdd, Nat.reduceLeDiff, Nat.reduceSub, Nat.reduceMul, ↓reduceIte, reduceCtorEq, Nat.add_zero, Int.toNat_natCast, List.getElem?_map, Option.map_some, List.length_map, Int.cast_ofNat_Int, decide_true, decide_false, h8]
    refine cond_d (fun hlt => ?_) (fun hge => ?_)
    · have hkl : k < l.length := by omega
      simp (maxSteps := 1000000) (disch := omega) only [go_sem, Nat.zero_add, Int.reduceLT, Int.reduceLE, Int.reduceToNat, Nat.reduceLT, eq_self, Int.toNat_zero, Int.toNat_one, Nat.reduceEqDiff, Nat.reduceAdd, Nat.reduceLeDiff, Nat.reduceSub, Nat.reduceMul, ↓reduceIte, reduceCtorEq, Nat.add_zero, Int.toNat_natCast, List.getElem?_map, Option.map_some, List.length_map, Int.cast_ofNat_Int, decide_true, decide_false, wrap_id, h8, bds_length, bds_get, List.getElem?_eq_getElem hkl, bdv]
      repeat (refine And.intro (by first | omega | (simp [maxLen]; done) | (simp [maxLen]; omega)) ?_)
      refine call_pc (hp _ (List.getElem_mem hkl)) (by simp [go_sem, bdv]) ?_
      try simp (maxSteps := 1000000) only [go_sem, Nat.zero_add, Int.reduceLT, Int.reduceLE, Int.reduceToNat, Nat.reduceLT, eq_self, Int.toNat_zero, Int.toNat_one, Nat.reduceEqDiff, Nat.reduceAdd, Nat.reduceLeDiff, Nat.reduceSub, Nat.reduceMul, ↓reduceIte, reduceCtorEq, Nat.add_zero, Int.toNat_natCast, List.getElem?_map, Option.map_some, List.length_map, Int.cast_ofNat_Int, decide_true, decide_false]
      refine cond_split (fun hp1 => ?_) (fun hp0 => ?_) <;> simp (maxSteps := 1000000) (disch := omega) only [go_sem, Nat.zero_add, Int.reduceLT, Int.reduceLE, Int.reduceToNat, Nat.reduceLT, eq_self, Int.toNat_zero, Int.toNat_one, Nat.reduceEqDiff, Nat.reduceAdd, Nat.reduceLeDiff, Nat.reduceSub, Nat.reduceMul, ↓reduceIte, reduceCtorEq, Nat.add_zero, Int.toNat_natCast, List.getElem?_map, Option.map_some, List.length_map, Int.cast_ofNat_Int, decide_true, decide_false, h8, wrap_id]
      · exact Pub.of_eq (by rw [firstIdx_at p l k hkl hj hp1]) rfl
      · exact up_next hkl ⟨(by first | ((try simp (maxSteps := 1000000) only [go_sem, Nat.zero_add, Int.reduceLT, Int.reduceLE, Int.reduceToNat, Nat.reduceLT, eq_self, Int.toNat_zero, Int.toNat_one, Nat.reduceEqDiff, Nat.reduceAdd, Nat.reduceLeDiff, Nat.reduceSub, Nat.reduceMul, ↓reduceIte, reduceCtorEq, Nat.add_zero, Int.toNat_natCast, List.getElem?_map, Option.map_some, List.length_map, Int.cast_ofNat_Int, decide_true, decide_false]); done) | ((try simp (maxSteps := 1000000) only [go_sem, Nat.zero_add, Int.reduceLT, Int.reduceLE, Int.reduceToNat, Nat.reduceLT, eq_self, Int.toNat_zero, Int.toNat_one, Nat.reduceEqDiff, Nat.reduceAdd, Nat.reduceLeDiff, Nat.reduceSub, Nat.reduceMul, ↓reduceIte, reduceCtorEq, Nat.add_zero, Int.toNat_natCast, List.getElem?_map, Option.map_some, List.length_map, Int.cast_ofNat_Int, decide_true, decide_false]); rfl)), lt_snoc hj hkl hp0⟩
    · try simp (maxSteps := 1000000) only [go_sem, Nat.zero_add, Int.reduceLT, Int.reduceLE, Int.reduceToNat, Nat.reduceLT, eq_self, Int.toNat_zero, Int.toNat_one, Nat.reduceEqDiff, Nat.reduceAdd, Nat.reduceLeDiff, Nat.reduceSub, Nat.reduceMul, ↓reduceIte, reduceCtorEq, Nat.add_zero, Int.toNat_natCast, List.getElem?_map, Option.map_some, List.length_map, Int.cast_ofNat_Int, decide_true, decide_false]
      exact Pub.of_eq (by rw [firstIdx_none p l (fun j hj' => hj j (by omega))]) rfl
theorem ok_slices_ContainsFunc__Bounds (l : List Bd) (hl : l.length ≤ 9223372036854775807) (f : Nat) (p : Bd → Bool) (hp : ∀ x ∈ l, PC prog f [bdv x] (.bool (p x))) :
    PC prog n_slices_ContainsFunc__Bounds [.list 2 (bds l), .func f []] (.bool (l.any p)) := by
  refine PC_of_body b_slices_ContainsFunc__Bounds (by simp) ?_
  simp only [c_slices_ContainsFunc__Bounds, go_sem, Nat.zero_add, Int.reduceLT, Int.reduceLE, Int.reduceToNat, Nat.reduceLT, eq_self, Int.toNat_zero, Int.toNat_one, Nat.reduceEqDiff, Nat.reduceAdd, Nat.reduceLeDiff, Nat.reduceSub, Nat.reduceMul, ↓reduceIte, reduceCtorEq, Nat.add_zero, Int.toNat_natCast, List.getElem?_map, Option.map_some, List.length_map, Int.cast_ofNat_Int, decide_true, decide_false]
  refine call_pc (ok_slices_IndexFunc__Bounds l hl f p hp) (by simp [go_sem]) ?_
  try simp (maxSteps := 1000000) only [go_sem, Nat.zero_add, Int.reduceLT, Int.reduceLE, Int.reduceToNat, Nat.reduceLT, eq_self, Int.toNat_zero, Int.toNat_one, Nat.reduceEqDiff, Nat.reduceAdd, Nat.reduceLeDiff, Nat.reduceSub, Nat.reduceMul, ↓reduceIte, reduceCtorEq, Nat.add_zero, Int.toNat_natCast, List.getElem?_map, Option.map_some, List.length_map, Int.cast_ofNat_Int, decide_true, decide_false]
  exact Pub.of_eq (by rw [firstIdx_any]) rfl
def flowB (b : Bd) : Bool := flow1 b.lo && flow1 b.hi
theorem flowB_ok {b : Bd} (h : flowB b = true) : okBd b := by
  simp only [flowB, Bool.and_eq_true, flow1_iff] at h
  exact ⟨h.1.1, h.1.2, h.2.1, h.2.2⟩
theorem ok_ramp_Latest_1 (b : Bd) : PC prog n_ramp_Latest_1 [bdv b] (.bool (!flowB b)) := by
  refine PC_of_body b_ramp_Latest_1 (by simp) ?_
  simp only [c_ramp_Latest_1, go_sem, Nat.zero_add, Int.reduceLT, Int.reduceLE, Int.reduceToNat, Nat.reduceLT, eq_self, Int.toNat_zero, Int.toNat_one, Nat.reduceEqDiff, Nat.reduceAdd, Nat.reduceLeDiff, Nat.reduceSub, Nat.reduceMul, ↓reduceIte, reduceCtorEq, Nat.add_zero, Int.toNat_natCast, List.getElem?_map, Option.map_some, List.length_map, Int.cast_ofNat_Int, decide_true, decide_false, bdv]
  refine call_pc (ok_ramp_flows [b.lo, b.hi] (by simp)) (by simp [ints, go_sem]) ?_
  try simp (maxSteps := 1000000) only [go_sem, Nat.zero_add, Int.reduceLT, Int.reduceLE, Int.reduceToNat, Nat.reduceLT, eq_self, Int.toNat_zero, Int.toNat_one, Nat.reduceEqDiff, Nat.reduceAdd, Nat.reduceLeDiff, Nat.reduceSub, Nat.reduceMul, ↓reduceIte, reduceCtorEq, Nat.add_zero, Int.toNat_natCast, List.getElem?_map, Option.map_some, List.length_map, Int.cast_ofNat_Int, decide_true, decide_false]
  exact Pub.of_eq (by simp [flowB]) rfl
/-- back through bounds: what can be chosen in each step so that the next ones can be gone through -/
def bwdGo (u d : Int) : List Bd → List Bd
  | [] => []
  | x :: r => match bwdGo u d r with
    | [] => [x]
    | y :: r' => (meetR ⟨y.lo - u, y.hi + d⟩ x).1 :: y :: r'
theorem through_len {u d : Int} : ∀ {l : List Bd} {f : Bd} {o : List Bd}, throughGo u d f l = some o → o.length = l.length
  | [], f, o, h => by simp [throughGo] at h; subst h; rfl
  | x :: l, f, o, h => by
    simp only [throughGo] at h
    split at h
    · obtain ⟨o', h1, rfl⟩ := Option.map_eq_some_iff.1 h
      simp [through_len h1]
    · cases h
theorem through_ok {u d : Int} : ∀ {l : List Bd} {f : Bd} {o : List Bd}, okBd f → 0 ≤ u → 0 ≤ d → (∀ x ∈ l, okBd x) → throughGo u d f l = some o → ∀ x ∈ o, okBd x ∧ x.lo ≤ x.hi
  | [], f, o, hf, _, _, hl, h => by simp [throughGo] at h; subst h; simp
  | x :: l, f, o, hf, hu, hd, hl, h => by
    simp only [throughGo] at h
    split at h
    · rename_i hm
      obtain ⟨o', h1, rfl⟩ := Option.map_eq_some_iff.1 h
      obtain ⟨m1, m2, m3, m4⟩ := meetR_ok hm
      have hx := hl x (by simp)
      have hc : okBd (meetR (stepB u d f) x).1 ∧ (meetR (stepB u d f) x).1.lo ≤ (meetR (stepB u d f) x).1.hi := by
        rw [m1]; unfold okBd at hx ⊢; simp only at m4 ⊢; omega
      intro y hy
      rcases List.mem_cons.1 hy with rfl | hy
      · exact hc
      · exact through_ok hc.1 hu hd (fun z hz => hl z (by simp [hz])) h1 y hy
    · cases h
/-- the way back exists: in the order of the steps -/
theorem through_snoc (u d : Int) : ∀ (l : List Bd) (f x : Bd), throughGo u d f (l ++ [x]) = (throughGo u d f l).bind fun o => if (meetR (stepB u d (o.getLastD f)) x).2 then some (o ++ [(meetR (stepB u d (o.getLastD f)) x).1]) else none
  | [], f, x => by cases h : (meetR (stepB u d f) x).2 <;> simp [throughGo, h]
  | a :: l, f, x => by
    simp only [List.cons_append, throughGo]
    split
    · rw [through_snoc u d l]
      cases h : throughGo u d (meetR (stepB u d f) a).1 l with
      | none => rfl
      | some o =>
        simp only [Option.bind_some, Option.map_some]
        rw [List.getLastD_cons]
        split <;> simp
    · rfl
/-- each is met by what the one before can reach -/
def Linked (u d : Int) : List Bd → Prop
  | x :: y :: r => x.lo - d ≤ y.lo ∧ y.hi ≤ x.hi + u ∧ Linked u d (y :: r)
  | _ => True
theorem through_linked {u d : Int} : ∀ {l : List Bd} {f : Bd} {o : List Bd}, throughGo u d f l = some o → Linked u d (f :: o)
  | [], f, o, h => by simp [throughGo] at h; subst h; trivial
  | x :: l, f, o, h => by
    simp only [throughGo] at h
    split at h
    · rename_i hm
      obtain ⟨o', h1, rfl⟩ := Option.map_eq_some_iff.1 h
      obtain ⟨m1, m2, m3, m4⟩ := meetR_ok hm
      refine ⟨?_, ?_, through_linked h1⟩ <;> rw [m1] <;> simp only [stepB] <;> omega
    · cases h
theorem bwd_spec (u d : Int) (hu : 0 ≤ u ∧ u ≤ 1073741824) (hd : 0 ≤ d ∧ d ≤ 1073741824) : ∀ (l : List Bd), (∀ x ∈ l, okBd x ∧ x.lo ≤ x.hi) → Linked u d l →
    throughGo d u ⟨0, 1073741824⟩ l.reverse = some (bwdGo u d l).reverse ∧ (bwdGo u d l).length = l.length ∧ (∀ x y, l.head? = some x → (bwdGo u d l).head? = some y → x.lo ≤ y.lo ∧ y.lo ≤ y.hi ∧ y.hi ≤ x.hi)
  | [], _, _ => ⟨rfl, rfl, fun x y h => by simp at h⟩
  | x :: l, hl, hk => by
    have hx := hl x (by simp)
    have hk' : Linked u d l := by
      cases l with
      | nil => trivial
      | cons y r => exact hk.2.2
    obtain ⟨i1, i2, i3⟩ := bwd_spec u d hu hd l (fun z hz => hl z (by simp [hz])) hk'
    cases hb : bwdGo u d l with
    | nil =>
      have hn : l = [] := by cases l with
        | nil => rfl
        | cons y r => rw [hb] at i2; simp at i2
      subst hn
      have hm : meetR (stepB d u ⟨0, 1073741824⟩) x = (x, true) := by
        obtain ⟨⟨a1, a2, a3, a4⟩, a5⟩ := hx
        unfold meetR stepB
        simp only
        rw [if_neg (by omega)]
        cases x; simp only [Prod.mk.injEq, Bd.mk.injEq, and_true] at *; omega
      refine ⟨by simp [throughGo, hm, bwdGo], by simp [bwdGo], fun a b ha hb => ?_⟩
      simp [bwdGo] at ha hb
      subst ha; subst hb
      exact ⟨Int.le_refl _, hx.2, Int.le_refl _⟩
    | cons y r =>
      obtain ⟨z, l', rfl⟩ : ∃ z l', l = z :: l' := by cases l with
        | nil => simp [bwdGo] at hb
        | cons z l' => exact ⟨z, l', rfl⟩
      have hz := i3 z y rfl (by rw [hb]; rfl)
      obtain ⟨k1, k2, _⟩ := hk
      obtain ⟨⟨a1, a2, a3, a4⟩, a5⟩ := hx
      have hm : meetR (stepB d u y) x = (⟨max (y.lo - u) x.lo, min (y.hi + d) x.hi⟩, true) := by
        unfold meetR stepB
        simp only
        rw [if_neg (by omega)]
      have hbx : bwdGo u d (x :: z :: l') = (meetR ⟨y.lo - u, y.hi + d⟩ x).1 :: y :: r := by
        rw [bwdGo, hb]
      have hm2 : (meetR ⟨y.lo - u, y.hi + d⟩ x).1 = ⟨max (y.lo - u) x.lo, min (y.hi + d) x.hi⟩ := by
        have : meetR ⟨y.lo - u, y.hi + d⟩ x = meetR (stepB d u y) x := rfl
        rw [this, hm]
      refine ⟨?_, by rw [hbx]; rw [hb] at i2; simp only [List.length_cons] at i2 ⊢; omega, fun a b ha hb' => ?_⟩
      · rw [List.reverse_cons, through_snoc, i1, Option.bind_some, hb, hbx, hm2]
        rw [show (y :: r).reverse.getLastD ⟨0, 1073741824⟩ = y by simp [List.getLastD_eq_getLast?]]
        rw [hm]
        simp
      · rw [hbx, hm2] at hb'
        simp at ha hb'
        subst ha; subst hb'
        simp only
        omega
def latestR (b : Int) (due : List Bd) (u d : Int) : List Bd × Bool × Int :=
  if 4096 < due.length then ([], false, 10) else if [b, u, d].all flow1 && due.all flowB then
    match throughGo u d ⟨b, b⟩ due with
    | none => ([], false, 0)
    | some first => (bwdGo u d first, true, 0)
  else ([], false, 1)
theorem ok_ramp_Latest (b : Int) (due : List Bd) (u d : Int) (hl : due.length ≤ 9223372036854775807) : PC prog n_ramp_Latest [.int .i64 b, .list 2 (bds due), .int .i64 u, .int .i64 d] (.tuple [.list 2 (bds (latestR b due u d).1), .bool (latestR b due u d).2.1, .int .i64 (latestR b due u d).2.2]) := by
  refine PC_of_body b_ramp_Latest (by simp) ?_
  simp only [c_ramp_Latest, go_sem, Nat.zero_add, Int.reduceLT, Int.reduceLE, Int.reduceToNat, Nat.reduceLT, eq_self, Int.toNat_zero, Int.toNat_one, Nat.reduceEqDiff, Nat.reduceAdd, Nat.reduceLeDiff, Nat.reduceSub, Nat.reduceMul, ↓reduceIte, reduceCtorEq, Nat.add_zero, Int.toNat_natCast, List.getElem?_map, Option.map_some, List.length_map, Int.cast_ofNat_Int, decide_true, decide_false, bds_length]
  refine cond_d (fun h => ?_) (fun h => ?_) <;> simp (maxSteps := 1000000) only [go_sem, Nat.zero_add, Int.reduceLT, Int.reduceLE, Int.reduceToNat, Nat.reduceLT, eq_self, Int.toNat_zero, Int.toNat_one, Nat.reduceEqDiff, Nat.reduceAdd, Nat.reduceLeDiff, Nat.reduceSub, Nat.reduceMul, ↓reduceIte, reduceCtorEq, Nat.add_zero, Int.toNat_natCast, List.getElem?_map, Option.map_some, List.length_map, Int.cast_ofNat_Int, decide_true, decide_false]
  · rw [show latestR b due u d = ([], false, 10) by unfold latestR; rw [if_pos (by omega)]]
    exact Pub.three (.nl 2) (.pure rfl) (.pure rfl)
  have hle : ¬ 4096 < due.length := by omega
  have bad : ([b, u, d].all flow1 && due.all flowB) = false → latestR b due u d = ([], false, 1) := fun hh => by
    unfold latestR; rw [if_neg hle, hh]; rfl
  refine call_pc (ok_ramp_flows [b, u, d] (by simp)) (by simp [ints, go_sem]) ?_
  generalize hff : [b, u, d].all flow1 = ff at *
  try simp (maxSteps := 1000000) only [go_sem, Nat.zero_add, Int.reduceLT, Int.reduceLE, Int.reduceToNat, Nat.reduceLT, eq_self, Int.toNat_zero, Int.toNat_one, Nat.reduceEqDiff, Nat.reduceAdd, Nat.reduceLeDiff, Nat.reduceSub, Nat.reduceMul, ↓reduceIte, reduceCtorEq, Nat.add_zero, Int.toNat_natCast, List.getElem?_map, Option.map_some, List.length_map, Int.cast_ofNat_Int, decide_true, decide_false]
  refine gd_f rfl (fun hf => ?_) (fun hf => ?_) <;> simp (maxSteps := 1000000) only [go_sem, Nat.zero_add, Int.reduceLT, Int.reduceLE, Int.reduceToNat, Nat.reduceLT, eq_self, Int.toNat_zero, Int.toNat_one, Nat.reduceEqDiff, Nat.reduceAdd, Nat.reduceLeDiff, Nat.reduceSub, Nat.reduceMul, ↓reduceIte, reduceCtorEq, Nat.add_zero, Int.toNat_natCast, List.getElem?_map, Option.map_some, List.length_map, Int.cast_ofNat_Int, decide_true, decide_false]
  · rw [bad (by simp at hf; rw [hf]; rfl)]
    exact Pub.three (.nl 2) (.pure rfl) (.pure rfl)
  have hf : ff = true := by simpa using hf
  subst hf
  refine call_pc (ok_slices_ContainsFunc__Bounds due hl _ (fun b => !flowB b) (fun x _ => ok_ramp_Latest_1 x)) (by simp [go_sem]) ?_
  try simp (maxSteps := 1000000) only [go_sem, Nat.zero_add, Int.reduceLT, Int.reduceLE, Int.reduceToNat, Nat.reduceLT, eq_self, Int.toNat_zero, Int.toNat_one, Nat.reduceEqDiff, Nat.reduceAdd, Nat.reduceLeDiff, Nat.reduceSub, Nat.reduceMul, ↓reduceIte, reduceCtorEq, Nat.add_zero, Int.toNat_natCast, List.getElem?_map, Option.map_some, List.length_map, Int.cast_ofNat_Int, decide_true, decide_false]
  refine cond_split (fun hd => ?_) (fun hd => ?_) <;> simp (maxSteps := 1000000) only [go_sem, Nat.zero_add, Int.reduceLT, Int.reduceLE, Int.reduceToNat, Nat.reduceLT, eq_self, Int.toNat_zero, Int.toNat_one, Nat.reduceEqDiff, Nat.reduceAdd, Nat.reduceLeDiff, Nat.reduceSub, Nat.reduceMul, ↓reduceIte, reduceCtorEq, Nat.add_zero, Int.toNat_natCast, List.getElem?_map, Option.map_some, List.length_map, Int.cast_ofNat_Int, decide_true, decide_false]
  · rw [bad (by rw [Bool.true_and, List.all_eq_false]; rw [List.any_eq_true] at hd; obtain ⟨x, hx, hx2⟩ := hd; exact ⟨x, hx, by simpa using hx2⟩)]
    exact Pub.three (.nl 2) (.pure rfl) (.pure rfl)
  have hall : due.all flowB = true := by rw [List.any_eq_false] at hd; rw [List.all_eq_true]; intro x hx; simpa using hd x hx
  have good : latestR b due u d = match throughGo u d ⟨b, b⟩ due with | none => ([], false, 0) | some first => (bwdGo u d first, true, 0) := by
    unfold latestR; rw [if_neg hle, hff, hall]; rfl
  simp only [List.all_cons, List.all_nil, Bool.and_true, Bool.and_eq_true, flow1_iff] at hff
  obtain ⟨fb, fu, fd⟩ := hff
  have hdue : ∀ x ∈ due, okBd x := fun x hx => flowB_ok (List.all_eq_true.1 hall x hx)
  have hb0 : okBd ⟨b, b⟩ := ⟨fb.1, fb.2, fb.1, fb.2⟩
  refine call_pc (ok_ramp_through ⟨b, b⟩ due u d (by omega) fu fd hb0 hdue) (by simp [go_sem, bdv]) ?_
  cases ht : throughGo u d ⟨b, b⟩ due with
  | none =>
    rw [ht] at good
    simp (maxSteps := 1000000) only [go_sem, Nat.zero_add, Int.reduceLT, Int.reduceLE, Int.reduceToNat, Nat.reduceLT, eq_self, Int.toNat_zero, Int.toNat_one, Nat.reduceEqDiff, Nat.reduceAdd, Nat.reduceLeDiff, Nat.reduceSub, Nat.reduceMul, ↓reduceIte, reduceCtorEq, Nat.add_zero, Int.toNat_natCast, List.getElem?_map, Option.map_some, List.length_map, Int.cast_ofNat_Int, decide_true, decide_false, Option.isSome_none, good]
    exact Pub.three (.nl 2) (.pure rfl) (.pure rfl)
  | some first =>
    rw [ht] at good
    have hfl := through_len ht
    have hfo := through_ok hb0 fu.1 fd.1 hdue ht
    have hlk : Linked u d first := by
      have := through_linked ht
      cases first with
      | nil => trivial
      | cons x r => exact this.2.2
    obtain ⟨hbw, hbl, _⟩ := bwd_spec u d fu fd first hfo hlk
    simp (maxSteps := 1000000) only [go_sem, Nat.zero_add, Int.reduceLT, Int.reduceLE, Int.reduceToNat, Nat.reduceLT, eq_self, Int.toNat_zero, Int.toNat_one, Nat.reduceEqDiff, Nat.reduceAdd, Nat.reduceLeDiff, Nat.reduceSub, Nat.reduceMul, ↓reduceIte, reduceCtorEq, Nat.add_zero, Int.toNat_natCast, List.getElem?_map, Option.map_some, List.length_map, Int.cast_ofNat_Int, decide_true, decide_false, Option.isSome_some, Option.getD_some, good]
    repeat (refine And.intro (by first | omega | (simp [maxLen]; done) | (simp [maxLen]; omega)) ?_)
    refine call_pc (ok_ramp_reversed__Bounds first (by omega)) (by simp [go_sem]) ?_
    try simp (maxSteps := 1000000) only [go_sem, Nat.zero_add, Int.reduceLT, Int.reduceLE, Int.reduceToNat, Nat.reduceLT, eq_self, Int.toNat_zero, Int.toNat_one, Nat.reduceEqDiff, Nat.reduceAdd, Nat.reduceLeDiff, Nat.reduceSub, Nat.reduceMul, ↓reduceIte, reduceCtorEq, Nat.add_zero, Int.toNat_natCast, List.getElem?_map, Option.map_some, List.length_map, Int.cast_ofNat_Int, decide_true, decide_false]
    refine call_pc (ok_ramp_through ⟨0, 1073741824⟩ first.reverse d u (by simp; omega) fd fu ⟨by simp, by simp, by simp, by simp⟩ (fun x hx => (hfo x (by simpa using hx)).1)) (by simp [go_sem, bdv]) ?_
    simp (maxSteps := 1000000) only [go_sem, Nat.zero_add, Int.reduceLT, Int.reduceLE, Int.reduceToNat, Nat.reduceLT, eq_self, Int.toNat_zero, Int.toNat_one, Nat.reduceEqDiff, Nat.reduceAdd, Nat.reduceLeDiff, Nat.reduceSub, Nat.reduceMul, ↓reduceIte, reduceCtorEq, Nat.add_zero, Int.toNat_natCast, List.getElem?_map, Option.map_some, List.length_map, Int.cast_ofNat_Int, decide_true, decide_false, hbw, Option.isSome_some, Option.getD_some]
    refine call_pc (ok_ramp_reversed__Bounds (bwdGo u d first).reverse (by simp; omega)) (by simp [go_sem]) ?_
    simp (maxSteps := 1000000) only [go_sem, Nat.zero_add, Int.reduceLT, Int.reduceLE, Int.reduceToNat, Nat.reduceLT, eq_self, Int.toNat_zero, Int.toNat_one, Nat.reduceEqDiff, Nat.reduceAdd, Nat.reduceLeDiff, Nat.reduceSub, Nat.reduceMul, ↓reduceIte, reduceCtorEq, Nat.add_zero, Int.toNat_natCast, List.getElem?_map, Option.map_some, List.length_map, Int.cast_ofNat_Int, decide_true, decide_false, List.reverse_reverse]
    exact Pub.of_eq rfl (by simp [go_sem, AV.pur])
theorem ok_ref01_Clamp (q : Int) (b : Bd) : PC prog n_ref01_Clamp [.int .i64 q, bdv b] (.int .i64 (if b.hi < b.lo then b.lo else max b.lo (min q b.hi))) := by
  refine PC_of_body b_ref01_Clamp (by simp) ?_
  simp only [c_ref01_Clamp, go_sem, Nat.zero_add, Int.reduceLT, Int.reduceLE, Int.reduceToNat, Nat.reduceLT, eq_self, Int.toNat_zero, Int.toNat_one, Nat.reduceEqDiff, Nat.reduceAdd, Nat.reduceLeDiff, Nat.reduceSub, Nat.reduceMul, ↓reduceIte, reduceCtorEq, Nat.add_zero, Int.toNat_natCast, List.getElem?_map, Option.map_some, List.length_map, Int.cast_ofNat_Int, decide_true, decide_false, bdv]
  refine cond_d (fun h => ?_) (fun h => ?_) <;> simp (maxSteps := 1000000) only [go_sem, Nat.zero_add, Int.reduceLT, Int.reduceLE, Int.reduceToNat, Nat.reduceLT, eq_self, Int.toNat_zero, Int.toNat_one, Nat.reduceEqDiff, Nat.reduceAdd, Nat.reduceLeDiff, Nat.reduceSub, Nat.reduceMul, ↓reduceIte, reduceCtorEq, Nat.add_zero, Int.toNat_natCast, List.getElem?_map, Option.map_some, List.length_map, Int.cast_ofNat_Int, decide_true, decide_false]
  · exact Pub.of_eq (by rw [if_pos h]) rfl
  · exact Pub.of_eq (by rw [if_neg h]) rfl
def DueG (σ : St) (id g : Nat) (l : List Int) (r : AV) (σ' : St) : Prop := ∃ g2 L at2, r = .sl σ.n g2 2 0 L.length ∧ L.length ≤ 8 ∧ (∀ x ∈ L, okBd x ∧ x.lo ≤ 30 ∧ x.hi ≤ 60) ∧ σ'.n = σ.n + 1 ∧ σ'.ob σ.n = some ⟨g2, 2, 35, false, true, bds L⟩ ∧ σ'.ob id = some ⟨g, 2, ty_Deck, false, true, [deckV l at2]⟩ ∧ ∀ i, i < σ.n → i ≠ id → σ'.ob i = σ.ob i
def DueR (σ : St) (id g : Nat) (l : List Int) (r : AV) (σ' : St) : Prop := ∃ L at2 c, r = .list 2 (bds L) ∧ L.length ≤ 8 ∧ (∀ x ∈ L, okBd x ∧ x.lo ≤ 30 ∧ x.hi ≤ 60) ∧ σ' = ⟨upd (fun i => if i < σ.n then σ.ob i else none) id (some ⟨g, 2, ty_Deck, false, true, [deckV l at2]⟩), σ.n + 1, c⟩
theorem hc_law21_due (σ : St) (id g : Nat) (l : List Int) (at' : Nat) (hl : l.length ≤ 9223372036854775807) (hid : id < σ.n) (hob : σ.ob id = some ⟨g, 2, ty_Deck, false, true, [deckV l at']⟩) :
    HC prog n_law21_due [.ptr id g 2 0 0] σ (DueR σ id g l) := by
  have main : HC prog n_law21_due [.ptr id g 2 0 0] σ (DueG σ id g l) := by
    refine HC_of_body b_law21_due (by simp) ?_
    obtain ⟨ob0, n0, c0⟩ := σ
    simp only at hid hob
    have hne : ¬ id = n0 := by omega
    have hne' : ¬ n0 = id := by omega
    simp only [c_law21_due, go_sem, Nat.zero_add, Int.reduceLT, Int.reduceLE, Int.reduceToNat, Nat.reduceLT, eq_self, Int.toNat_zero, Int.toNat_one, Nat.reduceEqDiff, Nat.reduceAdd, Nat.reduceLeDiff, Nat.reduceSub, Nat.reduceMul, ↓reduceIte, reduceCtorEq, Nat.add_zero, Int.toNat_natCast, List.getElem?_map, Option.map_some, List.length_map, Int.cast_ofNat_Int, decide_true, decide_false]
    refine call_hc (ok_mk_Deck_Next _ id g ty_Deck true l at' 9 (by simp (maxSteps := 1000000) only [go_sem, Nat.zero_add, Int.reduceLT, Int.reduceLE, Int.reduceToNat, Nat.reduceLT, eq_self, Int.toNat_zero, Int.toNat_one, Nat.reduceEqDiff, Nat.reduceAdd, Nat.reduceLeDiff, Nat.reduceSub, Nat.reduceMul, ↓reduceIte, reduceCtorEq, Nat.add_zero, Int.toNat_natCast, List.getElem?_map, Option.map_some, List.length_map, Int.cast_ofNat_Int, decide_true, decide_false, hne]; exact hob) (by omega) hl) ?_
    have hx := deckR_bd l at' 9
    generalize deckR l at' 9 = dr at *
    obtain ⟨k, at2⟩ := dr
    simp only at hx
    try simp (maxSteps := 1000000) only [go_sem, Nat.zero_add, Int.reduceLT, Int.reduceLE, Int.reduceToNat, Nat.reduceLT, eq_self, Int.toNat_zero, Int.toNat_one, Nat.reduceEqDiff, Nat.reduceAdd, Nat.reduceLeDiff, Nat.reduceSub, Nat.reduceMul, ↓reduceIte, reduceCtorEq, Nat.add_zero, Int.toNat_natCast, List.getElem?_map, Option.map_some, List.length_map, Int.cast_ofNat_Int, decide_true, decide_false]
    refine awp_upF [3, 4, 5, 8, 9, 10, 11, 12, 13, 14, 15, 16, 17, 18, 19, 20, 21, 22] (by kernel_rfl) k.toNat (fun r e σ => ∃ g2 L at2, e 3 = .sl n0 g2 2 0 r ∧ e 4 = .int .i64 (k - r) ∧ L.length = r ∧ (∀ x ∈ L, okBd x ∧ x.lo ≤ 30 ∧ x.hi ≤ 60) ∧ σ.ob n0 = some ⟨g2, 2, 35, false, true, bds L⟩ ∧ σ.ob id = some ⟨g, 2, ty_Deck, false, true, [deckV l at2]⟩ ∧ ∀ i, i < n0 → i ≠ id → σ.ob i = ob0 i) ?_ ?_
    · refine ⟨_, [], at2, (by first | ((try simp (maxSteps := 1000000) only [go_sem, Nat.zero_add, Int.reduceLT, Int.reduceLE, Int.reduceToNat, Nat.reduceLT, eq_self, Int.toNat_zero, Int.toNat_one, Nat.reduceEqDiff, Nat.reduceAdd, Nat.reduceLeDiff, Nat.reduceSub, Nat.reduceMul, ↓reduceIte, reduceCtorEq, Nat.add_zero, Int.toNat_natCast, List.getElem?_map, Option.map_some, List.length_map, Int.cast_ofNat_Int, decide_true, decide_false]); done) | ((try simp (maxSteps := 1000000) only [go_sem, Nat.zero_add, Int.reduceLT, Int.reduceLE, Int.reduceToNat, Nat.reduceLT, eq_self, Int.toNat_zero, Int.toNat_one, Nat.reduceEqDiff, Nat.reduceAdd, Nat.reduceLeDiff, Nat.reduceSub, Nat.reduceMul, ↓reduceIte, reduceCtorEq, Nat.add_zero, Int.toNat_natCast, List.getElem?_map, Option.map_some, List.length_map, Int.cast_ofNat_Int, decide_true, decide_false]); rfl)), by simp [go_sem], rfl, by simp, ?_, by simp [go_sem], ?_⟩
      · simp (maxSteps := 1000000) only [go_sem, Nat.zero_add, Int.reduceLT, Int.reduceLE, Int.reduceToNat, Nat.reduceLT, eq_self, Int.toNat_zero, Int.toNat_one, Nat.reduceEqDiff, Nat.reduceAdd, Nat.reduceLeDiff, Nat.reduceSub, Nat.reduceMul, ↓reduceIte, reduceCtorEq, Nat.add_zero, Int.toNat_natCast, List.getElem?_map, Option.map_some, List.length_map, Int.cast_ofNat_Int, decide_true, decide_false, hne']; rfl
      · intro i hi hi2
        have : ¬ i = n0 := by omega
        simp (maxSteps := 1000000) only [go_sem, Nat.zero_add, Int.reduceLT, Int.reduceLE, Int.reduceToNat, Nat.reduceLT, eq_self, Int.toNat_zero, Int.toNat_one, Nat.reduceEqDiff, Nat.reduceAdd, Nat.reduceLeDiff, Nat.reduceSub, Nat.reduceMul, ↓reduceIte, reduceCtorEq, Nat.add_zero, Int.toNat_natCast, List.getElem?_map, Option.map_some, List.length_map, Int.cast_ofNat_Int, decide_true, decide_false, hi2, this]
    · rintro r fe ob c hr ⟨g2, L, at3, h3, h4, hL, hLb, hon, hoid, holt⟩
      simp (maxSteps := 1000000) only [go_sem, Nat.zero_add, Int.reduceLT, Int.reduceLE, Int.reduceToNat, Nat.reduceLT, eq_self, Int.toNat_zero, Int.toNat_one, Nat.reduceEqDiff, Nat.reduceAdd, Nat.reduceLeDiff, Nat.reduceSub, Nat.reduceMul, ↓reduceIte, reduceCtorEq, Nat.add_zero, Int.toNat_natCast, List.getElem?_map, Option.map_some, List.length_map, Int.cast_ofNat_Int, decide_true, decide_false] at h3 h4 hon hoid holt
      simp (maxSteps := 1000000) only [go_sem, Nat.zero_add, Int.reduceLT, Int.reduceLE, Int.reduceToNat, Nat.reduceLT, eq_self, Int.toNat_zero, Int.toNat_one, Nat.reduceEqDiff, Nat.reduceAdd, Nat.reduceLeDiff, Nat.reduceSub, Nat.reduceMul, ↓reduceIte, reduceCtorEq, Nat.add_zero, Int.toNat_natCast, List.getElem?_map, Option.map_some, List.length_map, Int.cast_ofNat_Int, decide_true, decide_false, h4]
      refine cond_d (fun hlt => ?_) (fun hge => ?_)
      · try simp (maxSteps := 1000000) only [go_sem, Nat.zero_add, Int.reduceLT, Int.reduceLE, Int.reduceToNat, Nat.reduceLT, eq_self, Int.toNat_zero, Int.toNat_one, Nat.reduceEqDiff, Nat.reduceAdd, Nat.reduceLeDiff, Nat.reduceSub, Nat.reduceMul, ↓reduceIte, reduceCtorEq, Nat.add_zero, Int.toNat_natCast, List.getElem?_map, Option.map_some, List.length_map, Int.cast_ofNat_Int, decide_true, decide_false]
        refine call_hc (ok_mk_Deck_Next _ id g ty_Deck true l at3 30 (by simp (maxSteps := 1000000) only [go_sem, Nat.zero_add, Int.reduceLT, Int.reduceLE, Int.reduceToNat, Nat.reduceLT, eq_self, Int.toNat_zero, Int.toNat_one, Nat.reduceEqDiff, Nat.reduceAdd, Nat.reduceLeDiff, Nat.reduceSub, Nat.reduceMul, ↓reduceIte, reduceCtorEq, Nat.add_zero, Int.toNat_natCast, List.getElem?_map, Option.map_some, List.length_map, Int.cast_ofNat_Int, decide_true, decide_false, hne]; exact hoid) (by omega) hl) ?_
        have hx3 := deckR_bd l at3 30
        generalize deckR l at3 30 = dr at *
        obtain ⟨a, at4⟩ := dr
        simp only at hx3
        try simp (maxSteps := 1000000) only [go_sem, Nat.zero_add, Int.reduceLT, Int.reduceLE, Int.reduceToNat, Nat.reduceLT, eq_self, Int.toNat_zero, Int.toNat_one, Nat.reduceEqDiff, Nat.reduceAdd, Nat.reduceLeDiff, Nat.reduceSub, Nat.reduceMul, ↓reduceIte, reduceCtorEq, Nat.add_zero, Int.toNat_natCast, List.getElem?_map, Option.map_some, List.length_map, Int.cast_ofNat_Int, decide_true, decide_false]
        refine call_hc (ok_mk_Deck_Next _ id g ty_Deck true l at4 25 (by simp (maxSteps := 1000000) only [go_sem, Nat.zero_add, Int.reduceLT, Int.reduceLE, Int.reduceToNat, Nat.reduceLT, eq_self, Int.toNat_zero, Int.toNat_one, Nat.reduceEqDiff, Nat.reduceAdd, Nat.reduceLeDiff, Nat.reduceSub, Nat.reduceMul, ↓reduceIte, reduceCtorEq, Nat.add_zero, Int.toNat_natCast, List.getElem?_map, Option.map_some, List.length_map, Int.cast_ofNat_Int, decide_true, decide_false, hne]) (by omega) hl) ?_
        have hx4 := deckR_bd l at4 25
        generalize deckR l at4 25 = dr at *
        obtain ⟨b, at5⟩ := dr
        simp only at hx4
        simp (maxSteps := 1000000) (disch := omega) only [go_sem, Nat.zero_add, Int.reduceLT, Int.reduceLE, Int.reduceToNat, Nat.reduceLT, eq_self, Int.toNat_zero, Int.toNat_one, Nat.reduceEqDiff, Nat.reduceAdd, Nat.reduceLeDiff, Nat.reduceSub, Nat.reduceMul, ↓reduceIte, reduceCtorEq, Nat.add_zero, Int.toNat_natCast, List.getElem?_map, Option.map_some, List.length_map, Int.cast_ofNat_Int, decide_true, decide_false, wrap_id, h3, h4, hon, hne, hne', upd_upd]
        repeat (refine And.intro (by first | omega | (simp [maxLen]; done) | (simp [maxLen]; omega)) ?_)
        refine ⟨by simp [bds_length, hL], by simp [maxLen]; omega, by omega, ?_⟩
        try repeat (refine And.intro (by first | omega | (simp [maxLen]; done) | (simp [maxLen]; omega)) ?_)
        refine up_next (by omega) ⟨_, L ++ [⟨a, a + b⟩], at5, (by first | ((try simp (maxSteps := 1000000) only [go_sem, Nat.zero_add, Int.reduceLT, Int.reduceLE, Int.reduceToNat, Nat.reduceLT, eq_self, Int.toNat_zero, Int.toNat_one, Nat.reduceEqDiff, Nat.reduceAdd, Nat.reduceLeDiff, Nat.reduceSub, Nat.reduceMul, ↓reduceIte, reduceCtorEq, Nat.add_zero, Int.toNat_natCast, List.getElem?_map, Option.map_some, List.length_map, Int.cast_ofNat_Int, decide_true, decide_false]); done) | ((try simp (maxSteps := 1000000) only [go_sem, Nat.zero_add, Int.reduceLT, Int.reduceLE, Int.reduceToNat, Nat.reduceLT, eq_self, Int.toNat_zero, Int.toNat_one, Nat.reduceEqDiff, Nat.reduceAdd, Nat.reduceLeDiff, Nat.reduceSub, Nat.reduceMul, ↓reduceIte, reduceCtorEq, Nat.add_zero, Int.toNat_natCast, List.getElem?_map, Option.map_some, List.length_map, Int.cast_ofNat_Int, decide_true, decide_false]); rfl)), ?_, by simp [hL], ?_, ?_, ?_, ?_⟩
        · (try simp (maxSteps := 1000000) only [go_sem, Nat.zero_add, Int.reduceLT, Int.reduceLE, Int.reduceToNat, Nat.reduceLT, eq_self, Int.toNat_zero, Int.toNat_one, Nat.reduceEqDiff, Nat.reduceAdd, Nat.reduceLeDiff, Nat.reduceSub, Nat.reduceMul, ↓reduceIte, reduceCtorEq, Nat.add_zero, Int.toNat_natCast, List.getElem?_map, Option.map_some, List.length_map, Int.cast_ofNat_Int, decide_true, decide_false]); congr 1; omega
        · intro x hx
          rcases List.mem_append.1 hx with hx | hx
          · exact hLb x hx
          · simp at hx; subst hx; simp only [okBd]; omega
        · simp (maxSteps := 1000000) only [go_sem, Nat.zero_add, Int.reduceLT, Int.reduceLE, Int.reduceToNat, Nat.reduceLT, eq_self, Int.toNat_zero, Int.toNat_one, Nat.reduceEqDiff, Nat.reduceAdd, Nat.reduceLeDiff, Nat.reduceSub, Nat.reduceMul, ↓reduceIte, reduceCtorEq, Nat.add_zero, Int.toNat_natCast, List.getElem?_map, Option.map_some, List.length_map, Int.cast_ofNat_Int, decide_true, decide_false, hne']
          rw [if_pos (by omega)]
          simp [bds, bdv]
        · simp (maxSteps := 1000000) only [go_sem, Nat.zero_add, Int.reduceLT, Int.reduceLE, Int.reduceToNat, Nat.reduceLT, eq_self, Int.toNat_zero, Int.toNat_one, Nat.reduceEqDiff, Nat.reduceAdd, Nat.reduceLeDiff, Nat.reduceSub, Nat.reduceMul, ↓reduceIte, reduceCtorEq, Nat.add_zero, Int.toNat_natCast, List.getElem?_map, Option.map_some, List.length_map, Int.cast_ofNat_Int, decide_true, decide_false, hne]
          rw [if_pos (by omega)]
        · intro i hi hi2
          have : ¬ i = n0 := by omega
          simp (maxSteps := 1000000) only [go_sem, Nat.zero_add, Int.reduceLT, Int.reduceLE, Int.reduceToNat, Nat.reduceLT, eq_self, Int.toNat_zero, Int.toNat_one, Nat.reduceEqDiff, Nat.reduceAdd, Nat.reduceLeDiff, Nat.reduceSub, Nat.reduceMul, ↓reduceIte, reduceCtorEq, Nat.add_zero, Int.toNat_natCast, List.getElem?_map, Option.map_some, List.length_map, Int.cast_ofNat_Int, decide_true, decide_false, hi2, this]
          rw [if_pos (by omega)]
          exact holt i hi hi2
      · have hrk : r ≤ 8 := by omega
        simp (maxSteps := 1000000) only [go_sem, Nat.zero_add, Int.reduceLT, Int.reduceLE, Int.reduceToNat, Nat.reduceLT, eq_self, Int.toNat_zero, Int.toNat_one, Nat.reduceEqDiff, Nat.reduceAdd, Nat.reduceLeDiff, Nat.reduceSub, Nat.reduceMul, ↓reduceIte, reduceCtorEq, Nat.add_zero, Int.toNat_natCast, List.getElem?_map, Option.map_some, List.length_map, Int.cast_ofNat_Int, decide_true, decide_false, h3]
        have fin : ∀ (c : Nat) (ob : Nat → Option AObj) (L' : List Bd) (at3 : Nat), L'.length = r → (∀ x ∈ L', okBd x ∧ x.lo ≤ 30 ∧ x.hi ≤ 60) → ob n0 = some ⟨g2, 2, 35, false, true, bds L'⟩ → ob id = some ⟨g, 2, ty_Deck, false, true, [deckV l at3]⟩ → (∀ i, i < n0 → i ≠ id → ob i = ob0 i) → DueG ⟨ob0, n0, c0⟩ id g l (.sl n0 g2 2 0 r) ⟨ob, n0 + 1, c⟩ := by
          intro c ob L' at3 hL' hLb' h1 h2 h3
          exact ⟨g2, L', at3, by rw [hL'], by omega, hLb', rfl, h1, h2, h3⟩
        refine gd_td rfl (fun hp => ?_) (fun hp => ?_) <;> simp (maxSteps := 1000000) only [go_sem, Nat.zero_add, Int.reduceLT, Int.reduceLE, Int.reduceToNat, Nat.reduceLT, eq_self, Int.toNat_zero, Int.toNat_one, Nat.reduceEqDiff, Nat.reduceAdd, Nat.reduceLeDiff, Nat.reduceSub, Nat.reduceMul, ↓reduceIte, reduceCtorEq, Nat.add_zero, Int.toNat_natCast, List.getElem?_map, Option.map_some, List.length_map, Int.cast_ofNat_Int, decide_true, decide_false]
        · refine call_hc (ok_mk_Deck_Next _ id g ty_Deck true l at3 12 (by simp (maxSteps := 1000000) only [go_sem, Nat.zero_add, Int.reduceLT, Int.reduceLE, Int.reduceToNat, Nat.reduceLT, eq_self, Int.toNat_zero, Int.toNat_one, Nat.reduceEqDiff, Nat.reduceAdd, Nat.reduceLeDiff, Nat.reduceSub, Nat.reduceMul, ↓reduceIte, reduceCtorEq, Nat.add_zero, Int.toNat_natCast, List.getElem?_map, Option.map_some, List.length_map, Int.cast_ofNat_Int, decide_true, decide_false, hne]; exact hoid) (by omega) hl) ?_
          have hx3 := deckR_bd l at3 12
          generalize deckR l at3 12 = dr at *
          obtain ⟨a, at4⟩ := dr
          try simp (maxSteps := 1000000) only [go_sem, Nat.zero_add, Int.reduceLT, Int.reduceLE, Int.reduceToNat, Nat.reduceLT, eq_self, Int.toNat_zero, Int.toNat_one, Nat.reduceEqDiff, Nat.reduceAdd, Nat.reduceLeDiff, Nat.reduceSub, Nat.reduceMul, ↓reduceIte, reduceCtorEq, Nat.add_zero, Int.toNat_natCast, List.getElem?_map, Option.map_some, List.length_map, Int.cast_ofNat_Int, decide_true, decide_false]
          refine cond_d (fun ha => ?_) (fun ha => ?_) <;> simp (maxSteps := 1000000) only [go_sem, Nat.zero_add, Int.reduceLT, Int.reduceLE, Int.reduceToNat, Nat.reduceLT, eq_self, Int.toNat_zero, Int.toNat_one, Nat.reduceEqDiff, Nat.reduceAdd, Nat.reduceLeDiff, Nat.reduceSub, Nat.reduceMul, ↓reduceIte, reduceCtorEq, Nat.add_zero, Int.toNat_natCast, List.getElem?_map, Option.map_some, List.length_map, Int.cast_ofNat_Int, decide_true, decide_false]
          · refine call_hc (ok_mk_Deck_Next _ id g ty_Deck true l at4 r (by simp (maxSteps := 1000000) only [go_sem, Nat.zero_add, Int.reduceLT, Int.reduceLE, Int.reduceToNat, Nat.reduceLT, eq_self, Int.toNat_zero, Int.toNat_one, Nat.reduceEqDiff, Nat.reduceAdd, Nat.reduceLeDiff, Nat.reduceSub, Nat.reduceMul, ↓reduceIte, reduceCtorEq, Nat.add_zero, Int.toNat_natCast, List.getElem?_map, Option.map_some, List.length_map, Int.cast_ofNat_Int, decide_true, decide_false, hne]) (by omega) hl) ?_
            have hx4 := deckR_bd l at4 r
            generalize deckR l at4 r = dr at *
            obtain ⟨b, at5⟩ := dr
            simp only at hx4
            have hbr : b.toNat < L.length := by omega
            simp (maxSteps := 1000000) (disch := omega) only [go_sem, Nat.zero_add, Int.reduceLT, Int.reduceLE, Int.reduceToNat, Nat.reduceLT, eq_self, Int.toNat_zero, Int.toNat_one, Nat.reduceEqDiff, Nat.reduceAdd, Nat.reduceLeDiff, Nat.reduceSub, Nat.reduceMul, ↓reduceIte, reduceCtorEq, Nat.add_zero, Int.toNat_natCast, List.getElem?_map, Option.map_some, List.length_map, Int.cast_ofNat_Int, decide_true, decide_false, wrap_id, h3, hon, hne, hne', upd_upd, bds_length, bds_get, List.getElem?_eq_getElem hbr]
            repeat (refine And.intro (by first | omega | (simp [maxLen]; done) | (simp [maxLen]; omega)) ?_)
            have hset : (bds L).set b.toNat (setc 1 (.int .i64 0) (bdv L[b.toNat])) = bds (L.set b.toNat ⟨L[b.toNat].lo, 0⟩) := by simp [bds, bdv, go_sem, List.map_set]
            rw [hset]
            refine fin c _ (L.set b.toNat ⟨L[b.toNat].lo, 0⟩) at5 (by simp [hL]) ?_ (by first | rfl | simp (maxSteps := 1000000) only [go_sem, Nat.zero_add, Int.reduceLT, Int.reduceLE, Int.reduceToNat, Nat.reduceLT, eq_self, Int.toNat_zero, Int.toNat_one, Nat.reduceEqDiff, Nat.reduceAdd, Nat.reduceLeDiff, Nat.reduceSub, Nat.reduceMul, ↓reduceIte, reduceCtorEq, Nat.add_zero, Int.toNat_natCast, List.getElem?_map, Option.map_some, List.length_map, Int.cast_ofNat_Int, decide_true, decide_false]) (by simp (maxSteps := 1000000) only [go_sem, Nat.zero_add, Int.reduceLT, Int.reduceLE, Int.reduceToNat, Nat.reduceLT, eq_self, Int.toNat_zero, Int.toNat_one, Nat.reduceEqDiff, Nat.reduceAdd, Nat.reduceLeDiff, Nat.reduceSub, Nat.reduceMul, ↓reduceIte, reduceCtorEq, Nat.add_zero, Int.toNat_natCast, List.getElem?_map, Option.map_some, List.length_map, Int.cast_ofNat_Int, decide_true, decide_false, hne]) ?_
            · intro x hx
              rcases List.mem_or_eq_of_mem_set hx with hx | hx
              · exact hLb x hx
              · have := hLb _ (List.getElem_mem hbr)
                subst hx; simp only [okBd] at this ⊢; omega
            · intro i hi hi2
              have : ¬ i = n0 := by omega
              simp (maxSteps := 1000000) only [go_sem, Nat.zero_add, Int.reduceLT, Int.reduceLE, Int.reduceToNat, Nat.reduceLT, eq_self, Int.toNat_zero, Int.toNat_one, Nat.reduceEqDiff, Nat.reduceAdd, Nat.reduceLeDiff, Nat.reduceSub, Nat.reduceMul, ↓reduceIte, reduceCtorEq, Nat.add_zero, Int.toNat_natCast, List.getElem?_map, Option.map_some, List.length_map, Int.cast_ofNat_Int, decide_true, decide_false, hi2, this]; exact holt i hi hi2
          · exact fin c _ L at4 hL hLb (by simp (maxSteps := 1000000) only [go_sem, Nat.zero_add, Int.reduceLT, Int.reduceLE, Int.reduceToNat, Nat.reduceLT, eq_self, Int.toNat_zero, Int.toNat_one, Nat.reduceEqDiff, Nat.reduceAdd, Nat.reduceLeDiff, Nat.reduceSub, Nat.reduceMul, ↓reduceIte, reduceCtorEq, Nat.add_zero, Int.toNat_natCast, List.getElem?_map, Option.map_some, List.length_map, Int.cast_ofNat_Int, decide_true, decide_false, hne']; exact hon) (by first | rfl | simp (maxSteps := 1000000) only [go_sem, Nat.zero_add, Int.reduceLT, Int.reduceLE, Int.reduceToNat, Nat.reduceLT, eq_self, Int.toNat_zero, Int.toNat_one, Nat.reduceEqDiff, Nat.reduceAdd, Nat.reduceLeDiff, Nat.reduceSub, Nat.reduceMul, ↓reduceIte, reduceCtorEq, Nat.add_zero, Int.toNat_natCast, List.getElem?_map, Option.map_some, List.length_map, Int.cast_ofNat_Int, decide_true, decide_false]) (fun i hi hi2 => by simp (maxSteps := 1000000) only [go_sem, Nat.zero_add, Int.reduceLT, Int.reduceLE, Int.reduceToNat, Nat.reduceLT, eq_self, Int.toNat_zero, Int.toNat_one, Nat.reduceEqDiff, Nat.reduceAdd, Nat.reduceLeDiff, Nat.reduceSub, Nat.reduceMul, ↓reduceIte, reduceCtorEq, Nat.add_zero, Int.toNat_natCast, List.getElem?_map, Option.map_some, List.length_map, Int.cast_ofNat_Int, decide_true, decide_false, hi2]; exact holt i hi hi2)
        · exact fin c _ L at3 hL hLb hon hoid holt
  refine HC.seal (fun i => decide (i < σ.n)) main ?_
  rintro r σ' ⟨g2, L, at2, rfl, hL, hLb, hn, h1, h2, h3⟩
  refine ⟨.list 2 (bds L), Pub.of_sl (ty := 35) (ro := false) (ap := true) (by simp [h1]) (by simp [bds_length]) (bds_pur _) (bds_ok _), L, at2, σ'.c, rfl, hL, hLb, ?_⟩
  rw [hn]
  congr 1
  funext i
  simp only [upd]
  by_cases e : i = id
  · subst e; simp [hid, h2]
  · rw [if_neg e]
    by_cases hi : i < σ.n
    · simp [hi, h3 i hi e]
    · simp [hi]
theorem ok_ref01_in (n m : Int) : PC prog n_ref01_in [.int .i64 n, .int .i64 m] (.bool (decide (0 ≤ n) && decide (n ≤ m))) := by
  refine PC_of_body b_ref01_in (by simp) ?_
  simp only [c_ref01_in, go_sem, Nat.zero_add, Int.reduceLT, Int.reduceLE, Int.reduceToNat, Nat.reduceLT, eq_self, Int.toNat_zero, Int.toNat_one, Nat.reduceEqDiff, Nat.reduceAdd, Nat.reduceLeDiff, Nat.reduceSub, Nat.reduceMul, ↓reduceIte, reduceCtorEq, Nat.add_zero, Int.toNat_natCast, List.getElem?_map, Option.map_some, List.length_map, Int.cast_ofNat_Int, decide_true, decide_false]
  refine gd_td rfl (fun h => ?_) (fun h => ?_) <;> simp (maxSteps := 1000000) only [go_sem, Nat.zero_add, Int.reduceLT, Int.reduceLE, Int.reduceToNat, Nat.reduceLT, eq_self, Int.toNat_zero, Int.toNat_one, Nat.reduceEqDiff, Nat.reduceAdd, Nat.reduceLeDiff, Nat.reduceSub, Nat.reduceMul, ↓reduceIte, reduceCtorEq, Nat.add_zero, Int.toNat_natCast, List.getElem?_map, Option.map_some, List.length_map, Int.cast_ofNat_Int, decide_true, decide_false]
  all_goals exact Pub.of_eq (by simp [*]) rfl
theorem ok_ref01_In (n m : Int) : PC prog n_ref01_In [.int .i64 n, .int .i64 m] (.bool (decide (0 ≤ n) && decide (n ≤ m))) := by
  refine PC_of_body b_ref01_In (by simp) ?_
  simp only [c_ref01_In, go_sem, Nat.zero_add, Int.reduceLT, Int.reduceLE, Int.reduceToNat, Nat.reduceLT, eq_self, Int.toNat_zero, Int.toNat_one, Nat.reduceEqDiff, Nat.reduceAdd, Nat.reduceLeDiff, Nat.reduceSub, Nat.reduceMul, ↓reduceIte, reduceCtorEq, Nat.add_zero, Int.toNat_natCast, List.getElem?_map, Option.map_some, List.length_map, Int.cast_ofNat_Int, decide_true, decide_false]
  refine call_pc (ok_ref01_in _ _) (by simp [go_sem]) ?_
  try simp (maxSteps := 1000000) only [go_sem, Nat.zero_add, Int.reduceLT, Int.reduceLE, Int.reduceToNat, Nat.reduceLT, eq_self, Int.toNat_zero, Int.toNat_one, Nat.reduceEqDiff, Nat.reduceAdd, Nat.reduceLeDiff, Nat.reduceSub, Nat.reduceMul, ↓reduceIte, reduceCtorEq, Nat.add_zero, Int.toNat_natCast, List.getElem?_map, Option.map_some, List.length_map, Int.cast_ofNat_Int, decide_true, decide_false]
  exact Pub.of_eq rfl rfl
theorem ok_ref21_flows (l : List Int) (hl : l.length ≤ 9223372036854775807) : PC prog n_ref21_flows [.list 1 (ints l)] (.bool (l.all flow1)) := by
  refine PC_of_body b_ref21_flows (by simp) ?_
  simp only [c_ref21_flows, go_sem, Nat.zero_add, Int.reduceLT, Int.reduceLE, Int.reduceToNat, Nat.reduceLT, eq_self, Int.toNat_zero, Int.toNat_one, Nat.reduceEqDiff, Nat.reduceAdd, Nat.reduceLeDiff, Nat.reduceSub, Nat.reduceMul, ↓reduceIte, reduceCtorEq, Nat.add_zero, Int.toNat_natCast, List.getElem?_map, Option.map_some, List.length_map, Int.cast_ofNat_Int, decide_true, decide_false, ints_length]
  refine awp_upF [2, 4, 7, 8, 9, 10, 11, 12, 13, 14] (by kernel_rfl) l.length (fun k e _ => e 7 = .int .i64 k ∧ ∀ j, j < k → ∀ x, l[j]? = some x → flow1 x = true) ?_ ?_
  · simp [go_sem]
  · rintro k fe ob c hk ⟨h7, hj⟩
    simp (maxSteps := 1000000) only [go_sem, Nat.zero_add, Int.reduceLT, Int.reduceLE, Int.reduceToNat, Nat.reduceLT, eq_self, Int.toNat_zero, Int.toNat_one, Nat.reduceEqDiff, Nat.reduceAdd, Nat.reduceLeDiff, Nat.reduceSub, Nat.reduceMul, ↓reduceIte, reduceCtorEq, Nat.add_zero, Int.toNat_natCast, List.getElem?_map, Option.map_some, List.length_map, Int.cast_ofNat_Int, decide_true, decide_false] at h7
    simp (maxSteps := 1000000) only [go_sem, Nat.zero_add, Int.reduceLT, Int.reduceLE, Int.reduceToNat, Nat.reduceLT, eq_self, Int.toNat_zero, Int.toNat_one, Nat.reduceEqDiff, Nat.reduceAdd, Nat.reduceLeDiff, Nat.reduceSub, Nat.reduceMul, ↓reduceIte, reduceCtorEq, Nat.add_zero, Int.toNat_natCast, List.getElem?_map, Option.map_some, List.length_map, Int.cast_ofNat_Int, decide_true, decide_false, h7]
    refine cond_d (fun hlt => ?_) (fun hge => ?_)
    · have hkl : k < l.length := by omega
      simp (maxSteps := 1000000) (disch := omega) only [go_sem, Nat.zero_add, Int.reduceLT, Int.reduceLE, Int.reduceToNat, Nat.reduceLT, eq_self, Int.toNat_zero, Int.toNat_one, Nat.reduceEqDiff, Nat.reduceAdd, Nat.reduceLeDiff, Nat.reduceSub, Nat.reduceMul, ↓reduceIte, reduceCtorEq, Nat.add_zero, Int.toNat_natCast, List.getElem?_map, Option.map_some, List.length_map, Int.cast_ofNat_Int, decide_true, decide_false, wrap_id, h7, ints_length, ints_get, List.getElem?_eq_getElem hkl]
      repeat (refine And.intro (by first | omega | (simp [maxLen]; done) | (simp [maxLen]; omega)) ?_)
      refine call_pc (ok_ref01_In _ _) (by simp [go_sem]) ?_
      rw [show (decide (0 ≤ l[k]) && decide (l[k] ≤ 1073741824)) = flow1 l[k] from rfl]
      try simp (maxSteps := 1000000) only [go_sem, Nat.zero_add, Int.reduceLT, Int.reduceLE, Int.reduceToNat, Nat.reduceLT, eq_self, Int.toNat_zero, Int.toNat_one, Nat.reduceEqDiff, Nat.reduceAdd, Nat.reduceLeDiff, Nat.reduceSub, Nat.reduceMul, ↓reduceIte, reduceCtorEq, Nat.add_zero, Int.toNat_natCast, List.getElem?_map, Option.map_some, List.length_map, Int.cast_ofNat_Int, decide_true, decide_false]
      refine cond_split (fun hp => ?_) (fun hp => ?_) <;> simp (maxSteps := 1000000) (disch := omega) only [go_sem, Nat.zero_add, Int.reduceLT, Int.reduceLE, Int.reduceToNat, Nat.reduceLT, eq_self, Int.toNat_zero, Int.toNat_one, Nat.reduceEqDiff, Nat.reduceAdd, Nat.reduceLeDiff, Nat.reduceSub, Nat.reduceMul, ↓reduceIte, reduceCtorEq, Nat.add_zero, Int.toNat_natCast, List.getElem?_map, Option.map_some, List.length_map, Int.cast_ofNat_Int, decide_true, decide_false, h7, wrap_id]
      · refine Pub.of_eq ?_ rfl
        congr 1; symm; rw [List.all_eq_false]; exact ⟨_, List.getElem_mem hkl, by simpa using hp⟩
      · exact up_next hkl ⟨(by first | ((try simp (maxSteps := 1000000) only [go_sem, Nat.zero_add, Int.reduceLT, Int.reduceLE, Int.reduceToNat, Nat.reduceLT, eq_self, Int.toNat_zero, Int.toNat_one, Nat.reduceEqDiff, Nat.reduceAdd, Nat.reduceLeDiff, Nat.reduceSub, Nat.reduceMul, ↓reduceIte, reduceCtorEq, Nat.add_zero, Int.toNat_natCast, List.getElem?_map, Option.map_some, List.length_map, Int.cast_ofNat_Int, decide_true, decide_false]); done) | ((try simp (maxSteps := 1000000) only [go_sem, Nat.zero_add, Int.reduceLT, Int.reduceLE, Int.reduceToNat, Nat.reduceLT, eq_self, Int.toNat_zero, Int.toNat_one, Nat.reduceEqDiff, Nat.reduceAdd, Nat.reduceLeDiff, Nat.reduceSub, Nat.reduceMul, ↓reduceIte, reduceCtorEq, Nat.add_zero, Int.toNat_natCast, List.getElem?_map, Option.map_some, List.length_map, Int.cast_ofNat_Int, decide_true, decide_false]); rfl)), lt_snoc hj hkl (by simpa using hp)⟩
    · try simp (maxSteps := 1000000) only [go_sem, Nat.zero_add, Int.reduceLT, Int.reduceLE, Int.reduceToNat, Nat.reduceLT, eq_self, Int.toNat_zero, Int.toNat_one, Nat.reduceEqDiff, Nat.reduceAdd, Nat.reduceLeDiff, Nat.reduceSub, Nat.reduceMul, ↓reduceIte, reduceCtorEq, Nat.add_zero, Int.toNat_natCast, List.getElem?_map, Option.map_some, List.length_map, Int.cast_ofNat_Int, decide_true, decide_false]
      refine Pub.of_eq ?_ rfl
      congr 1; symm; rw [List.all_eq_true]; intro x hx
      obtain ⟨j, hj', rfl⟩ := List.getElem_of_mem hx
      exact hj j (by omega) _ (List.getElem?_eq_getElem hj')
theorem ok_ref21_next (a t u d : Int) (ha : 0 ≤ a ∧ a ≤ 1073741824) (hu : 0 ≤ u ∧ u ≤ 1073741824) (hd : 0 ≤ d ∧ d ≤ 1073741824) :
    PC prog n_ref21_next [.int .i64 a, .int .i64 t, .int .i64 u, .int .i64 d] (.int .i64 (towardS a t u d)) := by
  refine PC_of_body b_ref21_next (by simp) ?_
  simp (disch := omega) only [c_ref21_next, go_sem, Nat.zero_add, Int.reduceLT, Int.reduceLE, Int.reduceToNat, Nat.reduceLT, eq_self, Int.toNat_zero, Int.toNat_one, Nat.reduceEqDiff, Nat.reduceAdd, Nat.reduceLeDiff, Nat.reduceSub, Nat.reduceMul, ↓reduceIte, reduceCtorEq, Nat.add_zero, Int.toNat_natCast, List.getElem?_map, Option.map_some, List.length_map, Int.cast_ofNat_Int, decide_true, decide_false, wrap_id]
  refine call_pc (ok_ref01_Clamp t ⟨a - d, a + u⟩) (by simp [go_sem]) ?_
  try simp (maxSteps := 1000000) only [go_sem, Nat.zero_add, Int.reduceLT, Int.reduceLE, Int.reduceToNat, Nat.reduceLT, eq_self, Int.toNat_zero, Int.toNat_one, Nat.reduceEqDiff, Nat.reduceAdd, Nat.reduceLeDiff, Nat.reduceSub, Nat.reduceMul, ↓reduceIte, reduceCtorEq, Nat.add_zero, Int.toNat_natCast, List.getElem?_map, Option.map_some, List.length_map, Int.cast_ofNat_Int, decide_true, decide_false]
  refine Pub.of_eq ?_ rfl
  congr 1
  unfold towardS
  (try simp only)
  split <;> split <;> omega
theorem ok_ref21_Path (b t u d s : Int) : PC prog n_ref21_Path [.int .i64 b, .int .i64 t, .int .i64 u, .int .i64 d, .int .i64 s] (.tuple [.list 1 (ints (pathR b t u d s).1), .int .i64 (pathR b t u d s).2]) := by
  refine PC_of_body b_ref21_Path (by simp) ?_
  simp only [c_ref21_Path, go_sem, Nat.zero_add, Int.reduceLT, Int.reduceLE, Int.reduceToNat, Nat.reduceLT, eq_self, Int.toNat_zero, Int.toNat_one, Nat.reduceEqDiff, Nat.reduceAdd, Nat.reduceLeDiff, Nat.reduceSub, Nat.reduceMul, ↓reduceIte, reduceCtorEq, Nat.add_zero, Int.toNat_natCast, List.getElem?_map, Option.map_some, List.length_map, Int.cast_ofNat_Int, decide_true, decide_false]
  refine call_pc (ok_ref21_flows [b, t, u, d] (by simp)) (by simp [ints, go_sem]) ?_
  try simp (maxSteps := 1000000) only [go_sem, Nat.zero_add, Int.reduceLT, Int.reduceLE, Int.reduceToNat, Nat.reduceLT, eq_self, Int.toNat_zero, Int.toNat_one, Nat.reduceEqDiff, Nat.reduceAdd, Nat.reduceLeDiff, Nat.reduceSub, Nat.reduceMul, ↓reduceIte, reduceCtorEq, Nat.add_zero, Int.toNat_natCast, List.getElem?_map, Option.map_some, List.length_map, Int.cast_ofNat_Int, decide_true, decide_false]
  refine cond_split (fun h => ?_) (fun h => ?_) <;> simp (maxSteps := 1000000) only [go_sem, Nat.zero_add, Int.reduceLT, Int.reduceLE, Int.reduceToNat, Nat.reduceLT, eq_self, Int.toNat_zero, Int.toNat_one, Nat.reduceEqDiff, Nat.reduceAdd, Nat.reduceLeDiff, Nat.reduceSub, Nat.reduceMul, ↓reduceIte, reduceCtorEq, Nat.add_zero, Int.toNat_natCast, List.getElem?_map, Option.map_some, List.length_map, Int.cast_ofNat_Int, decide_true, decide_false]
  · rw [show pathR b t u d s = ([], 1) by simp at h; simp [pathR]; intro h1 h2 h3 h4; simp_all]
    exact Pub.pair (.nl 1) (.pure rfl)
  have h : [b, t, u, d].all flow1 = true := by simpa using h
  refine call_pc (ok_ref01_In s 4096) (by simp [go_sem]) ?_
  try simp (maxSteps := 1000000) only [go_sem, Nat.zero_add, Int.reduceLT, Int.reduceLE, Int.reduceToNat, Nat.reduceLT, eq_self, Int.toNat_zero, Int.toNat_one, Nat.reduceEqDiff, Nat.reduceAdd, Nat.reduceLeDiff, Nat.reduceSub, Nat.reduceMul, ↓reduceIte, reduceCtorEq, Nat.add_zero, Int.toNat_natCast, List.getElem?_map, Option.map_some, List.length_map, Int.cast_ofNat_Int, decide_true, decide_false]
  refine cond_split (fun hs => ?_) (fun hs => ?_) <;> simp (maxSteps := 1000000) only [go_sem, Nat.zero_add, Int.reduceLT, Int.reduceLE, Int.reduceToNat, Nat.reduceLT, eq_self, Int.toNat_zero, Int.toNat_one, Nat.reduceEqDiff, Nat.reduceAdd, Nat.reduceLeDiff, Nat.reduceSub, Nat.reduceMul, ↓reduceIte, reduceCtorEq, Nat.add_zero, Int.toNat_natCast, List.getElem?_map, Option.map_some, List.length_map, Int.cast_ofNat_Int, decide_true, decide_false]
  · rw [show pathR b t u d s = ([], 10) by simp at hs; simp only [pathR]; rw [if_pos h, if_neg (by omega)]]
    exact Pub.pair (.nl 1) (.pure rfl)
  simp at hs
  have hp : pathR b t u d s = (pathS (fun a => towardS a t u d) b s.toNat, 0) := by simp only [pathR]; rw [if_pos h, if_pos hs]
  rw [hp]
  simp only [List.all_cons, List.all_nil, Bool.and_true, Bool.and_eq_true] at h
  obtain ⟨hb, ht, hu, hd⟩ := h
  have hst : ((s.toNat : Nat) : Int) = s := Int.toNat_of_nonneg hs.1
  refine awp_upF [0, 12, 24, 25, 26, 27, 28, 29, 30, 31, 32, 33, 34, 35] (by kernel_rfl) s.toNat (fun k e σ => e 0 = .int .i64 (runS (fun a => towardS a t u d) b k) ∧ e 24 = .int .i64 k ∧
    ∃ g, e 12 = .sl 0 g 1 0 k ∧ σ.ob 0 = some ⟨g, 1, 3, false, true, ints (pathS (fun a => towardS a t u d) b k)⟩) ?_ ?_
  · simp [go_sem, runS, pathS_zero, ints]
  · rintro k fe ob c hk ⟨h0, h24, g, h12, hob⟩
    simp (maxSteps := 1000000) only [go_sem, Nat.zero_add, Int.reduceLT, Int.reduceLE, Int.reduceToNat, Nat.reduceLT, eq_self, Int.toNat_zero, Int.toNat_one, Nat.reduceEqDiff, Nat.reduceAdd, Nat.reduceLeDiff, Nat.reduceSub, Nat.reduceMul, ↓reduceIte, reduceCtorEq, Nat.add_zero, Int.toNat_natCast, List.getElem?_map, Option.map_some, List.length_map, Int.cast_ofNat_Int, decide_true, decide_false] at h0 h24 h12 hob
    simp (maxSteps := 1000000) only [go_sem, Nat.zero_add, Int.reduceLT, Int.reduceLE, Int.reduceToNat, Nat.reduceLT, eq_self, Int.toNat_zero, Int.toNat_one, Nat.reduceEqDiff, Nat.reduceAdd, Nat.reduceLeDiff, Nat.reduceSub, Nat.reduceMul, ↓reduceIte, reduceCtorEq, Nat.add_zero, Int.toNat_natCast, List.getElem?_map, Option.map_some, List.length_map, Int.cast_ofNat_Int, decide_true, decide_false, h24]
    refine cond_d (fun hlt => ?_) (fun hge => ?_)
    · have hkl : k < s.toNat := by omega
      have hf := run_flow b t u d hb ht hu hd k
      simp (maxSteps := 1000000) only [go_sem, Nat.zero_add, Int.reduceLT, Int.reduceLE, Int.reduceToNat, Nat.reduceLT, eq_self, Int.toNat_zero, Int.toNat_one, Nat.reduceEqDiff, Nat.reduceAdd, Nat.reduceLeDiff, Nat.reduceSub, Nat.reduceMul, ↓reduceIte, reduceCtorEq, Nat.add_zero, Int.toNat_natCast, List.getElem?_map, Option.map_some, List.length_map, Int.cast_ofNat_Int, decide_true, decide_false, h0]
      refine call_pc (ok_ref21_next _ t u d ((flow1_iff _).1 hf) ((flow1_iff _).1 hu) ((flow1_iff _).1 hd)) (by simp [go_sem]) ?_
      simp (maxSteps := 1000000) (disch := omega) only [go_sem, Nat.zero_add, Int.reduceLT, Int.reduceLE, Int.reduceToNat, Nat.reduceLT, eq_self, Int.toNat_zero, Int.toNat_one, Nat.reduceEqDiff, Nat.reduceAdd, Nat.reduceLeDiff, Nat.reduceSub, Nat.reduceMul, ↓reduceIte, reduceCtorEq, Nat.add_zero, Int.toNat_natCast, List.getElem?_map, Option.map_some, List.length_map, Int.cast_ofNat_Int, decide_true, decide_false, h12, hob, wrap_id, h24]
      refine ⟨by simp [pathS_length, ints_length], by simp [maxLen]; omega, by omega, ?_⟩
      try repeat (refine And.intro (by first | omega | (simp [maxLen]; done) | (simp [maxLen]; omega)) ?_)
      refine up_next hkl ⟨(by first | ((try simp (maxSteps := 1000000) only [go_sem, Nat.zero_add, Int.reduceLT, Int.reduceLE, Int.reduceToNat, Nat.reduceLT, eq_self, Int.toNat_zero, Int.toNat_one, Nat.reduceEqDiff, Nat.reduceAdd, Nat.reduceLeDiff, Nat.reduceSub, Nat.reduceMul, ↓reduceIte, reduceCtorEq, Nat.add_zero, Int.toNat_natCast, List.getElem?_map, Option.map_some, List.length_map, Int.cast_ofNat_Int, decide_true, decide_false]); done) | ((try simp (maxSteps := 1000000) only [go_sem, Nat.zero_add, Int.reduceLT, Int.reduceLE, Int.reduceToNat, Nat.reduceLT, eq_self, Int.toNat_zero, Int.toNat_one, Nat.reduceEqDiff, Nat.reduceAdd, Nat.reduceLeDiff, Nat.reduceSub, Nat.reduceMul, ↓reduceIte, reduceCtorEq, Nat.add_zero, Int.toNat_natCast, List.getElem?_map, Option.map_some, List.length_map, Int.cast_ofNat_Int, decide_true, decide_false]); rfl)), (by first | ((try simp (maxSteps := 1000000) only [go_sem, Nat.zero_add, Int.reduceLT, Int.reduceLE, Int.reduceToNat, Nat.reduceLT, eq_self, Int.toNat_zero, Int.toNat_one, Nat.reduceEqDiff, Nat.reduceAdd, Nat.reduceLeDiff, Nat.reduceSub, Nat.reduceMul, ↓reduceIte, reduceCtorEq, Nat.add_zero, Int.toNat_natCast, List.getElem?_map, Option.map_some, List.length_map, Int.cast_ofNat_Int, decide_true, decide_false]); done) | ((try simp (maxSteps := 1000000) only [go_sem, Nat.zero_add, Int.reduceLT, Int.reduceLE, Int.reduceToNat, Nat.reduceLT, eq_self, Int.toNat_zero, Int.toNat_one, Nat.reduceEqDiff, Nat.reduceAdd, Nat.reduceLeDiff, Nat.reduceSub, Nat.reduceMul, ↓reduceIte, reduceCtorEq, Nat.add_zero, Int.toNat_natCast, List.getElem?_map, Option.map_some, List.length_map, Int.cast_ofNat_Int, decide_true, decide_false]); rfl)), _, (by first | ((try simp (maxSteps := 1000000) only [go_sem, Nat.zero_add, Int.reduceLT, Int.reduceLE, Int.reduceToNat, Nat.reduceLT, eq_self, Int.toNat_zero, Int.toNat_one, Nat.reduceEqDiff, Nat.reduceAdd, Nat.reduceLeDiff, Nat.reduceSub, Nat.reduceMul, ↓reduceIte, reduceCtorEq, Nat.add_zero, Int.toNat_natCast, List.getElem?_map, Option.map_some, List.length_map, Int.cast_ofNat_Int, decide_true, decide_false]); done) | ((try simp (maxSteps := 1000000) only [go_sem, Nat.zero_add, Int.reduceLT, Int.reduceLE, Int.reduceToNat, Nat.reduceLT, eq_self, Int.toNat_zero, Int.toNat_one, Nat.reduceEqDiff, Nat.reduceAdd, Nat.reduceLeDiff, Nat.reduceSub, Nat.reduceMul, ↓reduceIte, reduceCtorEq, Nat.add_zero, Int.toNat_natCast, List.getElem?_map, Option.map_some, List.length_map, Int.cast_ofNat_Int, decide_true, decide_false]); rfl)), ?_⟩
      simp [go_sem, ints_snoc, pathS_succ, runS]
    · have hks : k = s.toNat := by omega
      subst hks
      simp (maxSteps := 1000000) only [go_sem, Nat.zero_add, Int.reduceLT, Int.reduceLE, Int.reduceToNat, Nat.reduceLT, eq_self, Int.toNat_zero, Int.toNat_one, Nat.reduceEqDiff, Nat.reduceAdd, Nat.reduceLeDiff, Nat.reduceSub, Nat.reduceMul, ↓reduceIte, reduceCtorEq, Nat.add_zero, Int.toNat_natCast, List.getElem?_map, Option.map_some, List.length_map, Int.cast_ofNat_Int, decide_true, decide_false, h12]
      exact Pub.pair (Pub.of_sl hob (by simp [ints, pathS_length]) (ints_pur _) (ints_ok _)) (.pure rfl)
theorem ok_ref21_Steps (b t u d : Int) : PC prog n_ref21_Steps [.int .i64 b, .int .i64 t, .int .i64 u, .int .i64 d] (trip (stepsR b t u d)) := by
  refine PC_of_body b_ref21_Steps (by simp) ?_
  simp only [c_ref21_Steps, go_sem, Nat.zero_add, Int.reduceLT, Int.reduceLE, Int.reduceToNat, Nat.reduceLT, eq_self, Int.toNat_zero, Int.toNat_one, Nat.reduceEqDiff, Nat.reduceAdd, Nat.reduceLeDiff, Nat.reduceSub, Nat.reduceMul, ↓reduceIte, reduceCtorEq, Nat.add_zero, Int.toNat_natCast, List.getElem?_map, Option.map_some, List.length_map, Int.cast_ofNat_Int, decide_true, decide_false]
  refine call_pc (ok_ref21_flows [b, t, u, d] (by simp)) (by simp [ints, go_sem]) ?_
  try simp (maxSteps := 1000000) only [go_sem, Nat.zero_add, Int.reduceLT, Int.reduceLE, Int.reduceToNat, Nat.reduceLT, eq_self, Int.toNat_zero, Int.toNat_one, Nat.reduceEqDiff, Nat.reduceAdd, Nat.reduceLeDiff, Nat.reduceSub, Nat.reduceMul, ↓reduceIte, reduceCtorEq, Nat.add_zero, Int.toNat_natCast, List.getElem?_map, Option.map_some, List.length_map, Int.cast_ofNat_Int, decide_true, decide_false]
  refine cond_split (fun h => ?_) (fun h => ?_) <;> simp (maxSteps := 1000000) only [go_sem, Nat.zero_add, Int.reduceLT, Int.reduceLE, Int.reduceToNat, Nat.reduceLT, eq_self, Int.toNat_zero, Int.toNat_one, Nat.reduceEqDiff, Nat.reduceAdd, Nat.reduceLeDiff, Nat.reduceSub, Nat.reduceMul, ↓reduceIte, reduceCtorEq, Nat.add_zero, Int.toNat_natCast, List.getElem?_map, Option.map_some, List.length_map, Int.cast_ofNat_Int, decide_true, decide_false]
  · refine Pub.of_eq ?_ (by simp [trip, go_sem, AV.pur])
    rw [show stepsR b t u d = (0, false, 1) by simp only [stepsR]; rw [if_neg (by intro h2; simp_all)]]
    rfl
  have h : [b, t, u, d].all flow1 = true := by simpa using h
  have h' := h
  simp only [List.all_cons, List.all_nil, Bool.and_true, Bool.and_eq_true, flow1_iff] at h'
  obtain ⟨hb, ht, hu, hd⟩ := h'
  simp (maxSteps := 1000000) (disch := omega) only [go_sem, Nat.zero_add, Int.reduceLT, Int.reduceLE, Int.reduceToNat, Nat.reduceLT, eq_self, Int.toNat_zero, Int.toNat_one, Nat.reduceEqDiff, Nat.reduceAdd, Nat.reduceLeDiff, Nat.reduceSub, Nat.reduceMul, ↓reduceIte, reduceCtorEq, Nat.add_zero, Int.toNat_natCast, List.getElem?_map, Option.map_some, List.length_map, Int.cast_ofNat_Int, decide_true, decide_false, wrap_id]
  refine cond_d (fun hw => ?_) (fun hw => ?_) <;> simp (maxSteps := 1000000) (disch := omega) only [go_sem, Nat.zero_add, Int.reduceLT, Int.reduceLE, Int.reduceToNat, Nat.reduceLT, eq_self, Int.toNat_zero, Int.toNat_one, Nat.reduceEqDiff, Nat.reduceAdd, Nat.reduceLeDiff, Nat.reduceSub, Nat.reduceMul, ↓reduceIte, reduceCtorEq, Nat.add_zero, Int.toNat_natCast, List.getElem?_map, Option.map_some, List.length_map, Int.cast_ofNat_Int, decide_true, decide_false, wrap_id] <;> refine cond_d (fun hz => ?_) (fun hz => ?_) <;> simp (maxSteps := 1000000) (disch := omega) only [go_sem, Nat.zero_add, Int.reduceLT, Int.reduceLE, Int.reduceToNat, Nat.reduceLT, eq_self, Int.toNat_zero, Int.toNat_one, Nat.reduceEqDiff, Nat.reduceAdd, Nat.reduceLeDiff, Nat.reduceSub, Nat.reduceMul, ↓reduceIte, reduceCtorEq, Nat.add_zero, Int.toNat_natCast, List.getElem?_map, Option.map_some, List.length_map, Int.cast_ofNat_Int, decide_true, decide_false, wrap_id]
  · omega
  · refine cond_d (fun hs => ?_) (fun hs => ?_) <;> simp (maxSteps := 1000000) (disch := omega) only [go_sem, Nat.zero_add, Int.reduceLT, Int.reduceLE, Int.reduceToNat, Nat.reduceLT, eq_self, Int.toNat_zero, Int.toNat_one, Nat.reduceEqDiff, Nat.reduceAdd, Nat.reduceLeDiff, Nat.reduceSub, Nat.reduceMul, ↓reduceIte, reduceCtorEq, Nat.add_zero, Int.toNat_natCast, List.getElem?_map, Option.map_some, List.length_map, Int.cast_ofNat_Int, decide_true, decide_false, wrap_id]
    · refine Pub.of_eq ?_ (by simp [trip, go_sem, AV.pur])
      simp only [stepsR]; rw [if_pos h, if_neg (by omega), if_pos hw, if_pos hs]; rfl
    · have := tdiv_bd (0 - (t - b) + d - 1) d (by omega) (by omega)
      simp (maxSteps := 1000000) (disch := omega) only [go_sem, Nat.zero_add, Int.reduceLT, Int.reduceLE, Int.reduceToNat, Nat.reduceLT, eq_self, Int.toNat_zero, Int.toNat_one, Nat.reduceEqDiff, Nat.reduceAdd, Nat.reduceLeDiff, Nat.reduceSub, Nat.reduceMul, ↓reduceIte, reduceCtorEq, Nat.add_zero, Int.toNat_natCast, List.getElem?_map, Option.map_some, List.length_map, Int.cast_ofNat_Int, decide_true, decide_false, wrap_id]
      refine ⟨hs, Pub.of_eq ?_ (by simp [trip, go_sem, AV.pur])⟩
      simp only [stepsR]; rw [if_pos h, if_neg (by omega)]; simp only [if_pos hw]; rw [if_neg hs]; rfl
  · refine Pub.of_eq ?_ (by simp [trip, go_sem, AV.pur])
    simp only [stepsR]; rw [if_pos h, if_pos (by omega)]; rfl
  · refine cond_d (fun hs => ?_) (fun hs => ?_) <;> simp (maxSteps := 1000000) (disch := omega) only [go_sem, Nat.zero_add, Int.reduceLT, Int.reduceLE, Int.reduceToNat, Nat.reduceLT, eq_self, Int.toNat_zero, Int.toNat_one, Nat.reduceEqDiff, Nat.reduceAdd, Nat.reduceLeDiff, Nat.reduceSub, Nat.reduceMul, ↓reduceIte, reduceCtorEq, Nat.add_zero, Int.toNat_natCast, List.getElem?_map, Option.map_some, List.length_map, Int.cast_ofNat_Int, decide_true, decide_false, wrap_id]
    · refine Pub.of_eq ?_ (by simp [trip, go_sem, AV.pur])
      simp only [stepsR]; rw [if_pos h, if_neg (by omega)]; simp only [if_neg hw]; rw [if_pos hs]; rfl
    · have := tdiv_bd (t - b + u - 1) u (by omega) (by omega)
      simp (maxSteps := 1000000) (disch := omega) only [go_sem, Nat.zero_add, Int.reduceLT, Int.reduceLE, Int.reduceToNat, Nat.reduceLT, eq_self, Int.toNat_zero, Int.toNat_one, Nat.reduceEqDiff, Nat.reduceAdd, Nat.reduceLeDiff, Nat.reduceSub, Nat.reduceMul, ↓reduceIte, reduceCtorEq, Nat.add_zero, Int.toNat_natCast, List.getElem?_map, Option.map_some, List.length_map, Int.cast_ofNat_Int, decide_true, decide_false, wrap_id]
      refine ⟨hs, Pub.of_eq ?_ (by simp [trip, go_sem, AV.pur])⟩
      simp only [stepsR]; rw [if_pos h, if_neg (by omega)]; simp only [if_neg hw]; rw [if_neg hs]; rfl
theorem ok_ref21_Within (l : List Int) (b u d : Int) (hl : l.length ≤ 9223372036854775807) : PC prog n_ref21_Within [.list 1 (ints l), .int .i64 b, .int .i64 u, .int .i64 d] (.tuple [.int .i64 (withinR l b u d).1, .bool (withinR l b u d).2]) := by
  refine PC_of_body b_ref21_Within (by simp) ?_
  simp only [c_ref21_Within, go_sem, Nat.zero_add, Int.reduceLT, Int.reduceLE, Int.reduceToNat, Nat.reduceLT, eq_self, Int.toNat_zero, Int.toNat_one, Nat.reduceEqDiff, Nat.reduceAdd, Nat.reduceLeDiff, Nat.reduceSub, Nat.reduceMul, ↓reduceIte, reduceCtorEq, Nat.add_zero, Int.toNat_natCast, List.getElem?_map, Option.map_some, List.length_map, Int.cast_ofNat_Int, decide_true, decide_false]
  refine call_pc (ok_ref21_flows [b, u, d] (by simp)) (by simp [ints, go_sem]) ?_
  try simp (maxSteps := 1000000) only [go_sem, Nat.zero_add, Int.reduceLT, Int.reduceLE, Int.reduceToNat, Nat.reduceLT, eq_self, Int.toNat_zero, Int.toNat_one, Nat.reduceEqDiff, Nat.reduceAdd, Nat.reduceLeDiff, Nat.reduceSub, Nat.reduceMul, ↓reduceIte, reduceCtorEq, Nat.add_zero, Int.toNat_natCast, List.getElem?_map, Option.map_some, List.length_map, Int.cast_ofNat_Int, decide_true, decide_false]
  refine cond_split (fun h => ?_) (fun h => ?_) <;> simp (maxSteps := 1000000) only [go_sem, Nat.zero_add, Int.reduceLT, Int.reduceLE, Int.reduceToNat, Nat.reduceLT, eq_self, Int.toNat_zero, Int.toNat_one, Nat.reduceEqDiff, Nat.reduceAdd, Nat.reduceLeDiff, Nat.reduceSub, Nat.reduceMul, ↓reduceIte, reduceCtorEq, Nat.add_zero, Int.toNat_natCast, List.getElem?_map, Option.map_some, List.length_map, Int.cast_ofNat_Int, decide_true, decide_false, ints_length]
  · refine Pub.of_eq ?_ (by simp [go_sem, AV.pur])
    rw [show withinR l b u d = (0, false) by simp only [withinR]; rw [if_neg (by intro h2; simp_all)]]
  have h : [b, u, d].all flow1 = true := by simpa using h
  have h' := h
  simp only [List.all_cons, List.all_nil, Bool.and_true, Bool.and_eq_true] at h'
  obtain ⟨hb, hu, hd⟩ := h'
  have hw : withinR l b u d = withinGo u d 0 b l := by simp only [withinR]; rw [if_pos h]
  rw [hw]
  have hu' := (flow1_iff u).1 hu
  have hd' := (flow1_iff d).1 hd
  refine awp_upF [1, 8, 9, 10, 11, 20, 21, 22, 23, 24, 25, 26, 27, 28, 29, 30, 31, 32, 33, 34, 35, 36, 37, 38, 39, 40, 41, 42, 43, 44, 45] (by kernel_rfl) l.length (fun k e _ => ∃ p, e 1 = .int .i64 p ∧ flow1 p = true ∧ e 20 = .int .i64 k ∧ withinGo u d 0 b l = withinGo u d k p (l.drop k)) ?_ ?_
  · exact ⟨b, by simp [go_sem, hb]⟩
  · rintro k fe ob c hk ⟨p, h1, hp, h20, hgo⟩
    simp (maxSteps := 1000000) only [go_sem, Nat.zero_add, Int.reduceLT, Int.reduceLE, Int.reduceToNat, Nat.reduceLT, eq_self, Int.toNat_zero, Int.toNat_one, Nat.reduceEqDiff, Nat.reduceAdd, Nat.reduceLeDiff, Nat.reduceSub, Nat.reduceMul, ↓reduceIte, reduceCtorEq, Nat.add_zero, Int.toNat_natCast, List.getElem?_map, Option.map_some, List.length_map, Int.cast_ofNat_Int, decide_true, decide_false] at h1 h20
    simp (maxSteps := 1000000) only [go_sem, Nat.zero_add, Int.reduceLT, Int.reduceLE, Int.reduceToNat, Nat.reduceLT, eq_self, Int.toNat_zero, Int.toNat_one, Nat.reduceEqDiff, Nat.reduceAdd, Nat.reduceLeDiff, Nat.reduceSub, Nat.reduceMul, ↓reduceIte, reduceCtorEq, Nat.add_zero, Int.toNat_natCast, List.getElem?_map, Option.map_some, List.length_map, Int.cast_ofNat_Int, decide_true, decide_false, h20]
    have hp' := (flow1_iff p).1 hp
    refine cond_d (fun hlt => ?_) (fun hge => ?_)
    · have hkl : k < l.length := by omega
      have hg : l[k]? = some l[k] := List.getElem?_eq_getElem hkl
      rw [hgo, drop_cons l k hkl, withinGo]
      simp (maxSteps := 1000000) only [go_sem, Nat.zero_add, Int.reduceLT, Int.reduceLE, Int.reduceToNat, Nat.reduceLT, eq_self, Int.toNat_zero, Int.toNat_one, Nat.reduceEqDiff, Nat.reduceAdd, Nat.reduceLeDiff, Nat.reduceSub, Nat.reduceMul, ↓reduceIte, reduceCtorEq, Nat.add_zero, Int.toNat_natCast, List.getElem?_map, Option.map_some, List.length_map, Int.cast_ofNat_Int, decide_true, decide_false, h20, ints_length, ints_get, hg]
      repeat (refine And.intro (by first | omega | (simp [maxLen]; done) | (simp [maxLen]; omega)) ?_)
      refine call_pc (ok_ref21_flows [l[k]] (by simp)) (by simp [ints, go_sem]) ?_
      try simp (maxSteps := 1000000) only [go_sem, Nat.zero_add, Int.reduceLT, Int.reduceLE, Int.reduceToNat, Nat.reduceLT, eq_self, Int.toNat_zero, Int.toNat_one, Nat.reduceEqDiff, Nat.reduceAdd, Nat.reduceLeDiff, Nat.reduceSub, Nat.reduceMul, ↓reduceIte, reduceCtorEq, Nat.add_zero, Int.toNat_natCast, List.getElem?_map, Option.map_some, List.length_map, Int.cast_ofNat_Int, decide_true, decide_false]
      refine gd_f rfl (fun hf => ?_) (fun hf => ?_) <;> simp (maxSteps := 1000000) only [go_sem, Nat.zero_add, Int.reduceLT, Int.reduceLE, Int.reduceToNat, Nat.reduceLT, eq_self, Int.toNat_zero, Int.toNat_one, Nat.reduceEqDiff, Nat.reduceAdd, Nat.reduceLeDiff, Nat.reduceSub, Nat.reduceMul, ↓reduceIte, reduceCtorEq, Nat.add_zero, Int.toNat_natCast, List.getElem?_map, Option.map_some, List.length_map, Int.cast_ofNat_Int, decide_true, decide_false, h1]
      · refine Pub.of_eq ?_ (by simp [go_sem, AV.pur])
        rw [if_neg (by intro hh; simp_all)]
      have hf : flow1 l[k] = true := by simpa using hf
      have hf' := (flow1_iff _).1 hf
      simp (maxSteps := 1000000) (disch := omega) only [go_sem, Nat.zero_add, Int.reduceLT, Int.reduceLE, Int.reduceToNat, Nat.reduceLT, eq_self, Int.toNat_zero, Int.toNat_one, Nat.reduceEqDiff, Nat.reduceAdd, Nat.reduceLeDiff, Nat.reduceSub, Nat.reduceMul, ↓reduceIte, reduceCtorEq, Nat.add_zero, Int.toNat_natCast, List.getElem?_map, Option.map_some, List.length_map, Int.cast_ofNat_Int, decide_true, decide_false, wrap_id]
      refine gd_fd rfl (fun hh => ?_) (fun hh => ?_) <;> simp (maxSteps := 1000000) (disch := omega) only [go_sem, Nat.zero_add, Int.reduceLT, Int.reduceLE, Int.reduceToNat, Nat.reduceLT, eq_self, Int.toNat_zero, Int.toNat_one, Nat.reduceEqDiff, Nat.reduceAdd, Nat.reduceLeDiff, Nat.reduceSub, Nat.reduceMul, ↓reduceIte, reduceCtorEq, Nat.add_zero, Int.toNat_natCast, List.getElem?_map, Option.map_some, List.length_map, Int.cast_ofNat_Int, decide_true, decide_false, wrap_id, h1]
      · refine Pub.of_eq ?_ (by simp [go_sem, AV.pur])
        rw [if_neg (by omega)]
      refine cond_d (fun hh2 => ?_) (fun hh2 => ?_) <;> simp (maxSteps := 1000000) (disch := omega) only [go_sem, Nat.zero_add, Int.reduceLT, Int.reduceLE, Int.reduceToNat, Nat.reduceLT, eq_self, Int.toNat_zero, Int.toNat_one, Nat.reduceEqDiff, Nat.reduceAdd, Nat.reduceLeDiff, Nat.reduceSub, Nat.reduceMul, ↓reduceIte, reduceCtorEq, Nat.add_zero, Int.toNat_natCast, List.getElem?_map, Option.map_some, List.length_map, Int.cast_ofNat_Int, decide_true, decide_false, wrap_id, h20]
      · refine Pub.of_eq ?_ (by simp [go_sem, AV.pur])
        rw [if_neg (by omega)]
      · rw [if_pos ⟨hf, by omega, by omega⟩]
        refine up_next hkl ⟨l[k], (by first | ((try simp (maxSteps := 1000000) only [go_sem, Nat.zero_add, Int.reduceLT, Int.reduceLE, Int.reduceToNat, Nat.reduceLT, eq_self, Int.toNat_zero, Int.toNat_one, Nat.reduceEqDiff, Nat.reduceAdd, Nat.reduceLeDiff, Nat.reduceSub, Nat.reduceMul, ↓reduceIte, reduceCtorEq, Nat.add_zero, Int.toNat_natCast, List.getElem?_map, Option.map_some, List.length_map, Int.cast_ofNat_Int, decide_true, decide_false]); done) | ((try simp (maxSteps := 1000000) only [go_sem, Nat.zero_add, Int.reduceLT, Int.reduceLE, Int.reduceToNat, Nat.reduceLT, eq_self, Int.toNat_zero, Int.toNat_one, Nat.reduceEqDiff, Nat.reduceAdd, Nat.reduceLeDiff, Nat.reduceSub, Nat.reduceMul, ↓reduceIte, reduceCtorEq, Nat.add_zero, Int.toNat_natCast, List.getElem?_map, Option.map_some, List.length_map, Int.cast_ofNat_Int, decide_true, decide_false]); rfl)), hf, (by first | ((try simp (maxSteps := 1000000) only [go_sem, Nat.zero_add, Int.reduceLT, Int.reduceLE, Int.reduceToNat, Nat.reduceLT, eq_self, Int.toNat_zero, Int.toNat_one, Nat.reduceEqDiff, Nat.reduceAdd, Nat.reduceLeDiff, Nat.reduceSub, Nat.reduceMul, ↓reduceIte, reduceCtorEq, Nat.add_zero, Int.toNat_natCast, List.getElem?_map, Option.map_some, List.length_map, Int.cast_ofNat_Int, decide_true, decide_false]); done) | ((try simp (maxSteps := 1000000) only [go_sem, Nat.zero_add, Int.reduceLT, Int.reduceLE, Int.reduceToNat, Nat.reduceLT, eq_self, Int.toNat_zero, Int.toNat_one, Nat.reduceEqDiff, Nat.reduceAdd, Nat.reduceLeDiff, Nat.reduceSub, Nat.reduceMul, ↓reduceIte, reduceCtorEq, Nat.add_zero, Int.toNat_natCast, List.getElem?_map, Option.map_some, List.length_map, Int.cast_ofNat_Int, decide_true, decide_false]); rfl)), rfl⟩
    · try simp (maxSteps := 1000000) only [go_sem, Nat.zero_add, Int.reduceLT, Int.reduceLE, Int.reduceToNat, Nat.reduceLT, eq_self, Int.toNat_zero, Int.toNat_one, Nat.reduceEqDiff, Nat.reduceAdd, Nat.reduceLeDiff, Nat.reduceSub, Nat.reduceMul, ↓reduceIte, reduceCtorEq, Nat.add_zero, Int.toNat_natCast, List.getElem?_map, Option.map_some, List.length_map, Int.cast_ofNat_Int, decide_true, decide_false]
      refine Pub.of_eq ?_ (by simp [go_sem, AV.pur])
      rw [hgo, List.drop_eq_nil_of_le (by omega)]; rfl
theorem ok_ref21_Bounds (b u d s : Int) : PC prog n_ref21_Bounds [.int .i64 b, .int .i64 u, .int .i64 d, .int .i64 s] (.tuple [bdv (boundsR b u d s).1, .int .i64 (boundsR b u d s).2]) := by
  refine PC_of_body b_ref21_Bounds (by simp) ?_
  simp only [c_ref21_Bounds, go_sem, Nat.zero_add, Int.reduceLT, Int.reduceLE, Int.reduceToNat, Nat.reduceLT, eq_self, Int.toNat_zero, Int.toNat_one, Nat.reduceEqDiff, Nat.reduceAdd, Nat.reduceLeDiff, Nat.reduceSub, Nat.reduceMul, ↓reduceIte, reduceCtorEq, Nat.add_zero, Int.toNat_natCast, List.getElem?_map, Option.map_some, List.length_map, Int.cast_ofNat_Int, decide_true, decide_false]
  refine call_pc (ok_ref21_flows [b, u, d] (by simp)) (by simp [ints, go_sem]) ?_
  try simp (maxSteps := 1000000) only [go_sem, Nat.zero_add, Int.reduceLT, Int.reduceLE, Int.reduceToNat, Nat.reduceLT, eq_self, Int.toNat_zero, Int.toNat_one, Nat.reduceEqDiff, Nat.reduceAdd, Nat.reduceLeDiff, Nat.reduceSub, Nat.reduceMul, ↓reduceIte, reduceCtorEq, Nat.add_zero, Int.toNat_natCast, List.getElem?_map, Option.map_some, List.length_map, Int.cast_ofNat_Int, decide_true, decide_false]
  refine cond_split (fun h => ?_) (fun h => ?_) <;> simp (maxSteps := 1000000) only [go_sem, Nat.zero_add, Int.reduceLT, Int.reduceLE, Int.reduceToNat, Nat.reduceLT, eq_self, Int.toNat_zero, Int.toNat_one, Nat.reduceEqDiff, Nat.reduceAdd, Nat.reduceLeDiff, Nat.reduceSub, Nat.reduceMul, ↓reduceIte, reduceCtorEq, Nat.add_zero, Int.toNat_natCast, List.getElem?_map, Option.map_some, List.length_map, Int.cast_ofNat_Int, decide_true, decide_false]
  · refine Pub.of_eq ?_ (by simp [bdv, go_sem, AV.pur])
    rw [show boundsR b u d s = (⟨0, 0⟩, 1) by simp only [boundsR]; rw [if_neg (by intro h2; simp_all)]]
    rfl
  have h : [b, u, d].all flow1 = true := by simpa using h
  refine call_pc (ok_ref01_In s 4096) (by simp [go_sem]) ?_
  try simp (maxSteps := 1000000) only [go_sem, Nat.zero_add, Int.reduceLT, Int.reduceLE, Int.reduceToNat, Nat.reduceLT, eq_self, Int.toNat_zero, Int.toNat_one, Nat.reduceEqDiff, Nat.reduceAdd, Nat.reduceLeDiff, Nat.reduceSub, Nat.reduceMul, ↓reduceIte, reduceCtorEq, Nat.add_zero, Int.toNat_natCast, List.getElem?_map, Option.map_some, List.length_map, Int.cast_ofNat_Int, decide_true, decide_false]
  refine cond_split (fun hs => ?_) (fun hs => ?_) <;> simp (maxSteps := 1000000) only [go_sem, Nat.zero_add, Int.reduceLT, Int.reduceLE, Int.reduceToNat, Nat.reduceLT, eq_self, Int.toNat_zero, Int.toNat_one, Nat.reduceEqDiff, Nat.reduceAdd, Nat.reduceLeDiff, Nat.reduceSub, Nat.reduceMul, ↓reduceIte, reduceCtorEq, Nat.add_zero, Int.toNat_natCast, List.getElem?_map, Option.map_some, List.length_map, Int.cast_ofNat_Int, decide_true, decide_false]
  · refine Pub.of_eq ?_ (by simp [bdv, go_sem, AV.pur])
    rw [show boundsR b u d s = (⟨0, 0⟩, 10) by simp at hs; simp only [boundsR]; rw [if_pos h, if_neg (by omega)]]
    rfl
  simp at hs
  have h' := h
  simp only [List.all_cons, List.all_nil, Bool.and_true, Bool.and_eq_true, flow1_iff] at h'
  obtain ⟨hb, hu, hd⟩ := h'
  have m1 : 0 ≤ d * s := Int.mul_nonneg hd.1 hs.1
  have m2 : d * s ≤ 1073741824 * 4096 := Int.mul_le_mul hd.2 hs.2 hs.1 (by omega)
  have m3 : 0 ≤ u * s := Int.mul_nonneg hu.1 hs.1
  have m4 : u * s ≤ 1073741824 * 4096 := Int.mul_le_mul hu.2 hs.2 hs.1 (by omega)
  simp (maxSteps := 1000000) (disch := omega) only [go_sem, Nat.zero_add, Int.reduceLT, Int.reduceLE, Int.reduceToNat, Nat.reduceLT, eq_self, Int.toNat_zero, Int.toNat_one, Nat.reduceEqDiff, Nat.reduceAdd, Nat.reduceLeDiff, Nat.reduceSub, Nat.reduceMul, ↓reduceIte, reduceCtorEq, Nat.add_zero, Int.toNat_natCast, List.getElem?_map, Option.map_some, List.length_map, Int.cast_ofNat_Int, decide_true, decide_false, wrap_id]
  refine Pub.of_eq ?_ (by simp [bdv, go_sem, AV.pur])
  rw [show boundsR b u d s = (⟨max (b - d * s) 0, min (b + u * s) 1073741824⟩, 0) by simp only [boundsR]; rw [if_pos h, if_pos hs]]
  simp only [bdv]
  rw [Int.max_comm, Int.min_comm]
theorem ok_ref09_Same (a b : List Bd) (ha : a.length ≤ 9223372036854775807) : PC prog n_ref09_Same [.list 2 (bds a), .list 2 (bds b)] (.bool (decide (a = b))) := by
  refine PC_of_body b_ref09_Same (by simp) ?_
  simp only [c_ref09_Same, go_sem, Nat.zero_add, Int.reduceLT, Int.reduceLE, Int.reduceToNat, Nat.reduceLT, eq_self, Int.toNat_zero, Int.toNat_one, Nat.reduceEqDiff, Nat.reduceAdd, Nat.reduceLeDiff, Nat.reduceSub, Nat.reduceMul, ↓reduceIte, reduceCtorEq, Nat.add_zero, Int.toNat_natCast, List.getElem?_map, Option.map_some, List.length_map, Int.cast_ofNat_Int, decide_true, decide_false, bds_length]
  refine cond_n (fun h => ?_) (fun h => ?_) <;> simp (maxSteps := 1000000) only [go_sem, Nat.zero_add, Int.reduceLT, Int.reduceLE, Int.reduceToNat, Nat.reduceLT, eq_self, Int.toNat_zero, Int.toNat_one, Nat.reduceEqDiff, Nat.reduceAdd, Nat.reduceLeDiff, Nat.reduceSub, Nat.reduceMul, ↓reduceIte, reduceCtorEq, Nat.add_zero, Int.toNat_natCast, List.getElem?_map, Option.map_some, List.length_map, Int.cast_ofNat_Int, decide_true, decide_false]
  · exact Pub.of_eq (by congr 1; simp; intro hab; exact h (by rw [hab])) rfl
  have hl : a.length = b.length := by omega
  refine awp_upF [4, 5, 13, 14, 15, 16, 17, 18, 19, 20, 21, 22, 23, 24, 25] (by kernel_rfl) a.length (fun k e _ => e 13 = .int .i64 k ∧ ∀ j, j < k → a[j]? = b[j]?) ?_ ?_
  · simp [go_sem]
  · rintro k fe ob c hk ⟨h13, hj⟩
    simp (maxSteps := 1000000) only [go_sem, Nat.zero_add, Int.reduceLT, Int.reduceLE, Int.reduceToNat, Nat.reduceLT, eq_self, Int.toNat_zero, Int.toNat_one, Nat.reduceEqDiff, Nat.reduceAdd, Nat.reduceLeDiff, Nat.reduceSub, Nat.reduceMul, ↓reduceIte, reduceCtorEq, Nat.add_zero, Int.toNat_natCast, List.getElem?_map, Option.map_some, List.length_map, Int.cast_ofNat_Int, decide_true, decide_false] at h13
    simp (maxSteps := 1000000) only [go_sem, Nat.zero_add, Int.reduceLT, Int.reduceLE, Int.reduceToNat, Nat.reduceLT, eq_self, Int.toNat_zero, Int.toNat_one, Nat.reduceEqDiff, Nat.reduceAdd, Nat.reduceLeDiff, Nat.reduceSub, Nat.reduceMul, ↓reduceIte, reduceCtorEq, Nat.add_zero, Int.toNat_natCast, List.getElem?_map, Option.map_some, List.length_map, Int.cast_ofNat_Int, decide_true, decide_false, h13, bds_length]
    refine cond_d (fun hlt => ?_) (fun hge => ?_)
    · have hka : k < a.length := by omega
      have hga : a[k]? = some a[k] := List.getElem?_eq_getElem hka
      have hgb : b[k]? = some b[k] := List.getElem?_eq_getElem (by omega)
      simp (maxSteps := 1000000) (disch := omega) only [go_sem, Nat.zero_add, Int.reduceLT, Int.reduceLE, Int.reduceToNat, Nat.reduceLT, eq_self, Int.toNat_zero, Int.toNat_one, Nat.reduceEqDiff, Nat.reduceAdd, Nat.reduceLeDiff, Nat.reduceSub, Nat.reduceMul, ↓reduceIte, reduceCtorEq, Nat.add_zero, Int.toNat_natCast, List.getElem?_map, Option.map_some, List.length_map, Int.cast_ofNat_Int, decide_true, decide_false, bds_length, bds_get, hga, hgb, h13, wrap_id, bdv]
      repeat (refine And.intro (by first | omega | (simp [maxLen]; done) | (simp [maxLen]; omega)) ?_)
      refine cond_split (fun hne => ?_) (fun heq => ?_) <;> simp (maxSteps := 1000000) (disch := omega) only [go_sem, Nat.zero_add, Int.reduceLT, Int.reduceLE, Int.reduceToNat, Nat.reduceLT, eq_self, Int.toNat_zero, Int.toNat_one, Nat.reduceEqDiff, Nat.reduceAdd, Nat.reduceLeDiff, Nat.reduceSub, Nat.reduceMul, ↓reduceIte, reduceCtorEq, Nat.add_zero, Int.toNat_natCast, List.getElem?_map, Option.map_some, List.length_map, Int.cast_ofNat_Int, decide_true, decide_false, h13, wrap_id]
      · refine Pub.of_eq ?_ rfl
        congr 1; symm; rw [decide_eq_false_iff_not]; intro hab; subst hab; simp at hne
      · refine up_next hka ⟨(by first | ((try simp (maxSteps := 1000000) only [go_sem, Nat.zero_add, Int.reduceLT, Int.reduceLE, Int.reduceToNat, Nat.reduceLT, eq_self, Int.toNat_zero, Int.toNat_one, Nat.reduceEqDiff, Nat.reduceAdd, Nat.reduceLeDiff, Nat.reduceSub, Nat.reduceMul, ↓reduceIte, reduceCtorEq, Nat.add_zero, Int.toNat_natCast, List.getElem?_map, Option.map_some, List.length_map, Int.cast_ofNat_Int, decide_true, decide_false]); done) | ((try simp (maxSteps := 1000000) only [go_sem, Nat.zero_add, Int.reduceLT, Int.reduceLE, Int.reduceToNat, Nat.reduceLT, eq_self, Int.toNat_zero, Int.toNat_one, Nat.reduceEqDiff, Nat.reduceAdd, Nat.reduceLeDiff, Nat.reduceSub, Nat.reduceMul, ↓reduceIte, reduceCtorEq, Nat.add_zero, Int.toNat_natCast, List.getElem?_map, Option.map_some, List.length_map, Int.cast_ofNat_Int, decide_true, decide_false]); rfl)), ?_⟩
        intro j hj'
        by_cases e : j = k
        · subst e; rw [hga, hgb]; congr 1
          simp at heq
          cases hx : a[j]; cases hy : b[j]
          rw [hx, hy] at heq; simp at heq ⊢; exact heq
        · exact hj j (by omega)
    · try simp (maxSteps := 1000000) only [go_sem, Nat.zero_add, Int.reduceLT, Int.reduceLE, Int.reduceToNat, Nat.reduceLT, eq_self, Int.toNat_zero, Int.toNat_one, Nat.reduceEqDiff, Nat.reduceAdd, Nat.reduceLeDiff, Nat.reduceSub, Nat.reduceMul, ↓reduceIte, reduceCtorEq, Nat.add_zero, Int.toNat_natCast, List.getElem?_map, Option.map_some, List.length_map, Int.cast_ofNat_Int, decide_true, decide_false]
      exact Pub.of_eq (by congr 1; simp; exact eq_of_get hl fun j hj' => hj j (by omega)) rfl
theorem linked_drop {u d : Int} : ∀ (k : Nat) {l : List Bd}, Linked u d l → Linked u d (l.drop k)
  | 0, l, h => h
  | k + 1, [], h => trivial
  | k + 1, [x], h => by simp; exact trivial
  | k + 1, x :: y :: l, h => by
    rw [List.drop_succ_cons]
    exact linked_drop k h.2.2
theorem bwd_len {u d : Int} : ∀ (l : List Bd), (bwdGo u d l).length = l.length
  | [] => rfl
  | x :: l => by
    have := bwd_len (u := u) (d := d) l
    simp only [bwdGo]
    split
    · rename_i h; rw [h] at this; simp only [List.length_nil] at this; simp only [List.length_cons, List.length_nil]; omega
    · rename_i h; rw [h] at this; simp at this ⊢; omega
theorem bwd_back {u d : Int} {l : List Bd} {i : Nat} (hi : i + 1 < l.length) {y : Bd} {t : List Bd} (hb : bwdGo u d (l.drop (i + 1)) = y :: t) :
    (l.take (i + 1) ++ y :: t)[i]? = some l[i] ∧ (l.take (i + 1) ++ y :: t)[i + 1]? = some y ∧
    (l.take (i + 1) ++ y :: t).set i (meetR ⟨y.lo - u, y.hi + d⟩ l[i]).1 = l.take i ++ bwdGo u d (l.drop i) := by
  have h1 : (l.take (i + 1)).length = i + 1 := by rw [List.length_take]; omega
  have h2 : (l.take i).length = i := by rw [List.length_take]; omega
  refine ⟨?_, ?_, ?_⟩
  · rw [List.getElem?_append_left (by omega), List.getElem?_take, if_pos (by omega), List.getElem?_eq_getElem (by omega)]
  · rw [List.getElem?_append_right (by omega), h1]; simp
  · rw [List.drop_eq_getElem_cons (by omega : i < l.length), bwdGo, hb, List.take_add_one, List.getElem?_eq_getElem (by omega : i < l.length)]
    simp only [Option.toList_some, List.append_assoc, List.cons_append, List.nil_append]
    rw [List.set_append_right _ _ (by omega), h2]
    simp
theorem ok_ref21_Latest (b : Int) (due : List Bd) (u d : Int) (hl : due.length ≤ 9223372036854775807) : PC prog n_ref21_Latest [.int .i64 b, .list 2 (bds due), .int .i64 u, .int .i64 d] (.tuple [.list 2 (bds (latestR b due u d).1), .bool (latestR b due u d).2.1, .int .i64 (latestR b due u d).2.2]) := by
  refine PC_of_body b_ref21_Latest (by simp) ?_
  simp only [c_ref21_Latest, go_sem, Nat.zero_add, Int.reduceLT, Int.reduceLE, Int.reduceToNat, Nat.reduceLT, eq_self, Int.toNat_zero, Int.toNat_one, Nat.reduceEqDiff, Nat.reduceAdd, Nat.reduceLeDiff, Nat.reduceSub, Nat.reduceMul, ↓reduceIte, reduceCtorEq, Nat.add_zero, Int.toNat_natCast, List.getElem?_map, Option.map_some, List.length_map, Int.cast_ofNat_Int, decide_true, decide_false, bds_length]
  refine cond_d (fun h => ?_) (fun h => ?_) <;> simp (maxSteps := 1000000) only [go_sem, Nat.zero_add, Int.reduceLT, Int.reduceLE, Int.reduceToNat, Nat.reduceLT, eq_self, Int.toNat_zero, Int.toNat_one, Nat.reduceEqDiff, Nat.reduceAdd, Nat.reduceLeDiff, Nat.reduceSub, Nat.reduceMul, ↓reduceIte, reduceCtorEq, Nat.add_zero, Int.toNat_natCast, List.getElem?_map, Option.map_some, List.length_map, Int.cast_ofNat_Int, decide_true, decide_false]
  · rw [show latestR b due u d = ([], false, 10) by unfold latestR; rw [if_pos (by omega)]]
    exact Pub.three (.nl 2) (.pure rfl) (.pure rfl)
  have hle : ¬ 4096 < due.length := by omega
  have bad : ([b, u, d].all flow1 && due.all flowB) = false → latestR b due u d = ([], false, 1) := fun hh => by
    unfold latestR; rw [if_neg hle, hh]; rfl
  refine call_pc (ok_ref21_flows [b, u, d] (by simp)) (by simp [ints, go_sem]) ?_
  generalize hff : [b, u, d].all flow1 = ff at *
  try simp (maxSteps := 1000000) only [go_sem, Nat.zero_add, Int.reduceLT, Int.reduceLE, Int.reduceToNat, Nat.reduceLT, eq_self, Int.toNat_zero, Int.toNat_one, Nat.reduceEqDiff, Nat.reduceAdd, Nat.reduceLeDiff, Nat.reduceSub, Nat.reduceMul, ↓reduceIte, reduceCtorEq, Nat.add_zero, Int.toNat_natCast, List.getElem?_map, Option.map_some, List.length_map, Int.cast_ofNat_Int, decide_true, decide_false]
  refine cond_split (fun hf => ?_) (fun hf => ?_) <;> simp (maxSteps := 1000000) only [go_sem, Nat.zero_add, Int.reduceLT, Int.reduceLE, Int.reduceToNat, Nat.reduceLT, eq_self, Int.toNat_zero, Int.toNat_one, Nat.reduceEqDiff, Nat.reduceAdd, Nat.reduceLeDiff, Nat.reduceSub, Nat.reduceMul, ↓reduceIte, reduceCtorEq, Nat.add_zero, Int.toNat_natCast, List.getElem?_map, Option.map_some, List.length_map, Int.cast_ofNat_Int, decide_true, decide_false, bds_length]
  · rw [bad (by simp at hf; rw [hf]; rfl)]
    exact Pub.three (.nl 2) (.pure rfl) (.pure rfl)
  have hf : ff = true := by simpa using hf
  subst hf
  refine awp_upF [8, 9, 10, 12, 30, 31, 32, 33, 34, 35, 36, 37, 38, 39, 40, 41] (by kernel_rfl) due.length (fun k e σ => e 30 = .int .i64 k ∧ ∀ j, j < k → ∀ x, due[j]? = some x → flowB x = true) ?_ ?_
  · simp [go_sem]
  rintro k fe ob c hk ⟨h30, hj⟩
  simp (maxSteps := 1000000) only [go_sem, Nat.zero_add, Int.reduceLT, Int.reduceLE, Int.reduceToNat, Nat.reduceLT, eq_self, Int.toNat_zero, Int.toNat_one, Nat.reduceEqDiff, Nat.reduceAdd, Nat.reduceLeDiff, Nat.reduceSub, Nat.reduceMul, ↓reduceIte, reduceCtorEq, Nat.add_zero, Int.toNat_natCast, List.getElem?_map, Option.map_some, List.length_map, Int.cast_ofNat_Int, decide_true, decide_false] at h30
  simp (maxSteps := 1000000) only [go_sem, Nat.zero_add, Int.reduceLT, Int.reduceLE, Int.reduceToNat, Nat.reduceLT, eq_self, Int.toNat_zero, Int.toNat_one, Nat.reduceEqDiff, Nat.reduceAdd, Nat.reduceLeDiff, Nat.reduceSub, Nat.reduceMul, ↓reduceIte, reduceCtorEq, Nat.add_zero, Int.toNat_natCast, List.getElem?_map, Option.map_some, List.length_map, Int.cast_ofNat_Int, decide_true, decide_false, h30]
  refine cond_d (fun hlt => ?_) (fun hge => ?_)
  · have hkl : k < due.length := by omega
    have hk2 : due[k]? = some due[k] := List.getElem?_eq_getElem hkl
    simp (maxSteps := 1000000) (disch := omega) only [go_sem, Nat.zero_add, Int.reduceLT, Int.reduceLE, Int.reduceToNat, Nat.reduceLT, eq_self, Int.toNat_zero, Int.toNat_one, Nat.reduceEqDiff, Nat.reduceAdd, Nat.reduceLeDiff, Nat.reduceSub, Nat.reduceMul, ↓reduceIte, reduceCtorEq, Nat.add_zero, Int.toNat_natCast, List.getElem?_map, Option.map_some, List.length_map, Int.cast_ofNat_Int, decide_true, decide_false, wrap_id, h30, bds_length, bds_get, hk2, bdv]
    repeat (refine And.intro (by first | omega | (simp [maxLen]; done) | (simp [maxLen]; omega)) ?_)
    refine call_pc (ok_ref21_flows [due[k].lo, due[k].hi] (by simp)) (by simp [ints, go_sem]) ?_
    rw [show [due[k].lo, due[k].hi].all flow1 = flowB due[k] by simp [flowB]]
    try simp (maxSteps := 1000000) only [go_sem, Nat.zero_add, Int.reduceLT, Int.reduceLE, Int.reduceToNat, Nat.reduceLT, eq_self, Int.toNat_zero, Int.toNat_one, Nat.reduceEqDiff, Nat.reduceAdd, Nat.reduceLeDiff, Nat.reduceSub, Nat.reduceMul, ↓reduceIte, reduceCtorEq, Nat.add_zero, Int.toNat_natCast, List.getElem?_map, Option.map_some, List.length_map, Int.cast_ofNat_Int, decide_true, decide_false]
    refine cond_split (fun hp => ?_) (fun hp => ?_) <;> simp (maxSteps := 1000000) (disch := omega) only [go_sem, Nat.zero_add, Int.reduceLT, Int.reduceLE, Int.reduceToNat, Nat.reduceLT, eq_self, Int.toNat_zero, Int.toNat_one, Nat.reduceEqDiff, Nat.reduceAdd, Nat.reduceLeDiff, Nat.reduceSub, Nat.reduceMul, ↓reduceIte, reduceCtorEq, Nat.add_zero, Int.toNat_natCast, List.getElem?_map, Option.map_some, List.length_map, Int.cast_ofNat_Int, decide_true, decide_false, h30, wrap_id]
    · rw [bad (by rw [Bool.true_and, List.all_eq_false]; exact ⟨_, List.getElem_mem hkl, by simpa using hp⟩)]
      exact Pub.three (.nl 2) (.pure rfl) (.pure rfl)
    · exact up_next hkl ⟨(by first | ((try simp (maxSteps := 1000000) only [go_sem, Nat.zero_add, Int.reduceLT, Int.reduceLE, Int.reduceToNat, Nat.reduceLT, eq_self, Int.toNat_zero, Int.toNat_one, Nat.reduceEqDiff, Nat.reduceAdd, Nat.reduceLeDiff, Nat.reduceSub, Nat.reduceMul, ↓reduceIte, reduceCtorEq, Nat.add_zero, Int.toNat_natCast, List.getElem?_map, Option.map_some, List.length_map, Int.cast_ofNat_Int, decide_true, decide_false]); done) | ((try simp (maxSteps := 1000000) only [go_sem, Nat.zero_add, Int.reduceLT, Int.reduceLE, Int.reduceToNat, Nat.reduceLT, eq_self, Int.toNat_zero, Int.toNat_one, Nat.reduceEqDiff, Nat.reduceAdd, Nat.reduceLeDiff, Nat.reduceSub, Nat.reduceMul, ↓reduceIte, reduceCtorEq, Nat.add_zero, Int.toNat_natCast, List.getElem?_map, Option.map_some, List.length_map, Int.cast_ofNat_Int, decide_true, decide_false]); rfl)), lt_snoc hj hkl (by simpa using hp)⟩
  have hkd : k = due.length := by omega
  subst hkd
  have hall : due.all flowB = true := by
    rw [List.all_eq_true]; intro x hx
    obtain ⟨j, hj', rfl⟩ := List.getElem_of_mem hx
    exact hj j (by omega) _ (List.getElem?_eq_getElem hj')
  clear hj h30 hge hk bad
  have good : latestR b due u d = match throughGo u d ⟨b, b⟩ due with | none => ([], false, 0) | some first => (bwdGo u d first, true, 0) := by
    unfold latestR; rw [if_neg hle, hff, hall]; rfl
  simp only [List.all_cons, List.all_nil, Bool.and_true, Bool.and_eq_true, flow1_iff] at hff
  obtain ⟨fb, fu, fd⟩ := hff
  have hdue : ∀ x ∈ due, okBd x := fun x hx => flowB_ok (List.all_eq_true.1 hall x hx)
  simp (maxSteps := 1000000) only [go_sem, Nat.zero_add, Int.reduceLT, Int.reduceLE, Int.reduceToNat, Nat.reduceLT, eq_self, Int.toNat_zero, Int.toNat_one, Nat.reduceEqDiff, Nat.reduceAdd, Nat.reduceLeDiff, Nat.reduceSub, Nat.reduceMul, ↓reduceIte, reduceCtorEq, Nat.add_zero, Int.toNat_natCast, List.getElem?_map, Option.map_some, List.length_map, Int.cast_ofNat_Int, decide_true, decide_false, bds_length]
  repeat (refine And.intro (by first | omega | (simp [maxLen]; done) | (simp [maxLen]; omega)) ?_)
  have hb0 : okBd ⟨b, b⟩ := ⟨fb.1, fb.2, fb.1, fb.2⟩
  refine awp_upF [8, 9, 10, 15, 16, 17, 49, 50, 51, 52, 53, 54, 55, 56, 57, 58, 59, 60, 61, 62, 63, 64, 65, 66, 67, 68, 69, 70, 71, 72, 73, 74, 75, 76] (by kernel_rfl) due.length (fun r e σ => ∃ f o, e 49 = .int .i64 r ∧ σ.ob 0 = some ⟨c, 2, 35, false, true, bds (o ++ due.drop r)⟩ ∧ σ.ob 1 = some ⟨c + 1, 2, 35, false, true, [bdv f]⟩ ∧ o.length = r ∧ okBd f ∧ throughGo u d ⟨b, b⟩ due = (throughGo u d f (due.drop r)).map (o ++ ·)) ?_ ?_
  · exact ⟨⟨b, b⟩, [], (by first | ((try simp (maxSteps := 1000000) only [go_sem, Nat.zero_add, Int.reduceLT, Int.reduceLE, Int.reduceToNat, Nat.reduceLT, eq_self, Int.toNat_zero, Int.toNat_one, Nat.reduceEqDiff, Nat.reduceAdd, Nat.reduceLeDiff, Nat.reduceSub, Nat.reduceMul, ↓reduceIte, reduceCtorEq, Nat.add_zero, Int.toNat_natCast, List.getElem?_map, Option.map_some, List.length_map, Int.cast_ofNat_Int, decide_true, decide_false]); done) | ((try simp (maxSteps := 1000000) only [go_sem, Nat.zero_add, Int.reduceLT, Int.reduceLE, Int.reduceToNat, Nat.reduceLT, eq_self, Int.toNat_zero, Int.toNat_one, Nat.reduceEqDiff, Nat.reduceAdd, Nat.reduceLeDiff, Nat.reduceSub, Nat.reduceMul, ↓reduceIte, reduceCtorEq, Nat.add_zero, Int.toNat_natCast, List.getElem?_map, Option.map_some, List.length_map, Int.cast_ofNat_Int, decide_true, decide_false]); rfl)), by simp [go_sem], by simp [go_sem, bdv], rfl, hb0, by simp⟩
  rintro r fe2 ob2 c2 hr ⟨f, o, h49, ho0, ho1, hol, hfo, hgo⟩
  simp (maxSteps := 1000000) only [go_sem, Nat.zero_add, Int.reduceLT, Int.reduceLE, Int.reduceToNat, Nat.reduceLT, eq_self, Int.toNat_zero, Int.toNat_one, Nat.reduceEqDiff, Nat.reduceAdd, Nat.reduceLeDiff, Nat.reduceSub, Nat.reduceMul, ↓reduceIte, reduceCtorEq, Nat.add_zero, Int.toNat_natCast, List.getElem?_map, Option.map_some, List.length_map, Int.cast_ofNat_Int, decide_true, decide_false] at h49 ho0 ho1
  simp (maxSteps := 1000000) only [go_sem, Nat.zero_add, Int.reduceLT, Int.reduceLE, Int.reduceToNat, Nat.reduceLT, eq_self, Int.toNat_zero, Int.toNat_one, Nat.reduceEqDiff, Nat.reduceAdd, Nat.reduceLeDiff, Nat.reduceSub, Nat.reduceMul, ↓reduceIte, reduceCtorEq, Nat.add_zero, Int.toNat_natCast, List.getElem?_map, Option.map_some, List.length_map, Int.cast_ofNat_Int, decide_true, decide_false, h49]
  refine cond_d (fun hlt => ?_) (fun hge => ?_)
  · have hrl : r < due.length := by omega
    have hx := hdue _ (List.getElem_mem hrl)
    have hlen : (bds (o ++ due.drop r)).length = due.length := by simp [bds, hol]; omega
    have hget : (o ++ due.drop r)[r]? = some due[r] := by rw [List.getElem?_append_right (by omega), hol]; simp [List.getElem?_eq_getElem hrl]
    have hset : ∀ z, (bds (o ++ due.drop r)).set r (.agg [.int .i64 z.lo, .int .i64 z.hi]) = bds ((o ++ [z]) ++ due.drop (r + 1)) := by
      intro z
      rw [show AV.agg [.int .i64 z.lo, .int .i64 z.hi] = bdv z from rfl, bds_set]
      congr 1
      rw [List.set_append_right _ _ (by omega), hol, List.drop_eq_getElem_cons hrl]
      simp only [Nat.sub_self, List.set_cons_zero, List.append_assoc, List.cons_append, List.nil_append]
    rw [List.drop_eq_getElem_cons hrl, throughGo] at hgo
    unfold okBd at hx hfo
    simp (maxSteps := 1000000) (disch := omega) only [go_sem, Nat.zero_add, Int.reduceLT, Int.reduceLE, Int.reduceToNat, Nat.reduceLT, eq_self, Int.toNat_zero, Int.toNat_one, Nat.reduceEqDiff, Nat.reduceAdd, Nat.reduceLeDiff, Nat.reduceSub, Nat.reduceMul, ↓reduceIte, reduceCtorEq, Nat.add_zero, Int.toNat_natCast, List.getElem?_map, Option.map_some, List.length_map, Int.cast_ofNat_Int, decide_true, decide_false, wrap_id, hlen, bds_get, hget, h49, ho0, ho1, bdv]
    repeat (refine And.intro (by first | omega | (simp [maxLen]; done) | (simp [maxLen]; omega)) ?_)
    refine dcall_pc (ok_ref01_Meet due[r] (stepB u d f)) (by simp [go_sem, bdv]) (by simp [go_sem, bdv, AV.pur]) ?_
    rw [meetR_comm]
    cases hm : (meetR (stepB u d f) due[r]).2
    · rw [if_neg (by rw [hm]; simp)] at hgo
      rw [hgo] at good
      simp only [Option.map_none] at good
      simp (maxSteps := 1000000) only [go_sem, Nat.zero_add, Int.reduceLT, Int.reduceLE, Int.reduceToNat, Nat.reduceLT, eq_self, Int.toNat_zero, Int.toNat_one, Nat.reduceEqDiff, Nat.reduceAdd, Nat.reduceLeDiff, Nat.reduceSub, Nat.reduceMul, ↓reduceIte, reduceCtorEq, Nat.add_zero, Int.toNat_natCast, List.getElem?_map, Option.map_some, List.length_map, Int.cast_ofNat_Int, decide_true, decide_false, bdv, hm, good]
      exact ⟨.inl trivial, Pub.three (.nl 2) (.pure rfl) (.pure rfl)⟩
    · rw [if_pos hm] at hgo
      obtain ⟨hm1, hm2, hm3, hm4⟩ := meetR_ok hm
      simp (maxSteps := 1000000) (disch := omega) only [go_sem, Nat.zero_add, Int.reduceLT, Int.reduceLE, Int.reduceToNat, Nat.reduceLT, eq_self, Int.toNat_zero, Int.toNat_one, Nat.reduceEqDiff, Nat.reduceAdd, Nat.reduceLeDiff, Nat.reduceSub, Nat.reduceMul, ↓reduceIte, reduceCtorEq, Nat.add_zero, Int.toNat_natCast, List.getElem?_map, Option.map_some, List.length_map, Int.cast_ofNat_Int, decide_true, decide_false, wrap_id, bdv, hm, hlen, h49, ho0, ho1, hset]
      repeat (refine And.intro (by first | omega | (simp [maxLen]; done) | (simp [maxLen]; omega)) ?_)
      refine ⟨_, by rw [bds_get, hget]; rfl, .inl trivial, .inl trivial, ?_⟩
      refine up_next hrl ⟨(meetR (stepB u d f) due[r]).1, o ++ [(meetR (stepB u d f) due[r]).1], (by first | ((try simp (maxSteps := 1000000) only [go_sem, Nat.zero_add, Int.reduceLT, Int.reduceLE, Int.reduceToNat, Nat.reduceLT, eq_self, Int.toNat_zero, Int.toNat_one, Nat.reduceEqDiff, Nat.reduceAdd, Nat.reduceLeDiff, Nat.reduceSub, Nat.reduceMul, ↓reduceIte, reduceCtorEq, Nat.add_zero, Int.toNat_natCast, List.getElem?_map, Option.map_some, List.length_map, Int.cast_ofNat_Int, decide_true, decide_false]); done) | ((try simp (maxSteps := 1000000) only [go_sem, Nat.zero_add, Int.reduceLT, Int.reduceLE, Int.reduceToNat, Nat.reduceLT, eq_self, Int.toNat_zero, Int.toNat_one, Nat.reduceEqDiff, Nat.reduceAdd, Nat.reduceLeDiff, Nat.reduceSub, Nat.reduceMul, ↓reduceIte, reduceCtorEq, Nat.add_zero, Int.toNat_natCast, List.getElem?_map, Option.map_some, List.length_map, Int.cast_ofNat_Int, decide_true, decide_false]); rfl)), ?_, ?_, by simp [hol], ?_, ?_⟩
      · try simp (maxSteps := 1000000) only [go_sem, Nat.zero_add, Int.reduceLT, Int.reduceLE, Int.reduceToNat, Nat.reduceLT, eq_self, Int.toNat_zero, Int.toNat_one, Nat.reduceEqDiff, Nat.reduceAdd, Nat.reduceLeDiff, Nat.reduceSub, Nat.reduceMul, ↓reduceIte, reduceCtorEq, Nat.add_zero, Int.toNat_natCast, List.getElem?_map, Option.map_some, List.length_map, Int.cast_ofNat_Int, decide_true, decide_false]
        rw [← hset]
        simp (maxSteps := 1000000) only [go_sem, Nat.zero_add, Int.reduceLT, Int.reduceLE, Int.reduceToNat, Nat.reduceLT, eq_self, Int.toNat_zero, Int.toNat_one, Nat.reduceEqDiff, Nat.reduceAdd, Nat.reduceLeDiff, Nat.reduceSub, Nat.reduceMul, ↓reduceIte, reduceCtorEq, Nat.add_zero, Int.toNat_natCast, List.getElem?_map, Option.map_some, List.length_map, Int.cast_ofNat_Int, decide_true, decide_false, bdv]
        try rfl
      · simp (maxSteps := 1000000) only [go_sem, Nat.zero_add, Int.reduceLT, Int.reduceLE, Int.reduceToNat, Nat.reduceLT, eq_self, Int.toNat_zero, Int.toNat_one, Nat.reduceEqDiff, Nat.reduceAdd, Nat.reduceLeDiff, Nat.reduceSub, Nat.reduceMul, ↓reduceIte, reduceCtorEq, Nat.add_zero, Int.toNat_natCast, List.getElem?_map, Option.map_some, List.length_map, Int.cast_ofNat_Int, decide_true, decide_false, bdv]
      · rw [hm1]; unfold okBd; simp only [stepB] at hm4 ⊢; omega
      · rw [hgo, Option.map_map]; congr 1; funext z; simp
  · have hrd : r = due.length := by omega
    subst hrd
    rw [List.drop_length, throughGo, Option.map_some, List.append_nil] at hgo
    rw [List.drop_length, List.append_nil] at ho0
    rw [hgo] at good
    simp only at good
    rw [good]
    have hfo2 := through_ok hb0 fu.1 fd.1 hdue hgo
    have hlk : Linked u d o := by
      have := through_linked hgo
      cases o with
      | nil => trivial
      | cons x r => exact this.2.2
    simp (maxSteps := 1000000) (disch := omega) only [go_sem, Nat.zero_add, Int.reduceLT, Int.reduceLE, Int.reduceToNat, Nat.reduceLT, eq_self, Int.toNat_zero, Int.toNat_one, Nat.reduceEqDiff, Nat.reduceAdd, Nat.reduceLeDiff, Nat.reduceSub, Nat.reduceMul, ↓reduceIte, reduceCtorEq, Nat.add_zero, Int.toNat_natCast, List.getElem?_map, Option.map_some, List.length_map, Int.cast_ofNat_Int, decide_true, decide_false, wrap_id]
    refine awp_upF [18, 80, 81, 82, 83, 84, 85, 86, 87, 88, 89, 90, 91, 92, 93, 94, 95, 96, 97, 98, 99, 100, 101, 102, 103, 104, 105, 106, 107, 108, 109, 110, 111] (by kernel_rfl) (o.length - 1) (fun r e σ => e 18 = .int .i64 ((o.length : Int) - 2 - r) ∧ σ.ob 0 = some ⟨c, 2, 35, false, true, bds (o.take (o.length - 1 - r) ++ bwdGo u d (o.drop (o.length - 1 - r)))⟩) ?_ ?_
    · refine ⟨by (try simp (maxSteps := 1000000) only [go_sem, Nat.zero_add, Int.reduceLT, Int.reduceLE, Int.reduceToNat, Nat.reduceLT, eq_self, Int.toNat_zero, Int.toNat_one, Nat.reduceEqDiff, Nat.reduceAdd, Nat.reduceLeDiff, Nat.reduceSub, Nat.reduceMul, ↓reduceIte, reduceCtorEq, Nat.add_zero, Int.toNat_natCast, List.getElem?_map, Option.map_some, List.length_map, Int.cast_ofNat_Int, decide_true, decide_false]); congr 1; omega, ?_⟩
      try simp (maxSteps := 1000000) only [go_sem, Nat.zero_add, Int.reduceLT, Int.reduceLE, Int.reduceToNat, Nat.reduceLT, eq_self, Int.toNat_zero, Int.toNat_one, Nat.reduceEqDiff, Nat.reduceAdd, Nat.reduceLeDiff, Nat.reduceSub, Nat.reduceMul, ↓reduceIte, reduceCtorEq, Nat.add_zero, Int.toNat_natCast, List.getElem?_map, Option.map_some, List.length_map, Int.cast_ofNat_Int, decide_true, decide_false]
      rw [ho0]
      congr 3
      cases ho : o.length with
      | zero => rw [List.length_eq_zero_iff.1 ho]; simp [bwdGo]
      | succ n =>
        rw [Nat.sub_zero, Nat.add_sub_cancel, List.drop_eq_getElem_cons (by omega : n < o.length), List.drop_eq_nil_of_le (by omega)]
        simp only [bwdGo]
        have := List.take_append_getElem (l := o) (i := n) (by omega)
        rw [this, List.take_of_length_le (by omega)]
    · rintro r fe3 ob3 c3 hr ⟨h18, hp0⟩
      simp (maxSteps := 1000000) only [go_sem, Nat.zero_add, Int.reduceLT, Int.reduceLE, Int.reduceToNat, Nat.reduceLT, eq_self, Int.toNat_zero, Int.toNat_one, Nat.reduceEqDiff, Nat.reduceAdd, Nat.reduceLeDiff, Nat.reduceSub, Nat.reduceMul, ↓reduceIte, reduceCtorEq, Nat.add_zero, Int.toNat_natCast, List.getElem?_map, Option.map_some, List.length_map, Int.cast_ofNat_Int, decide_true, decide_false] at h18 hp0
      simp (maxSteps := 1000000) only [go_sem, Nat.zero_add, Int.reduceLT, Int.reduceLE, Int.reduceToNat, Nat.reduceLT, eq_self, Int.toNat_zero, Int.toNat_one, Nat.reduceEqDiff, Nat.reduceAdd, Nat.reduceLeDiff, Nat.reduceSub, Nat.reduceMul, ↓reduceIte, reduceCtorEq, Nat.add_zero, Int.toNat_natCast, List.getElem?_map, Option.map_some, List.length_map, Int.cast_ofNat_Int, decide_true, decide_false, h18]
      refine cond_d (fun hlt => ?_) (fun hge => ?_)
      · have hro : r < o.length - 1 := by omega
        generalize hi : o.length - 2 - r = i at *
        have hi2 : o.length - 1 - r = i + 1 := by omega
        have hii : ((o.length : Int) - 2 - r) = (i : Int) := by omega
        have hio : i + 1 < o.length := by omega
        rw [hi2] at hp0
        rw [hii] at h18
        simp only [hii]
        have hbl := bwd_len (u := u) (d := d) (o.drop (i + 1))
        cases hb : bwdGo u d (o.drop (i + 1)) with
        | nil => rw [hb] at hbl; simp at hbl; omega
        | cons y t =>
          rw [hb] at hp0
          obtain ⟨g1, g2, g3⟩ := bwd_back hio hb
          obtain ⟨_, _, b3⟩ := bwd_spec u d fu fd (o.drop (i + 1)) (fun x hx => hfo2 x (List.mem_of_mem_drop hx)) (linked_drop _ hlk)
          have hb4 := b3 o[i + 1] y (by rw [List.drop_eq_getElem_cons hio]; rfl) (by rw [hb]; rfl)
          have hok := (hfo2 _ (List.getElem_mem hio)).1
          unfold okBd at hok
          have hlen : (bds (o.take (i + 1) ++ y :: t)).length = o.length := by
            have : (y :: t).length = (o.drop (i + 1)).length := by rw [← hb]; exact hbl
            rw [bds_length, List.length_append, this, List.length_take, List.length_drop]; omega
          have hi1 : ((i : Int) + 1).toNat = i + 1 := by omega
          have g4 : (bds (o.take (i + 1) ++ y :: t)).set i (bdv (meetR ⟨y.lo - u, y.hi + d⟩ o[i]).1) = bds (o.take i ++ bwdGo u d (o.drop i)) := by rw [bds_set, g3]
          simp (maxSteps := 1000000) (disch := omega) only [go_sem, Nat.zero_add, Int.reduceLT, Int.reduceLE, Int.reduceToNat, Nat.reduceLT, eq_self, Int.toNat_zero, Int.toNat_one, Nat.reduceEqDiff, Nat.reduceAdd, Nat.reduceLeDiff, Nat.reduceSub, Nat.reduceMul, ↓reduceIte, reduceCtorEq, Nat.add_zero, Int.toNat_natCast, List.getElem?_map, Option.map_some, List.length_map, Int.cast_ofNat_Int, decide_true, decide_false, wrap_id, h18, hp0, hlen, bds_get, g1, g2, bdv, hi1]
          repeat (refine And.intro (by first | omega | (simp [maxLen]; done) | (simp [maxLen]; omega)) ?_)
          refine dcall_pc (ok_ref01_Meet o[i] ⟨y.lo - u, y.hi + d⟩) (by simp [go_sem, bdv]) (by simp [go_sem, bdv, AV.pur]) ?_
          rw [meetR_comm]
          simp (maxSteps := 1000000) (disch := omega) only [go_sem, Nat.zero_add, Int.reduceLT, Int.reduceLE, Int.reduceToNat, Nat.reduceLT, eq_self, Int.toNat_zero, Int.toNat_one, Nat.reduceEqDiff, Nat.reduceAdd, Nat.reduceLeDiff, Nat.reduceSub, Nat.reduceMul, ↓reduceIte, reduceCtorEq, Nat.add_zero, Int.toNat_natCast, List.getElem?_map, Option.map_some, List.length_map, Int.cast_ofNat_Int, decide_true, decide_false, wrap_id, h18, hp0, hlen, bds_get, g1, g2, bdv, hi1]
          repeat (refine And.intro (by first | omega | (simp [maxLen]; done) | (simp [maxLen]; omega)) ?_)
          refine up_next hro ⟨?_, ?_⟩
          · (try simp (maxSteps := 1000000) only [go_sem, Nat.zero_add, Int.reduceLT, Int.reduceLE, Int.reduceToNat, Nat.reduceLT, eq_self, Int.toNat_zero, Int.toNat_one, Nat.reduceEqDiff, Nat.reduceAdd, Nat.reduceLeDiff, Nat.reduceSub, Nat.reduceMul, ↓reduceIte, reduceCtorEq, Nat.add_zero, Int.toNat_natCast, List.getElem?_map, Option.map_some, List.length_map, Int.cast_ofNat_Int, decide_true, decide_false]); congr 1; omega
          · try simp (maxSteps := 1000000) only [go_sem, Nat.zero_add, Int.reduceLT, Int.reduceLE, Int.reduceToNat, Nat.reduceLT, eq_self, Int.toNat_zero, Int.toNat_one, Nat.reduceEqDiff, Nat.reduceAdd, Nat.reduceLeDiff, Nat.reduceSub, Nat.reduceMul, ↓reduceIte, reduceCtorEq, Nat.add_zero, Int.toNat_natCast, List.getElem?_map, Option.map_some, List.length_map, Int.cast_ofNat_Int, decide_true, decide_false]
            rw [show o.length - 1 - (r + 1) = i by omega, ← g4]
            rfl
      · try simp (maxSteps := 1000000) only [go_sem, Nat.zero_add, Int.reduceLT, Int.reduceLE, Int.reduceToNat, Nat.reduceLT, eq_self, Int.toNat_zero, Int.toNat_one, Nat.reduceEqDiff, Nat.reduceAdd, Nat.reduceLeDiff, Nat.reduceSub, Nat.reduceMul, ↓reduceIte, reduceCtorEq, Nat.add_zero, Int.toNat_natCast, List.getElem?_map, Option.map_some, List.length_map, Int.cast_ofNat_Int, decide_true, decide_false]
        have h0 : o.length - 1 - r = 0 := by omega
        rw [h0] at hp0
        simp only [List.take_zero, List.drop_zero, List.nil_append] at hp0
        exact Pub.three (Pub.of_sl hp0 (by rw [bds_length, bwd_len]; omega) (bds_pur _) (bds_ok _)) (.pure rfl) (.pure rfl)
def FlowsG (σ : St) (id g : Nat) (l : List Int) (n : Nat) (r : AV) (σ' : St) : Prop := ∃ g2 L at2, r = .sl σ.n g2 1 0 L.length ∧ L.length = n ∧ σ'.n = σ.n + 1 ∧ σ'.ob σ.n = some ⟨g2, 1, 3, false, true, ints L⟩ ∧ σ'.ob id = some ⟨g, 2, ty_Deck, false, true, [deckV l at2]⟩ ∧ ∀ i, i < σ.n → i ≠ id → σ'.ob i = σ.ob i
def FlowsR (σ : St) (id g : Nat) (l : List Int) (n : Nat) (r : AV) (σ' : St) : Prop := ∃ L at2 c, r = .list 1 (ints L) ∧ L.length = n ∧ σ' = ⟨upd (fun i => if i < σ.n then σ.ob i else none) id (some ⟨g, 2, ty_Deck, false, true, [deckV l at2]⟩), σ.n + 1, c⟩
theorem hc_mk_Flows (σ : St) (id g : Nat) (l : List Int) (at' : Nat) (n most : Int) (hn : n ≤ 1000000) (hm : most ≤ 4611686018427387904) (hl : l.length ≤ 9223372036854775807) (hid : id < σ.n) (hob : σ.ob id = some ⟨g, 2, ty_Deck, false, true, [deckV l at']⟩) :
    HC prog n_mk_Flows [.ptr id g 2 0 0, .int .i64 n, .int .i64 most] σ (FlowsR σ id g l n.toNat) := by
  have main : HC prog n_mk_Flows [.ptr id g 2 0 0, .int .i64 n, .int .i64 most] σ (FlowsG σ id g l n.toNat) := by
    refine HC_of_body b_mk_Flows (by simp) ?_
    obtain ⟨ob0, n0, c0⟩ := σ
    simp only at hid hob
    have hne : ¬ id = n0 := by omega
    have hne' : ¬ n0 = id := by omega
    simp only [c_mk_Flows, go_sem, Nat.zero_add, Int.reduceLT, Int.reduceLE, Int.reduceToNat, Nat.reduceLT, eq_self, Int.toNat_zero, Int.toNat_one, Nat.reduceEqDiff, Nat.reduceAdd, Nat.reduceLeDiff, Nat.reduceSub, Nat.reduceMul, ↓reduceIte, reduceCtorEq, Nat.add_zero, Int.toNat_natCast, List.getElem?_map, Option.map_some, List.length_map, Int.cast_ofNat_Int, decide_true, decide_false]
    refine awp_upF [7, 9, 10, 11, 12, 13, 14, 15, 16, 17] (by kernel_rfl) n.toNat (fun r e σ => ∃ g2 L at2, e 7 = .sl n0 g2 1 0 r ∧ e 9 = .int .i64 r ∧ L.length = r ∧ σ.ob n0 = some ⟨g2, 1, 3, false, true, ints L⟩ ∧ σ.ob id = some ⟨g, 2, ty_Deck, false, true, [deckV l at2]⟩ ∧ ∀ i, i < n0 → i ≠ id → σ.ob i = ob0 i) ?_ ?_
    · refine ⟨_, [], at', (by first | ((try simp (maxSteps := 1000000) only [go_sem, Nat.zero_add, Int.reduceLT, Int.reduceLE, Int.reduceToNat, Nat.reduceLT, eq_self, Int.toNat_zero, Int.toNat_one, Nat.reduceEqDiff, Nat.reduceAdd, Nat.reduceLeDiff, Nat.reduceSub, Nat.reduceMul, ↓reduceIte, reduceCtorEq, Nat.add_zero, Int.toNat_natCast, List.getElem?_map, Option.map_some, List.length_map, Int.cast_ofNat_Int, decide_true, decide_false]); done) | ((try simp (maxSteps := 1000000) only [go_sem, Nat.zero_add, Int.reduceLT, Int.reduceLE, Int.reduceToNat, Nat.reduceLT, eq_self, Int.toNat_zero, Int.toNat_one, Nat.reduceEqDiff, Nat.reduceAdd, Nat.reduceLeDiff, Nat.reduceSub, Nat.reduceMul, ↓reduceIte, reduceCtorEq, Nat.add_zero, Int.toNat_natCast, List.getElem?_map, Option.map_some, List.length_map, Int.cast_ofNat_Int, decide_true, decide_false]); rfl)), by simp [go_sem], rfl, by simp [go_sem, ints], ?_, ?_⟩
      · simp (maxSteps := 1000000) only [go_sem, Nat.zero_add, Int.reduceLT, Int.reduceLE, Int.reduceToNat, Nat.reduceLT, eq_self, Int.toNat_zero, Int.toNat_one, Nat.reduceEqDiff, Nat.reduceAdd, Nat.reduceLeDiff, Nat.reduceSub, Nat.reduceMul, ↓reduceIte, reduceCtorEq, Nat.add_zero, Int.toNat_natCast, List.getElem?_map, Option.map_some, List.length_map, Int.cast_ofNat_Int, decide_true, decide_false, hne]; exact hob
      · intro i hi hi2
        have : ¬ i = n0 := by omega
        simp (maxSteps := 1000000) only [go_sem, Nat.zero_add, Int.reduceLT, Int.reduceLE, Int.reduceToNat, Nat.reduceLT, eq_self, Int.toNat_zero, Int.toNat_one, Nat.reduceEqDiff, Nat.reduceAdd, Nat.reduceLeDiff, Nat.reduceSub, Nat.reduceMul, ↓reduceIte, reduceCtorEq, Nat.add_zero, Int.toNat_natCast, List.getElem?_map, Option.map_some, List.length_map, Int.cast_ofNat_Int, decide_true, decide_false, this]
    · rintro r fe ob c hr ⟨g2, L, at3, h7, h9, hL, hon, hoid, holt⟩
      simp (maxSteps := 1000000) only [go_sem, Nat.zero_add, Int.reduceLT, Int.reduceLE, Int.reduceToNat, Nat.reduceLT, eq_self, Int.toNat_zero, Int.toNat_one, Nat.reduceEqDiff, Nat.reduceAdd, Nat.reduceLeDiff, Nat.reduceSub, Nat.reduceMul, ↓reduceIte, reduceCtorEq, Nat.add_zero, Int.toNat_natCast, List.getElem?_map, Option.map_some, List.length_map, Int.cast_ofNat_Int, decide_true, decide_false] at h7 h9 hon hoid holt
      simp (maxSteps := 1000000) only [go_sem, Nat.zero_add, Int.reduceLT, Int.reduceLE, Int.reduceToNat, Nat.reduceLT, eq_self, Int.toNat_zero, Int.toNat_one, Nat.reduceEqDiff, Nat.reduceAdd, Nat.reduceLeDiff, Nat.reduceSub, Nat.reduceMul, ↓reduceIte, reduceCtorEq, Nat.add_zero, Int.toNat_natCast, List.getElem?_map, Option.map_some, List.length_map, Int.cast_ofNat_Int, decide_true, decide_false, h9]
      refine cond_d (fun hlt => ?_) (fun hge => ?_)
      · simp (maxSteps := 1000000) only [go_sem, Nat.zero_add, Int.reduceLT, Int.reduceLE, Int.reduceToNat, Nat.reduceLT, eq_self, Int.toNat_zero, Int.toNat_one, Nat.reduceEqDiff, Nat.reduceAdd, Nat.reduceLeDiff, Nat.reduceSub, Nat.reduceMul, ↓reduceIte, reduceCtorEq, Nat.add_zero, Int.toNat_natCast, List.getElem?_map, Option.map_some, List.length_map, Int.cast_ofNat_Int, decide_true, decide_false, h7]
        refine call_hc (ok_mk_Deck_Next _ id g ty_Deck true l at3 most (by simp (maxSteps := 1000000) only [go_sem, Nat.zero_add, Int.reduceLT, Int.reduceLE, Int.reduceToNat, Nat.reduceLT, eq_self, Int.toNat_zero, Int.toNat_one, Nat.reduceEqDiff, Nat.reduceAdd, Nat.reduceLeDiff, Nat.reduceSub, Nat.reduceMul, ↓reduceIte, reduceCtorEq, Nat.add_zero, Int.toNat_natCast, List.getElem?_map, Option.map_some, List.length_map, Int.cast_ofNat_Int, decide_true, decide_false, hne]; exact hoid) hm hl) ?_
        generalize deckR l at3 most = dr at *
        obtain ⟨a, at4⟩ := dr
        simp (maxSteps := 1000000) (disch := omega) only [go_sem, Nat.zero_add, Int.reduceLT, Int.reduceLE, Int.reduceToNat, Nat.reduceLT, eq_self, Int.toNat_zero, Int.toNat_one, Nat.reduceEqDiff, Nat.reduceAdd, Nat.reduceLeDiff, Nat.reduceSub, Nat.reduceMul, ↓reduceIte, reduceCtorEq, Nat.add_zero, Int.toNat_natCast, List.getElem?_map, Option.map_some, List.length_map, Int.cast_ofNat_Int, decide_true, decide_false, wrap_id, h7, h9, hon, hne, hne', upd_upd]
        repeat (refine And.intro (by first | omega | (simp [maxLen]; done) | (simp [maxLen]; omega)) ?_)
        refine ⟨by simp [ints_length, hL], by simp [maxLen]; omega, by omega, ?_⟩
        try repeat (refine And.intro (by first | omega | (simp [maxLen]; done) | (simp [maxLen]; omega)) ?_)
        refine up_next (by omega) ⟨_, L ++ [a], at4, (by first | ((try simp (maxSteps := 1000000) only [go_sem, Nat.zero_add, Int.reduceLT, Int.reduceLE, Int.reduceToNat, Nat.reduceLT, eq_self, Int.toNat_zero, Int.toNat_one, Nat.reduceEqDiff, Nat.reduceAdd, Nat.reduceLeDiff, Nat.reduceSub, Nat.reduceMul, ↓reduceIte, reduceCtorEq, Nat.add_zero, Int.toNat_natCast, List.getElem?_map, Option.map_some, List.length_map, Int.cast_ofNat_Int, decide_true, decide_false]); done) | ((try simp (maxSteps := 1000000) only [go_sem, Nat.zero_add, Int.reduceLT, Int.reduceLE, Int.reduceToNat, Nat.reduceLT, eq_self, Int.toNat_zero, Int.toNat_one, Nat.reduceEqDiff, Nat.reduceAdd, Nat.reduceLeDiff, Nat.reduceSub, Nat.reduceMul, ↓reduceIte, reduceCtorEq, Nat.add_zero, Int.toNat_natCast, List.getElem?_map, Option.map_some, List.length_map, Int.cast_ofNat_Int, decide_true, decide_false]); rfl)), (by first | ((try simp (maxSteps := 1000000) only [go_sem, Nat.zero_add, Int.reduceLT, Int.reduceLE, Int.reduceToNat, Nat.reduceLT, eq_self, Int.toNat_zero, Int.toNat_one, Nat.reduceEqDiff, Nat.reduceAdd, Nat.reduceLeDiff, Nat.reduceSub, Nat.reduceMul, ↓reduceIte, reduceCtorEq, Nat.add_zero, Int.toNat_natCast, List.getElem?_map, Option.map_some, List.length_map, Int.cast_ofNat_Int, decide_true, decide_false]); done) | ((try simp (maxSteps := 1000000) only [go_sem, Nat.zero_add, Int.reduceLT, Int.reduceLE, Int.reduceToNat, Nat.reduceLT, eq_self, Int.toNat_zero, Int.toNat_one, Nat.reduceEqDiff, Nat.reduceAdd, Nat.reduceLeDiff, Nat.reduceSub, Nat.reduceMul, ↓reduceIte, reduceCtorEq, Nat.add_zero, Int.toNat_natCast, List.getElem?_map, Option.map_some, List.length_map, Int.cast_ofNat_Int, decide_true, decide_false]); rfl)), by simp [hL], ?_, ?_, ?_⟩
        · simp (maxSteps := 1000000) only [go_sem, Nat.zero_add, Int.reduceLT, Int.reduceLE, Int.reduceToNat, Nat.reduceLT, eq_self, Int.toNat_zero, Int.toNat_one, Nat.reduceEqDiff, Nat.reduceAdd, Nat.reduceLeDiff, Nat.reduceSub, Nat.reduceMul, ↓reduceIte, reduceCtorEq, Nat.add_zero, Int.toNat_natCast, List.getElem?_map, Option.map_some, List.length_map, Int.cast_ofNat_Int, decide_true, decide_false, hne']
          rw [if_pos (by omega)]
          simp [ints]
        · simp (maxSteps := 1000000) only [go_sem, Nat.zero_add, Int.reduceLT, Int.reduceLE, Int.reduceToNat, Nat.reduceLT, eq_self, Int.toNat_zero, Int.toNat_one, Nat.reduceEqDiff, Nat.reduceAdd, Nat.reduceLeDiff, Nat.reduceSub, Nat.reduceMul, ↓reduceIte, reduceCtorEq, Nat.add_zero, Int.toNat_natCast, List.getElem?_map, Option.map_some, List.length_map, Int.cast_ofNat_Int, decide_true, decide_false, hne]
          rw [if_pos (by omega)]
        · intro i hi hi2
          have : ¬ i = n0 := by omega
          simp (maxSteps := 1000000) only [go_sem, Nat.zero_add, Int.reduceLT, Int.reduceLE, Int.reduceToNat, Nat.reduceLT, eq_self, Int.toNat_zero, Int.toNat_one, Nat.reduceEqDiff, Nat.reduceAdd, Nat.reduceLeDiff, Nat.reduceSub, Nat.reduceMul, ↓reduceIte, reduceCtorEq, Nat.add_zero, Int.toNat_natCast, List.getElem?_map, Option.map_some, List.length_map, Int.cast_ofNat_Int, decide_true, decide_false, hi2, this]
          rw [if_pos (by omega)]
          exact holt i hi hi2
      · simp (maxSteps := 1000000) only [go_sem, Nat.zero_add, Int.reduceLT, Int.reduceLE, Int.reduceToNat, Nat.reduceLT, eq_self, Int.toNat_zero, Int.toNat_one, Nat.reduceEqDiff, Nat.reduceAdd, Nat.reduceLeDiff, Nat.reduceSub, Nat.reduceMul, ↓reduceIte, reduceCtorEq, Nat.add_zero, Int.toNat_natCast, List.getElem?_map, Option.map_some, List.length_map, Int.cast_ofNat_Int, decide_true, decide_false, h7]
        exact ⟨g2, L, at3, by rw [hL], by omega, rfl, hon, hoid, holt⟩
  refine HC.seal (fun i => decide (i < σ.n)) main ?_
  rintro r σ' ⟨g2, L, at2, rfl, hL, hn, h1, h2, h3⟩
  refine ⟨.list 1 (ints L), Pub.of_sl (ty := 3) (ro := false) (ap := true) (by simp [h1]) (by simp [ints_length]) (ints_pur _) (ints_ok _), L, at2, σ'.c, rfl, hL, ?_⟩
  rw [hn]
  congr 1
  funext i
  simp only [upd]
  by_cases e : i = id
  · subst e; simp [hid, h2]
  · rw [if_neg e]
    by_cases hi : i < σ.n
    · simp [hi, h3 i hi e]
    · simp [hi]
theorem latest_len (b : Int) (l : List Bd) (u d : Int) (h : l.length ≤ 1000) : (latestR b l u d).1.length ≤ 9223372036854775807 := by
  unfold latestR
  split
  · simp
  · split
    · cases ht : throughGo u d ⟨b, b⟩ l with
      | none => simp
      | some o => simp only; rw [bwd_len, through_len ht]; omega
    · simp
theorem ok_law21_RampAll (rd : List Bd) (hrd : rd.length ≤ 9223372036854775807) (rl : List Int) (hrl : rl.length ≤ 9223372036854775807) (l : List Int) (hl : l.length ≤ 9223372036854775807) (before target up' down' steps : Int) : PC prog n_law21_RampAll [.list 2 (bds rd), .list 1 (ints rl), .list 1 (ints l), .int .i64 before, .int .i64 target, .int .i64 up', .int .i64 down', .int .i64 steps] (.bool true) := by
  refine PC_of_body b_law21_RampAll (by simp) ?_
  rw [c_law21_RampAll, w_seq, w_empty]
  refine awp_cut [16] rfl (fun e σ => σ = ⟨fun _ => none, 0, 0⟩) ?_ ?_
  · try simp (maxSteps := 1000000) only [go_sem, Nat.zero_add, Int.reduceLT, Int.reduceLE, Int.reduceToNat, Nat.reduceLT, eq_self, Int.toNat_zero, Int.toNat_one, Nat.reduceEqDiff, Nat.reduceAdd, Nat.reduceLeDiff, Nat.reduceSub, Nat.reduceMul, ↓reduceIte, reduceCtorEq, Nat.add_zero, Int.toNat_natCast, List.getElem?_map, Option.map_some, List.length_map, Int.cast_ofNat_Int, decide_true, decide_false]
  rintro f _ rfl
  rw [w_seq]
  refine awp_cut [16, 50, 51, 52, 53, 54, 55, 56, 57, 58, 59, 60, 61, 62, 63, 64, 65, 66] (by kernel_rfl) (fun e σ => σ = ⟨fun _ => none, 0, 0⟩ ∧ rd.length ≤ 60 ∧ rl.length ≤ 100) ?_ ?_
  · simp (maxSteps := 1000000) only [go_sem, Nat.zero_add, Int.reduceLT, Int.reduceLE, Int.reduceToNat, Nat.reduceLT, eq_self, Int.toNat_zero, Int.toNat_one, Nat.reduceEqDiff, Nat.reduceAdd, Nat.reduceLeDiff, Nat.reduceSub, Nat.reduceMul, ↓reduceIte, reduceCtorEq, Nat.add_zero, Int.toNat_natCast, List.getElem?_map, Option.map_some, List.length_map, Int.cast_ofNat_Int, decide_true, decide_false, bds_length]
    refine gd_fd rfl (fun h1 => ?_) (fun h1 => ?_) <;> simp (maxSteps := 1000000) only [go_sem, Nat.zero_add, Int.reduceLT, Int.reduceLE, Int.reduceToNat, Nat.reduceLT, eq_self, Int.toNat_zero, Int.toNat_one, Nat.reduceEqDiff, Nat.reduceAdd, Nat.reduceLeDiff, Nat.reduceSub, Nat.reduceMul, ↓reduceIte, reduceCtorEq, Nat.add_zero, Int.toNat_natCast, List.getElem?_map, Option.map_some, List.length_map, Int.cast_ofNat_Int, decide_true, decide_false, ints_length]
    · refine call_pc ok_law21_awake (by simp) ?_
      try simp (maxSteps := 1000000) only [go_sem, Nat.zero_add, Int.reduceLT, Int.reduceLE, Int.reduceToNat, Nat.reduceLT, eq_self, Int.toNat_zero, Int.toNat_one, Nat.reduceEqDiff, Nat.reduceAdd, Nat.reduceLeDiff, Nat.reduceSub, Nat.reduceMul, ↓reduceIte, reduceCtorEq, Nat.add_zero, Int.toNat_natCast, List.getElem?_map, Option.map_some, List.length_map, Int.cast_ofNat_Int, decide_true, decide_false]
      exact Pub.of_eq rfl rfl
    refine gd_fd rfl (fun h2 => ?_) (fun h2 => ?_) <;> simp (maxSteps := 1000000) only [go_sem, Nat.zero_add, Int.reduceLT, Int.reduceLE, Int.reduceToNat, Nat.reduceLT, eq_self, Int.toNat_zero, Int.toNat_one, Nat.reduceEqDiff, Nat.reduceAdd, Nat.reduceLeDiff, Nat.reduceSub, Nat.reduceMul, ↓reduceIte, reduceCtorEq, Nat.add_zero, Int.toNat_natCast, List.getElem?_map, Option.map_some, List.length_map, Int.cast_ofNat_Int, decide_true, decide_false]
    · refine call_pc ok_law21_awake (by simp) ?_
      try simp (maxSteps := 1000000) only [go_sem, Nat.zero_add, Int.reduceLT, Int.reduceLE, Int.reduceToNat, Nat.reduceLT, eq_self, Int.toNat_zero, Int.toNat_one, Nat.reduceEqDiff, Nat.reduceAdd, Nat.reduceLeDiff, Nat.reduceSub, Nat.reduceMul, ↓reduceIte, reduceCtorEq, Nat.add_zero, Int.toNat_natCast, List.getElem?_map, Option.map_some, List.length_map, Int.cast_ofNat_Int, decide_true, decide_false]
      exact Pub.of_eq rfl rfl
    refine gd_td rfl (fun h3 => ?_) (fun h3 => ?_) <;> simp (maxSteps := 1000000) only [go_sem, Nat.zero_add, Int.reduceLT, Int.reduceLE, Int.reduceToNat, Nat.reduceLT, eq_self, Int.toNat_zero, Int.toNat_one, Nat.reduceEqDiff, Nat.reduceAdd, Nat.reduceLeDiff, Nat.reduceSub, Nat.reduceMul, ↓reduceIte, reduceCtorEq, Nat.add_zero, Int.toNat_natCast, List.getElem?_map, Option.map_some, List.length_map, Int.cast_ofNat_Int, decide_true, decide_false]
    · refine cond_d (fun h4 => ?_) (fun h4 => ?_) <;> simp (maxSteps := 1000000) only [go_sem, Nat.zero_add, Int.reduceLT, Int.reduceLE, Int.reduceToNat, Nat.reduceLT, eq_self, Int.toNat_zero, Int.toNat_one, Nat.reduceEqDiff, Nat.reduceAdd, Nat.reduceLeDiff, Nat.reduceSub, Nat.reduceMul, ↓reduceIte, reduceCtorEq, Nat.add_zero, Int.toNat_natCast, List.getElem?_map, Option.map_some, List.length_map, Int.cast_ofNat_Int, decide_true, decide_false]
      · refine call_pc ok_law21_awake (by simp) ?_
        try simp (maxSteps := 1000000) only [go_sem, Nat.zero_add, Int.reduceLT, Int.reduceLE, Int.reduceToNat, Nat.reduceLT, eq_self, Int.toNat_zero, Int.toNat_one, Nat.reduceEqDiff, Nat.reduceAdd, Nat.reduceLeDiff, Nat.reduceSub, Nat.reduceMul, ↓reduceIte, reduceCtorEq, Nat.add_zero, Int.toNat_natCast, List.getElem?_map, Option.map_some, List.length_map, Int.cast_ofNat_Int, decide_true, decide_false]
        exact Pub.of_eq rfl rfl
      · exact ⟨by omega, by omega⟩
    · exact ⟨by omega, by omega⟩
  rintro f2 _ ⟨rfl, hrd2, hrl2⟩
  clear hrd hrl
  try simp (maxSteps := 1000000) only [go_sem, Nat.zero_add, Int.reduceLT, Int.reduceLE, Int.reduceToNat, Nat.reduceLT, eq_self, Int.toNat_zero, Int.toNat_one, Nat.reduceEqDiff, Nat.reduceAdd, Nat.reduceLeDiff, Nat.reduceSub, Nat.reduceMul, ↓reduceIte, reduceCtorEq, Nat.add_zero, Int.toNat_natCast, List.getElem?_map, Option.map_some, List.length_map, Int.cast_ofNat_Int, decide_true, decide_false]
  refine call_hc (ok_mk_New _ l) ?_
  try simp (maxSteps := 1000000) only [go_sem, Nat.zero_add, Int.reduceLT, Int.reduceLE, Int.reduceToNat, Nat.reduceLT, eq_self, Int.toNat_zero, Int.toNat_one, Nat.reduceEqDiff, Nat.reduceAdd, Nat.reduceLeDiff, Nat.reduceSub, Nat.reduceMul, ↓reduceIte, reduceCtorEq, Nat.add_zero, Int.toNat_natCast, List.getElem?_map, Option.map_some, List.length_map, Int.cast_ofNat_Int, decide_true, decide_false]
  refine call_hc (ok_mk_Deck_Next _ 0 0 ty_Deck true l 0 8 (by simp [go_sem]) (by omega) hl) ?_
  have hx := deckR_bd l 0 8
  generalize deckR l 0 8 = dr at *
  obtain ⟨n, at1⟩ := dr
  simp only at hx
  try simp (maxSteps := 1000000) only [go_sem, Nat.zero_add, Int.reduceLT, Int.reduceLE, Int.reduceToNat, Nat.reduceLT, eq_self, Int.toNat_zero, Int.toNat_one, Nat.reduceEqDiff, Nat.reduceAdd, Nat.reduceLeDiff, Nat.reduceSub, Nat.reduceMul, ↓reduceIte, reduceCtorEq, Nat.add_zero, Int.toNat_natCast, List.getElem?_map, Option.map_some, List.length_map, Int.cast_ofNat_Int, decide_true, decide_false]
  refine HC.mono (hc_mk_Flows _ 0 0 l at1 n 30 (by omega) (by omega) hl (by simp) (by simp [go_sem])) ?_
  rintro v σ' ⟨L, at2, c, rfl, hL, rfl⟩
  try simp (maxSteps := 1000000) only [go_sem, Nat.zero_add, Int.reduceLT, Int.reduceLE, Int.reduceToNat, Nat.reduceLT, eq_self, Int.toNat_zero, Int.toNat_one, Nat.reduceEqDiff, Nat.reduceAdd, Nat.reduceLeDiff, Nat.reduceSub, Nat.reduceMul, ↓reduceIte, reduceCtorEq, Nat.add_zero, Int.toNat_natCast, List.getElem?_map, Option.map_some, List.length_map, Int.cast_ofNat_Int, decide_true, decide_false]
  refine HC.mono (hc_law21_due _ 0 0 l at2 hl (by simp) (by simp [go_sem])) ?_
  rintro v σ' ⟨due, at3, c2, rfl, hdl, hdb, rfl⟩
  try simp (maxSteps := 1000000) only [go_sem, Nat.zero_add, Int.reduceLT, Int.reduceLE, Int.reduceToNat, Nat.reduceLT, eq_self, Int.toNat_zero, Int.toNat_one, Nat.reduceEqDiff, Nat.reduceAdd, Nat.reduceLeDiff, Nat.reduceSub, Nat.reduceMul, ↓reduceIte, reduceCtorEq, Nat.add_zero, Int.toNat_natCast, List.getElem?_map, Option.map_some, List.length_map, Int.cast_ofNat_Int, decide_true, decide_false]
  refine call_pc (ok_mk_Mod before 40 (by omega) (by omega)) (by simp [go_sem]) ?_
  try simp (maxSteps := 1000000) only [go_sem, Nat.zero_add, Int.reduceLT, Int.reduceLE, Int.reduceToNat, Nat.reduceLT, eq_self, Int.toNat_zero, Int.toNat_one, Nat.reduceEqDiff, Nat.reduceAdd, Nat.reduceLeDiff, Nat.reduceSub, Nat.reduceMul, ↓reduceIte, reduceCtorEq, Nat.add_zero, Int.toNat_natCast, List.getElem?_map, Option.map_some, List.length_map, Int.cast_ofNat_Int, decide_true, decide_false]
  refine call_pc (ok_mk_Mod target 40 (by omega) (by omega)) (by simp [go_sem]) ?_
  try simp (maxSteps := 1000000) only [go_sem, Nat.zero_add, Int.reduceLT, Int.reduceLE, Int.reduceToNat, Nat.reduceLT, eq_self, Int.toNat_zero, Int.toNat_one, Nat.reduceEqDiff, Nat.reduceAdd, Nat.reduceLeDiff, Nat.reduceSub, Nat.reduceMul, ↓reduceIte, reduceCtorEq, Nat.add_zero, Int.toNat_natCast, List.getElem?_map, Option.map_some, List.length_map, Int.cast_ofNat_Int, decide_true, decide_false]
  refine call_pc (ok_mk_Mod up' 9 (by omega) (by omega)) (by simp [go_sem]) ?_
  try simp (maxSteps := 1000000) only [go_sem, Nat.zero_add, Int.reduceLT, Int.reduceLE, Int.reduceToNat, Nat.reduceLT, eq_self, Int.toNat_zero, Int.toNat_one, Nat.reduceEqDiff, Nat.reduceAdd, Nat.reduceLeDiff, Nat.reduceSub, Nat.reduceMul, ↓reduceIte, reduceCtorEq, Nat.add_zero, Int.toNat_natCast, List.getElem?_map, Option.map_some, List.length_map, Int.cast_ofNat_Int, decide_true, decide_false]
  refine call_pc (ok_mk_Mod down' 9 (by omega) (by omega)) (by simp [go_sem]) ?_
  try simp (maxSteps := 1000000) only [go_sem, Nat.zero_add, Int.reduceLT, Int.reduceLE, Int.reduceToNat, Nat.reduceLT, eq_self, Int.toNat_zero, Int.toNat_one, Nat.reduceEqDiff, Nat.reduceAdd, Nat.reduceLeDiff, Nat.reduceSub, Nat.reduceMul, ↓reduceIte, reduceCtorEq, Nat.add_zero, Int.toNat_natCast, List.getElem?_map, Option.map_some, List.length_map, Int.cast_ofNat_Int, decide_true, decide_false]
  refine call_pc (ok_mk_Mod steps 9 (by omega) (by omega)) (by simp [go_sem]) ?_
  try simp (maxSteps := 1000000) only [go_sem, Nat.zero_add, Int.reduceLT, Int.reduceLE, Int.reduceToNat, Nat.reduceLT, eq_self, Int.toNat_zero, Int.toNat_one, Nat.reduceEqDiff, Nat.reduceAdd, Nat.reduceLeDiff, Nat.reduceSub, Nat.reduceMul, ↓reduceIte, reduceCtorEq, Nat.add_zero, Int.toNat_natCast, List.getElem?_map, Option.map_some, List.length_map, Int.cast_ofNat_Int, decide_true, decide_false]
  refine call_pc (ok_mk_Mod before 1073741825 (by omega) (by omega)) (by simp [go_sem]) ?_
  try simp (maxSteps := 1000000) only [go_sem, Nat.zero_add, Int.reduceLT, Int.reduceLE, Int.reduceToNat, Nat.reduceLT, eq_self, Int.toNat_zero, Int.toNat_one, Nat.reduceEqDiff, Nat.reduceAdd, Nat.reduceLeDiff, Nat.reduceSub, Nat.reduceMul, ↓reduceIte, reduceCtorEq, Nat.add_zero, Int.toNat_natCast, List.getElem?_map, Option.map_some, List.length_map, Int.cast_ofNat_Int, decide_true, decide_false]
  refine call_pc (ok_mk_Mod target 1073741825 (by omega) (by omega)) (by simp [go_sem]) ?_
  try simp (maxSteps := 1000000) only [go_sem, Nat.zero_add, Int.reduceLT, Int.reduceLE, Int.reduceToNat, Nat.reduceLT, eq_self, Int.toNat_zero, Int.toNat_one, Nat.reduceEqDiff, Nat.reduceAdd, Nat.reduceLeDiff, Nat.reduceSub, Nat.reduceMul, ↓reduceIte, reduceCtorEq, Nat.add_zero, Int.toNat_natCast, List.getElem?_map, Option.map_some, List.length_map, Int.cast_ofNat_Int, decide_true, decide_false]
  refine call_pc (ok_mk_Mod up' 1073741825 (by omega) (by omega)) (by simp [go_sem]) ?_
  try simp (maxSteps := 1000000) only [go_sem, Nat.zero_add, Int.reduceLT, Int.reduceLE, Int.reduceToNat, Nat.reduceLT, eq_self, Int.toNat_zero, Int.toNat_one, Nat.reduceEqDiff, Nat.reduceAdd, Nat.reduceLeDiff, Nat.reduceSub, Nat.reduceMul, ↓reduceIte, reduceCtorEq, Nat.add_zero, Int.toNat_natCast, List.getElem?_map, Option.map_some, List.length_map, Int.cast_ofNat_Int, decide_true, decide_false]
  refine call_pc (ok_mk_Mod down' 9 (by omega) (by omega)) (by simp [go_sem]) ?_
  try simp (maxSteps := 1000000) only [go_sem, Nat.zero_add, Int.reduceLT, Int.reduceLE, Int.reduceToNat, Nat.reduceLT, eq_self, Int.toNat_zero, Int.toNat_one, Nat.reduceEqDiff, Nat.reduceAdd, Nat.reduceLeDiff, Nat.reduceSub, Nat.reduceMul, ↓reduceIte, reduceCtorEq, Nat.add_zero, Int.toNat_natCast, List.getElem?_map, Option.map_some, List.length_map, Int.cast_ofNat_Int, decide_true, decide_false]
  refine call_pc (ok_mk_Mod steps 50 (by omega) (by omega)) (by simp [go_sem]) ?_
  try simp (maxSteps := 1000000) only [go_sem, Nat.zero_add, Int.reduceLT, Int.reduceLE, Int.reduceToNat, Nat.reduceLT, eq_self, Int.toNat_zero, Int.toNat_one, Nat.reduceEqDiff, Nat.reduceAdd, Nat.reduceLeDiff, Nat.reduceSub, Nat.reduceMul, ↓reduceIte, reduceCtorEq, Nat.add_zero, Int.toNat_natCast, List.getElem?_map, Option.map_some, List.length_map, Int.cast_ofNat_Int, decide_true, decide_false]
  generalize hP : [AV.agg [AV.int IntKind.i64 before, AV.int IntKind.i64 target, AV.int IntKind.i64 up', AV.int IntKind.i64 down', AV.int IntKind.i64 steps],
    AV.agg [AV.int IntKind.i64 (before % 40), AV.int IntKind.i64 (target % 40), AV.int IntKind.i64 (up' % 9), AV.int IntKind.i64 (down' % 9), AV.int IntKind.i64 (steps % 9)],
    AV.agg [AV.int IntKind.i64 (before % 1073741825), AV.int IntKind.i64 (target % 1073741825), AV.int IntKind.i64 (up' % 1073741825), AV.int IntKind.i64 (down' % 9), AV.int IntKind.i64 (steps % 50)]] = P
  have hPl : P.length = 3 := by rw [← hP]; rfl
  have hPg : ∀ r, r < 3 → ∃ a b c d s, P[r]? = some (.agg [.int .i64 a, .int .i64 b, .int .i64 c, .int .i64 d, .int .i64 s]) := by
    intro r hr
    have : r = 0 ∨ r = 1 ∨ r = 2 := by omega
    rcases this with rfl | rfl | rfl <;> rw [← hP] <;> exact ⟨_, _, _, _, _, rfl⟩
  clear hP
  refine awp_upF [16, 21, 22, 23, 24, 25, 26, 27, 28, 29, 30, 31, 32, 33, 34, 35, 37, 38, 39, 40, 41, 43, 44, 45, 46, 47, 48, 49, 105, 106, 107, 108, 109, 110, 111, 112, 113, 114, 115, 116, 117, 118, 119, 120, 121, 122, 123, 124, 125, 126, 127, 128, 129, 130, 131, 132, 133, 134, 135, 136, 137, 138, 139, 140, 141, 142, 143, 144, 145, 146, 147, 148, 149, 150, 151, 152, 153, 154, 155, 156, 157, 158, 159, 160, 161, 162, 163, 164, 165, 166, 167, 168, 169, 170, 171, 172, 173, 174, 175, 176, 177, 178, 179, 180, 181, 182, 183, 184, 185, 186, 187, 188, 189, 190, 191, 192, 193, 194, 195, 196, 197, 198, 199, 200, 201, 202, 203, 204, 205, 206, 207, 208, 209, 210, 211, 212, 213, 214, 215, 216, 217, 218, 219, 220, 221, 222, 223, 224, 225, 226, 227, 228, 229, 230, 231, 232, 233, 234, 235, 236, 237, 238, 239, 240, 241, 242, 243, 244, 245, 246, 247, 248, 249, 250, 251, 252, 253, 254, 255, 256, 257, 258, 259, 260, 261, 262, 263, 264, 265, 266, 267, 268, 269, 270, 271, 272, 273, 274, 275, 276, 277, 278, 279, 280, 281, 282, 283, 284, 285, 286, 287, 288, 289, 290, 291, 292, 293, 294, 295, 296, 297, 298, 299, 300, 301, 302, 303, 304, 305, 306, 307] (by kernel_rfl) 3 (fun r e σ => e 105 = .int .i64 r) ?_ ?_
  · simp [go_sem]
  rintro r fe ob c3 hr h105
  simp (maxSteps := 1000000) only [go_sem, Nat.zero_add, Int.reduceLT, Int.reduceLE, Int.reduceToNat, Nat.reduceLT, eq_self, Int.toNat_zero, Int.toNat_one, Nat.reduceEqDiff, Nat.reduceAdd, Nat.reduceLeDiff, Nat.reduceSub, Nat.reduceMul, ↓reduceIte, reduceCtorEq, Nat.add_zero, Int.toNat_natCast, List.getElem?_map, Option.map_some, List.length_map, Int.cast_ofNat_Int, decide_true, decide_false] at h105
  simp (maxSteps := 1000000) only [go_sem, Nat.zero_add, Int.reduceLT, Int.reduceLE, Int.reduceToNat, Nat.reduceLT, eq_self, Int.toNat_zero, Int.toNat_one, Nat.reduceEqDiff, Nat.reduceAdd, Nat.reduceLeDiff, Nat.reduceSub, Nat.reduceMul, ↓reduceIte, reduceCtorEq, Nat.add_zero, Int.toNat_natCast, List.getElem?_map, Option.map_some, List.length_map, Int.cast_ofNat_Int, decide_true, decide_false, h105]
  refine cond_d (fun hlt => ?_) (fun hge => ?_)
  · obtain ⟨a, b, u, d, s, hp⟩ := hPg r (by omega)
    have len1 : (pathR a b u d s).1.length ≤ 9223372036854775807 := by
      unfold pathR
      split
      · split
        · rw [pathS_length]; omega
        · simp
      · simp
    simp (maxSteps := 1000000) (disch := omega) only [go_sem, Nat.zero_add, Int.reduceLT, Int.reduceLE, Int.reduceToNat, Nat.reduceLT, eq_self, Int.toNat_zero, Int.toNat_one, Nat.reduceEqDiff, Nat.reduceAdd, Nat.reduceLeDiff, Nat.reduceSub, Nat.reduceMul, ↓reduceIte, reduceCtorEq, Nat.add_zero, Int.toNat_natCast, List.getElem?_map, Option.map_some, List.length_map, Int.cast_ofNat_Int, decide_true, decide_false, wrap_id, h105, hPl, hp]
    repeat (refine And.intro (by first | omega | (simp [maxLen]; done) | (simp [maxLen]; omega)) ?_)
    refine call_pc (ok_ramp_Path a b u d s) (by simp [go_sem]) ?_
    try simp (maxSteps := 1000000) only [go_sem, Nat.zero_add, Int.reduceLT, Int.reduceLE, Int.reduceToNat, Nat.reduceLT, eq_self, Int.toNat_zero, Int.toNat_one, Nat.reduceEqDiff, Nat.reduceAdd, Nat.reduceLeDiff, Nat.reduceSub, Nat.reduceMul, ↓reduceIte, reduceCtorEq, Nat.add_zero, Int.toNat_natCast, List.getElem?_map, Option.map_some, List.length_map, Int.cast_ofNat_Int, decide_true, decide_false]
    refine call_pc (ok_ref21_Path a b u d s) (by simp [go_sem]) ?_
    try simp (maxSteps := 1000000) only [go_sem, Nat.zero_add, Int.reduceLT, Int.reduceLE, Int.reduceToNat, Nat.reduceLT, eq_self, Int.toNat_zero, Int.toNat_one, Nat.reduceEqDiff, Nat.reduceAdd, Nat.reduceLeDiff, Nat.reduceSub, Nat.reduceMul, ↓reduceIte, reduceCtorEq, Nat.add_zero, Int.toNat_natCast, List.getElem?_map, Option.map_some, List.length_map, Int.cast_ofNat_Int, decide_true, decide_false]
    refine call_pc (ok_ramp_Steps a b u d) (by simp [go_sem]) ?_
    simp (maxSteps := 1000000) only [go_sem, Nat.zero_add, Int.reduceLT, Int.reduceLE, Int.reduceToNat, Nat.reduceLT, eq_self, Int.toNat_zero, Int.toNat_one, Nat.reduceEqDiff, Nat.reduceAdd, Nat.reduceLeDiff, Nat.reduceSub, Nat.reduceMul, ↓reduceIte, reduceCtorEq, Nat.add_zero, Int.toNat_natCast, List.getElem?_map, Option.map_some, List.length_map, Int.cast_ofNat_Int, decide_true, decide_false, trip]
    refine call_pc (ok_ref21_Steps a b u d) (by simp [go_sem]) ?_
    simp (maxSteps := 1000000) only [go_sem, Nat.zero_add, Int.reduceLT, Int.reduceLE, Int.reduceToNat, Nat.reduceLT, eq_self, Int.toNat_zero, Int.toNat_one, Nat.reduceEqDiff, Nat.reduceAdd, Nat.reduceLeDiff, Nat.reduceSub, Nat.reduceMul, ↓reduceIte, reduceCtorEq, Nat.add_zero, Int.toNat_natCast, List.getElem?_map, Option.map_some, List.length_map, Int.cast_ofNat_Int, decide_true, decide_false, trip]
    refine call_pc (ok_ramp_Bounds a u d s) (by simp [go_sem]) ?_
    simp (maxSteps := 1000000) only [go_sem, Nat.zero_add, Int.reduceLT, Int.reduceLE, Int.reduceToNat, Nat.reduceLT, eq_self, Int.toNat_zero, Int.toNat_one, Nat.reduceEqDiff, Nat.reduceAdd, Nat.reduceLeDiff, Nat.reduceSub, Nat.reduceMul, ↓reduceIte, reduceCtorEq, Nat.add_zero, Int.toNat_natCast, List.getElem?_map, Option.map_some, List.length_map, Int.cast_ofNat_Int, decide_true, decide_false, bdv]
    refine call_pc (ok_ref21_Bounds a u d s) (by simp [go_sem]) ?_
    simp (maxSteps := 1000000) only [go_sem, Nat.zero_add, Int.reduceLT, Int.reduceLE, Int.reduceToNat, Nat.reduceLT, eq_self, Int.toNat_zero, Int.toNat_one, Nat.reduceEqDiff, Nat.reduceAdd, Nat.reduceLeDiff, Nat.reduceSub, Nat.reduceMul, ↓reduceIte, reduceCtorEq, Nat.add_zero, Int.toNat_natCast, List.getElem?_map, Option.map_some, List.length_map, Int.cast_ofNat_Int, decide_true, decide_false, bdv]
    refine call_pc (ok_ref01_Same _ _ len1) (by simp [go_sem]) ?_
    try simp (maxSteps := 1000000) only [go_sem, Nat.zero_add, Int.reduceLT, Int.reduceLE, Int.reduceToNat, Nat.reduceLT, eq_self, Int.toNat_zero, Int.toNat_one, Nat.reduceEqDiff, Nat.reduceAdd, Nat.reduceLeDiff, Nat.reduceSub, Nat.reduceMul, ↓reduceIte, reduceCtorEq, Nat.add_zero, Int.toNat_natCast, List.getElem?_map, Option.map_some, List.length_map, Int.cast_ofNat_Int, decide_true, decide_false]
    generalize hA : [AV.list 1 (ints L), AV.list 1 (ints rl)] = A
    have hAl : A.length = 2 := by rw [← hA]; rfl
    have hAg : ∀ r, r < 2 → ∃ z, A[r]? = some (.list 1 (ints z)) ∧ z.length ≤ 1000 := by
      intro r hr
      have : r = 0 ∨ r = 1 := by omega
      rcases this with rfl | rfl <;> rw [← hA]
      · exact ⟨L, rfl, by omega⟩
      · exact ⟨rl, rfl, by omega⟩
    clear hA
    refine awp_upF [16, 37, 38, 39, 40, 41, 225, 226, 227, 228, 229, 230, 231, 232, 233, 234, 235, 236, 237, 238, 239, 240, 241, 242, 243, 244, 245, 246, 247, 248, 249, 250, 251, 252, 253, 254, 255, 256, 257, 258, 259] (by kernel_rfl) 2 (fun r e σ => e 225 = .int .i64 r ∧ σ.ob 3 = some ⟨c3, 5, 48, false, true, [.agg [.int .i64 a, .int .i64 b, .int .i64 u, .int .i64 d, .int .i64 s]]⟩) ?_ ?_
    · exact ⟨(by first | ((try simp (maxSteps := 1000000) only [go_sem, Nat.zero_add, Int.reduceLT, Int.reduceLE, Int.reduceToNat, Nat.reduceLT, eq_self, Int.toNat_zero, Int.toNat_one, Nat.reduceEqDiff, Nat.reduceAdd, Nat.reduceLeDiff, Nat.reduceSub, Nat.reduceMul, ↓reduceIte, reduceCtorEq, Nat.add_zero, Int.toNat_natCast, List.getElem?_map, Option.map_some, List.length_map, Int.cast_ofNat_Int, decide_true, decide_false]); done) | ((try simp (maxSteps := 1000000) only [go_sem, Nat.zero_add, Int.reduceLT, Int.reduceLE, Int.reduceToNat, Nat.reduceLT, eq_self, Int.toNat_zero, Int.toNat_one, Nat.reduceEqDiff, Nat.reduceAdd, Nat.reduceLeDiff, Nat.reduceSub, Nat.reduceMul, ↓reduceIte, reduceCtorEq, Nat.add_zero, Int.toNat_natCast, List.getElem?_map, Option.map_some, List.length_map, Int.cast_ofNat_Int, decide_true, decide_false]); rfl)), by first | rfl | simp (maxSteps := 1000000) only [go_sem, Nat.zero_add, Int.reduceLT, Int.reduceLE, Int.reduceToNat, Nat.reduceLT, eq_self, Int.toNat_zero, Int.toNat_one, Nat.reduceEqDiff, Nat.reduceAdd, Nat.reduceLeDiff, Nat.reduceSub, Nat.reduceMul, ↓reduceIte, reduceCtorEq, Nat.add_zero, Int.toNat_natCast, List.getElem?_map, Option.map_some, List.length_map, Int.cast_ofNat_Int, decide_true, decide_false]⟩
    rintro k fe2 ob2 c4 hk ⟨h225, hob⟩
    simp (maxSteps := 1000000) only [go_sem, Nat.zero_add, Int.reduceLT, Int.reduceLE, Int.reduceToNat, Nat.reduceLT, eq_self, Int.toNat_zero, Int.toNat_one, Nat.reduceEqDiff, Nat.reduceAdd, Nat.reduceLeDiff, Nat.reduceSub, Nat.reduceMul, ↓reduceIte, reduceCtorEq, Nat.add_zero, Int.toNat_natCast, List.getElem?_map, Option.map_some, List.length_map, Int.cast_ofNat_Int, decide_true, decide_false] at h225 hob
    simp (maxSteps := 1000000) only [go_sem, Nat.zero_add, Int.reduceLT, Int.reduceLE, Int.reduceToNat, Nat.reduceLT, eq_self, Int.toNat_zero, Int.toNat_one, Nat.reduceEqDiff, Nat.reduceAdd, Nat.reduceLeDiff, Nat.reduceSub, Nat.reduceMul, ↓reduceIte, reduceCtorEq, Nat.add_zero, Int.toNat_natCast, List.getElem?_map, Option.map_some, List.length_map, Int.cast_ofNat_Int, decide_true, decide_false, h225]
    refine cond_d (fun hlt2 => ?_) (fun hge2 => ?_)
    · obtain ⟨z, hz, hzl⟩ := hAg k (by omega)
      simp (maxSteps := 1000000) (disch := omega) only [go_sem, Nat.zero_add, Int.reduceLT, Int.reduceLE, Int.reduceToNat, Nat.reduceLT, eq_self, Int.toNat_zero, Int.toNat_one, Nat.reduceEqDiff, Nat.reduceAdd, Nat.reduceLeDiff, Nat.reduceSub, Nat.reduceMul, ↓reduceIte, reduceCtorEq, Nat.add_zero, Int.toNat_natCast, List.getElem?_map, Option.map_some, List.length_map, Int.cast_ofNat_Int, decide_true, decide_false, wrap_id, h225, hAl, hz, hob]
      repeat (refine And.intro (by first | omega | (simp [maxLen]; done) | (simp [maxLen]; omega)) ?_)
      refine call_pc (ok_ramp_Within z a u d (by omega)) (by simp [go_sem]) ?_
      simp (maxSteps := 1000000) (disch := omega) only [go_sem, Nat.zero_add, Int.reduceLT, Int.reduceLE, Int.reduceToNat, Nat.reduceLT, eq_self, Int.toNat_zero, Int.toNat_one, Nat.reduceEqDiff, Nat.reduceAdd, Nat.reduceLeDiff, Nat.reduceSub, Nat.reduceMul, ↓reduceIte, reduceCtorEq, Nat.add_zero, Int.toNat_natCast, List.getElem?_map, Option.map_some, List.length_map, Int.cast_ofNat_Int, decide_true, decide_false, wrap_id, h225, hob]
      refine call_pc (ok_ref21_Within z a u d (by omega)) (by simp [go_sem]) ?_
      simp (maxSteps := 1000000) (disch := omega) only [go_sem, Nat.zero_add, Int.reduceLT, Int.reduceLE, Int.reduceToNat, Nat.reduceLT, eq_self, Int.toNat_zero, Int.toNat_one, Nat.reduceEqDiff, Nat.reduceAdd, Nat.reduceLeDiff, Nat.reduceSub, Nat.reduceMul, ↓reduceIte, reduceCtorEq, Nat.add_zero, Int.toNat_natCast, List.getElem?_map, Option.map_some, List.length_map, Int.cast_ofNat_Int, decide_true, decide_false, wrap_id, h225, hob]
      try repeat (refine And.intro (by first | omega | (simp [maxLen]; done) | (simp [maxLen]; omega)) ?_)
      exact up_next (by omega) ⟨(by first | ((try simp (maxSteps := 1000000) only [go_sem, Nat.zero_add, Int.reduceLT, Int.reduceLE, Int.reduceToNat, Nat.reduceLT, eq_self, Int.toNat_zero, Int.toNat_one, Nat.reduceEqDiff, Nat.reduceAdd, Nat.reduceLeDiff, Nat.reduceSub, Nat.reduceMul, ↓reduceIte, reduceCtorEq, Nat.add_zero, Int.toNat_natCast, List.getElem?_map, Option.map_some, List.length_map, Int.cast_ofNat_Int, decide_true, decide_false]); done) | ((try simp (maxSteps := 1000000) only [go_sem, Nat.zero_add, Int.reduceLT, Int.reduceLE, Int.reduceToNat, Nat.reduceLT, eq_self, Int.toNat_zero, Int.toNat_one, Nat.reduceEqDiff, Nat.reduceAdd, Nat.reduceLeDiff, Nat.reduceSub, Nat.reduceMul, ↓reduceIte, reduceCtorEq, Nat.add_zero, Int.toNat_natCast, List.getElem?_map, Option.map_some, List.length_map, Int.cast_ofNat_Int, decide_true, decide_false]); rfl)), by (try simp (maxSteps := 1000000) only [go_sem, Nat.zero_add, Int.reduceLT, Int.reduceLE, Int.reduceToNat, Nat.reduceLT, eq_self, Int.toNat_zero, Int.toNat_one, Nat.reduceEqDiff, Nat.reduceAdd, Nat.reduceLeDiff, Nat.reduceSub, Nat.reduceMul, ↓reduceIte, reduceCtorEq, Nat.add_zero, Int.toNat_natCast, List.getElem?_map, Option.map_some, List.length_map, Int.cast_ofNat_Int, decide_true, decide_false]); exact hob⟩
    · try simp (maxSteps := 1000000) only [go_sem, Nat.zero_add, Int.reduceLT, Int.reduceLE, Int.reduceToNat, Nat.reduceLT, eq_self, Int.toNat_zero, Int.toNat_one, Nat.reduceEqDiff, Nat.reduceAdd, Nat.reduceLeDiff, Nat.reduceSub, Nat.reduceMul, ↓reduceIte, reduceCtorEq, Nat.add_zero, Int.toNat_natCast, List.getElem?_map, Option.map_some, List.length_map, Int.cast_ofNat_Int, decide_true, decide_false]
      generalize hB : [AV.list 2 (bds due), AV.list 2 (bds rd)] = B
      have hBl : B.length = 2 := by rw [← hB]; rfl
      have hBg : ∀ r, r < 2 → ∃ z, B[r]? = some (.list 2 (bds z)) ∧ z.length ≤ 1000 := by
        intro r hr
        have : r = 0 ∨ r = 1 := by omega
        rcases this with rfl | rfl <;> rw [← hB]
        · exact ⟨due, rfl, by omega⟩
        · exact ⟨rd, rfl, by omega⟩
      clear hB
      refine awp_upF [16, 43, 44, 45, 46, 47, 48, 49, 264, 265, 266, 267, 268, 269, 270, 271, 272, 273, 274, 275, 276, 277, 278, 279, 280, 281, 282, 283, 284, 285, 286, 287, 288, 289, 290, 291, 292, 293, 294, 295, 296, 297, 298, 299, 300, 301, 302, 303, 304, 305, 306] (by kernel_rfl) 2 (fun r e σ => e 264 = .int .i64 r ∧ σ.ob 3 = some ⟨c3, 5, 48, false, true, [.agg [.int .i64 a, .int .i64 b, .int .i64 u, .int .i64 d, .int .i64 s]]⟩) ?_ ?_
      · exact ⟨(by first | ((try simp (maxSteps := 1000000) only [go_sem, Nat.zero_add, Int.reduceLT, Int.reduceLE, Int.reduceToNat, Nat.reduceLT, eq_self, Int.toNat_zero, Int.toNat_one, Nat.reduceEqDiff, Nat.reduceAdd, Nat.reduceLeDiff, Nat.reduceSub, Nat.reduceMul, ↓reduceIte, reduceCtorEq, Nat.add_zero, Int.toNat_natCast, List.getElem?_map, Option.map_some, List.length_map, Int.cast_ofNat_Int, decide_true, decide_false]); done) | ((try simp (maxSteps := 1000000) only [go_sem, Nat.zero_add, Int.reduceLT, Int.reduceLE, Int.reduceToNat, Nat.reduceLT, eq_self, Int.toNat_zero, Int.toNat_one, Nat.reduceEqDiff, Nat.reduceAdd, Nat.reduceLeDiff, Nat.reduceSub, Nat.reduceMul, ↓reduceIte, reduceCtorEq, Nat.add_zero, Int.toNat_natCast, List.getElem?_map, Option.map_some, List.length_map, Int.cast_ofNat_Int, decide_true, decide_false]); rfl)), by (try simp (maxSteps := 1000000) only [go_sem, Nat.zero_add, Int.reduceLT, Int.reduceLE, Int.reduceToNat, Nat.reduceLT, eq_self, Int.toNat_zero, Int.toNat_one, Nat.reduceEqDiff, Nat.reduceAdd, Nat.reduceLeDiff, Nat.reduceSub, Nat.reduceMul, ↓reduceIte, reduceCtorEq, Nat.add_zero, Int.toNat_natCast, List.getElem?_map, Option.map_some, List.length_map, Int.cast_ofNat_Int, decide_true, decide_false]); exact hob⟩
      rintro k2 fe3 ob3 c5 hk2 ⟨h264, hob3⟩
      simp (maxSteps := 1000000) only [go_sem, Nat.zero_add, Int.reduceLT, Int.reduceLE, Int.reduceToNat, Nat.reduceLT, eq_self, Int.toNat_zero, Int.toNat_one, Nat.reduceEqDiff, Nat.reduceAdd, Nat.reduceLeDiff, Nat.reduceSub, Nat.reduceMul, ↓reduceIte, reduceCtorEq, Nat.add_zero, Int.toNat_natCast, List.getElem?_map, Option.map_some, List.length_map, Int.cast_ofNat_Int, decide_true, decide_false] at h264 hob3
      simp (maxSteps := 1000000) only [go_sem, Nat.zero_add, Int.reduceLT, Int.reduceLE, Int.reduceToNat, Nat.reduceLT, eq_self, Int.toNat_zero, Int.toNat_one, Nat.reduceEqDiff, Nat.reduceAdd, Nat.reduceLeDiff, Nat.reduceSub, Nat.reduceMul, ↓reduceIte, reduceCtorEq, Nat.add_zero, Int.toNat_natCast, List.getElem?_map, Option.map_some, List.length_map, Int.cast_ofNat_Int, decide_true, decide_false, h264]
      refine cond_d (fun hlt3 => ?_) (fun hge3 => ?_)
      · obtain ⟨z, hz, hzl⟩ := hBg k2 (by omega)
        simp (maxSteps := 1000000) (disch := omega) only [go_sem, Nat.zero_add, Int.reduceLT, Int.reduceLE, Int.reduceToNat, Nat.reduceLT, eq_self, Int.toNat_zero, Int.toNat_one, Nat.reduceEqDiff, Nat.reduceAdd, Nat.reduceLeDiff, Nat.reduceSub, Nat.reduceMul, ↓reduceIte, reduceCtorEq, Nat.add_zero, Int.toNat_natCast, List.getElem?_map, Option.map_some, List.length_map, Int.cast_ofNat_Int, decide_true, decide_false, wrap_id, h264, hBl, hz, hob3]
        repeat (refine And.intro (by first | omega | (simp [maxLen]; done) | (simp [maxLen]; omega)) ?_)
        refine call_pc (ok_ramp_Latest a z u d (by omega)) (by simp [go_sem]) ?_
        simp (maxSteps := 1000000) (disch := omega) only [go_sem, Nat.zero_add, Int.reduceLT, Int.reduceLE, Int.reduceToNat, Nat.reduceLT, eq_self, Int.toNat_zero, Int.toNat_one, Nat.reduceEqDiff, Nat.reduceAdd, Nat.reduceLeDiff, Nat.reduceSub, Nat.reduceMul, ↓reduceIte, reduceCtorEq, Nat.add_zero, Int.toNat_natCast, List.getElem?_map, Option.map_some, List.length_map, Int.cast_ofNat_Int, decide_true, decide_false, wrap_id, h264, hob3]
        refine call_pc (ok_ref21_Latest a z u d (by omega)) (by simp [go_sem]) ?_
        have hll : (latestR a z u d).1.length ≤ 9223372036854775807 := latest_len a z u d (by omega)
        simp (maxSteps := 1000000) (disch := omega) only [go_sem, Nat.zero_add, Int.reduceLT, Int.reduceLE, Int.reduceToNat, Nat.reduceLT, eq_self, Int.toNat_zero, Int.toNat_one, Nat.reduceEqDiff, Nat.reduceAdd, Nat.reduceLeDiff, Nat.reduceSub, Nat.reduceMul, ↓reduceIte, reduceCtorEq, Nat.add_zero, Int.toNat_natCast, List.getElem?_map, Option.map_some, List.length_map, Int.cast_ofNat_Int, decide_true, decide_false, wrap_id, h264, hob3]
        refine call_pc (ok_ref09_Same _ _ hll) (by simp [go_sem]) ?_
        simp (maxSteps := 1000000) (disch := omega) only [go_sem, Nat.zero_add, Int.reduceLT, Int.reduceLE, Int.reduceToNat, Nat.reduceLT, eq_self, Int.toNat_zero, Int.toNat_one, Nat.reduceEqDiff, Nat.reduceAdd, Nat.reduceLeDiff, Nat.reduceSub, Nat.reduceMul, ↓reduceIte, reduceCtorEq, Nat.add_zero, Int.toNat_natCast, List.getElem?_map, Option.map_some, List.length_map, Int.cast_ofNat_Int, decide_true, decide_false, wrap_id, h264]
        try repeat (refine And.intro (by first | omega | (simp [maxLen]; done) | (simp [maxLen]; omega)) ?_)
        exact up_next (by omega) ⟨(by first | ((try simp (maxSteps := 1000000) only [go_sem, Nat.zero_add, Int.reduceLT, Int.reduceLE, Int.reduceToNat, Nat.reduceLT, eq_self, Int.toNat_zero, Int.toNat_one, Nat.reduceEqDiff, Nat.reduceAdd, Nat.reduceLeDiff, Nat.reduceSub, Nat.reduceMul, ↓reduceIte, reduceCtorEq, Nat.add_zero, Int.toNat_natCast, List.getElem?_map, Option.map_some, List.length_map, Int.cast_ofNat_Int, decide_true, decide_false]); done) | ((try simp (maxSteps := 1000000) only [go_sem, Nat.zero_add, Int.reduceLT, Int.reduceLE, Int.reduceToNat, Nat.reduceLT, eq_self, Int.toNat_zero, Int.toNat_one, Nat.reduceEqDiff, Nat.reduceAdd, Nat.reduceLeDiff, Nat.reduceSub, Nat.reduceMul, ↓reduceIte, reduceCtorEq, Nat.add_zero, Int.toNat_natCast, List.getElem?_map, Option.map_some, List.length_map, Int.cast_ofNat_Int, decide_true, decide_false]); rfl)), by (try simp (maxSteps := 1000000) only [go_sem, Nat.zero_add, Int.reduceLT, Int.reduceLE, Int.reduceToNat, Nat.reduceLT, eq_self, Int.toNat_zero, Int.toNat_one, Nat.reduceEqDiff, Nat.reduceAdd, Nat.reduceLeDiff, Nat.reduceSub, Nat.reduceMul, ↓reduceIte, reduceCtorEq, Nat.add_zero, Int.toNat_natCast, List.getElem?_map, Option.map_some, List.length_map, Int.cast_ofNat_Int, decide_true, decide_false]); exact hob3⟩
      · simp (maxSteps := 1000000) (disch := omega) only [go_sem, Nat.zero_add, Int.reduceLT, Int.reduceLE, Int.reduceToNat, Nat.reduceLT, eq_self, Int.toNat_zero, Int.toNat_one, Nat.reduceEqDiff, Nat.reduceAdd, Nat.reduceLeDiff, Nat.reduceSub, Nat.reduceMul, ↓reduceIte, reduceCtorEq, Nat.add_zero, Int.toNat_natCast, List.getElem?_map, Option.map_some, List.length_map, Int.cast_ofNat_Int, decide_true, decide_false, wrap_id, h105]
        try repeat (refine And.intro (by first | omega | (simp [maxLen]; done) | (simp [maxLen]; omega)) ?_)
        exact up_next (by omega) (by first | ((try simp (maxSteps := 1000000) only [go_sem, Nat.zero_add, Int.reduceLT, Int.reduceLE, Int.reduceToNat, Nat.reduceLT, eq_self, Int.toNat_zero, Int.toNat_one, Nat.reduceEqDiff, Nat.reduceAdd, Nat.reduceLeDiff, Nat.reduceSub, Nat.reduceMul, ↓reduceIte, reduceCtorEq, Nat.add_zero, Int.toNat_natCast, List.getElem?_map, Option.map_some, List.length_map, Int.cast_ofNat_Int, decide_true, decide_false]); done) | ((try simp (maxSteps := 1000000) only [go_sem, Nat.zero_add, Int.reduceLT, Int.reduceLE, Int.reduceToNat, Nat.reduceLT, eq_self, Int.toNat_zero, Int.toNat_one, Nat.reduceEqDiff, Nat.reduceAdd, Nat.reduceLeDiff, Nat.reduceSub, Nat.reduceMul, ↓reduceIte, reduceCtorEq, Nat.add_zero, Int.toNat_natCast, List.getElem?_map, Option.map_some, List.length_map, Int.cast_ofNat_Int, decide_true, decide_false]); rfl))
  · try simp (maxSteps := 1000000) only [go_sem, Nat.zero_add, Int.reduceLT, Int.reduceLE, Int.reduceToNat, Nat.reduceLT, eq_self, Int.toNat_zero, Int.toNat_one, Nat.reduceEqDiff, Nat.reduceAdd, Nat.reduceLeDiff, Nat.reduceSub, Nat.reduceMul, ↓reduceIte, reduceCtorEq, Nat.add_zero, Int.toNat_natCast, List.getElem?_map, Option.map_some, List.length_map, Int.cast_ofNat_Int, decide_true, decide_false]
    refine call_pc ok_law21_awake (by simp) ?_
    try simp (maxSteps := 1000000) only [go_sem, Nat.zero_add, Int.reduceLT, Int.reduceLE, Int.reduceToNat, Nat.reduceLT, eq_self, Int.toNat_zero, Int.toNat_one, Nat.reduceEqDiff, Nat.reduceAdd, Nat.reduceLeDiff, Nat.reduceSub, Nat.reduceMul, ↓reduceIte, reduceCtorEq, Nat.add_zero, Int.toNat_natCast, List.getElem?_map, Option.map_some, List.length_map, Int.cast_ofNat_Int, decide_true, decide_false]
    exact Pub.of_eq rfl rfl
abbrev shBd : Sh := .struct (.fc (.int .i64) (.fc (.int .i64) .f0))
theorem shBds {c : List AV} (h : (Sh.slice 2 shBd).R c) : ∃ L : List Bd, c = [.list 2 (bds L)] ∧ L.length ≤ 9223372036854775807 := by
  obtain ⟨xs, rfl, hl, h⟩ := h
  obtain ⟨L, rfl, _⟩ := exists_map (f := bdv) (Q := fun _ => True) fun x hx => by
    obtain ⟨cs, hr, _, rfl⟩ := h x hx
    obtain ⟨_, _, rfl, ⟨a, rfl, _⟩, _, _, rfl, ⟨b, rfl, _⟩, rfl⟩ := hr
    exact ⟨⟨a, b⟩, trivial, rfl⟩
  exact ⟨L, rfl, by simpa using hl⟩
theorem shInts {c : List AV} (h : (Sh.slice 1 (.int .i64)).R c) : ∃ L : List Int, c = [.list 1 (ints L)] ∧ L.length ≤ 9223372036854775807 ∧ ∀ n ∈ L, (Lit.int .i64 n).wf = true := by
  obtain ⟨xs, rfl, hl, h⟩ := h
  obtain ⟨L, rfl, hL⟩ := exists_map (f := AV.int .i64) (Q := fun n => (Lit.int .i64 n).wf = true) fun x hx => by
    obtain ⟨cs, hr, _, rfl⟩ := h x hx
    obtain ⟨a, rfl, ha⟩ := hr
    exact ⟨a, ha, rfl⟩
  exact ⟨L, rfl, by simpa using hl, hL⟩
theorem law_law21_RampAll {c0 c1 c2 c3 c4 c5 c6 c7 : List AV} (s0 : (Sh.slice 2 shBd).R c0) (s1 : (Sh.slice 1 (.int .i64)).R c1) (s2 : (Sh.slice 1 (.int .i64)).R c2) (s3 : (Sh.int .i64).R c3) (s4 : (Sh.int .i64).R c4) (s5 : (Sh.int .i64).R c5) (s6 : (Sh.int .i64).R c6) (s7 : (Sh.int .i64).R c7) :
    PC prog n_law21_RampAll [(Sh.slice 2 shBd).mk1 c0, (Sh.slice 1 (.int .i64)).mk1 c1, (Sh.slice 1 (.int .i64)).mk1 c2, (Sh.int .i64).mk1 c3, (Sh.int .i64).mk1 c4, (Sh.int .i64).mk1 c5, (Sh.int .i64).mk1 c6, (Sh.int .i64).mk1 c7] (.bool true) := by
  obtain ⟨l0, rfl, g0⟩ := shBds s0
  obtain ⟨l1, rfl, g1, _⟩ := shInts s1
  obtain ⟨l2, rfl, g2, _⟩ := shInts s2
  obtain ⟨a3, rfl, _⟩ := s3
  obtain ⟨a4, rfl, _⟩ := s4
  obtain ⟨a5, rfl, _⟩ := s5
  obtain ⟨a6, rfl, _⟩ := s6
  obtain ⟨a7, rfl, _⟩ := s7
  exact ok_law21_RampAll l0 g0 l1 g1 l2 g2 a3 a4 a5 a6 a7
end Go.Proofs.Try
