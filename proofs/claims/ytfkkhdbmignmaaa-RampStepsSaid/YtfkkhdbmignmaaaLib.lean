/-
  OWN WORK, put together by tools/asm.py: what functions do.
-/
import Derived.Test.YtfkkhdbmignmaaaCode
set_option linter.unusedSimpArgs false
set_option linter.unusedVariables false
namespace Go.Proofs.Try
open Go.Ab Go
theorem tmod_mod (n k : Int) (hk : 0 < k) : (n.tmod k + k).tmod k = n % k := by
  have h2 := Int.tmod_eq_emod (a := n) (b := k)
  have h3 := Int.emod_nonneg n (show k ≠ 0 by omega)
  have h4 := Int.emod_lt_of_pos n hk
  have h5 : 0 ≤ n.tmod k + k := by rw [h2]; split <;> omega
  rw [Int.tmod_eq_emod_of_nonneg h5, Int.add_emod_right, h2]
  split
  · simp
  · rw [show ((k.natAbs : Nat) : Int) = k by omega, Int.sub_emod_right]; exact Int.emod_emod_of_dvd n (Int.dvd_refl k)
theorem tmod_bd (n k : Int) (hk : 0 < k) : -k < n.tmod k ∧ n.tmod k < k := by
  have h2 := Int.tmod_eq_emod (a := n) (b := k)
  have h3 := Int.emod_nonneg n (show k ≠ 0 by omega)
  have h4 := Int.emod_lt_of_pos n hk
  by_cases h : 0 ≤ n ∨ k ∣ n
  · rw [if_pos h] at h2; omega
  · rw [if_neg h] at h2
    have : n % k ≠ 0 := fun h0 => h (.inr (Int.dvd_of_emod_eq_zero h0))
    omega
def ints (l : List Int) : List AV := l.map (.int .i64)
theorem ints_length (l : List Int) : (ints l).length = l.length := by simp [ints]
theorem ints_get (l : List Int) (i : Nat) : (ints l)[i]? = (l[i]?).map (AV.int .i64) := by simp [ints]
theorem ints_append (l r : List Int) : ints l ++ ints r = ints (l ++ r) := by simp [ints]
theorem ints_pur (l : List Int) : ∀ x ∈ ints l, x.pur = true := by simp [ints, go_sem]
theorem ints_ok (l : List Int) : ∀ x ∈ ints l, okE 1 x := by simp [ints, okE, go_sem]
/-- two numbers that are bounds -/
structure Bd where
  lo : Int
  hi : Int
  deriving DecidableEq, Inhabited
def bdv (b : Bd) : AV := .agg [.int .i64 b.lo, .int .i64 b.hi]
def bds (l : List Bd) : List AV := l.map bdv
theorem bds_length (l : List Bd) : (bds l).length = l.length := by simp [bds]
theorem bds_get (l : List Bd) (i : Nat) : (bds l)[i]? = (l[i]?).map bdv := by simp [bds]
theorem bds_append (l r : List Bd) : bds l ++ bds r = bds (l ++ r) := by simp [bds]
theorem bds_pur (l : List Bd) : ∀ x ∈ bds l, x.pur = true := by simp [bds, bdv, go_sem]
theorem bds_ok (l : List Bd) : ∀ x ∈ bds l, okE 2 x := by simp [bds, bdv, okE, go_sem]
/-- the index of the first element with p; -1 -/
def firstIdx {α : Type} (p : α → Bool) (l : List α) : Int := match l.findIdx? p with | some i => (i : Int) | none => -1
theorem firstIdx_at {α : Type} (p : α → Bool) (l : List α) (k : Nat) (hk : k < l.length) (h1 : ∀ j, j < k → ∀ x, l[j]? = some x → p x = false) (h2 : p l[k] = true) : firstIdx p l = k := by
  have : l.findIdx? p = some k := by
    rw [List.findIdx?_eq_some_iff_getElem]
    exact ⟨hk, h2, fun j hj => by have := h1 j hj l[j] (List.getElem?_eq_getElem _); simp [this]⟩
  simp [firstIdx, this]
theorem firstIdx_none {α : Type} (p : α → Bool) (l : List α) (h1 : ∀ j, j < l.length → ∀ x, l[j]? = some x → p x = false) : firstIdx p l = -1 := by
  have : l.findIdx? p = none := by
    rw [List.findIdx?_eq_none_iff]
    intro x hx
    obtain ⟨j, hj⟩ := List.getElem?_of_mem hx
    exact h1 j (List.getElem?_eq_some_iff.1 hj).1 x hj
  simp [firstIdx, this]
theorem firstIdx_any {α : Type} (p : α → Bool) (l : List α) : decide (0 ≤ firstIdx p l) = l.any p := by
  unfold firstIdx
  cases h : l.findIdx? p with
  | none =>
    rw [List.findIdx?_eq_none_iff] at h
    have : l.any p = false := by rw [List.any_eq_false]; intro x hx; simpa using h x hx
    rw [this]; simp
  | some i =>
    obtain ⟨hi, h1, _⟩ := List.findIdx?_eq_some_iff_getElem.1 h
    have : l.any p = true := List.any_eq_true.2 ⟨_, List.getElem_mem hi, h1⟩
    rw [this]; simp
theorem lt_snoc {α : Type} {l : List α} {k : Nat} {P : α → Prop} (hj : ∀ j, j < k → ∀ x, l[j]? = some x → P x) (hk : k < l.length) (h : P l[k]) : ∀ j, j < k + 1 → ∀ x, l[j]? = some x → P x := by
  intro j hj' x hx
  by_cases e : j = k
  · subst e; rw [List.getElem?_eq_getElem hk] at hx; obtain rfl := Option.some.inj hx; exact h
  · exact hj j (by omega) x hx
def flow1 (n : Int) : Bool := decide (0 ≤ n) && decide (n ≤ 1073741824)
theorem flow1_iff (n : Int) : flow1 n = true ↔ 0 ≤ n ∧ n ≤ 1073741824 := by simp [flow1]
/-- f, k times -/
def runS {α : Type} (f : α → α) (b : α) : Nat → α
  | 0 => b
  | k + 1 => f (runS f b k)
/-- what the first k times give, one behind the other -/
def pathS {α : Type} (f : α → α) (b : α) (k : Nat) : List α := (List.range k).map fun i => runS f b (i + 1)
theorem pathS_zero {α : Type} (f : α → α) (b : α) : pathS f b 0 = [] := rfl
theorem pathS_succ {α : Type} (f : α → α) (b : α) (k : Nat) : pathS f b (k + 1) = pathS f b k ++ [runS f b (k + 1)] := by simp [pathS, List.range_succ]
theorem pathS_length {α : Type} (f : α → α) (b : α) (k : Nat) : (pathS f b k).length = k := by simp [pathS]
theorem pathS_get {α : Type} (f : α → α) (b : α) (k i : Nat) (h : i < k) : (pathS f b k)[i]? = some (runS f b (i + 1)) := by simp [pathS, h]
theorem ints_snoc (l : List Int) (n : Int) : ints l ++ [.int .i64 n] = ints (l ++ [n]) := by simp [ints]
theorem ok_mk_Mod (n k : Int) (hk : 0 < k) (hk2 : k ≤ 4611686018427387904) : PC prog n_mk_Mod [.int .i64 n, .int .i64 k] (.int .i64 (n % k)) := by
  have h1 := tmod_bd n k hk
  refine PC_of_body b_mk_Mod (by simp) ?_
  simp (disch := omega) only [c_mk_Mod, go_sem, Nat.reduceEqDiff, Nat.reduceAdd, Nat.reduceLeDiff, Nat.reduceSub, Nat.reduceMul, ↓reduceIte, reduceCtorEq, Nat.add_zero, Int.toNat_natCast, List.getElem?_map, Option.map_some, List.length_map, Int.cast_ofNat_Int, decide_true, decide_false, wrap_id]
  exact ⟨by omega, by omega, Pub.of_eq (by rw [tmod_mod n k hk]) rfl⟩
theorem ok_quantity_Within (n m : Int) : PC prog n_quantity_Within [.int .i64 n, .int .i64 m] (.bool (decide (0 ≤ n) && decide (n ≤ m))) := by
  refine PC_of_body b_quantity_Within (by simp) ?_
  simp only [c_quantity_Within, go_sem, Nat.reduceEqDiff, Nat.reduceAdd, Nat.reduceLeDiff, Nat.reduceSub, Nat.reduceMul, ↓reduceIte, reduceCtorEq, Nat.add_zero, Int.toNat_natCast, List.getElem?_map, Option.map_some, List.length_map, Int.cast_ofNat_Int, decide_true, decide_false]
  refine gd_td rfl (fun h => ?_) (fun h => ?_) <;> simp only [go_sem, Nat.reduceEqDiff, Nat.reduceAdd, Nat.reduceLeDiff, Nat.reduceSub, Nat.reduceMul, ↓reduceIte, reduceCtorEq, Nat.add_zero, Int.toNat_natCast, List.getElem?_map, Option.map_some, List.length_map, Int.cast_ofNat_Int, decide_true, decide_false]
  all_goals exact Pub.of_eq (by simp [*]) rfl
theorem ok_slices_IndexFunc__int (l : List Int) (hl : l.length ≤ 9223372036854775807) (f : Nat) (caps : List AV) (hcaps : caps.all AV.pur1 = true) (p : Int → Bool) (hp : ∀ x ∈ l, PC prog f (.int .i64 x :: caps) (.bool (p x))) :
    PC prog n_slices_IndexFunc__int [.list 1 (ints l), .func f caps] (.int .i64 (firstIdx p l)) := by
  refine PC_of_body b_slices_IndexFunc__int (by simp) ?_
  simp only [c_slices_IndexFunc__int, go_sem, Nat.reduceEqDiff, Nat.reduceAdd, Nat.reduceLeDiff, Nat.reduceSub, Nat.reduceMul, ↓reduceIte, reduceCtorEq, Nat.add_zero, Int.toNat_natCast, List.getElem?_map, Option.map_some, List.length_map, Int.cast_ofNat_Int, decide_true, decide_false]
  refine awp_up l.length (fun k e _ => e 0 = .list 1 (ints l) ∧ e 1 = .func f caps ∧ e 7 = .int .i64 l.length ∧ e 8 = .int .i64 k ∧ ∀ j, j < k → ∀ x, l[j]? = some x → p x = false) ?_ ?_
  · simp [go_sem, ints]
  · rintro k e ob c hk ⟨h0, h1, h7, h8, hj⟩
    simp only [go_sem, Nat.reduceEqDiff, Nat.reduceAdd, Nat.reduceLeDiff, Nat.reduceSub, Nat.reduceMul, ↓reduceIte, reduceCtorEq, Nat.add_zero, Int.toNat_natCast, List.getElem?_map, Option.map_some, List.length_map, Int.cast_ofNat_Int, decide_true, decide_false, h7, h8]
    refine cond_d (fun hlt => ?_) (fun hge => ?_)
    · have hkl : k < l.length := by omega
      have hg : l[k]? = some l[k] := List.getElem?_eq_getElem hkl
      simp only [go_sem, Nat.reduceEqDiff, Nat.reduceAdd, Nat.reduceLeDiff, Nat.reduceSub, Nat.reduceMul, ↓reduceIte, reduceCtorEq, Nat.add_zero, Int.toNat_natCast, List.getElem?_map, Option.map_some, List.length_map, Int.cast_ofNat_Int, decide_true, decide_false, h0, h1, h8, ints, hg]
      refine ⟨by omega, by omega, call_pc (hp _ (List.getElem_mem hkl)) (by simp only [List.all_eq_true] at hcaps; simp [go_sem]; intro a ha; have := hcaps a ha; cases a <;> simp_all [AV.pur, AV.pur1]) ?_⟩
      simp only [go_sem, Nat.reduceEqDiff, Nat.reduceAdd, Nat.reduceLeDiff, Nat.reduceSub, Nat.reduceMul, ↓reduceIte, reduceCtorEq, Nat.add_zero, Int.toNat_natCast, List.getElem?_map, Option.map_some, List.length_map, Int.cast_ofNat_Int, decide_true, decide_false]
      refine cond_split (fun hp1 => ?_) (fun hp0 => ?_) <;> simp only [go_sem, Nat.reduceEqDiff, Nat.reduceAdd, Nat.reduceLeDiff, Nat.reduceSub, Nat.reduceMul, ↓reduceIte, reduceCtorEq, Nat.add_zero, Int.toNat_natCast, List.getElem?_map, Option.map_some, List.length_map, Int.cast_ofNat_Int, decide_true, decide_false, h8]
      · exact Pub.of_eq (by rw [firstIdx_at p l k hkl hj hp1]) rfl
      · simp (disch := omega) only [wrap_id]
        exact up_next hkl ⟨by simp [go_sem, h0, ints], by simp [go_sem, h1], by simp [go_sem, h7], by simp [go_sem], lt_snoc hj hkl hp0⟩
    · simp only [go_sem, Nat.reduceEqDiff, Nat.reduceAdd, Nat.reduceLeDiff, Nat.reduceSub, Nat.reduceMul, ↓reduceIte, reduceCtorEq, Nat.add_zero, Int.toNat_natCast, List.getElem?_map, Option.map_some, List.length_map, Int.cast_ofNat_Int, decide_true, decide_false]
      exact Pub.of_eq (by rw [firstIdx_none p l (fun j hj' => hj j (by omega))]) rfl
theorem ok_slices_ContainsFunc__int (l : List Int) (hl : l.length ≤ 9223372036854775807) (f : Nat) (caps : List AV) (hcaps : caps.all AV.pur1 = true) (p : Int → Bool) (hp : ∀ x ∈ l, PC prog f (.int .i64 x :: caps) (.bool (p x))) :
    PC prog n_slices_ContainsFunc__int [.list 1 (ints l), .func f caps] (.bool (l.any p)) := by
  refine PC_of_body b_slices_ContainsFunc__int (by simp) ?_
  simp only [c_slices_ContainsFunc__int, go_sem, Nat.reduceEqDiff, Nat.reduceAdd, Nat.reduceLeDiff, Nat.reduceSub, Nat.reduceMul, ↓reduceIte, reduceCtorEq, Nat.add_zero, Int.toNat_natCast, List.getElem?_map, Option.map_some, List.length_map, Int.cast_ofNat_Int, decide_true, decide_false]
  refine call_pc (ok_slices_IndexFunc__int l hl f caps hcaps p hp) (by simp [go_sem, hcaps]) ?_
  simp only [go_sem, Nat.reduceEqDiff, Nat.reduceAdd, Nat.reduceLeDiff, Nat.reduceSub, Nat.reduceMul, ↓reduceIte, reduceCtorEq, Nat.add_zero, Int.toNat_natCast, List.getElem?_map, Option.map_some, List.length_map, Int.cast_ofNat_Int, decide_true, decide_false]
  exact Pub.of_eq (by rw [firstIdx_any]) rfl
def towardS (a t u d : Int) : Int := if a < t then min (a + u) t else max (a - d) t
theorem ok_ramp_toward (a t u d : Int) (ha : 0 ≤ a ∧ a ≤ 1073741824) (hu : 0 ≤ u ∧ u ≤ 1073741824) (hd : 0 ≤ d ∧ d ≤ 1073741824) :
    PC prog n_ramp_toward [.int .i64 a, .int .i64 t, .int .i64 u, .int .i64 d] (.int .i64 (towardS a t u d)) := by
  refine PC_of_body b_ramp_toward (by simp) ?_
  simp only [c_ramp_toward, go_sem, Nat.reduceEqDiff, Nat.reduceAdd, Nat.reduceLeDiff, Nat.reduceSub, Nat.reduceMul, ↓reduceIte, reduceCtorEq, Nat.add_zero, Int.toNat_natCast, List.getElem?_map, Option.map_some, List.length_map, Int.cast_ofNat_Int, decide_true, decide_false]
  refine cond_d (fun h => ?_) (fun h => ?_) <;> simp (disch := omega) only [go_sem, Nat.reduceEqDiff, Nat.reduceAdd, Nat.reduceLeDiff, Nat.reduceSub, Nat.reduceMul, ↓reduceIte, reduceCtorEq, Nat.add_zero, Int.toNat_natCast, List.getElem?_map, Option.map_some, List.length_map, Int.cast_ofNat_Int, decide_true, decide_false, wrap_id]
  all_goals exact Pub.of_eq (by simp [towardS, *]) rfl
theorem ok_ramp_flows_1 (n : Int) : PC prog n_ramp_flows_1 [.int .i64 n] (.bool (!flow1 n)) := by
  refine PC_of_body b_ramp_flows_1 (by simp) ?_
  simp only [c_ramp_flows_1, go_sem, Nat.reduceEqDiff, Nat.reduceAdd, Nat.reduceLeDiff, Nat.reduceSub, Nat.reduceMul, ↓reduceIte, reduceCtorEq, Nat.add_zero, Int.toNat_natCast, List.getElem?_map, Option.map_some, List.length_map, Int.cast_ofNat_Int, decide_true, decide_false]
  refine call_pc (ok_quantity_Within _ _) (by simp [go_sem]) ?_
  simp only [go_sem, Nat.reduceEqDiff, Nat.reduceAdd, Nat.reduceLeDiff, Nat.reduceSub, Nat.reduceMul, ↓reduceIte, reduceCtorEq, Nat.add_zero, Int.toNat_natCast, List.getElem?_map, Option.map_some, List.length_map, Int.cast_ofNat_Int, decide_true, decide_false]
  exact Pub.of_eq rfl rfl
theorem ok_ramp_flows (l : List Int) (hl : l.length ≤ 9223372036854775807) : PC prog n_ramp_flows [.list 1 (ints l)] (.bool (l.all flow1)) := by
  refine PC_of_body b_ramp_flows (by simp) ?_
  simp only [c_ramp_flows, go_sem, Nat.reduceEqDiff, Nat.reduceAdd, Nat.reduceLeDiff, Nat.reduceSub, Nat.reduceMul, ↓reduceIte, reduceCtorEq, Nat.add_zero, Int.toNat_natCast, List.getElem?_map, Option.map_some, List.length_map, Int.cast_ofNat_Int, decide_true, decide_false]
  refine call_pc (ok_slices_ContainsFunc__int l hl _ [] rfl (fun n => !flow1 n) (fun x _ => ok_ramp_flows_1 x)) (by simp [go_sem]) ?_
  simp only [go_sem, Nat.reduceEqDiff, Nat.reduceAdd, Nat.reduceLeDiff, Nat.reduceSub, Nat.reduceMul, ↓reduceIte, reduceCtorEq, Nat.add_zero, Int.toNat_natCast, List.getElem?_map, Option.map_some, List.length_map, Int.cast_ofNat_Int, decide_true, decide_false]
  exact Pub.of_eq (by simp [List.not_any_eq_all_not]) rfl
theorem eq_of_get {α : Type} {a b : List α} (hl : a.length = b.length) (h : ∀ j, j < a.length → a[j]? = b[j]?) : a = b := by
  apply List.ext_getElem? ; intro j
  by_cases hj : j < a.length
  · exact h j hj
  · rw [List.getElem?_eq_none (by omega), List.getElem?_eq_none (by omega)]
theorem ok_ref01_Same (a b : List Int) (ha : a.length ≤ 9223372036854775807) : PC prog n_ref01_Same [.list 1 (ints a), .list 1 (ints b)] (.bool (decide (a = b))) := by
  refine PC_of_body b_ref01_Same (by simp) ?_
  simp only [c_ref01_Same, go_sem, Nat.reduceEqDiff, Nat.reduceAdd, Nat.reduceLeDiff, Nat.reduceSub, Nat.reduceMul, ↓reduceIte, reduceCtorEq, Nat.add_zero, Int.toNat_natCast, List.getElem?_map, Option.map_some, List.length_map, Int.cast_ofNat_Int, decide_true, decide_false, ints_length]
  refine cond_n (fun h => ?_) (fun h => ?_) <;> simp only [go_sem, Nat.reduceEqDiff, Nat.reduceAdd, Nat.reduceLeDiff, Nat.reduceSub, Nat.reduceMul, ↓reduceIte, reduceCtorEq, Nat.add_zero, Int.toNat_natCast, List.getElem?_map, Option.map_some, List.length_map, Int.cast_ofNat_Int, decide_true, decide_false]
  · exact Pub.of_eq (by congr 1; simp; intro hab; exact h (by rw [hab])) rfl
  have hl : a.length = b.length := by omega
  refine awp_up a.length (fun k e _ => e 0 = .list 1 (ints a) ∧ e 1 = .list 1 (ints b) ∧ e 12 = .int .i64 a.length ∧ e 13 = .int .i64 k ∧ ∀ j, j < k → a[j]? = b[j]?) ?_ ?_
  · simp [go_sem, ints_length]
  · rintro k e ob c hk ⟨h0, h1, h12, h13, hj⟩
    simp only [go_sem, Nat.reduceEqDiff, Nat.reduceAdd, Nat.reduceLeDiff, Nat.reduceSub, Nat.reduceMul, ↓reduceIte, reduceCtorEq, Nat.add_zero, Int.toNat_natCast, List.getElem?_map, Option.map_some, List.length_map, Int.cast_ofNat_Int, decide_true, decide_false, h12, h13]
    refine cond_d (fun hlt => ?_) (fun hge => ?_)
    · have hka : k < a.length := by omega
      have hga : a[k]? = some a[k] := List.getElem?_eq_getElem hka
      have hgb : b[k]? = some b[k] := List.getElem?_eq_getElem (by omega)
      simp only [go_sem, Nat.reduceEqDiff, Nat.reduceAdd, Nat.reduceLeDiff, Nat.reduceSub, Nat.reduceMul, ↓reduceIte, reduceCtorEq, Nat.add_zero, Int.toNat_natCast, List.getElem?_map, Option.map_some, List.length_map, Int.cast_ofNat_Int, decide_true, decide_false, h0, h1, ints_length, ints_get, hga, hgb, h13]
      refine ⟨by omega, by omega, by omega, by omega, cond_n (fun hne => ?_) (fun heq => ?_)⟩ <;> simp (disch := omega) only [go_sem, Nat.reduceEqDiff, Nat.reduceAdd, Nat.reduceLeDiff, Nat.reduceSub, Nat.reduceMul, ↓reduceIte, reduceCtorEq, Nat.add_zero, Int.toNat_natCast, List.getElem?_map, Option.map_some, List.length_map, Int.cast_ofNat_Int, decide_true, decide_false, wrap_id, h13]
      · exact Pub.of_eq (by congr 1; simp; intro hab; subst hab; exact hne rfl) rfl
      · refine up_next hka ⟨by simp [go_sem, h0], by simp [go_sem, h1], by simp [go_sem, h12], by simp [go_sem], ?_⟩
        intro j hj'
        by_cases e : j = k
        · subst e; rw [hga, hgb, heq]
        · exact hj j (by omega)
    · simp only [go_sem, Nat.reduceEqDiff, Nat.reduceAdd, Nat.reduceLeDiff, Nat.reduceSub, Nat.reduceMul, ↓reduceIte, reduceCtorEq, Nat.add_zero, Int.toNat_natCast, List.getElem?_map, Option.map_some, List.length_map, Int.cast_ofNat_Int, decide_true, decide_false]
      exact Pub.of_eq (by congr 1; simp; exact eq_of_get hl fun j hj' => hj j (by omega)) rfl
def pathR (b t u d s : Int) : List Int × Int := if [b, t, u, d].all flow1 then if 0 ≤ s ∧ s ≤ 4096 then (pathS (fun a => towardS a t u d) b s.toNat, 0) else ([], 10) else ([], 1)
theorem toward_flow (a t u d : Int) (ha : flow1 a = true) (ht : flow1 t = true) (hu : flow1 u = true) (hd : flow1 d = true) : flow1 (towardS a t u d) = true := by
  rw [flow1_iff] at *
  unfold towardS
  split <;> omega
theorem run_flow (b t u d : Int) (hb : flow1 b = true) (ht : flow1 t = true) (hu : flow1 u = true) (hd : flow1 d = true) (k : Nat) : flow1 (runS (fun a => towardS a t u d) b k) = true := by
  induction k with
  | zero => exact hb
  | succ k ih => exact toward_flow _ t u d ih ht hu hd
theorem ok_ramp_Path (b t u d s : Int) : PC prog n_ramp_Path [.int .i64 b, .int .i64 t, .int .i64 u, .int .i64 d, .int .i64 s] (.tuple [.list 1 (ints (pathR b t u d s).1), .int .i64 (pathR b t u d s).2]) := by
  refine PC_of_body b_ramp_Path (by simp) ?_
  simp only [c_ramp_Path, go_sem, Nat.reduceEqDiff, Nat.reduceAdd, Nat.reduceLeDiff, Nat.reduceSub, Nat.reduceMul, ↓reduceIte, reduceCtorEq, Nat.add_zero, Int.toNat_natCast, List.getElem?_map, Option.map_some, List.length_map, Int.cast_ofNat_Int, decide_true, decide_false]
  refine call_pc (ok_ramp_flows [b, t, u, d] (by simp)) (by simp [ints, go_sem]) ?_
  simp only [go_sem, Nat.reduceEqDiff, Nat.reduceAdd, Nat.reduceLeDiff, Nat.reduceSub, Nat.reduceMul, ↓reduceIte, reduceCtorEq, Nat.add_zero, Int.toNat_natCast, List.getElem?_map, Option.map_some, List.length_map, Int.cast_ofNat_Int, decide_true, decide_false]
  refine cond_split (fun h => ?_) (fun h => ?_) <;> simp only [go_sem, Nat.reduceEqDiff, Nat.reduceAdd, Nat.reduceLeDiff, Nat.reduceSub, Nat.reduceMul, ↓reduceIte, reduceCtorEq, Nat.add_zero, Int.toNat_natCast, List.getElem?_map, Option.map_some, List.length_map, Int.cast_ofNat_Int, decide_true, decide_false]
  · rw [show pathR b t u d s = ([], 1) by simp at h; simp [pathR]; intro h1 h2 h3 h4; simp_all]
    exact Pub.pair (.nl 1) (.pure rfl)
  have h : [b, t, u, d].all flow1 = true := by simpa using h
  refine call_pc (ok_quantity_Within s 4096) (by simp [go_sem]) ?_
  simp only [go_sem, Nat.reduceEqDiff, Nat.reduceAdd, Nat.reduceLeDiff, Nat.reduceSub, Nat.reduceMul, ↓reduceIte, reduceCtorEq, Nat.add_zero, Int.toNat_natCast, List.getElem?_map, Option.map_some, List.length_map, Int.cast_ofNat_Int, decide_true, decide_false]
  refine cond_split (fun hs => ?_) (fun hs => ?_) <;> simp only [go_sem, Nat.reduceEqDiff, Nat.reduceAdd, Nat.reduceLeDiff, Nat.reduceSub, Nat.reduceMul, ↓reduceIte, reduceCtorEq, Nat.add_zero, Int.toNat_natCast, List.getElem?_map, Option.map_some, List.length_map, Int.cast_ofNat_Int, decide_true, decide_false]
  · rw [show pathR b t u d s = ([], 10) by simp at hs; simp only [pathR]; rw [if_pos h, if_neg (by omega)]]
    exact Pub.pair (.nl 1) (.pure rfl)
  simp at hs
  have hp : pathR b t u d s = (pathS (fun a => towardS a t u d) b s.toNat, 0) := by simp only [pathR]; rw [if_pos h, if_pos hs]
  rw [hp]
  simp only [List.all_cons, List.all_nil, Bool.and_true, Bool.and_eq_true] at h
  obtain ⟨hb, ht, hu, hd⟩ := h
  have hst : ((s.toNat : Nat) : Int) = s := Int.toNat_of_nonneg hs.1
  refine awp_up s.toNat (fun k e σ => e 0 = .int .i64 (runS (fun a => towardS a t u d) b k) ∧ e 1 = .int .i64 t ∧ e 2 = .int .i64 u ∧ e 3 = .int .i64 d ∧ e 25 = .int .i64 s ∧ e 26 = .int .i64 k ∧
    ∃ g, e 12 = .sl 0 g 1 0 k ∧ σ.ob 0 = some ⟨g, 1, 3, false, true, ints (pathS (fun a => towardS a t u d) b k)⟩) ?_ ?_
  · simp [go_sem, runS, pathS_zero, ints]
  · rintro k e ob c hk ⟨h0, h1, h2, h3, h25, h26, g, h12, hob⟩
    simp only at hob
    simp only [go_sem, Nat.reduceEqDiff, Nat.reduceAdd, Nat.reduceLeDiff, Nat.reduceSub, Nat.reduceMul, ↓reduceIte, reduceCtorEq, Nat.add_zero, Int.toNat_natCast, List.getElem?_map, Option.map_some, List.length_map, Int.cast_ofNat_Int, decide_true, decide_false, h25, h26]
    refine cond_d (fun hlt => ?_) (fun hge => ?_)
    · have hkl : k < s.toNat := by omega
      have hf := run_flow b t u d hb ht hu hd k
      simp only [go_sem, Nat.reduceEqDiff, Nat.reduceAdd, Nat.reduceLeDiff, Nat.reduceSub, Nat.reduceMul, ↓reduceIte, reduceCtorEq, Nat.add_zero, Int.toNat_natCast, List.getElem?_map, Option.map_some, List.length_map, Int.cast_ofNat_Int, decide_true, decide_false, h0, h1, h2, h3]
      refine call_pc (ok_ramp_toward _ t u d ((flow1_iff _).1 hf) ((flow1_iff _).1 hu) ((flow1_iff _).1 hd)) (by simp [go_sem]) ?_
      simp only [go_sem, Nat.reduceEqDiff, Nat.reduceAdd, Nat.reduceLeDiff, Nat.reduceSub, Nat.reduceMul, ↓reduceIte, reduceCtorEq, Nat.add_zero, Int.toNat_natCast, List.getElem?_map, Option.map_some, List.length_map, Int.cast_ofNat_Int, decide_true, decide_false, h12, hob]
      refine ⟨by simp [pathS_length, ints_length], by simp [maxLen]; omega, by omega, ?_⟩
      simp (disch := omega) only [go_sem, Nat.reduceEqDiff, Nat.reduceAdd, Nat.reduceLeDiff, Nat.reduceSub, Nat.reduceMul, ↓reduceIte, reduceCtorEq, Nat.add_zero, Int.toNat_natCast, List.getElem?_map, Option.map_some, List.length_map, Int.cast_ofNat_Int, decide_true, decide_false, wrap_id, h26]
      refine up_next hkl ⟨by simp [go_sem, runS], by simp [go_sem, h1], by simp [go_sem, h2], by simp [go_sem, h3], by simp [go_sem, h25], by simp [go_sem], _, by simp [go_sem]; rfl, ?_⟩
      simp [go_sem, ints_snoc, pathS_succ, runS]
    · have hks : k = s.toNat := by omega
      subst hks
      simp only [go_sem, Nat.reduceEqDiff, Nat.reduceAdd, Nat.reduceLeDiff, Nat.reduceSub, Nat.reduceMul, ↓reduceIte, reduceCtorEq, Nat.add_zero, Int.toNat_natCast, List.getElem?_map, Option.map_some, List.length_map, Int.cast_ofNat_Int, decide_true, decide_false, h12]
      exact Pub.pair (Pub.of_sl hob (by simp [ints, pathS_length]) (ints_pur _) (ints_ok _)) (.pure rfl)
def stepsR (b t u d : Int) : Int × Bool × Int :=
  if [b, t, u, d].all flow1 then
    if t = b then (0, true, 0) else if (if t - b < 0 then d else u) = 0 then (0, false, 0)
    else (((if t - b < 0 then 0 - (t - b) else t - b) + (if t - b < 0 then d else u) - 1).tdiv (if t - b < 0 then d else u), true, 0)
  else (0, false, 1)
def trip (x : Int × Bool × Int) : AV := .tuple [.int .i64 x.1, .bool x.2.1, .int .i64 x.2.2]
theorem tdiv_bd (a b : Int) (ha : 0 ≤ a) (hb : 0 < b) : 0 ≤ a.tdiv b ∧ a.tdiv b ≤ a := by
  constructor
  · exact Int.tdiv_nonneg ha (by omega)
  · rw [Int.tdiv_eq_ediv_of_nonneg ha]; exact Int.ediv_le_self b ha
theorem ok_ramp_Steps (b t u d : Int) : PC prog n_ramp_Steps [.int .i64 b, .int .i64 t, .int .i64 u, .int .i64 d] (trip (stepsR b t u d)) := by
  refine PC_of_body b_ramp_Steps (by simp) ?_
  simp only [c_ramp_Steps, go_sem, Nat.reduceEqDiff, Nat.reduceAdd, Nat.reduceLeDiff, Nat.reduceSub, Nat.reduceMul, ↓reduceIte, reduceCtorEq, Nat.add_zero, Int.toNat_natCast, List.getElem?_map, Option.map_some, List.length_map, Int.cast_ofNat_Int, decide_true, decide_false]
  refine call_pc (ok_ramp_flows [b, t, u, d] (by simp)) (by simp [ints, go_sem]) ?_
  simp only [go_sem, Nat.reduceEqDiff, Nat.reduceAdd, Nat.reduceLeDiff, Nat.reduceSub, Nat.reduceMul, ↓reduceIte, reduceCtorEq, Nat.add_zero, Int.toNat_natCast, List.getElem?_map, Option.map_some, List.length_map, Int.cast_ofNat_Int, decide_true, decide_false]
  refine cond_split (fun h => ?_) (fun h => ?_) <;> simp only [go_sem, Nat.reduceEqDiff, Nat.reduceAdd, Nat.reduceLeDiff, Nat.reduceSub, Nat.reduceMul, ↓reduceIte, reduceCtorEq, Nat.add_zero, Int.toNat_natCast, List.getElem?_map, Option.map_some, List.length_map, Int.cast_ofNat_Int, decide_true, decide_false]
  · refine Pub.of_eq ?_ (by simp [trip, go_sem, AV.pur])
    rw [show stepsR b t u d = (0, false, 1) by simp only [stepsR]; rw [if_neg (by intro h2; simp_all)]]
    rfl
  have h : [b, t, u, d].all flow1 = true := by simpa using h
  have h' := h
  simp only [List.all_cons, List.all_nil, Bool.and_true, Bool.and_eq_true, flow1_iff] at h'
  obtain ⟨hb, ht, hu, hd⟩ := h'
  simp (disch := omega) only [go_sem, Nat.reduceEqDiff, Nat.reduceAdd, Nat.reduceLeDiff, Nat.reduceSub, Nat.reduceMul, ↓reduceIte, reduceCtorEq, Nat.add_zero, Int.toNat_natCast, List.getElem?_map, Option.map_some, List.length_map, Int.cast_ofNat_Int, decide_true, decide_false, wrap_id]
  refine cond_d (fun hw => ?_) (fun hw => ?_) <;> simp (disch := omega) only [go_sem, Nat.reduceEqDiff, Nat.reduceAdd, Nat.reduceLeDiff, Nat.reduceSub, Nat.reduceMul, ↓reduceIte, reduceCtorEq, Nat.add_zero, Int.toNat_natCast, List.getElem?_map, Option.map_some, List.length_map, Int.cast_ofNat_Int, decide_true, decide_false, wrap_id] <;> refine cond_d (fun hz => ?_) (fun hz => ?_) <;> simp (disch := omega) only [go_sem, Nat.reduceEqDiff, Nat.reduceAdd, Nat.reduceLeDiff, Nat.reduceSub, Nat.reduceMul, ↓reduceIte, reduceCtorEq, Nat.add_zero, Int.toNat_natCast, List.getElem?_map, Option.map_some, List.length_map, Int.cast_ofNat_Int, decide_true, decide_false, wrap_id]
  · omega
  · refine cond_d (fun hs => ?_) (fun hs => ?_) <;> simp (disch := omega) only [go_sem, Nat.reduceEqDiff, Nat.reduceAdd, Nat.reduceLeDiff, Nat.reduceSub, Nat.reduceMul, ↓reduceIte, reduceCtorEq, Nat.add_zero, Int.toNat_natCast, List.getElem?_map, Option.map_some, List.length_map, Int.cast_ofNat_Int, decide_true, decide_false, wrap_id]
    · refine Pub.of_eq ?_ (by simp [trip, go_sem, AV.pur])
      simp only [stepsR]; rw [if_pos h, if_neg (by omega), if_pos hw, if_pos hs]; rfl
    · have := tdiv_bd (0 - (t - b) + d - 1) d (by omega) (by omega)
      simp (disch := omega) only [go_sem, Nat.reduceEqDiff, Nat.reduceAdd, Nat.reduceLeDiff, Nat.reduceSub, Nat.reduceMul, ↓reduceIte, reduceCtorEq, Nat.add_zero, Int.toNat_natCast, List.getElem?_map, Option.map_some, List.length_map, Int.cast_ofNat_Int, decide_true, decide_false, wrap_id]
      refine ⟨hs, Pub.of_eq ?_ (by simp [trip, go_sem, AV.pur])⟩
      simp only [stepsR]; rw [if_pos h, if_neg (by omega)]; simp only [if_pos hw]; rw [if_neg hs]; rfl
  · refine Pub.of_eq ?_ (by simp [trip, go_sem, AV.pur])
    simp only [stepsR]; rw [if_pos h, if_pos (by omega)]; rfl
  · refine cond_d (fun hs => ?_) (fun hs => ?_) <;> simp (disch := omega) only [go_sem, Nat.reduceEqDiff, Nat.reduceAdd, Nat.reduceLeDiff, Nat.reduceSub, Nat.reduceMul, ↓reduceIte, reduceCtorEq, Nat.add_zero, Int.toNat_natCast, List.getElem?_map, Option.map_some, List.length_map, Int.cast_ofNat_Int, decide_true, decide_false, wrap_id]
    · refine Pub.of_eq ?_ (by simp [trip, go_sem, AV.pur])
      simp only [stepsR]; rw [if_pos h, if_neg (by omega)]; simp only [if_neg hw]; rw [if_pos hs]; rfl
    · have := tdiv_bd (t - b + u - 1) u (by omega) (by omega)
      simp (disch := omega) only [go_sem, Nat.reduceEqDiff, Nat.reduceAdd, Nat.reduceLeDiff, Nat.reduceSub, Nat.reduceMul, ↓reduceIte, reduceCtorEq, Nat.add_zero, Int.toNat_natCast, List.getElem?_map, Option.map_some, List.length_map, Int.cast_ofNat_Int, decide_true, decide_false, wrap_id]
      refine ⟨hs, Pub.of_eq ?_ (by simp [trip, go_sem, AV.pur])⟩
      simp only [stepsR]; rw [if_pos h, if_neg (by omega)]; simp only [if_neg hw]; rw [if_neg hs]; rfl
theorem ok_law21_awake : PC prog n_law21_awake [] (.bool true) := by
  refine PC_of_body b_law21_awake (by simp) ?_
  simp only [c_law21_awake, go_sem, Nat.reduceEqDiff, Nat.reduceAdd, Nat.reduceLeDiff, Nat.reduceSub, Nat.reduceMul, ↓reduceIte, reduceCtorEq, Nat.add_zero, Int.toNat_natCast, List.getElem?_map, Option.map_some, List.length_map, Int.cast_ofNat_Int, decide_true, decide_false]
  refine call_pc (ok_ramp_Path 10 25 6 4 4) (by simp [go_sem]) ?_
  simp only [go_sem, Nat.reduceEqDiff, Nat.reduceAdd, Nat.reduceLeDiff, Nat.reduceSub, Nat.reduceMul, ↓reduceIte, reduceCtorEq, Nat.add_zero, Int.toNat_natCast, List.getElem?_map, Option.map_some, List.length_map, Int.cast_ofNat_Int, decide_true, decide_false, show pathR 10 25 6 4 4 = ([16, 22, 25, 25], 0) by decide]
  refine call_pc (ok_ramp_Steps 10 25 6 4) (by simp [go_sem]) ?_
  simp only [go_sem, Nat.reduceEqDiff, Nat.reduceAdd, Nat.reduceLeDiff, Nat.reduceSub, Nat.reduceMul, ↓reduceIte, reduceCtorEq, Nat.add_zero, Int.toNat_natCast, List.getElem?_map, Option.map_some, List.length_map, Int.cast_ofNat_Int, decide_true, decide_false, trip, show stepsR 10 25 6 4 = (3, true, 0) by decide, decide_true]
  refine call_pc (ok_ref01_Same [16, 22, 25, 25] [16, 22, 25, 25] (by simp)) (by simp [ints, go_sem]) ?_
  simp only [go_sem, Nat.reduceEqDiff, Nat.reduceAdd, Nat.reduceLeDiff, Nat.reduceSub, Nat.reduceMul, ↓reduceIte, reduceCtorEq, Nat.add_zero, Int.toNat_natCast, List.getElem?_map, Option.map_some, List.length_map, Int.cast_ofNat_Int, decide_true, decide_false, decide_true]
  exact Pub.of_eq rfl rfl
theorem runS_add {α : Type} (f : α → α) (b : α) (i : Nat) : ∀ k, runS f (runS f b i) k = runS f b (i + k)
  | 0 => rfl
  | k + 1 => by rw [← Nat.add_assoc]; simp only [runS]; rw [runS_add f b i k]
theorem pathS_drop {α : Type} (f : α → α) (b : α) (n k : Nat) : (pathS f b n).drop k = pathS f (runS f b k) (n - k) := by
  apply List.ext_getElem?; intro j
  rw [List.getElem?_drop]
  by_cases h : k + j < n
  · rw [pathS_get _ _ _ _ h, pathS_get _ _ _ _ (by omega), runS_add]; rfl
  · rw [List.getElem?_eq_none (by rw [pathS_length]; omega), List.getElem?_eq_none (by rw [pathS_length]; omega)]
theorem stepsR_symm (b t u : Int) (h : [b, t, u, u].all flow1 = true) : stepsR t b u u = stepsR b t u u := by
  have h' : [t, b, u, u].all flow1 = true := by simp_all
  simp only [stepsR]
  rw [if_pos h, if_pos h']
  by_cases e : t = b
  · rw [if_pos e, if_pos e.symm]
  · rw [if_neg e, if_neg (Ne.symm e)]
    simp only [ite_self]
    by_cases hu : u = 0
    · rw [if_pos hu, if_pos hu]
    · rw [if_neg hu, if_neg hu]
      congr 3
      split <;> split <;> omega
theorem stepsR_ok (b t u d : Int) (h : [b, t, u, d].all flow1 = true) : (stepsR b t u d).2.2 = 0 := by
  simp only [stepsR]; rw [if_pos h]; (repeat' split) <;> rfl
theorem ok_law21_RampMirrors (before target by' cut : Int) : PC prog n_law21_RampMirrors [.int .i64 before, .int .i64 target, .int .i64 by', .int .i64 cut] (.bool true) := by
  refine PC_of_body b_law21_RampMirrors (by simp) ?_
  simp only [c_law21_RampMirrors, go_sem, Nat.reduceEqDiff, Nat.reduceAdd, Nat.reduceLeDiff, Nat.reduceSub, Nat.reduceMul, ↓reduceIte, reduceCtorEq, Nat.add_zero, Int.toNat_natCast, List.getElem?_map, Option.map_some, List.length_map, Int.cast_ofNat_Int, decide_true, decide_false]
  refine call_pc (ok_mk_Mod before 60 (by omega) (by omega)) (by simp [go_sem]) ?_
  simp only [go_sem, Nat.reduceEqDiff, Nat.reduceAdd, Nat.reduceLeDiff, Nat.reduceSub, Nat.reduceMul, ↓reduceIte, reduceCtorEq, Nat.add_zero, Int.toNat_natCast, List.getElem?_map, Option.map_some, List.length_map, Int.cast_ofNat_Int, decide_true, decide_false]
  refine call_pc (ok_mk_Mod target 60 (by omega) (by omega)) (by simp [go_sem]) ?_
  simp only [go_sem, Nat.reduceEqDiff, Nat.reduceAdd, Nat.reduceLeDiff, Nat.reduceSub, Nat.reduceMul, ↓reduceIte, reduceCtorEq, Nat.add_zero, Int.toNat_natCast, List.getElem?_map, Option.map_some, List.length_map, Int.cast_ofNat_Int, decide_true, decide_false]
  refine call_pc (ok_mk_Mod by' 9 (by omega) (by omega)) (by simp [go_sem]) ?_
  simp only [go_sem, Nat.reduceEqDiff, Nat.reduceAdd, Nat.reduceLeDiff, Nat.reduceSub, Nat.reduceMul, ↓reduceIte, reduceCtorEq, Nat.add_zero, Int.toNat_natCast, List.getElem?_map, Option.map_some, List.length_map, Int.cast_ofNat_Int, decide_true, decide_false]
  have hb1 := Int.emod_nonneg before (show (60 : Int) ≠ 0 by omega)
  have hb2 := Int.emod_lt_of_pos before (show (0 : Int) < 60 by omega)
  have ht1 := Int.emod_nonneg target (show (60 : Int) ≠ 0 by omega)
  have ht2 := Int.emod_lt_of_pos target (show (0 : Int) < 60 by omega)
  have hu1 := Int.emod_nonneg by' (show (9 : Int) ≠ 0 by omega)
  have hu2 := Int.emod_lt_of_pos by' (show (0 : Int) < 9 by omega)
  have hk1 := Int.emod_nonneg cut (show (9 : Int) ≠ 0 by omega)
  have hk2 := Int.emod_lt_of_pos cut (show (0 : Int) < 9 by omega)
  generalize before % 60 = b at *
  generalize target % 60 = t at *
  generalize by' % 9 = u at *
  have fl : ∀ x : Int, 0 ≤ x → x ≤ 1000 → flow1 x = true := fun x h1 h2 => by rw [flow1_iff]; omega
  have hall : [b, t, u, u].all flow1 = true := by simp [fl b (by omega) (by omega), fl t (by omega) (by omega), fl u (by omega) (by omega)]
  refine call_pc (ok_ramp_Steps b t u u) (by simp [go_sem]) ?_
  simp only [go_sem, Nat.reduceEqDiff, Nat.reduceAdd, Nat.reduceLeDiff, Nat.reduceSub, Nat.reduceMul, ↓reduceIte, reduceCtorEq, Nat.add_zero, Int.toNat_natCast, List.getElem?_map, Option.map_some, List.length_map, Int.cast_ofNat_Int, decide_true, decide_false, trip]
  refine call_pc (ok_ramp_Steps t b u u) (by simp [go_sem]) ?_
  simp (disch := omega) only [go_sem, Nat.reduceEqDiff, Nat.reduceAdd, Nat.reduceLeDiff, Nat.reduceSub, Nat.reduceMul, ↓reduceIte, reduceCtorEq, Nat.add_zero, Int.toNat_natCast, List.getElem?_map, Option.map_some, List.length_map, Int.cast_ofNat_Int, decide_true, decide_false, trip, wrap_id, stepsR_symm b t u hall, stepsR_ok b t u u hall]
  refine call_pc (ok_ramp_Path b t u (u + 1) 9) (by simp [go_sem]) ?_
  have hp : pathR b t u (u + 1) 9 = (pathS (fun a => towardS a t u (u + 1)) b 9, 0) := by
    simp only [pathR]
    rw [if_pos (by simp [fl b (by omega) (by omega), fl t (by omega) (by omega), fl u (by omega) (by omega), fl (u + 1) (by omega) (by omega)]), if_pos (by omega)]
    rfl
  simp (disch := omega) only [go_sem, Nat.reduceEqDiff, Nat.reduceAdd, Nat.reduceLeDiff, Nat.reduceSub, Nat.reduceMul, ↓reduceIte, reduceCtorEq, Nat.add_zero, Int.toNat_natCast, List.getElem?_map, Option.map_some, List.length_map, Int.cast_ofNat_Int, decide_true, decide_false, trip, wrap_id, hp, decide_true, Int.add_zero, ints_length, pathS_length]
  refine call_pc (ok_mk_Mod cut 9 (by omega) (by omega)) (by simp [go_sem]) ?_
  generalize cut % 9 = k at *
  have hk3 : ((k.toNat : Nat) : Int) = k := Int.toNat_of_nonneg hk1
  have hk4 : k.toNat < 9 := by omega
  have hkf : flow1 (runS (fun a => towardS a t u (u + 1)) b (k.toNat + 1)) = true := run_flow b t u (u + 1) (fl b (by omega) (by omega)) (fl t (by omega) (by omega)) (fl u (by omega) (by omega)) (fl (u + 1) (by omega) (by omega)) _
  simp (disch := omega) only [go_sem, Nat.reduceEqDiff, Nat.reduceAdd, Nat.reduceLeDiff, Nat.reduceSub, Nat.reduceMul, ↓reduceIte, reduceCtorEq, Nat.add_zero, Int.toNat_natCast, List.getElem?_map, Option.map_some, List.length_map, Int.cast_ofNat_Int, decide_true, decide_false, wrap_id, ints_length, ints_get, pathS_length, pathS_get _ _ _ _ hk4]
  refine ⟨by omega, by omega, ?_⟩
  refine call_pc (ok_ramp_Path _ t u (u + 1) (8 - k)) (by simp [go_sem]) ?_
  have hp2 : pathR (runS (fun a => towardS a t u (u + 1)) b (k.toNat + 1)) t u (u + 1) (8 - k) = (pathS (fun a => towardS a t u (u + 1)) (runS (fun a => towardS a t u (u + 1)) b (k.toNat + 1)) (8 - k).toNat, 0) := by
    simp only [pathR]
    rw [if_pos (by simp [hkf, fl t (by omega) (by omega), fl u (by omega) (by omega), fl (u + 1) (by omega) (by omega)]), if_pos (by omega)]
  simp (disch := omega) only [go_sem, Nat.reduceEqDiff, Nat.reduceAdd, Nat.reduceLeDiff, Nat.reduceSub, Nat.reduceMul, ↓reduceIte, reduceCtorEq, Nat.add_zero, Int.toNat_natCast, List.getElem?_map, Option.map_some, List.length_map, Int.cast_ofNat_Int, decide_true, decide_false, wrap_id, hp2, ints_length, pathS_length]
  refine ⟨by omega, by omega, ?_⟩
  have hd : (ints (pathS (fun a => towardS a t u (u + 1)) b 9)).drop (k + 1).toNat = ints (pathS (fun a => towardS a t u (u + 1)) (runS (fun a => towardS a t u (u + 1)) b (k.toNat + 1)) (8 - k).toNat) := by
    rw [show (k + 1).toNat = k.toNat + 1 by omega, show (8 - k).toNat = 9 - (k.toNat + 1) by omega, ← pathS_drop]
    simp [ints]
  rw [hd]
  refine call_pc (ok_ref01_Same _ _ (by rw [pathS_length]; omega)) (by simp [go_sem]) ?_
  simp only [go_sem, Nat.reduceEqDiff, Nat.reduceAdd, Nat.reduceLeDiff, Nat.reduceSub, Nat.reduceMul, ↓reduceIte, reduceCtorEq, Nat.add_zero, Int.toNat_natCast, List.getElem?_map, Option.map_some, List.length_map, Int.cast_ofNat_Int, decide_true, decide_false]
  refine call_pc ok_law21_awake (by simp) ?_
  simp only [go_sem, Nat.reduceEqDiff, Nat.reduceAdd, Nat.reduceLeDiff, Nat.reduceSub, Nat.reduceMul, ↓reduceIte, reduceCtorEq, Nat.add_zero, Int.toNat_natCast, List.getElem?_map, Option.map_some, List.length_map, Int.cast_ofNat_Int, decide_true, decide_false]
  exact Pub.of_eq rfl rfl
/-- A deck: its numbers, and how many are drawn. -/
def deckV (l : List Int) (at' : Nat) : AV := .agg [.list 1 (ints l), .int .i64 at']
def deckR (l : List Int) (at' : Nat) (n : Int) : Int × Nat := if n < 1 ∨ l.length ≤ at' then (0, at') else (l.getD at' 0 % n, at' + 1)
theorem deckR_bd (l : List Int) (at' : Nat) (n : Int) : 0 ≤ (deckR l at' n).1 ∧ ((deckR l at' n).1 = 0 ∨ (deckR l at' n).1 < n) := by
  unfold deckR
  split
  · simp
  · have h1 := Int.emod_nonneg (l.getD at' 0) (show n ≠ 0 by omega)
    have h2 := Int.emod_lt_of_pos (l.getD at' 0) (show 0 < n by omega)
    exact ⟨h1, .inr h2⟩
theorem deckR_at (l : List Int) (at' : Nat) (n : Int) (h : at' ≤ l.length) : (deckR l at' n).2 ≤ l.length := by
  unfold deckR; split <;> simp <;> omega
theorem upd_self {α : Type} (f : Nat → α) (i : Nat) (x : α) (h : f i = x) : upd f i x = f := by
  funext j; by_cases e : j = i
  · subst e; rw [upd_same, h]
  · rw [upd_ne _ _ _ _ e]
abbrev ty_Deck : TypeId := 58
theorem ok_mk_New (σ : St) (l : List Int) : HC prog n_mk_New [.list 1 (ints l)] σ (fun r σ' => r = .ptr σ.n σ.c 2 0 0 ∧ σ' = σ.push 2 ty_Deck [deckV l 0]) := by
  refine HC_of_body b_mk_New (by simp) ?_
  simp only [c_mk_New, go_sem, Nat.reduceEqDiff, Nat.reduceAdd, Nat.reduceLeDiff, Nat.reduceSub, Nat.reduceMul, ↓reduceIte, reduceCtorEq, Nat.add_zero, Int.toNat_natCast, List.getElem?_map, Option.map_some, List.length_map, Int.cast_ofNat_Int, decide_true, decide_false]
  simp [deckV]
theorem ok_mk_Deck_Next (σ : St) (id g : Nat) (ty : TypeId) (ap : Bool) (l : List Int) (at' : Nat) (n : Int) (hob : σ.ob id = some ⟨g, 2, ty, false, ap, [deckV l at']⟩) (hn : n ≤ 4611686018427387904) (hl : l.length ≤ 9223372036854775807) :
    HC prog n_mk_Deck_Next [.ptr id g 2 0 0, .int .i64 n] σ (fun r σ' => r = .int .i64 (deckR l at' n).1 ∧ σ' = ⟨upd σ.ob id (some ⟨g, 2, ty, false, ap, [deckV l (deckR l at' n).2]⟩), σ.n, σ.c⟩) := by
  obtain ⟨ob, nn, cc⟩ := σ
  simp only at hob
  refine HC_of_body b_mk_Deck_Next (by simp) ?_
  simp only [c_mk_Deck_Next, go_sem, Nat.reduceEqDiff, Nat.reduceAdd, Nat.reduceLeDiff, Nat.reduceSub, Nat.reduceMul, ↓reduceIte, reduceCtorEq, Nat.add_zero, Int.toNat_natCast, List.getElem?_map, Option.map_some, List.length_map, Int.cast_ofNat_Int, decide_true, decide_false, hob, deckV]
  have no : (n < 1 ∨ l.length ≤ at') → AV.int IntKind.i64 0 = AV.int IntKind.i64 (deckR l at' n).fst ∧ St.mk ob nn cc = St.mk (upd ob id (some ⟨g, 2, ty, false, ap, [.agg [.list 1 (ints l), .int .i64 (deckR l at' n).2]]⟩)) nn cc := by
    intro h
    rw [show deckR l at' n = (0, at') by unfold deckR; rw [if_pos h]]
    exact ⟨rfl, by have h1 := upd_self ob id _ hob; simp only [deckV] at h1 ⊢; rw [h1]⟩
  refine gd_fd rfl (fun h => ?_) (fun h => ?_) <;> simp only [go_sem, Nat.reduceEqDiff, Nat.reduceAdd, Nat.reduceLeDiff, Nat.reduceSub, Nat.reduceMul, ↓reduceIte, reduceCtorEq, Nat.add_zero, Int.toNat_natCast, List.getElem?_map, Option.map_some, List.length_map, Int.cast_ofNat_Int, decide_true, decide_false, hob, deckV, ints_length]
  · exact no (.inl h)
  refine cond_d (fun h2 => ?_) (fun h2 => ?_) <;> simp only [go_sem, Nat.reduceEqDiff, Nat.reduceAdd, Nat.reduceLeDiff, Nat.reduceSub, Nat.reduceMul, ↓reduceIte, reduceCtorEq, Nat.add_zero, Int.toNat_natCast, List.getElem?_map, Option.map_some, List.length_map, Int.cast_ofNat_Int, decide_true, decide_false, hob, deckV, ints_length, ints_get]
  · exact no (.inr (by omega))
  have hat : at' < l.length := by omega
  have hg : l[at']? = some l[at'] := List.getElem?_eq_getElem hat
  have hd : deckR l at' n = (l[at'] % n, at' + 1) := by unfold deckR; rw [if_neg (by omega)]; simp [List.getD_eq_getElem?_getD, hg]
  simp (disch := omega) only [go_sem, Nat.reduceEqDiff, Nat.reduceAdd, Nat.reduceLeDiff, Nat.reduceSub, Nat.reduceMul, ↓reduceIte, reduceCtorEq, Nat.add_zero, Int.toNat_natCast, List.getElem?_map, Option.map_some, List.length_map, Int.cast_ofNat_Int, decide_true, decide_false, hg, wrap_id]
  refine ⟨by omega, by omega, call_pc (ok_mk_Mod _ n (by omega) (by omega)) (by simp [go_sem]) ?_⟩
  simp only [go_sem, Nat.reduceEqDiff, Nat.reduceAdd, Nat.reduceLeDiff, Nat.reduceSub, Nat.reduceMul, ↓reduceIte, reduceCtorEq, Nat.add_zero, Int.toNat_natCast, List.getElem?_map, Option.map_some, List.length_map, Int.cast_ofNat_Int, decide_true, decide_false, hd]
  simp
def withinGo (u d : Int) : Nat → Int → List Int → Int × Bool
  | _, _, [] => (0, true)
  | i, b, n :: r => if flow1 n = true ∧ n - b ≤ u ∧ b - n ≤ d then withinGo u d (i + 1) n r else (i, false)
def withinR (l : List Int) (b u d : Int) : Int × Bool := if [b, u, d].all flow1 then withinGo u d 0 b l else (0, false)
theorem drop_cons {α : Type} (l : List α) (k : Nat) (h : k < l.length) : l.drop k = l[k] :: l.drop (k + 1) := List.drop_eq_getElem_cons h
theorem ok_ramp_Within (l : List Int) (b u d : Int) (hl : l.length ≤ 9223372036854775807) : PC prog n_ramp_Within [.list 1 (ints l), .int .i64 b, .int .i64 u, .int .i64 d] (.tuple [.int .i64 (withinR l b u d).1, .bool (withinR l b u d).2]) := by
  refine PC_of_body b_ramp_Within (by simp) ?_
  simp only [c_ramp_Within, go_sem, Nat.reduceEqDiff, Nat.reduceAdd, Nat.reduceLeDiff, Nat.reduceSub, Nat.reduceMul, ↓reduceIte, reduceCtorEq, Nat.add_zero, Int.toNat_natCast, List.getElem?_map, Option.map_some, List.length_map, Int.cast_ofNat_Int, decide_true, decide_false]
  refine call_pc (ok_ramp_flows [b, u, d] (by simp)) (by simp [ints, go_sem]) ?_
  simp only [go_sem, Nat.reduceEqDiff, Nat.reduceAdd, Nat.reduceLeDiff, Nat.reduceSub, Nat.reduceMul, ↓reduceIte, reduceCtorEq, Nat.add_zero, Int.toNat_natCast, List.getElem?_map, Option.map_some, List.length_map, Int.cast_ofNat_Int, decide_true, decide_false]
  refine cond_split (fun h => ?_) (fun h => ?_) <;> simp only [go_sem, Nat.reduceEqDiff, Nat.reduceAdd, Nat.reduceLeDiff, Nat.reduceSub, Nat.reduceMul, ↓reduceIte, reduceCtorEq, Nat.add_zero, Int.toNat_natCast, List.getElem?_map, Option.map_some, List.length_map, Int.cast_ofNat_Int, decide_true, decide_false, ints_length]
  · refine Pub.of_eq ?_ (by simp [go_sem, AV.pur])
    rw [show withinR l b u d = (0, false) by simp only [withinR]; rw [if_neg (by intro h2; simp_all)]]
  have h : [b, u, d].all flow1 = true := by simpa using h
  have h' := h
  simp only [List.all_cons, List.all_nil, Bool.and_true, Bool.and_eq_true] at h'
  obtain ⟨hb, hu, hd⟩ := h'
  have hw : withinR l b u d = withinGo u d 0 b l := by simp only [withinR]; rw [if_pos h]
  rw [hw]
  have hu' := (flow1_iff u).1 hu
  have hd' := (flow1_iff d).1 hd
  refine awp_up l.length (fun k e _ => ∃ p, e 1 = .int .i64 p ∧ flow1 p = true ∧ e 2 = .int .i64 u ∧ e 3 = .int .i64 d ∧ e 18 = .list 1 (ints l) ∧ e 19 = .int .i64 l.length ∧ e 20 = .int .i64 k ∧ withinGo u d 0 b l = withinGo u d k p (l.drop k)) ?_ ?_
  · exact ⟨b, by simp [go_sem, hb]⟩
  · rintro k e ob c hk ⟨p, h1, hp, h2, h3, h18, h19, h20, hgo⟩
    simp only [go_sem, Nat.reduceEqDiff, Nat.reduceAdd, Nat.reduceLeDiff, Nat.reduceSub, Nat.reduceMul, ↓reduceIte, reduceCtorEq, Nat.add_zero, Int.toNat_natCast, List.getElem?_map, Option.map_some, List.length_map, Int.cast_ofNat_Int, decide_true, decide_false, h19, h20]
    have hp' := (flow1_iff p).1 hp
    refine cond_d (fun hlt => ?_) (fun hge => ?_)
    · have hkl : k < l.length := by omega
      have hg : l[k]? = some l[k] := List.getElem?_eq_getElem hkl
      rw [hgo, drop_cons l k hkl, withinGo]
      simp only [go_sem, Nat.reduceEqDiff, Nat.reduceAdd, Nat.reduceLeDiff, Nat.reduceSub, Nat.reduceMul, ↓reduceIte, reduceCtorEq, Nat.add_zero, Int.toNat_natCast, List.getElem?_map, Option.map_some, List.length_map, Int.cast_ofNat_Int, decide_true, decide_false, h18, h20, ints_length, ints_get, hg]
      refine ⟨by omega, by omega, call_pc (ok_ramp_flows [l[k]] (by simp)) (by simp [ints, go_sem]) ?_⟩
      simp only [go_sem, Nat.reduceEqDiff, Nat.reduceAdd, Nat.reduceLeDiff, Nat.reduceSub, Nat.reduceMul, ↓reduceIte, reduceCtorEq, Nat.add_zero, Int.toNat_natCast, List.getElem?_map, Option.map_some, List.length_map, Int.cast_ofNat_Int, decide_true, decide_false]
      refine gd_f rfl (fun hf => ?_) (fun hf => ?_) <;> simp only [go_sem, Nat.reduceEqDiff, Nat.reduceAdd, Nat.reduceLeDiff, Nat.reduceSub, Nat.reduceMul, ↓reduceIte, reduceCtorEq, Nat.add_zero, Int.toNat_natCast, List.getElem?_map, Option.map_some, List.length_map, Int.cast_ofNat_Int, decide_true, decide_false, h1, h2, h3]
      · refine Pub.of_eq ?_ (by simp [go_sem, AV.pur])
        rw [if_neg (by intro hh; simp_all)]
      have hf : flow1 l[k] = true := by simpa using hf
      have hf' := (flow1_iff _).1 hf
      simp (disch := omega) only [go_sem, Nat.reduceEqDiff, Nat.reduceAdd, Nat.reduceLeDiff, Nat.reduceSub, Nat.reduceMul, ↓reduceIte, reduceCtorEq, Nat.add_zero, Int.toNat_natCast, List.getElem?_map, Option.map_some, List.length_map, Int.cast_ofNat_Int, decide_true, decide_false, wrap_id]
      refine gd_fd rfl (fun hh => ?_) (fun hh => ?_) <;> simp (disch := omega) only [go_sem, Nat.reduceEqDiff, Nat.reduceAdd, Nat.reduceLeDiff, Nat.reduceSub, Nat.reduceMul, ↓reduceIte, reduceCtorEq, Nat.add_zero, Int.toNat_natCast, List.getElem?_map, Option.map_some, List.length_map, Int.cast_ofNat_Int, decide_true, decide_false, wrap_id, h1, h3]
      · refine Pub.of_eq ?_ (by simp [go_sem, AV.pur])
        rw [if_neg (by omega)]
      refine cond_d (fun hh2 => ?_) (fun hh2 => ?_) <;> simp (disch := omega) only [go_sem, Nat.reduceEqDiff, Nat.reduceAdd, Nat.reduceLeDiff, Nat.reduceSub, Nat.reduceMul, ↓reduceIte, reduceCtorEq, Nat.add_zero, Int.toNat_natCast, List.getElem?_map, Option.map_some, List.length_map, Int.cast_ofNat_Int, decide_true, decide_false, wrap_id, h20]
      · refine Pub.of_eq ?_ (by simp [go_sem, AV.pur])
        rw [if_neg (by omega)]
      · rw [if_pos ⟨hf, by omega, by omega⟩]
        refine up_next hkl ⟨l[k], by simp [go_sem], hf, by simp [go_sem, h2], by simp [go_sem, h3], by simp [go_sem, h18], by simp [go_sem, h19], by simp [go_sem], rfl⟩
    · simp only [go_sem, Nat.reduceEqDiff, Nat.reduceAdd, Nat.reduceLeDiff, Nat.reduceSub, Nat.reduceMul, ↓reduceIte, reduceCtorEq, Nat.add_zero, Int.toNat_natCast, List.getElem?_map, Option.map_some, List.length_map, Int.cast_ofNat_Int, decide_true, decide_false]
      refine Pub.of_eq ?_ (by simp [go_sem, AV.pur])
      rw [hgo, List.drop_eq_nil_of_le (by omega)]; rfl
def boundsR (b u d s : Int) : Bd × Int := if [b, u, d].all flow1 then if 0 ≤ s ∧ s ≤ 4096 then (⟨max (b - d * s) 0, min (b + u * s) 1073741824⟩, 0) else (⟨0, 0⟩, 10) else (⟨0, 0⟩, 1)
theorem ok_ramp_Bounds (b u d s : Int) : PC prog n_ramp_Bounds [.int .i64 b, .int .i64 u, .int .i64 d, .int .i64 s] (.tuple [bdv (boundsR b u d s).1, .int .i64 (boundsR b u d s).2]) := by
  refine PC_of_body b_ramp_Bounds (by simp) ?_
  simp only [c_ramp_Bounds, go_sem, Nat.reduceEqDiff, Nat.reduceAdd, Nat.reduceLeDiff, Nat.reduceSub, Nat.reduceMul, ↓reduceIte, reduceCtorEq, Nat.add_zero, Int.toNat_natCast, List.getElem?_map, Option.map_some, List.length_map, Int.cast_ofNat_Int, decide_true, decide_false]
  refine call_pc (ok_ramp_flows [b, u, d] (by simp)) (by simp [ints, go_sem]) ?_
  simp only [go_sem, Nat.reduceEqDiff, Nat.reduceAdd, Nat.reduceLeDiff, Nat.reduceSub, Nat.reduceMul, ↓reduceIte, reduceCtorEq, Nat.add_zero, Int.toNat_natCast, List.getElem?_map, Option.map_some, List.length_map, Int.cast_ofNat_Int, decide_true, decide_false]
  refine cond_split (fun h => ?_) (fun h => ?_) <;> simp only [go_sem, Nat.reduceEqDiff, Nat.reduceAdd, Nat.reduceLeDiff, Nat.reduceSub, Nat.reduceMul, ↓reduceIte, reduceCtorEq, Nat.add_zero, Int.toNat_natCast, List.getElem?_map, Option.map_some, List.length_map, Int.cast_ofNat_Int, decide_true, decide_false]
  · refine Pub.of_eq ?_ (by simp [bdv, go_sem, AV.pur])
    rw [show boundsR b u d s = (⟨0, 0⟩, 1) by simp only [boundsR]; rw [if_neg (by intro h2; simp_all)]]
    rfl
  have h : [b, u, d].all flow1 = true := by simpa using h
  refine call_pc (ok_quantity_Within s 4096) (by simp [go_sem]) ?_
  simp only [go_sem, Nat.reduceEqDiff, Nat.reduceAdd, Nat.reduceLeDiff, Nat.reduceSub, Nat.reduceMul, ↓reduceIte, reduceCtorEq, Nat.add_zero, Int.toNat_natCast, List.getElem?_map, Option.map_some, List.length_map, Int.cast_ofNat_Int, decide_true, decide_false]
  refine cond_split (fun hs => ?_) (fun hs => ?_) <;> simp only [go_sem, Nat.reduceEqDiff, Nat.reduceAdd, Nat.reduceLeDiff, Nat.reduceSub, Nat.reduceMul, ↓reduceIte, reduceCtorEq, Nat.add_zero, Int.toNat_natCast, List.getElem?_map, Option.map_some, List.length_map, Int.cast_ofNat_Int, decide_true, decide_false]
  · refine Pub.of_eq ?_ (by simp [bdv, go_sem, AV.pur])
    rw [show boundsR b u d s = (⟨0, 0⟩, 10) by simp at hs; simp only [boundsR]; rw [if_pos h, if_neg (by omega)]]
    rfl
  simp at hs
  have h' := h
  simp only [List.all_cons, List.all_nil, Bool.and_true, Bool.and_eq_true, flow1_iff] at h'
  obtain ⟨hb, hu, hd⟩ := h'
  have m1 : 0 ≤ d * s := Int.mul_nonneg hd.1 hs.1
  have m2 : d * s ≤ 1073741824 * 4096 := Int.mul_le_mul hd.2 hs.2 hs.1 (by omega)
  have m3 : 0 ≤ u * s := Int.mul_nonneg hu.1 hs.1
  have m4 : u * s ≤ 1073741824 * 4096 := Int.mul_le_mul hu.2 hs.2 hs.1 (by omega)
  simp (disch := omega) only [go_sem, Nat.reduceEqDiff, Nat.reduceAdd, Nat.reduceLeDiff, Nat.reduceSub, Nat.reduceMul, ↓reduceIte, reduceCtorEq, Nat.add_zero, Int.toNat_natCast, List.getElem?_map, Option.map_some, List.length_map, Int.cast_ofNat_Int, decide_true, decide_false, wrap_id]
  refine Pub.of_eq ?_ (by simp [bdv, go_sem, AV.pur])
  rw [show boundsR b u d s = (⟨max (b - d * s) 0, min (b + u * s) 1073741824⟩, 0) by simp only [boundsR]; rw [if_pos h, if_pos hs]]
  rfl
theorem pathS_cons {α : Type} (f : α → α) (b : α) (k : Nat) : pathS f b (k + 1) = f b :: pathS f (f b) k := by
  have h := pathS_drop f b (k + 1) 1
  have h2 : (pathS f b (k + 1))[0]? = some (f b) := by rw [pathS_get _ _ _ _ (by omega)]; rfl
  have h3 : 0 < (pathS f b (k + 1)).length := by rw [pathS_length]; omega
  rw [List.drop_one] at h
  rw [List.getElem?_eq_getElem h3] at h2
  have h4 := List.cons_head_tail (l := pathS f b (k + 1)) (by intro h5; rw [h5] at h3; simp at h3)
  rw [← h4, h, List.head_eq_getElem]
  rw [Option.some.inj h2]
  rfl
theorem toward_step (a t u d : Int) (hu : 0 ≤ u) (hd : 0 ≤ d) : towardS a t u d - a ≤ u ∧ a - towardS a t u d ≤ d := by
  unfold towardS; split <;> omega
theorem runS_bd (b t u d : Int) (hu : 0 ≤ u) (hd : 0 ≤ d) : ∀ k : Nat, b - d * k ≤ runS (fun a => towardS a t u d) b k ∧ runS (fun a => towardS a t u d) b k ≤ b + u * k
  | 0 => by simp [runS]
  | k + 1 => by
    have h := runS_bd b t u d hu hd k
    have h2 := toward_step (runS (fun a => towardS a t u d) b k) t u d hu hd
    simp only [runS]
    generalize runS (fun a => towardS a t u d) b k = x at *
    have e1 : d * ((k + 1 : Nat) : Int) = d * k + d := by rw [show ((k + 1 : Nat) : Int) = (k : Int) + 1 by omega, Int.mul_add, Int.mul_one]
    have e2 : u * ((k + 1 : Nat) : Int) = u * k + u := by rw [show ((k + 1 : Nat) : Int) = (k : Int) + 1 by omega, Int.mul_add, Int.mul_one]
    rw [e1, e2]
    omega
theorem runS_up (b t u d : Int) (hu : 0 ≤ u) (hd : 0 ≤ d) (h : b ≤ t) : ∀ k : Nat, runS (fun a => towardS a t u d) b k = min (b + u * k) t
  | 0 => by simp [runS]; omega
  | k + 1 => by
    have ih := runS_up b t u d hu hd h k
    have e2 : u * ((k + 1 : Nat) : Int) = u * k + u := by rw [show ((k + 1 : Nat) : Int) = (k : Int) + 1 by omega, Int.mul_add, Int.mul_one]
    simp only [runS]; rw [ih, e2]
    have : 0 ≤ u * (k : Int) := Int.mul_nonneg hu (by omega)
    unfold towardS; split <;> omega
theorem runS_down (b t u d : Int) (hd : 0 ≤ d) (h : t ≤ b) : ∀ k : Nat, runS (fun a => towardS a t u d) b k = max (b - d * k) t
  | 0 => by simp [runS]; omega
  | k + 1 => by
    have ih := runS_down b t u d hd h k
    have e2 : d * ((k + 1 : Nat) : Int) = d * k + d := by rw [show ((k + 1 : Nat) : Int) = (k : Int) + 1 by omega, Int.mul_add, Int.mul_one]
    simp only [runS]; rw [ih, e2]
    have : 0 ≤ d * (k : Int) := Int.mul_nonneg hd (by omega)
    unfold towardS; split <;> omega
theorem ceil_le (way step : Int) (k : Nat) (hw : 0 ≤ way) (hs : 0 < step) : (way + step - 1).tdiv step ≤ k ↔ way ≤ step * k := by
  rw [Int.tdiv_eq_ediv_of_nonneg (by omega)]
  have h1 := Int.emod_add_mul_ediv (way + step - 1) step
  have h2 := Int.emod_nonneg (way + step - 1) (show step ≠ 0 by omega)
  have h3 := Int.emod_lt_of_pos (way + step - 1) hs
  generalize (way + step - 1) / step = q at *
  generalize (way + step - 1) % step = r at *
  constructor
  · intro h
    have : step * q ≤ step * (k : Int) := Int.mul_le_mul_of_nonneg_left h (by omega)
    omega
  · intro h
    refine Int.not_lt.1 fun hlt => ?_
    have : step * ((k : Int) + 1) ≤ step * q := Int.mul_le_mul_of_nonneg_left (by omega) (by omega)
    rw [Int.mul_add, Int.mul_one] at this
    omega
theorem within_path (t u d : Int) (ht : flow1 t = true) (hu : flow1 u = true) (hd : flow1 d = true) : ∀ (k i : Nat) (b : Int), flow1 b = true → withinGo u d i b (pathS (fun a => towardS a t u d) b k) = (0, true)
  | 0, i, b, hb => rfl
  | k + 1, i, b, hb => by
    have h := toward_flow b t u d hb ht hu hd
    have h2 := toward_step b t u d ((flow1_iff _).1 hu).1 ((flow1_iff _).1 hd).1
    rw [pathS_cons, withinGo, if_pos ⟨h, h2⟩]
    exact within_path t u d ht hu hd k (i + 1) _ h
/-- what Steps says of the way -/
theorem steps_law (b t u d : Int) (h : [b, t, u, d].all flow1 = true) (hok : (stepsR b t u d).2.1 = true) : 0 ≤ (stepsR b t u d).1 ∧ (stepsR b t u d).1 ≤ max (t - b) (b - t) ∧ ∀ k : Nat, runS (fun a => towardS a t u d) b k = t ↔ (stepsR b t u d).1 ≤ k := by
  have h' := h
  simp only [List.all_cons, List.all_nil, Bool.and_true, Bool.and_eq_true, flow1_iff] at h'
  obtain ⟨hb, ht, hu, hd⟩ := h'
  revert hok
  simp only [stepsR]
  rw [if_pos h]
  by_cases e : t = b
  · rw [if_pos e]
    subst e
    intro _
    refine ⟨by simp, by simp, fun k => ?_⟩
    have := runS_up t t u d hu.1 hd.1 (Int.le_refl _) k
    have h0 : 0 ≤ u * (k : Int) := Int.mul_nonneg hu.1 (by omega)
    simp only [this]; constructor <;> intro _ <;> omega
  · rw [if_neg e]
    by_cases hw : t - b < 0
    · simp only [if_pos hw]
      by_cases hz : d = 0
      · rw [if_pos hz]; simp
      · rw [if_neg hz]
        intro _
        have c0 := tdiv_bd (0 - (t - b) + d - 1) d (by omega) (by omega)
        refine ⟨c0.1, ?_, fun k => ?_⟩
        · have := (ceil_le (0 - (t - b)) d (b - t).toNat (by omega) (by omega)).2 (by rw [Int.toNat_of_nonneg (by omega)]; have : 1 * (b - t) ≤ d * (b - t) := Int.mul_le_mul_of_nonneg_right (by omega) (by omega); omega)
          simp only; omega
        · rw [runS_down b t u d hd.1 (by omega), ceil_le _ d k (by omega) (by omega)]; omega
    · simp only [if_neg hw]
      by_cases hz : u = 0
      · rw [if_pos hz]; simp
      · rw [if_neg hz]
        intro _
        have c0 := tdiv_bd (t - b + u - 1) u (by omega) (by omega)
        refine ⟨c0.1, ?_, fun k => ?_⟩
        · have := (ceil_le (t - b) u (t - b).toNat (by omega) (by omega)).2 (by rw [Int.toNat_of_nonneg (by omega)]; have : 1 * (t - b) ≤ u * (t - b) := Int.mul_le_mul_of_nonneg_right (by omega) (by omega); omega)
          simp only; omega
        · rw [runS_up b t u d hu.1 hd.1 (by omega), ceil_le _ u k (by omega) (by omega)]; omega
theorem steps_none (b t u d : Int) (h : [b, t, u, d].all flow1 = true) (hok : (stepsR b t u d).2.1 = false) : (stepsR b t u d).1 = 0 ∧ ∀ k : Nat, runS (fun a => towardS a t u d) b k = b := by
  revert hok
  simp only [stepsR]
  rw [if_pos h]
  by_cases e : t = b
  · rw [if_pos e]; simp
  · rw [if_neg e]
    by_cases hz : (if t - b < 0 then d else u) = 0
    · rw [if_pos hz]
      intro _
      refine ⟨rfl, fun k => ?_⟩
      induction k with
      | zero => rfl
      | succ k ih =>
        simp only [runS]; rw [ih]; unfold towardS
        split at hz <;> split <;> omega
    · rw [if_neg hz]; simp
theorem ok_law21_RampArrives (before target up' down' : Int) : PC prog n_law21_RampArrives [.int .i64 before, .int .i64 target, .int .i64 up', .int .i64 down'] (.bool true) := by
  refine PC_of_body b_law21_RampArrives (by simp) ?_
  simp only [c_law21_RampArrives, go_sem, Nat.reduceEqDiff, Nat.reduceAdd, Nat.reduceLeDiff, Nat.reduceSub, Nat.reduceMul, ↓reduceIte, reduceCtorEq, Nat.add_zero, Int.toNat_natCast, List.getElem?_map, Option.map_some, List.length_map, Int.cast_ofNat_Int, decide_true, decide_false]
  refine call_pc (ok_mk_Mod before 60 (by omega) (by omega)) (by simp [go_sem]) ?_
  simp only [go_sem, Nat.reduceEqDiff, Nat.reduceAdd, Nat.reduceLeDiff, Nat.reduceSub, Nat.reduceMul, ↓reduceIte, reduceCtorEq, Nat.add_zero, Int.toNat_natCast, List.getElem?_map, Option.map_some, List.length_map, Int.cast_ofNat_Int, decide_true, decide_false]
  refine call_pc (ok_mk_Mod target 60 (by omega) (by omega)) (by simp [go_sem]) ?_
  simp only [go_sem, Nat.reduceEqDiff, Nat.reduceAdd, Nat.reduceLeDiff, Nat.reduceSub, Nat.reduceMul, ↓reduceIte, reduceCtorEq, Nat.add_zero, Int.toNat_natCast, List.getElem?_map, Option.map_some, List.length_map, Int.cast_ofNat_Int, decide_true, decide_false]
  refine call_pc (ok_mk_Mod up' 9 (by omega) (by omega)) (by simp [go_sem]) ?_
  simp only [go_sem, Nat.reduceEqDiff, Nat.reduceAdd, Nat.reduceLeDiff, Nat.reduceSub, Nat.reduceMul, ↓reduceIte, reduceCtorEq, Nat.add_zero, Int.toNat_natCast, List.getElem?_map, Option.map_some, List.length_map, Int.cast_ofNat_Int, decide_true, decide_false]
  refine call_pc (ok_mk_Mod down' 9 (by omega) (by omega)) (by simp [go_sem]) ?_
  simp only [go_sem, Nat.reduceEqDiff, Nat.reduceAdd, Nat.reduceLeDiff, Nat.reduceSub, Nat.reduceMul, ↓reduceIte, reduceCtorEq, Nat.add_zero, Int.toNat_natCast, List.getElem?_map, Option.map_some, List.length_map, Int.cast_ofNat_Int, decide_true, decide_false]
  have hb1 := Int.emod_nonneg before (show (60 : Int) ≠ 0 by omega)
  have hb2 := Int.emod_lt_of_pos before (show (0 : Int) < 60 by omega)
  have ht1 := Int.emod_nonneg target (show (60 : Int) ≠ 0 by omega)
  have ht2 := Int.emod_lt_of_pos target (show (0 : Int) < 60 by omega)
  have hu1 := Int.emod_nonneg up' (show (9 : Int) ≠ 0 by omega)
  have hu2 := Int.emod_lt_of_pos up' (show (0 : Int) < 9 by omega)
  have hw1 := Int.emod_nonneg down' (show (9 : Int) ≠ 0 by omega)
  have hw2 := Int.emod_lt_of_pos down' (show (0 : Int) < 9 by omega)
  generalize before % 60 = b at *
  generalize target % 60 = t at *
  generalize up' % 9 = u at *
  generalize down' % 9 = w at *
  have fl : ∀ x : Int, 0 ≤ x → x ≤ 1000 → flow1 x = true := fun x h1 h2 => by rw [flow1_iff]; omega
  have fb := fl b hb1 (by omega)
  have ft := fl t ht1 (by omega)
  have fu := fl u hu1 (by omega)
  have fw := fl w hw1 (by omega)
  have hall : [b, t, u, w].all flow1 = true := by simp [fb, ft, fu, fw]
  refine call_pc (ok_ramp_Steps b t u w) (by simp [go_sem]) ?_
  simp only [go_sem, Nat.reduceEqDiff, Nat.reduceAdd, Nat.reduceLeDiff, Nat.reduceSub, Nat.reduceMul, ↓reduceIte, reduceCtorEq, Nat.add_zero, Int.toNat_natCast, List.getElem?_map, Option.map_some, List.length_map, Int.cast_ofNat_Int, decide_true, decide_false, trip, stepsR_ok b t u w hall]
  refine cond_split (fun hok => ?_) (fun hok => ?_) <;> simp only [go_sem, Nat.reduceEqDiff, Nat.reduceAdd, Nat.reduceLeDiff, Nat.reduceSub, Nat.reduceMul, ↓reduceIte, reduceCtorEq, Nat.add_zero, Int.toNat_natCast, List.getElem?_map, Option.map_some, List.length_map, Int.cast_ofNat_Int, decide_true, decide_false]
  · have hok : (stepsR b t u w).2.1 = false := by simpa using hok
    refine call_pc (ok_ramp_Path b t u w 5) (by simp [go_sem]) ?_
    obtain ⟨z0, zr⟩ := steps_none b t u w hall hok
    have hp : pathR b t u w 5 = ([b, b, b, b, b], 0) := by
      simp only [pathR]; rw [if_pos hall, if_pos (by omega)]; simp [pathS, List.range_succ, zr]
    simp only [go_sem, Nat.reduceEqDiff, Nat.reduceAdd, Nat.reduceLeDiff, Nat.reduceSub, Nat.reduceMul, ↓reduceIte, reduceCtorEq, Nat.add_zero, Int.toNat_natCast, List.getElem?_map, Option.map_some, List.length_map, Int.cast_ofNat_Int, decide_true, decide_false, hp, z0]
    refine call_pc (ok_ref01_Same [b, b, b, b, b] [b, b, b, b, b] (by simp)) (by simp [ints, go_sem]) ?_
    simp only [go_sem, Nat.reduceEqDiff, Nat.reduceAdd, Nat.reduceLeDiff, Nat.reduceSub, Nat.reduceMul, ↓reduceIte, reduceCtorEq, Nat.add_zero, Int.toNat_natCast, List.getElem?_map, Option.map_some, List.length_map, Int.cast_ofNat_Int, decide_true, decide_false]
    refine call_pc ok_law21_awake (by simp) ?_
    simp only [go_sem, Nat.reduceEqDiff, Nat.reduceAdd, Nat.reduceLeDiff, Nat.reduceSub, Nat.reduceMul, ↓reduceIte, reduceCtorEq, Nat.add_zero, Int.toNat_natCast, List.getElem?_map, Option.map_some, List.length_map, Int.cast_ofNat_Int, decide_true, decide_false]
    exact Pub.of_eq rfl rfl
  · have hok : (stepsR b t u w).2.1 = true := by simpa using hok
    obtain ⟨n0, n1, hst⟩ := steps_law b t u w hall hok
    generalize (stepsR b t u w).1 = n at *
    have hp : pathR b t u w (n + 3) = (pathS (fun a => towardS a t u w) b (n + 3).toNat, 0) := by
      simp only [pathR]; rw [if_pos hall, if_pos (by omega)]
    have hwi : withinR (pathS (fun a => towardS a t u w) b (n + 3).toNat) b u w = (0, true) := by
      simp only [withinR]; rw [if_pos (by simp [fb, fu, fw]), within_path t u w ft fu fw _ _ _ fb]
    simp (disch := omega) only [go_sem, Nat.reduceEqDiff, Nat.reduceAdd, Nat.reduceLeDiff, Nat.reduceSub, Nat.reduceMul, ↓reduceIte, reduceCtorEq, Nat.add_zero, Int.toNat_natCast, List.getElem?_map, Option.map_some, List.length_map, Int.cast_ofNat_Int, decide_true, decide_false, wrap_id]
    refine call_pc (ok_ramp_Path b t u w (n + 3)) (by simp [go_sem]) ?_
    simp only [go_sem, Nat.reduceEqDiff, Nat.reduceAdd, Nat.reduceLeDiff, Nat.reduceSub, Nat.reduceMul, ↓reduceIte, reduceCtorEq, Nat.add_zero, Int.toNat_natCast, List.getElem?_map, Option.map_some, List.length_map, Int.cast_ofNat_Int, decide_true, decide_false, hp]
    refine call_pc (ok_ramp_Within _ b u w (by rw [pathS_length]; omega)) (by simp [go_sem]) ?_
    simp (disch := omega) only [go_sem, Nat.reduceEqDiff, Nat.reduceAdd, Nat.reduceLeDiff, Nat.reduceSub, Nat.reduceMul, ↓reduceIte, reduceCtorEq, Nat.add_zero, Int.toNat_natCast, List.getElem?_map, Option.map_some, List.length_map, Int.cast_ofNat_Int, decide_true, decide_false, wrap_id, hwi, ints_length, pathS_length]
    rw [show (((n + 3).toNat : Nat) : Int) = n + 3 by omega]
    simp only [go_sem, Nat.reduceEqDiff, Nat.reduceAdd, Nat.reduceLeDiff, Nat.reduceSub, Nat.reduceMul, ↓reduceIte, reduceCtorEq, Nat.add_zero, Int.toNat_natCast, List.getElem?_map, Option.map_some, List.length_map, Int.cast_ofNat_Int, decide_true, decide_false]
    refine cond_d (fun h => by omega) (fun _ => ?_)
    simp only [go_sem, Nat.reduceEqDiff, Nat.reduceAdd, Nat.reduceLeDiff, Nat.reduceSub, Nat.reduceMul, ↓reduceIte, reduceCtorEq, Nat.add_zero, Int.toNat_natCast, List.getElem?_map, Option.map_some, List.length_map, Int.cast_ofNat_Int, decide_true, decide_false]
    refine awp_up (n + 3).toNat (fun k e _ => e 9 = .int .i64 b ∧ e 10 = .int .i64 t ∧ e 11 = .int .i64 u ∧ e 12 = .int .i64 w ∧ e 13 = .int .i64 n ∧ e 109 = .list 1 (ints (pathS (fun a => towardS a t u w) b (n + 3).toNat)) ∧ e 110 = .int .i64 (n + 3) ∧ e 111 = .int .i64 k) ?_ ?_
    · simp [go_sem, ints_length, pathS_length]; omega
    · rintro k e ob c hk ⟨h9, h10, h11, h12, h13, h109, h110, h111⟩
      simp only [go_sem, Nat.reduceEqDiff, Nat.reduceAdd, Nat.reduceLeDiff, Nat.reduceSub, Nat.reduceMul, ↓reduceIte, reduceCtorEq, Nat.add_zero, Int.toNat_natCast, List.getElem?_map, Option.map_some, List.length_map, Int.cast_ofNat_Int, decide_true, decide_false, h110, h111]
      refine cond_d (fun hlt => ?_) (fun hge => ?_)
      · have hkl : k < (n + 3).toNat := by omega
        simp (disch := omega) only [go_sem, Nat.reduceEqDiff, Nat.reduceAdd, Nat.reduceLeDiff, Nat.reduceSub, Nat.reduceMul, ↓reduceIte, reduceCtorEq, Nat.add_zero, Int.toNat_natCast, List.getElem?_map, Option.map_some, List.length_map, Int.cast_ofNat_Int, decide_true, decide_false, wrap_id, h9, h10, h11, h12, h13, h109, h111, ints_length, ints_get, pathS_length, pathS_get _ _ _ _ hkl]
        refine ⟨by omega, by omega, call_pc (ok_ramp_Bounds b u w (k + 1)) (by simp [go_sem]) ?_⟩
        have hbr : boundsR b u w (k + 1) = (⟨max (b - w * (k + 1)) 0, min (b + u * (k + 1)) 1073741824⟩, 0) := by
          simp only [boundsR]; rw [if_pos (by simp [fb, fu, fw]), if_pos (by omega)]
        have hq := runS_bd b t u w hu1 hw1 (k + 1)
        have hqf := (flow1_iff _).1 (run_flow b t u w fb ft fu fw (k + 1))
        have hqt := hst (k + 1)
        rw [show (((k + 1 : Nat)) : Int) = (k : Int) + 1 by omega] at hq hqt
        generalize runS (fun a => towardS a t u w) b (k + 1) = q at *
        have e1 : decide (q = t) = decide (n ≤ (k : Int) + 1) := by simp [hqt]
        have e2 : decide (q < max (b - w * ((k : Int) + 1)) 0) = false := by simp; omega
        have e3 : decide (min (b + u * ((k : Int) + 1)) 1073741824 < q) = false := by simp; omega
        simp (disch := omega) only [go_sem, Nat.reduceEqDiff, Nat.reduceAdd, Nat.reduceLeDiff, Nat.reduceSub, Nat.reduceMul, ↓reduceIte, reduceCtorEq, Nat.add_zero, Int.toNat_natCast, List.getElem?_map, Option.map_some, List.length_map, Int.cast_ofNat_Int, decide_true, decide_false, wrap_id, hbr, bdv, h10, h13, e1, e2, e3, h111]
        exact up_next hkl ⟨by simp [go_sem, h9], by simp [go_sem, h10], by simp [go_sem, h11], by simp [go_sem, h12], by simp [go_sem, h13], by simp [go_sem, h109], by simp [go_sem, h110], by simp [go_sem]⟩
      · simp only [go_sem, Nat.reduceEqDiff, Nat.reduceAdd, Nat.reduceLeDiff, Nat.reduceSub, Nat.reduceMul, ↓reduceIte, reduceCtorEq, Nat.add_zero, Int.toNat_natCast, List.getElem?_map, Option.map_some, List.length_map, Int.cast_ofNat_Int, decide_true, decide_false]
        refine call_pc ok_law21_awake (by simp) ?_
        simp only [go_sem, Nat.reduceEqDiff, Nat.reduceAdd, Nat.reduceLeDiff, Nat.reduceSub, Nat.reduceMul, ↓reduceIte, reduceCtorEq, Nat.add_zero, Int.toNat_natCast, List.getElem?_map, Option.map_some, List.length_map, Int.cast_ofNat_Int, decide_true, decide_false]
        exact Pub.of_eq rfl rfl
theorem within_snoc (u d n : Int) (hn : flow1 n = true) : ∀ (l : List Int) (i : Nat) (b : Int), withinGo u d i b l = (0, true) → n - l.getLastD b ≤ u → l.getLastD b - n ≤ d → withinGo u d i b (l ++ [n]) = (0, true)
  | [], i, b, _, h1, h2 => by simp only [List.getLastD_nil] at h1 h2; simp only [List.nil_append, withinGo]; rw [if_pos ⟨hn, h1, h2⟩]
  | x :: l, i, b, h, h1, h2 => by
    rw [List.getLastD_cons] at h1 h2
    simp only [List.cons_append, withinGo] at h ⊢
    split at h
    · rename_i hx
      rw [if_pos hx]
      exact within_snoc u d n hn l (i + 1) x h h1 h2
    · simp at h
theorem steps_reach (b q u d : Int) (k : Nat) (h : [b, q, u, d].all flow1 = true) (h1 : b - d * k ≤ q) (h2 : q ≤ b + u * k) : (stepsR b q u d).2.1 = true ∧ (stepsR b q u d).1 ≤ k := by
  have h' := h
  simp only [List.all_cons, List.all_nil, Bool.and_true, Bool.and_eq_true, flow1_iff] at h'
  obtain ⟨hb, ht, hu, hd⟩ := h'
  simp only [stepsR]
  rw [if_pos h]
  by_cases e : q = b
  · rw [if_pos e]; simp
  · rw [if_neg e]
    by_cases hw : q - b < 0
    · simp only [if_pos hw]
      have hz : d ≠ 0 := fun hz => by subst hz; simp at h1; omega
      rw [if_neg hz]
      exact ⟨rfl, (ceil_le _ d k (by omega) (by omega)).2 (by omega)⟩
    · simp only [if_neg hw]
      have hz : u ≠ 0 := fun hz => by subst hz; simp at h2; omega
      rw [if_neg hz]
      exact ⟨rfl, (ceil_le _ u k (by omega) (by omega)).2 (by omega)⟩
theorem ok_law21_RampSteps (l : List Int) (hl : l.length ≤ 9223372036854775807) (before up' down' : Int) : PC prog n_law21_RampSteps [.list 1 (ints l), .int .i64 before, .int .i64 up', .int .i64 down'] (.bool true) := by
  refine PC_of_body b_law21_RampSteps (by simp) ?_
  simp only [c_law21_RampSteps, go_sem, Nat.reduceEqDiff, Nat.reduceAdd, Nat.reduceLeDiff, Nat.reduceSub, Nat.reduceMul, ↓reduceIte, reduceCtorEq, Nat.add_zero, Int.toNat_natCast, List.getElem?_map, Option.map_some, List.length_map, Int.cast_ofNat_Int, decide_true, decide_false]
  refine call_pc (ok_mk_Mod before 40 (by omega) (by omega)) (by simp [go_sem]) ?_
  simp only [go_sem, Nat.reduceEqDiff, Nat.reduceAdd, Nat.reduceLeDiff, Nat.reduceSub, Nat.reduceMul, ↓reduceIte, reduceCtorEq, Nat.add_zero, Int.toNat_natCast, List.getElem?_map, Option.map_some, List.length_map, Int.cast_ofNat_Int, decide_true, decide_false]
  refine call_pc (ok_mk_Mod up' 7 (by omega) (by omega)) (by simp [go_sem]) ?_
  simp only [go_sem, Nat.reduceEqDiff, Nat.reduceAdd, Nat.reduceLeDiff, Nat.reduceSub, Nat.reduceMul, ↓reduceIte, reduceCtorEq, Nat.add_zero, Int.toNat_natCast, List.getElem?_map, Option.map_some, List.length_map, Int.cast_ofNat_Int, decide_true, decide_false]
  refine call_pc (ok_mk_Mod down' 7 (by omega) (by omega)) (by simp [go_sem]) ?_
  simp only [go_sem, Nat.reduceEqDiff, Nat.reduceAdd, Nat.reduceLeDiff, Nat.reduceSub, Nat.reduceMul, ↓reduceIte, reduceCtorEq, Nat.add_zero, Int.toNat_natCast, List.getElem?_map, Option.map_some, List.length_map, Int.cast_ofNat_Int, decide_true, decide_false]
  have hb1 := Int.emod_nonneg before (show (40 : Int) ≠ 0 by omega)
  have hb2 := Int.emod_lt_of_pos before (show (0 : Int) < 40 by omega)
  have hu1 := Int.emod_nonneg up' (show (7 : Int) ≠ 0 by omega)
  have hu2 := Int.emod_lt_of_pos up' (show (0 : Int) < 7 by omega)
  have hw1 := Int.emod_nonneg down' (show (7 : Int) ≠ 0 by omega)
  have hw2 := Int.emod_lt_of_pos down' (show (0 : Int) < 7 by omega)
  generalize before % 40 = b at *
  generalize up' % 7 = u at *
  generalize down' % 7 = w at *
  have fl : ∀ x : Int, 0 ≤ x → x ≤ 1000 → flow1 x = true := fun x h1 h2 => by rw [flow1_iff]; omega
  have fb := fl b hb1 (by omega)
  have fu := fl u hu1 (by omega)
  have fw := fl w hw1 (by omega)
  refine call_hc (ok_mk_New _ l) ?_
  simp only [go_sem, Nat.reduceEqDiff, Nat.reduceAdd, Nat.reduceLeDiff, Nat.reduceSub, Nat.reduceMul, ↓reduceIte, reduceCtorEq, Nat.add_zero, Int.toNat_natCast, List.getElem?_map, Option.map_some, List.length_map, Int.cast_ofNat_Int, decide_true, decide_false]
  obtain ⟨J, hJ⟩ := hideJ (fun k e σ => ∃ q at' g L, e 9 = .int .i64 b ∧ e 10 = .int .i64 u ∧ e 11 = .int .i64 w ∧ e 12 = .ptr 0 0 2 0 0 ∧ e 13 = .int .i64 q ∧ e 31 = .int .i64 k ∧ e 14 = .sl 1 g 1 0 k ∧
    σ.ob 0 = some ⟨0, 2, ty_Deck, false, true, [deckV l at']⟩ ∧ σ.ob 1 = some ⟨g, 1, 3, false, true, ints L⟩ ∧ L.length = k ∧ L.getLastD b = q ∧ withinGo u w 0 b L = (0, true) ∧
    0 ≤ q ∧ b - w * k ≤ q ∧ q ≤ b + u * k)
  refine awp_up 8 J ?_ ?_
  · rw [hJ]; refine ⟨b, 0, 1, [], ?_⟩
    simp [go_sem, ints, withinGo, hb1]
  · intro k e ob c hk hh
    rw [hJ] at hh
    obtain ⟨q, at', g, L, h9, h10, h11, h12, h13, h31, h14, ho0, ho1, hL, hq, hwi, q0, q1, q2⟩ := hh
    simp only at ho0 ho1
    simp only [go_sem, Nat.reduceEqDiff, Nat.reduceAdd, Nat.reduceLeDiff, Nat.reduceSub, Nat.reduceMul, ↓reduceIte, reduceCtorEq, Nat.add_zero, Int.toNat_natCast, List.getElem?_map, Option.map_some, List.length_map, Int.cast_ofNat_Int, decide_true, decide_false, h31]
    have e1 : w * ((k + 1 : Nat) : Int) = w * k + w := by rw [show ((k + 1 : Nat) : Int) = (k : Int) + 1 by omega, Int.mul_add, Int.mul_one]
    have e2 : u * ((k + 1 : Nat) : Int) = u * k + u := by rw [show ((k + 1 : Nat) : Int) = (k : Int) + 1 by omega, Int.mul_add, Int.mul_one]
    refine cond_d (fun hlt => ?_) (fun hge => ?_)
    · have hk8 : k < 8 := by omega
      have m1 : u * (k : Int) ≤ 7 * 8 := Int.mul_le_mul (by omega) (by omega) (by omega) (by omega)
      have m2 : w * (k : Int) ≤ 7 * 8 := Int.mul_le_mul (by omega) (by omega) (by omega) (by omega)
      simp (disch := omega) only [go_sem, Nat.reduceEqDiff, Nat.reduceAdd, Nat.reduceLeDiff, Nat.reduceSub, Nat.reduceMul, ↓reduceIte, reduceCtorEq, Nat.add_zero, Int.toNat_natCast, List.getElem?_map, Option.map_some, List.length_map, Int.cast_ofNat_Int, decide_true, decide_false, wrap_id, h9, h10, h11, h12, h13]
      refine call_hc (ok_mk_Deck_Next _ 0 0 ty_Deck true l at' (u + w + 1) ho0 (by omega) hl) ?_
      have hx := deckR_bd l at' (u + w + 1)
      generalize deckR l at' (u + w + 1) = dr at *
      obtain ⟨x, at2⟩ := dr
      simp only at hx
      simp (disch := omega) only [go_sem, Nat.reduceEqDiff, Nat.reduceAdd, Nat.reduceLeDiff, Nat.reduceSub, Nat.reduceMul, ↓reduceIte, reduceCtorEq, Nat.add_zero, Int.toNat_natCast, List.getElem?_map, Option.map_some, List.length_map, Int.cast_ofNat_Int, decide_true, decide_false, wrap_id, h9, h10, h11, h12, h13, h14, ho0, ho1]
      refine ⟨by simp [ints_length, hL], by simp [maxLen]; omega, by omega, ?_⟩
      have c1 : 0 ≤ max 0 (q + x - w) := by omega
      have c2 : q - w ≤ max 0 (q + x - w) := by omega
      have c3 : max 0 (q + x - w) ≤ q + u := by omega
      generalize max 0 (q + x - w) = q' at *
      have fq := fl q' c1 (by omega)
      have hall : [b, q', u, w].all flow1 = true := by simp [fb, fu, fw, fq]
      obtain ⟨s1, s2⟩ := steps_reach b q' u w (k + 1) hall (by omega) (by omega)
      have s3 := stepsR_ok b q' u w hall
      have hbr : boundsR b u w ((k + 1 : Nat) : Int) = (⟨max (b - w * ((k + 1 : Nat) : Int)) 0, min (b + u * ((k + 1 : Nat) : Int)) 1073741824⟩, 0) := by
        simp only [boundsR]; rw [if_pos (by simp [fb, fu, fw]), if_pos (by omega)]
      have d1 : decide (((k + 1 : Nat) : Int) < (stepsR b q' u w).1) = false := by simp only [decide_eq_false_iff_not]; omega
      have d2 : decide (q' < max (b - w * ((k + 1 : Nat) : Int)) 0) = false := by simp only [decide_eq_false_iff_not]; omega
      have d3 : decide (min (b + u * ((k + 1 : Nat) : Int)) 1073741824 < q') = false := by simp only [decide_eq_false_iff_not]; omega
      refine call_pc (ok_ramp_Steps b q' u w) (by simp [go_sem]) ?_
      simp only [go_sem, Nat.reduceEqDiff, Nat.reduceAdd, Nat.reduceLeDiff, Nat.reduceSub, Nat.reduceMul, ↓reduceIte, reduceCtorEq, Nat.add_zero, Int.toNat_natCast, List.getElem?_map, Option.map_some, List.length_map, Int.cast_ofNat_Int, decide_true, decide_false, trip, s1, s3, h9, h10, h11]
      refine call_pc (ok_ramp_Bounds b u w ((k + 1 : Nat) : Int)) (by simp [go_sem]) ?_
      simp (disch := omega) only [go_sem, Nat.reduceEqDiff, Nat.reduceAdd, Nat.reduceLeDiff, Nat.reduceSub, Nat.reduceMul, ↓reduceIte, reduceCtorEq, Nat.add_zero, Int.toNat_natCast, List.getElem?_map, Option.map_some, List.length_map, Int.cast_ofNat_Int, decide_true, decide_false, wrap_id, hbr, bdv, d1, d2, d3, h31]
      refine up_next hk8 (by rw [hJ]; exact ⟨q', at2, c, L ++ [q'], by simp [go_sem, h9], by simp [go_sem, h10], by simp [go_sem, h11], by simp [go_sem, h12], by simp [go_sem], by simp [go_sem], by simp [go_sem], by simp [go_sem], by simp [go_sem, ints_snoc], by simp [hL], by simp, within_snoc u w q' fq L 0 b hwi (by rw [hq]; omega) (by rw [hq]; omega), c1, by omega, by omega⟩)
    · have hk8 : k = 8 := by omega
      subst hk8
      have hwr : withinR L b u w = (0, true) := by simp only [withinR]; rw [if_pos (by simp [fb, fu, fw]), hwi]
      simp only [go_sem, Nat.reduceEqDiff, Nat.reduceAdd, Nat.reduceLeDiff, Nat.reduceSub, Nat.reduceMul, ↓reduceIte, reduceCtorEq, Nat.add_zero, Int.toNat_natCast, List.getElem?_map, Option.map_some, List.length_map, Int.cast_ofNat_Int, decide_true, decide_false, h9, h10, h11, h14]
      refine call_lent (ok_ramp_Within L b u w (by omega)) (.cons (Pub.of_sl ho1 (by simp [ints_length, hL]) (ints_pur _) (ints_ok _)) (.cons (.pure rfl) (.cons (.pure rfl) (.cons (.pure rfl) .nil)))) rfl ?_
      simp only [go_sem, Nat.reduceEqDiff, Nat.reduceAdd, Nat.reduceLeDiff, Nat.reduceSub, Nat.reduceMul, ↓reduceIte, reduceCtorEq, Nat.add_zero, Int.toNat_natCast, List.getElem?_map, Option.map_some, List.length_map, Int.cast_ofNat_Int, decide_true, decide_false, hwr]
      refine call_pc ok_law21_awake (by simp) ?_
      simp only [go_sem, Nat.reduceEqDiff, Nat.reduceAdd, Nat.reduceLeDiff, Nat.reduceSub, Nat.reduceMul, ↓reduceIte, reduceCtorEq, Nat.add_zero, Int.toNat_natCast, List.getElem?_map, Option.map_some, List.length_map, Int.cast_ofNat_Int, decide_true, decide_false]
      exact Pub.of_eq rfl rfl
end Go.Proofs.Try
