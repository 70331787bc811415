/-
  OWN WORK, put together by tools/asm.py: what functions do.
-/
import Derived.Test.YtdjmeioampkncaaCode
set_option linter.unusedSimpArgs false
set_option linter.unusedVariables false
set_option maxRecDepth 100000
namespace Go.Proofs.Try
open Go.Ab Go
theorem tmod_mod (n k : Int) (hk : 0 < k) : (n.tmod k + k).tmod k = n % k := by
  have h2 := Int.tmod_eq_emod (a := n) (b := k)
  have h3 := Int.emod_nonneg n (show k ≠ 0 by omega)
  have h4 := Int.emod_lt_of_pos n hk
  have h5 : 0 ≤ n.tmod k + k := by rw [h2]; split <;> omega
  rw [Int.tmod_eq_emod_of_nonneg h5, Int.add_emod_right, h2]
  split
  · simp
  · rw [show ((k.natAbs : Nat) : Int) = k by omega, Int.sub_emod_right]; exact Int.emod_emod_of_dvd n (Int.dvd_refl k)
theorem tmod_bd (n k : Int) (hk : 0 < k) : -k < n.tmod k ∧ n.tmod k < k := by
  have h2 := Int.tmod_eq_emod (a := n) (b := k)
  have h3 := Int.emod_nonneg n (show k ≠ 0 by omega)
  have h4 := Int.emod_lt_of_pos n hk
  by_cases h : 0 ≤ n ∨ k ∣ n
  · rw [if_pos h] at h2; omega
  · rw [if_neg h] at h2
    have : n % k ≠ 0 := fun h0 => h (.inr (Int.dvd_of_emod_eq_zero h0))
    omega
def ints (l : List Int) : List AV := l.map (.int .i64)
theorem ints_length (l : List Int) : (ints l).length = l.length := by simp [ints]
theorem ints_get (l : List Int) (i : Nat) : (ints l)[i]? = (l[i]?).map (AV.int .i64) := by simp [ints]
theorem ints_append (l r : List Int) : ints l ++ ints r = ints (l ++ r) := by simp [ints]
theorem ints_pur (l : List Int) : ∀ x ∈ ints l, x.pur = true := by simp [ints, go_sem]
theorem ints_ok (l : List Int) : ∀ x ∈ ints l, okE 1 x := by simp [ints, okE, go_sem]
/-- two numbers that are bounds -/
structure Bd where
  lo : Int
  hi : Int
  deriving DecidableEq, Inhabited
def bdv (b : Bd) : AV := .agg [.int .i64 b.lo, .int .i64 b.hi]
def bds (l : List Bd) : List AV := l.map bdv
theorem bds_length (l : List Bd) : (bds l).length = l.length := by simp [bds]
theorem bds_get (l : List Bd) (i : Nat) : (bds l)[i]? = (l[i]?).map bdv := by simp [bds]
theorem bds_append (l r : List Bd) : bds l ++ bds r = bds (l ++ r) := by simp [bds]
theorem bds_pur (l : List Bd) : ∀ x ∈ bds l, x.pur = true := by simp [bds, bdv, go_sem]
theorem bds_ok (l : List Bd) : ∀ x ∈ bds l, okE 2 x := by simp [bds, bdv, okE, go_sem]
/-- the index of the first element with p; -1 -/
def firstIdx {α : Type} (p : α → Bool) (l : List α) : Int := match l.findIdx? p with | some i => (i : Int) | none => -1
theorem firstIdx_at {α : Type} (p : α → Bool) (l : List α) (k : Nat) (hk : k < l.length) (h1 : ∀ j, j < k → ∀ x, l[j]? = some x → p x = false) (h2 : p l[k] = true) : firstIdx p l = k := by
  have : l.findIdx? p = some k := by
    rw [List.findIdx?_eq_some_iff_getElem]
    exact ⟨hk, h2, fun j hj => by have := h1 j hj l[j] (List.getElem?_eq_getElem _); simp [this]⟩
  simp [firstIdx, this]
theorem firstIdx_none {α : Type} (p : α → Bool) (l : List α) (h1 : ∀ j, j < l.length → ∀ x, l[j]? = some x → p x = false) : firstIdx p l = -1 := by
  have : l.findIdx? p = none := by
    rw [List.findIdx?_eq_none_iff]
    intro x hx
    obtain ⟨j, hj⟩ := List.getElem?_of_mem hx
    exact h1 j (List.getElem?_eq_some_iff.1 hj).1 x hj
  simp [firstIdx, this]
theorem firstIdx_any {α : Type} (p : α → Bool) (l : List α) : decide (0 ≤ firstIdx p l) = l.any p := by
  unfold firstIdx
  cases h : l.findIdx? p with
  | none =>
    rw [List.findIdx?_eq_none_iff] at h
    have : l.any p = false := by rw [List.any_eq_false]; intro x hx; simpa using h x hx
    rw [this]; simp
  | some i =>
    obtain ⟨hi, h1, _⟩ := List.findIdx?_eq_some_iff_getElem.1 h
    have : l.any p = true := List.any_eq_true.2 ⟨_, List.getElem_mem hi, h1⟩
    rw [this]; simp
theorem lt_snoc {α : Type} {l : List α} {k : Nat} {P : α → Prop} (hj : ∀ j, j < k → ∀ x, l[j]? = some x → P x) (hk : k < l.length) (h : P l[k]) : ∀ j, j < k + 1 → ∀ x, l[j]? = some x → P x := by
  intro j hj' x hx
  by_cases e : j = k
  · subst e; rw [List.getElem?_eq_getElem hk] at hx; obtain rfl := Option.some.inj hx; exact h
  · exact hj j (by omega) x hx
def flow1 (n : Int) : Bool := decide (0 ≤ n) && decide (n ≤ 1073741824)
theorem flow1_iff (n : Int) : flow1 n = true ↔ 0 ≤ n ∧ n ≤ 1073741824 := by simp [flow1]
/-- f, k times -/
def runS {α : Type} (f : α → α) (b : α) : Nat → α
  | 0 => b
  | k + 1 => f (runS f b k)
/-- what the first k times give, one behind the other -/
def pathS {α : Type} (f : α → α) (b : α) (k : Nat) : List α := (List.range k).map fun i => runS f b (i + 1)
theorem pathS_zero {α : Type} (f : α → α) (b : α) : pathS f b 0 = [] := rfl
theorem pathS_succ {α : Type} (f : α → α) (b : α) (k : Nat) : pathS f b (k + 1) = pathS f b k ++ [runS f b (k + 1)] := by simp [pathS, List.range_succ]
theorem pathS_length {α : Type} (f : α → α) (b : α) (k : Nat) : (pathS f b k).length = k := by simp [pathS]
theorem pathS_get {α : Type} (f : α → α) (b : α) (k i : Nat) (h : i < k) : (pathS f b k)[i]? = some (runS f b (i + 1)) := by simp [pathS, h]
theorem ints_snoc (l : List Int) (n : Int) : ints l ++ [.int .i64 n] = ints (l ++ [n]) := by simp [ints]
theorem ok_mk_Mod (n k : Int) (hk : 0 < k) (hk2 : k ≤ 4611686018427387904) : PC prog n_mk_Mod [.int .i64 n, .int .i64 k] (.int .i64 (n % k)) := by
  have h1 := tmod_bd n k hk
  refine PC_of_body b_mk_Mod (by simp) ?_
  simp (disch := omega) only [c_mk_Mod, go_sem, Int.reduceLT, Int.reduceLE, Int.reduceToNat, Nat.reduceLT, eq_self, Int.toNat_zero, Int.toNat_one, Nat.reduceEqDiff, Nat.reduceAdd, Nat.reduceLeDiff, Nat.reduceSub, Nat.reduceMul, ↓reduceIte, reduceCtorEq, Nat.add_zero, Int.toNat_natCast, List.getElem?_map, Option.map_some, List.length_map, Int.cast_ofNat_Int, decide_true, decide_false, wrap_id]
  exact ⟨by omega, by omega, Pub.of_eq (by rw [tmod_mod n k hk]) rfl⟩
theorem ints_drop (l : List Int) (k : Nat) : (ints l).drop k = ints (l.drop k) := by simp [ints]
theorem ints_take (l : List Int) (k : Nat) : (ints l).take k = ints (l.take k) := by simp [ints]
theorem ints_app (l r : List Int) : ints l ++ ints r = ints (l ++ r) := by simp [ints]
theorem ints_nil : ints [] = [] := rfl
theorem ints_one (x : Int) : [AV.int .i64 x] = ints [x] := rfl
/-- the least number of a list -/
def minS : List Int → Int
  | [] => 0
  | a :: l => l.foldl min a
theorem minS_snoc (l : List Int) (x : Int) (h : l ≠ []) : minS (l ++ [x]) = min (minS l) x := by
  cases l with
  | nil => exact absurd rfl h
  | cons a l => simp [minS, List.foldl_append]
theorem foldl_min (l : List Int) : ∀ a b : Int, l.foldl min (min a b) = min a (l.foldl min b) := by
  induction l with
  | nil => intro a b; rfl
  | cons c l ih => intro a b; simp only [List.foldl_cons]; rw [show min (min a b) c = min a (min b c) by omega, ih]
theorem minS_cons (a : Int) (l : List Int) (h : l ≠ []) : minS (a :: l) = min a (minS l) := by
  cases l with
  | nil => exact absurd rfl h
  | cons b l => simp only [minS, List.foldl_cons]; rw [foldl_min]
theorem minS_mem : ∀ (l : List Int), l ≠ [] → minS l ∈ l
  | [a], _ => by simp [minS]
  | a :: b :: l, _ => by
    have ih := minS_mem (b :: l) (by simp)
    rw [minS_cons a _ (by simp)]
    rcases Int.le_total a (minS (b :: l)) with h | h
    · rw [Int.min_eq_left h]; simp
    · rw [Int.min_eq_right h]; exact List.mem_cons_of_mem _ ih
theorem minS_le : ∀ (l : List Int) (x : Int), x ∈ l → minS l ≤ x
  | [a], x, h => by simp at h; subst h; simp [minS]
  | a :: b :: l, x, h => by
    rw [minS_cons a _ (by simp)]
    rcases List.mem_cons.1 h with rfl | h
    · omega
    · have := minS_le (b :: l) x h; omega
theorem take_snoc {α : Type} (l : List α) (k : Nat) (h : k < l.length) : l.take (k + 1) = l.take k ++ [l[k]] := by rw [List.take_add_one, List.getElem?_eq_getElem h]; rfl
theorem upd_upd {α : Type} (f : Nat → α) (i : Nat) (x y : α) : upd (upd f i x) i y = upd f i y := by funext j; by_cases e : j = i <;> simp [upd, e]
/-- A new object with these elements, behind one that is forgotten. -/
def NewSl (σ : St) (es : Nat) (ty : TypeId) (l : List AV) (r : AV) (σ' : St) : Prop := ∃ g c, r = .sl (σ.n + 1) g es 0 l.length ∧ σ' = ⟨upd (upd σ.ob σ.n none) (σ.n + 1) (some ⟨g, es, ty, false, true, l⟩), σ.n + 2, c⟩
def NewSl1 (σ : St) (es : Nat) (ty : TypeId) (l : List AV) (r : AV) (σ' : St) : Prop := ∃ g c o, r = .sl (σ.n + 1) g es 0 l.length ∧ σ' = ⟨upd (upd σ.ob σ.n (some o)) (σ.n + 1) (some ⟨g, es, ty, false, true, l⟩), σ.n + 2, c⟩
theorem HC.new {f : Nat} {args : List AV} {σ : St} {es : Nat} {ty : TypeId} {l : List AV} (h : HC prog f args σ (NewSl1 σ es ty l)) : HC prog f args σ (NewSl σ es ty l) := by
  refine h.sub ?_
  rintro r σ' ⟨g, c, o, rfl, rfl⟩
  refine ⟨_, ?_, g, c, rfl, rfl⟩
  intro i o' h
  simp only [upd] at h ⊢
  split at h
  · rename_i hi; rw [if_pos hi]; exact h
  · rename_i hi
    rw [if_neg hi]
    split at h
    · cases h
    · rename_i h2; rw [if_neg h2]; exact h
theorem ok_slices_Min__int (l : List Int) (hl : l.length ≤ 9223372036854775807) (h0 : l ≠ []) : PC prog n_slices_Min__int [.list 1 (ints l)] (.int .i64 (minS l)) := by
  have hp := List.length_pos_iff.2 h0
  refine PC_of_body b_slices_Min__int (by simp) ?_
  simp only [c_slices_Min__int, go_sem, Int.reduceLT, Int.reduceLE, Int.reduceToNat, Nat.reduceLT, eq_self, Int.toNat_zero, Int.toNat_one, Nat.reduceEqDiff, Nat.reduceAdd, Nat.reduceLeDiff, Nat.reduceSub, Nat.reduceMul, ↓reduceIte, reduceCtorEq, Nat.add_zero, Int.toNat_natCast, List.getElem?_map, Option.map_some, List.length_map, Int.cast_ofNat_Int, decide_true, decide_false, ints_length]
  refine cond_d (fun h => by omega) (fun _ => ?_)
  simp only [go_sem, Int.reduceLT, Int.reduceLE, Int.reduceToNat, Nat.reduceLT, eq_self, Int.toNat_zero, Int.toNat_one, Nat.reduceEqDiff, Nat.reduceAdd, Nat.reduceLeDiff, Nat.reduceSub, Nat.reduceMul, ↓reduceIte, reduceCtorEq, Nat.add_zero, Int.toNat_natCast, List.getElem?_map, Option.map_some, List.length_map, Int.cast_ofNat_Int, decide_true, decide_false, ints_length, ints_get, List.getElem?_eq_getElem hp]
  repeat (refine And.intro (by first | omega | (simp [maxLen]; done) | (simp [maxLen]; omega)) ?_)
  refine awp_upF [3, 4, 12, 13, 14, 15, 16, 17, 18, 19, 20, 21, 22, 23] (by kernel_rfl) (l.length - 1) (fun r e _ => e 3 = .int .i64 (minS (l.take (r + 1))) ∧ e 4 = .int .i64 ((r + 1 : Nat) : Int)) ?_ ?_
  · simp only [go_sem, ↓reduceIte, Nat.reduceEqDiff]
    refine ⟨?_, rfl⟩
    cases l with
    | nil => exact absurd rfl h0
    | cons a l => rfl
  · rintro r f ob c hr ⟨h3, h4⟩
    simp only [go_sem, Int.reduceLT, Int.reduceLE, Int.reduceToNat, Nat.reduceLT, eq_self, Int.toNat_zero, Int.toNat_one, Nat.reduceEqDiff, Nat.reduceAdd, Nat.reduceLeDiff, Nat.reduceSub, Nat.reduceMul, ↓reduceIte, reduceCtorEq, Nat.add_zero, Int.toNat_natCast, List.getElem?_map, Option.map_some, List.length_map, Int.cast_ofNat_Int, decide_true, decide_false] at h3 h4
    simp only [go_sem, Int.reduceLT, Int.reduceLE, Int.reduceToNat, Nat.reduceLT, eq_self, Int.toNat_zero, Int.toNat_one, Nat.reduceEqDiff, Nat.reduceAdd, Nat.reduceLeDiff, Nat.reduceSub, Nat.reduceMul, ↓reduceIte, reduceCtorEq, Nat.add_zero, Int.toNat_natCast, List.getElem?_map, Option.map_some, List.length_map, Int.cast_ofNat_Int, decide_true, decide_false, h3, h4, ints_length]
    refine cond_d (fun hlt => ?_) (fun hge => ?_)
    · have hrl : r + 1 < l.length := by omega
      simp (disch := omega) only [go_sem, Int.reduceLT, Int.reduceLE, Int.reduceToNat, Nat.reduceLT, eq_self, Int.toNat_zero, Int.toNat_one, Nat.reduceEqDiff, Nat.reduceAdd, Nat.reduceLeDiff, Nat.reduceSub, Nat.reduceMul, ↓reduceIte, reduceCtorEq, Nat.add_zero, Int.toNat_natCast, List.getElem?_map, Option.map_some, List.length_map, Int.cast_ofNat_Int, decide_true, decide_false, ints_length, ints_get, List.getElem?_eq_getElem hrl, wrap_id]
      refine ⟨by omega, by omega, ?_⟩
      refine up_next (by omega) ⟨?_, ?_⟩
      · (try simp only [go_sem, Int.reduceLT, Int.reduceLE, Int.reduceToNat, Nat.reduceLT, eq_self, Int.toNat_zero, Int.toNat_one, Nat.reduceEqDiff, Nat.reduceAdd, Nat.reduceLeDiff, Nat.reduceSub, Nat.reduceMul, ↓reduceIte, reduceCtorEq, Nat.add_zero, Int.toNat_natCast, List.getElem?_map, Option.map_some, List.length_map, Int.cast_ofNat_Int, decide_true, decide_false]); rw [take_snoc l (r + 1) hrl, minS_snoc _ _ (by simp; exact h0)]
      · (try simp only [go_sem, Int.reduceLT, Int.reduceLE, Int.reduceToNat, Nat.reduceLT, eq_self, Int.toNat_zero, Int.toNat_one, Nat.reduceEqDiff, Nat.reduceAdd, Nat.reduceLeDiff, Nat.reduceSub, Nat.reduceMul, ↓reduceIte, reduceCtorEq, Nat.add_zero, Int.toNat_natCast, List.getElem?_map, Option.map_some, List.length_map, Int.cast_ofNat_Int, decide_true, decide_false]); rfl
    · try simp only [go_sem, Int.reduceLT, Int.reduceLE, Int.reduceToNat, Nat.reduceLT, eq_self, Int.toNat_zero, Int.toNat_one, Nat.reduceEqDiff, Nat.reduceAdd, Nat.reduceLeDiff, Nat.reduceSub, Nat.reduceMul, ↓reduceIte, reduceCtorEq, Nat.add_zero, Int.toNat_natCast, List.getElem?_map, Option.map_some, List.length_map, Int.cast_ofNat_Int, decide_true, decide_false]
      refine Pub.of_eq ?_ rfl
      rw [List.take_of_length_le (by omega)]
theorem hc_slices_Clone__int (σ : St) (l : List Int) (hl : l.length * 8 ≤ 140737488355328) : HC prog n_slices_Clone__int [.list 1 (ints l)] σ (NewSl σ 1 3 (ints l)) := by
  refine HC.new (HC_of_body b_slices_Clone__int (by simp) ?_)
  obtain ⟨ob, n, c⟩ := σ
  simp only [c_slices_Clone__int, go_sem, Int.reduceLT, Int.reduceLE, Int.reduceToNat, Nat.reduceLT, eq_self, Int.toNat_zero, Int.toNat_one, Nat.reduceEqDiff, Nat.reduceAdd, Nat.reduceLeDiff, Nat.reduceSub, Nat.reduceMul, ↓reduceIte, reduceCtorEq, Nat.add_zero, Int.toNat_natCast, List.getElem?_map, Option.map_some, List.length_map, Int.cast_ofNat_Int, decide_true, decide_false]
  have hn1 : ¬ n + 1 = n := by omega
  refine isnil_l (fun h => ?_) (fun h => ?_)
  · have : l = [] := by cases l <;> simp_all [ints]
    subst this
    refine ⟨?_, ?_⟩
    · try simp only [go_sem, Int.reduceLT, Int.reduceLE, Int.reduceToNat, Nat.reduceLT, eq_self, Int.toNat_zero, Int.toNat_one, Nat.reduceEqDiff, Nat.reduceAdd, Nat.reduceLeDiff, Nat.reduceSub, Nat.reduceMul, ↓reduceIte, reduceCtorEq, Nat.add_zero, Int.toNat_natCast, List.getElem?_map, Option.map_some, List.length_map, Int.cast_ofNat_Int, decide_true, decide_false]
      exact ⟨_, _, _, rfl, rfl⟩
    · simp only [go_sem, Int.reduceLT, Int.reduceLE, Int.reduceToNat, Nat.reduceLT, eq_self, Int.toNat_zero, Int.toNat_one, Nat.reduceEqDiff, Nat.reduceAdd, Nat.reduceLeDiff, Nat.reduceSub, Nat.reduceMul, ↓reduceIte, reduceCtorEq, Nat.add_zero, Int.toNat_natCast, List.getElem?_map, Option.map_some, List.length_map, Int.cast_ofNat_Int, decide_true, decide_false, ints_length, hn1]
      refine ⟨by simp [maxLen], ?_⟩
      exact ⟨_, _, _, rfl, by rw [upd_upd]⟩
  · simp only [go_sem, Int.reduceLT, Int.reduceLE, Int.reduceToNat, Nat.reduceLT, eq_self, Int.toNat_zero, Int.toNat_one, Nat.reduceEqDiff, Nat.reduceAdd, Nat.reduceLeDiff, Nat.reduceSub, Nat.reduceMul, ↓reduceIte, reduceCtorEq, Nat.add_zero, Int.toNat_natCast, List.getElem?_map, Option.map_some, List.length_map, Int.cast_ofNat_Int, decide_true, decide_false, ints_length, hn1]
    refine ⟨by simp [maxLen]; omega, by omega, ?_⟩
    exact ⟨_, _, _, by rw [ints_length, Nat.zero_add], by rw [upd_upd]⟩
theorem hc_slices_Clone__int_sl (σ : St) (id g off n : Nat) (o : AObj) (l : List Int) (hid : id < σ.n) (hob : σ.ob id = some o) (hg : o.g = g) (hes : o.es = 1) (hoff : off + n ≤ o.l.length) (hn : 0 < n) (hcon : (o.l.drop off).take n = ints l) (hl : l.length * 8 ≤ 140737488355328) :
    HC prog n_slices_Clone__int [.sl id g 1 off n] σ (NewSl σ 1 3 (ints l)) := by
  refine HC.new (HC_of_body b_slices_Clone__int (by simp) ?_)
  obtain ⟨ob, nn, c⟩ := σ
  simp only at hid hob
  have hn1 : ¬ nn + 1 = nn := by omega
  have hi1 : ¬ id = nn := by omega
  have hi2 : ¬ id = nn + 1 := by omega
  have hnl : n = l.length := by have := congrArg List.length hcon; simp [ints] at this; omega
  simp only [c_slices_Clone__int, go_sem, Int.reduceLT, Int.reduceLE, Int.reduceToNat, Nat.reduceLT, eq_self, Int.toNat_zero, Int.toNat_one, Nat.reduceEqDiff, Nat.reduceAdd, Nat.reduceLeDiff, Nat.reduceSub, Nat.reduceMul, ↓reduceIte, reduceCtorEq, Nat.add_zero, Int.toNat_natCast, List.getElem?_map, Option.map_some, List.length_map, Int.cast_ofNat_Int, decide_true, decide_false]
  refine ⟨fun h => by omega, fun _ => ?_⟩
  simp only [go_sem, Int.reduceLT, Int.reduceLE, Int.reduceToNat, Nat.reduceLT, eq_self, Int.toNat_zero, Int.toNat_one, Nat.reduceEqDiff, Nat.reduceAdd, Nat.reduceLeDiff, Nat.reduceSub, Nat.reduceMul, ↓reduceIte, reduceCtorEq, Nat.add_zero, Int.toNat_natCast, List.getElem?_map, Option.map_some, List.length_map, Int.cast_ofNat_Int, decide_true, decide_false, ints_length, hn1, hi1, hi2, hob]
  refine ⟨hg, hes, hoff, by simp only [hcon, ints_length, maxLen]; omega, by simp only [hcon, ints_length]; omega, ?_⟩
  exact ⟨_, _, _, by rw [hcon, Nat.zero_add], by rw [hcon, upd_upd]⟩
theorem w_slc_nil (es : Nat) (K : IntKind) (hi : Int) (σ : St) (C : AV → St → Prop) : slcC es .nil none (some (.int K hi)) σ C = (0 ≤ hi ∧ hi ≤ 0 ∧ C .nil σ) := by simp [slcC, sliceK, bdsK]
def lls (ls : List (List Int)) : List AV := ls.map fun l => .list 1 (ints l)
theorem lls_length (l : List (List Int)) : (lls l).length = l.length := by simp [lls]
theorem lls_get (l : List (List Int)) (i : Nat) : (lls l)[i]? = (l[i]?).map (fun l => AV.list 1 (ints l)) := by simp [lls]
def tot (ls : List (List Int)) : Nat := (ls.map List.length).sum
theorem tot_snoc (ls : List (List Int)) (l : List Int) : tot (ls ++ [l]) = tot ls + l.length := by simp [tot]
theorem tot_take (ls : List (List Int)) (k : Nat) : tot (ls.take k) ≤ tot ls := by
  have : tot ls = tot (ls.take k) + tot (ls.drop k) := by
    have h : tot (ls.take k ++ ls.drop k) = tot (ls.take k) + tot (ls.drop k) := by simp only [tot, List.map_append, List.sum_append]
    rwa [List.take_append_drop] at h
  omega
def GrowR (σ : St) (n : Nat) (r : AV) (σ' : St) : Prop := (n = 0 ∧ r = .nil ∧ σ' = σ) ∨ (0 < n ∧ ∃ g c, r = .sl σ.n g 1 0 0 ∧ σ' = ⟨upd σ.ob σ.n (some ⟨g, 1, 3, false, true, []⟩), σ.n + 1, c⟩)
theorem hc_slices_Grow__int (σ : St) (n : Nat) (hn : n * 8 ≤ 140737488355328) : HC prog n_slices_Grow__int [.nil, .int .i64 n] σ (GrowR σ n) := by
  obtain ⟨ob, nn, c⟩ := σ
  refine HC_of_body b_slices_Grow__int (by simp) ?_
  simp only [c_slices_Grow__int, go_sem, Int.reduceLT, Int.reduceLE, Int.reduceToNat, Nat.reduceLT, eq_self, Int.toNat_zero, Int.toNat_one, Nat.reduceEqDiff, Nat.reduceAdd, Nat.reduceLeDiff, Nat.reduceSub, Nat.reduceMul, ↓reduceIte, reduceCtorEq, Nat.add_zero, Int.toNat_natCast, List.getElem?_map, Option.map_some, List.length_map, Int.cast_ofNat_Int, decide_true, decide_false]
  refine cond_d (fun h => by omega) (fun _ => ?_)
  simp (disch := omega) only [go_sem, Int.reduceLT, Int.reduceLE, Int.reduceToNat, Nat.reduceLT, eq_self, Int.toNat_zero, Int.toNat_one, Nat.reduceEqDiff, Nat.reduceAdd, Nat.reduceLeDiff, Nat.reduceSub, Nat.reduceMul, ↓reduceIte, reduceCtorEq, Nat.add_zero, Int.toNat_natCast, List.getElem?_map, Option.map_some, List.length_map, Int.cast_ofNat_Int, decide_true, decide_false, wrap_id, Int.sub_self, Int.sub_zero]
  refine cond_d (fun h => ?_) (fun h => ?_)
  · simp (disch := omega) only [go_sem, Int.reduceLT, Int.reduceLE, Int.reduceToNat, Nat.reduceLT, eq_self, Int.toNat_zero, Int.toNat_one, Nat.reduceEqDiff, Nat.reduceAdd, Nat.reduceLeDiff, Nat.reduceSub, Nat.reduceMul, ↓reduceIte, reduceCtorEq, Nat.add_zero, Int.toNat_natCast, List.getElem?_map, Option.map_some, List.length_map, Int.cast_ofNat_Int, decide_true, decide_false, wrap_id, Int.sub_self, Int.sub_zero, w_slc_nil]
    repeat (refine And.intro (by first | omega | (simp [maxLen]; done) | (simp [maxLen]; omega)) ?_)
    exact .inr ⟨by omega, c + 1, c + 2, rfl, by rw [upd_upd]⟩
  · try simp only [go_sem, Int.reduceLT, Int.reduceLE, Int.reduceToNat, Nat.reduceLT, eq_self, Int.toNat_zero, Int.toNat_one, Nat.reduceEqDiff, Nat.reduceAdd, Nat.reduceLeDiff, Nat.reduceSub, Nat.reduceMul, ↓reduceIte, reduceCtorEq, Nat.add_zero, Int.toNat_natCast, List.getElem?_map, Option.map_some, List.length_map, Int.cast_ofNat_Int, decide_true, decide_false]
    exact .inl ⟨by omega, rfl, rfl⟩
theorem ok_slices_Concat__int (ls : List (List Int)) (hls : ls.length ≤ 9223372036854775807) (hl : tot ls * 8 ≤ 140737488355328) : PC prog n_slices_Concat__int [.list 1 (lls ls)] (.list 1 (ints ls.flatten)) := by
  refine PC_of_body b_slices_Concat__int (by simp) ?_
  simp only [c_slices_Concat__int, go_sem, Int.reduceLT, Int.reduceLE, Int.reduceToNat, Nat.reduceLT, eq_self, Int.toNat_zero, Int.toNat_one, Nat.reduceEqDiff, Nat.reduceAdd, Nat.reduceLeDiff, Nat.reduceSub, Nat.reduceMul, ↓reduceIte, reduceCtorEq, Nat.add_zero, Int.toNat_natCast, List.getElem?_map, Option.map_some, List.length_map, Int.cast_ofNat_Int, decide_true, decide_false, lls_length]
  refine awp_upF [3, 5, 11, 12, 13, 14, 15, 16, 17, 18, 19, 20, 21, 22] (by kernel_rfl) ls.length (fun r e σ => e 3 = .int .i64 (tot (ls.take r)) ∧ e 11 = .int .i64 r ∧ σ = St.empty) ?_ ?_
  · refine ⟨?_, ?_, ?_⟩ <;> simp [go_sem, tot]
  · rintro r f ob c hr ⟨h3, h11, hσ⟩
    simp only [go_sem, Int.reduceLT, Int.reduceLE, Int.reduceToNat, Nat.reduceLT, eq_self, Int.toNat_zero, Int.toNat_one, Nat.reduceEqDiff, Nat.reduceAdd, Nat.reduceLeDiff, Nat.reduceSub, Nat.reduceMul, ↓reduceIte, reduceCtorEq, Nat.add_zero, Int.toNat_natCast, List.getElem?_map, Option.map_some, List.length_map, Int.cast_ofNat_Int, decide_true, decide_false] at h3 h11
    simp only [go_sem, Int.reduceLT, Int.reduceLE, Int.reduceToNat, Nat.reduceLT, eq_self, Int.toNat_zero, Int.toNat_one, Nat.reduceEqDiff, Nat.reduceAdd, Nat.reduceLeDiff, Nat.reduceSub, Nat.reduceMul, ↓reduceIte, reduceCtorEq, Nat.add_zero, Int.toNat_natCast, List.getElem?_map, Option.map_some, List.length_map, Int.cast_ofNat_Int, decide_true, decide_false, h3, h11]
    refine cond_d (fun hlt => ?_) (fun hge => ?_)
    · have hrl : r < ls.length := by omega
      have ht := tot_take ls (r + 1)
      rw [take_snoc ls r hrl, tot_snoc] at ht
      simp (disch := omega) only [go_sem, Int.reduceLT, Int.reduceLE, Int.reduceToNat, Nat.reduceLT, eq_self, Int.toNat_zero, Int.toNat_one, Nat.reduceEqDiff, Nat.reduceAdd, Nat.reduceLeDiff, Nat.reduceSub, Nat.reduceMul, ↓reduceIte, reduceCtorEq, Nat.add_zero, Int.toNat_natCast, List.getElem?_map, Option.map_some, List.length_map, Int.cast_ofNat_Int, decide_true, decide_false, lls_length, lls_get, List.getElem?_eq_getElem hrl, ints_length, wrap_id, h3, h11]
      refine ⟨by omega, by omega, cond_d (fun h => by omega) (fun _ => ?_)⟩
      simp (disch := omega) only [go_sem, Int.reduceLT, Int.reduceLE, Int.reduceToNat, Nat.reduceLT, eq_self, Int.toNat_zero, Int.toNat_one, Nat.reduceEqDiff, Nat.reduceAdd, Nat.reduceLeDiff, Nat.reduceSub, Nat.reduceMul, ↓reduceIte, reduceCtorEq, Nat.add_zero, Int.toNat_natCast, List.getElem?_map, Option.map_some, List.length_map, Int.cast_ofNat_Int, decide_true, decide_false, wrap_id, h11]
      refine up_next hrl ⟨?_, ?_, ?_⟩
      · (try simp only [go_sem, Int.reduceLT, Int.reduceLE, Int.reduceToNat, Nat.reduceLT, eq_self, Int.toNat_zero, Int.toNat_one, Nat.reduceEqDiff, Nat.reduceAdd, Nat.reduceLeDiff, Nat.reduceSub, Nat.reduceMul, ↓reduceIte, reduceCtorEq, Nat.add_zero, Int.toNat_natCast, List.getElem?_map, Option.map_some, List.length_map, Int.cast_ofNat_Int, decide_true, decide_false]); rw [take_snoc ls r hrl, tot_snoc]; rfl
      · (try simp only [go_sem, Int.reduceLT, Int.reduceLE, Int.reduceToNat, Nat.reduceLT, eq_self, Int.toNat_zero, Int.toNat_one, Nat.reduceEqDiff, Nat.reduceAdd, Nat.reduceLeDiff, Nat.reduceSub, Nat.reduceMul, ↓reduceIte, reduceCtorEq, Nat.add_zero, Int.toNat_natCast, List.getElem?_map, Option.map_some, List.length_map, Int.cast_ofNat_Int, decide_true, decide_false]); rfl
      · simp only [w_empty, St.mk.injEq] at hσ
        obtain ⟨rfl, _, rfl⟩ := hσ
        simp [w_trunc]
    · have : r = ls.length := by omega
      subst this
      simp only [w_empty, St.mk.injEq] at hσ
      obtain ⟨rfl, _, rfl⟩ := hσ
      simp only [go_sem, Int.reduceLT, Int.reduceLE, Int.reduceToNat, Nat.reduceLT, eq_self, Int.toNat_zero, Int.toNat_one, Nat.reduceEqDiff, Nat.reduceAdd, Nat.reduceLeDiff, Nat.reduceSub, Nat.reduceMul, ↓reduceIte, reduceCtorEq, Nat.add_zero, Int.toNat_natCast, List.getElem?_map, Option.map_some, List.length_map, Int.cast_ofNat_Int, decide_true, decide_false, h3, List.take_length]
      refine HC.mono (hc_slices_Grow__int _ (tot ls) hl) ?_
      rintro v σ' (⟨hn0, rfl, rfl⟩ | ⟨hn0, g, c, rfl, rfl⟩)
      · have hall : ∀ l ∈ ls, l = [] := fun l hl => by
          have : l.length ≤ tot ls := by
            obtain ⟨i, hi, rfl⟩ := List.getElem_of_mem hl
            have h1 := tot_take ls (i + 1)
            rw [take_snoc ls i hi, tot_snoc] at h1
            omega
          exact List.eq_nil_of_length_eq_zero (by omega)
        simp only [go_sem, Int.reduceLT, Int.reduceLE, Int.reduceToNat, Nat.reduceLT, eq_self, Int.toNat_zero, Int.toNat_one, Nat.reduceEqDiff, Nat.reduceAdd, Nat.reduceLeDiff, Nat.reduceSub, Nat.reduceMul, ↓reduceIte, reduceCtorEq, Nat.add_zero, Int.toNat_natCast, List.getElem?_map, Option.map_some, List.length_map, Int.cast_ofNat_Int, decide_true, decide_false, lls_length]
        refine awp_upF [6, 8, 27, 28, 29, 30, 31, 32, 33, 34] (by kernel_rfl) ls.length (fun r e σ => e 6 = .nil ∧ e 27 = .int .i64 r) ?_ ?_
        · refine ⟨?_, ?_⟩ <;> simp [go_sem]
        · rintro r f ob c hr ⟨h6, h27⟩
          simp only [go_sem, Int.reduceLT, Int.reduceLE, Int.reduceToNat, Nat.reduceLT, eq_self, Int.toNat_zero, Int.toNat_one, Nat.reduceEqDiff, Nat.reduceAdd, Nat.reduceLeDiff, Nat.reduceSub, Nat.reduceMul, ↓reduceIte, reduceCtorEq, Nat.add_zero, Int.toNat_natCast, List.getElem?_map, Option.map_some, List.length_map, Int.cast_ofNat_Int, decide_true, decide_false] at h6 h27
          simp only [go_sem, Int.reduceLT, Int.reduceLE, Int.reduceToNat, Nat.reduceLT, eq_self, Int.toNat_zero, Int.toNat_one, Nat.reduceEqDiff, Nat.reduceAdd, Nat.reduceLeDiff, Nat.reduceSub, Nat.reduceMul, ↓reduceIte, reduceCtorEq, Nat.add_zero, Int.toNat_natCast, List.getElem?_map, Option.map_some, List.length_map, Int.cast_ofNat_Int, decide_true, decide_false, h6, h27]
          refine cond_d (fun hlt => ?_) (fun hge => ?_)
          · have hrl : r < ls.length := by omega
            have hz : ls[r] = [] := hall _ (List.getElem_mem hrl)
            simp (disch := omega) only [go_sem, Int.reduceLT, Int.reduceLE, Int.reduceToNat, Nat.reduceLT, eq_self, Int.toNat_zero, Int.toNat_one, Nat.reduceEqDiff, Nat.reduceAdd, Nat.reduceLeDiff, Nat.reduceSub, Nat.reduceMul, ↓reduceIte, reduceCtorEq, Nat.add_zero, Int.toNat_natCast, List.getElem?_map, Option.map_some, List.length_map, Int.cast_ofNat_Int, decide_true, decide_false, lls_length, lls_get, List.getElem?_eq_getElem hrl, ints_length, wrap_id, h6, h27, hz, ints_nil]
            refine ⟨by omega, by omega, by simp [maxLen], ?_⟩
            exact up_next hrl ⟨by first | rfl | simp only [go_sem, Int.reduceLT, Int.reduceLE, Int.reduceToNat, Nat.reduceLT, eq_self, Int.toNat_zero, Int.toNat_one, Nat.reduceEqDiff, Nat.reduceAdd, Nat.reduceLeDiff, Nat.reduceSub, Nat.reduceMul, ↓reduceIte, reduceCtorEq, Nat.add_zero, Int.toNat_natCast, List.getElem?_map, Option.map_some, List.length_map, Int.cast_ofNat_Int, decide_true, decide_false], by (try simp only [go_sem, Int.reduceLT, Int.reduceLE, Int.reduceToNat, Nat.reduceLT, eq_self, Int.toNat_zero, Int.toNat_one, Nat.reduceEqDiff, Nat.reduceAdd, Nat.reduceLeDiff, Nat.reduceSub, Nat.reduceMul, ↓reduceIte, reduceCtorEq, Nat.add_zero, Int.toNat_natCast, List.getElem?_map, Option.map_some, List.length_map, Int.cast_ofNat_Int, decide_true, decide_false]); rfl⟩
          · simp only [go_sem, Int.reduceLT, Int.reduceLE, Int.reduceToNat, Nat.reduceLT, eq_self, Int.toNat_zero, Int.toNat_one, Nat.reduceEqDiff, Nat.reduceAdd, Nat.reduceLeDiff, Nat.reduceSub, Nat.reduceMul, ↓reduceIte, reduceCtorEq, Nat.add_zero, Int.toNat_natCast, List.getElem?_map, Option.map_some, List.length_map, Int.cast_ofNat_Int, decide_true, decide_false, h6]
            rw [show ls.flatten = [] from List.flatten_eq_nil_iff.2 hall]
            exact .nl 1
      · simp only [go_sem, Int.reduceLT, Int.reduceLE, Int.reduceToNat, Nat.reduceLT, eq_self, Int.toNat_zero, Int.toNat_one, Nat.reduceEqDiff, Nat.reduceAdd, Nat.reduceLeDiff, Nat.reduceSub, Nat.reduceMul, ↓reduceIte, reduceCtorEq, Nat.add_zero, Int.toNat_natCast, List.getElem?_map, Option.map_some, List.length_map, Int.cast_ofNat_Int, decide_true, decide_false, lls_length]
        refine awp_upF [6, 8, 27, 28, 29, 30, 31, 32, 33, 34] (by kernel_rfl) ls.length (fun r e σ => ∃ g, e 6 = .sl 0 g 1 0 (tot (ls.take r)) ∧ e 27 = .int .i64 r ∧ σ.ob 0 = some ⟨g, 1, 3, false, true, ints (ls.take r).flatten⟩) ?_ ?_
        · refine ⟨g, ?_⟩
          refine ⟨?_, ?_, ?_⟩ <;> simp [go_sem, tot, ints]
        · rintro r f ob c hr ⟨g, h6, h27, hob⟩
          simp only [go_sem, Int.reduceLT, Int.reduceLE, Int.reduceToNat, Nat.reduceLT, eq_self, Int.toNat_zero, Int.toNat_one, Nat.reduceEqDiff, Nat.reduceAdd, Nat.reduceLeDiff, Nat.reduceSub, Nat.reduceMul, ↓reduceIte, reduceCtorEq, Nat.add_zero, Int.toNat_natCast, List.getElem?_map, Option.map_some, List.length_map, Int.cast_ofNat_Int, decide_true, decide_false] at h6 h27 hob
          simp only [go_sem, Int.reduceLT, Int.reduceLE, Int.reduceToNat, Nat.reduceLT, eq_self, Int.toNat_zero, Int.toNat_one, Nat.reduceEqDiff, Nat.reduceAdd, Nat.reduceLeDiff, Nat.reduceSub, Nat.reduceMul, ↓reduceIte, reduceCtorEq, Nat.add_zero, Int.toNat_natCast, List.getElem?_map, Option.map_some, List.length_map, Int.cast_ofNat_Int, decide_true, decide_false, h6, h27]
          have hlen : (ls.take r).flatten.length = tot (ls.take r) := by simp [tot, List.length_flatten]
          refine cond_d (fun hlt => ?_) (fun hge => ?_)
          · have hrl : r < ls.length := by omega
            have ht := tot_take ls (r + 1)
            rw [take_snoc ls r hrl, tot_snoc] at ht
            simp (disch := omega) only [go_sem, Int.reduceLT, Int.reduceLE, Int.reduceToNat, Nat.reduceLT, eq_self, Int.toNat_zero, Int.toNat_one, Nat.reduceEqDiff, Nat.reduceAdd, Nat.reduceLeDiff, Nat.reduceSub, Nat.reduceMul, ↓reduceIte, reduceCtorEq, Nat.add_zero, Int.toNat_natCast, List.getElem?_map, Option.map_some, List.length_map, Int.cast_ofNat_Int, decide_true, decide_false, lls_length, lls_get, List.getElem?_eq_getElem hrl, ints_length, wrap_id, h6, h27, hob, hlen]
            refine ⟨by omega, by omega, by simp [maxLen]; omega, by omega, ?_⟩
            try simp (disch := omega) only [go_sem, Int.reduceLT, Int.reduceLE, Int.reduceToNat, Nat.reduceLT, eq_self, Int.toNat_zero, Int.toNat_one, Nat.reduceEqDiff, Nat.reduceAdd, Nat.reduceLeDiff, Nat.reduceSub, Nat.reduceMul, ↓reduceIte, reduceCtorEq, Nat.add_zero, Int.toNat_natCast, List.getElem?_map, Option.map_some, List.length_map, Int.cast_ofNat_Int, decide_true, decide_false, wrap_id, h27]
            refine up_next hrl ⟨_, by (try simp only [go_sem, Int.reduceLT, Int.reduceLE, Int.reduceToNat, Nat.reduceLT, eq_self, Int.toNat_zero, Int.toNat_one, Nat.reduceEqDiff, Nat.reduceAdd, Nat.reduceLeDiff, Nat.reduceSub, Nat.reduceMul, ↓reduceIte, reduceCtorEq, Nat.add_zero, Int.toNat_natCast, List.getElem?_map, Option.map_some, List.length_map, Int.cast_ofNat_Int, decide_true, decide_false]); rw [take_snoc ls r hrl, tot_snoc]; try rfl, (by first | ((try simp only [go_sem, Int.reduceLT, Int.reduceLE, Int.reduceToNat, Nat.reduceLT, eq_self, Int.toNat_zero, Int.toNat_one, Nat.reduceEqDiff, Nat.reduceAdd, Nat.reduceLeDiff, Nat.reduceSub, Nat.reduceMul, ↓reduceIte, reduceCtorEq, Nat.add_zero, Int.toNat_natCast, List.getElem?_map, Option.map_some, List.length_map, Int.cast_ofNat_Int, decide_true, decide_false]); done) | ((try simp only [go_sem, Int.reduceLT, Int.reduceLE, Int.reduceToNat, Nat.reduceLT, eq_self, Int.toNat_zero, Int.toNat_one, Nat.reduceEqDiff, Nat.reduceAdd, Nat.reduceLeDiff, Nat.reduceSub, Nat.reduceMul, ↓reduceIte, reduceCtorEq, Nat.add_zero, Int.toNat_natCast, List.getElem?_map, Option.map_some, List.length_map, Int.cast_ofNat_Int, decide_true, decide_false]); rfl)), ?_⟩
            simp only [go_sem, Int.reduceLT, Int.reduceLE, Int.reduceToNat, Nat.reduceLT, eq_self, Int.toNat_zero, Int.toNat_one, Nat.reduceEqDiff, Nat.reduceAdd, Nat.reduceLeDiff, Nat.reduceSub, Nat.reduceMul, ↓reduceIte, reduceCtorEq, Nat.add_zero, Int.toNat_natCast, List.getElem?_map, Option.map_some, List.length_map, Int.cast_ofNat_Int, decide_true, decide_false, ints_app, take_snoc ls r hrl, List.flatten_append, List.flatten_cons, List.flatten_nil, Nat.zero_lt_one]
          · have : r = ls.length := by omega
            subst this
            simp only [go_sem, Int.reduceLT, Int.reduceLE, Int.reduceToNat, Nat.reduceLT, eq_self, Int.toNat_zero, Int.toNat_one, Nat.reduceEqDiff, Nat.reduceAdd, Nat.reduceLeDiff, Nat.reduceSub, Nat.reduceMul, ↓reduceIte, reduceCtorEq, Nat.add_zero, Int.toNat_natCast, List.getElem?_map, Option.map_some, List.length_map, Int.cast_ofNat_Int, decide_true, decide_false, h6, List.take_length] at hlen hob ⊢
            exact Pub.of_sl hob (by simp [ints_length, hlen]) (ints_pur _) (ints_ok _)
def okFl (l : List Int) : Prop := ∀ x ∈ l, 0 ≤ x ∧ x ≤ 1073741824
def lastW (l : List Int) (w : Int) : List Int := l.drop (l.length - w.toNat)
def leastR (l : List Int) (w : Int) : Int × Bool := if w < 1 ∨ l = [] then (0, false) else (minS (lastW l w), true)
theorem lastW_ne {l : List Int} {w : Int} (hw : 1 ≤ w) (hl : l ≠ []) : lastW l w ≠ [] := by
  have := List.length_pos_iff.2 hl
  intro h
  have := congrArg List.length h
  simp [lastW] at this
  omega
theorem leastR_bd {l : List Int} {w : Int} (h : okFl l) : 0 ≤ (leastR l w).1 ∧ (leastR l w).1 ≤ 1073741824 := by
  unfold leastR
  split
  · simp
  · rename_i hh
    have hl : l ≠ [] := fun h => hh (.inr h)
    exact h _ (List.mem_of_mem_drop (minS_mem _ (lastW_ne (by omega) hl)))
def riseS (l : List Int) (w f : Int) : Int := if (leastR l w).2 then max 0 (f - (leastR l w).1) else 0
theorem riseS_bd {l : List Int} {w f : Int} (h : okFl l) (hf : 0 ≤ f ∧ f ≤ 1073741824) : 0 ≤ riseS l w f ∧ riseS l w f ≤ 1073741824 := by
  have := leastR_bd (w := w) h
  unfold riseS; split <;> omega
def roomS (l : List Int) (w k : Int) : Int := if (leastR l w).2 then min 1073741824 ((leastR l w).1 + k) else 1073741824
def firstGo (w k : Int) : Nat → List Int → List Int → Int × Bool
  | _, _, [] => (0, false)
  | i, p, x :: r => if k < riseS p w x then (i, true) else firstGo w k (i + 1) (p ++ [x]) r
def worstGo (w : Int) : Int → List Int → List Int → Int
  | m, _, [] => m
  | m, p, x :: r => worstGo w (max m (riseS p w x)) (p ++ [x]) r
def pathL (p : List Int) (w k t : Int) (n : Nat) : List Int := runS (fun L => L ++ [min t (roomS L w k)]) p n
theorem pathL_length (p : List Int) (w k t : Int) (n : Nat) : (pathL p w k t n).length = p.length + n := by
  induction n with
  | zero => rfl
  | succ n ih => simp only [pathL, runS] at ih ⊢; simp [ih]; omega
theorem pathL_pre (p : List Int) (w k t : Int) (n : Nat) : p <+: pathL p w k t n := by
  induction n with
  | zero => exact List.prefix_refl _
  | succ n ih => simp only [pathL, runS] at ih ⊢; exact ih.trans (List.prefix_append _ _)
theorem roomS_bd {l : List Int} {w k : Int} (h : okFl l) (hk : 0 ≤ k) : 0 ≤ roomS l w k ∧ roomS l w k ≤ 1073741824 := by
  have := leastR_bd (w := w) h
  unfold roomS; split <;> omega
theorem pathL_ok {p : List Int} {w k t : Int} (h : okFl p) (hk : 0 ≤ k) (ht : 0 ≤ t ∧ t ≤ 1073741824) (n : Nat) : okFl (pathL p w k t n) := by
  induction n with
  | zero => exact h
  | succ n ih =>
    simp only [pathL, runS] at ih ⊢
    intro x hx
    rcases List.mem_append.1 hx with hx | hx
    · exact ih x hx
    · simp at hx; subst hx; have := roomS_bd (w := w) ih hk; omega
def rpathR (p : List Int) (w k t s : Int) : List Int × Int :=
  if t < 0 ∨ 1073741824 < t ∨ k < 0 ∨ 1073741824 < k then ([], 1) else if s < 0 ∨ 400 < s then ([], 10) else ((pathL p w k t s.toNat).drop p.length, 0)
theorem take_app {α : Type} (a b : List α) (r : Nat) : (a ++ b).take (a.length + r) = a ++ b.take r := by rw [List.take_append, List.take_of_length_le (by omega)]; congr 2; omega
theorem okFl_app {a b : List Int} (ha : okFl a) (hb : okFl b) : okFl (a ++ b) := fun x hx => (List.mem_append.1 hx).elim (ha x) (hb x)
theorem okFl_take {a : List Int} (ha : okFl a) (k : Nat) : okFl (a.take k) := fun x hx => ha x (List.mem_of_mem_take hx)
theorem ok_rise_least (l : List Int) (w : Int) (hl : l.length ≤ 4611686018427387904) (hw : w ≤ 9223372036854775807) : PC prog n_rise_least [.list 1 (ints l), .int .i64 w] (.tuple [.int .i64 (leastR l w).1, .bool (leastR l w).2]) := by
  refine PC_of_body b_rise_least (by simp) ?_
  simp only [c_rise_least, go_sem, Int.reduceLT, Int.reduceLE, Int.reduceToNat, Nat.reduceLT, eq_self, Int.toNat_zero, Int.toNat_one, Nat.reduceEqDiff, Nat.reduceAdd, Nat.reduceLeDiff, Nat.reduceSub, Nat.reduceMul, ↓reduceIte, reduceCtorEq, Nat.add_zero, Int.toNat_natCast, List.getElem?_map, Option.map_some, List.length_map, Int.cast_ofNat_Int, decide_true, decide_false, ints_length]
  refine gd_fd rfl (fun h => ?_) (fun h => ?_) <;> simp only [go_sem, Int.reduceLT, Int.reduceLE, Int.reduceToNat, Nat.reduceLT, eq_self, Int.toNat_zero, Int.toNat_one, Nat.reduceEqDiff, Nat.reduceAdd, Nat.reduceLeDiff, Nat.reduceSub, Nat.reduceMul, ↓reduceIte, reduceCtorEq, Nat.add_zero, Int.toNat_natCast, List.getElem?_map, Option.map_some, List.length_map, Int.cast_ofNat_Int, decide_true, decide_false, ints_length]
  · rw [show leastR l w = (0, false) by unfold leastR; rw [if_pos (.inl h)]]
    exact Pub.of_eq rfl (by simp [go_sem, AV.pur])
  refine cond_d (fun h0 => ?_) (fun h0 => ?_) <;> simp only [go_sem, Int.reduceLT, Int.reduceLE, Int.reduceToNat, Nat.reduceLT, eq_self, Int.toNat_zero, Int.toNat_one, Nat.reduceEqDiff, Nat.reduceAdd, Nat.reduceLeDiff, Nat.reduceSub, Nat.reduceMul, ↓reduceIte, reduceCtorEq, Nat.add_zero, Int.toNat_natCast, List.getElem?_map, Option.map_some, List.length_map, Int.cast_ofNat_Int, decide_true, decide_false, ints_length]
  · have : l = [] := List.eq_nil_of_length_eq_zero (by omega)
    rw [show leastR l w = (0, false) by unfold leastR; rw [if_pos (.inr this)]]
    exact Pub.of_eq rfl (by simp [go_sem, AV.pur])
  have hne : l ≠ [] := fun h => h0 (by rw [h]; rfl)
  simp (disch := omega) only [go_sem, Int.reduceLT, Int.reduceLE, Int.reduceToNat, Nat.reduceLT, eq_self, Int.toNat_zero, Int.toNat_one, Nat.reduceEqDiff, Nat.reduceAdd, Nat.reduceLeDiff, Nat.reduceSub, Nat.reduceMul, ↓reduceIte, reduceCtorEq, Nat.add_zero, Int.toNat_natCast, List.getElem?_map, Option.map_some, List.length_map, Int.cast_ofNat_Int, decide_true, decide_false, wrap_id, ints_length, ints_drop]
  refine ⟨by omega, by omega, ?_⟩
  rw [show (max 0 ((l.length : Int) - w)).toNat = l.length - w.toNat by omega]
  refine call_pc (ok_slices_Min__int (lastW l w) (by simp [lastW]; omega) (lastW_ne (by omega) hne)) (by simp [go_sem]) ?_
  try simp only [go_sem, Int.reduceLT, Int.reduceLE, Int.reduceToNat, Nat.reduceLT, eq_self, Int.toNat_zero, Int.toNat_one, Nat.reduceEqDiff, Nat.reduceAdd, Nat.reduceLeDiff, Nat.reduceSub, Nat.reduceMul, ↓reduceIte, reduceCtorEq, Nat.add_zero, Int.toNat_natCast, List.getElem?_map, Option.map_some, List.length_map, Int.cast_ofNat_Int, decide_true, decide_false]
  rw [show leastR l w = (minS (lastW l w), true) by unfold leastR; rw [if_neg (by rintro (h | h); omega; exact hne h)]]
  exact Pub.of_eq rfl (by simp [go_sem, AV.pur])
theorem ok_ref35_least (l : List Int) (w : Int) (hl : l.length ≤ 4611686018427387904) (hw : w ≤ 9223372036854775807) : PC prog n_ref35_least [.list 1 (ints l), .int .i64 w] (.tuple [.int .i64 (leastR l w).1, .bool (leastR l w).2]) := by
  refine PC_of_body b_ref35_least (by simp) ?_
  simp only [c_ref35_least, go_sem, Int.reduceLT, Int.reduceLE, Int.reduceToNat, Nat.reduceLT, eq_self, Int.toNat_zero, Int.toNat_one, Nat.reduceEqDiff, Nat.reduceAdd, Nat.reduceLeDiff, Nat.reduceSub, Nat.reduceMul, ↓reduceIte, reduceCtorEq, Nat.add_zero, Int.toNat_natCast, List.getElem?_map, Option.map_some, List.length_map, Int.cast_ofNat_Int, decide_true, decide_false, ints_length]
  refine gd_fd rfl (fun h => ?_) (fun h => ?_) <;> simp only [go_sem, Int.reduceLT, Int.reduceLE, Int.reduceToNat, Nat.reduceLT, eq_self, Int.toNat_zero, Int.toNat_one, Nat.reduceEqDiff, Nat.reduceAdd, Nat.reduceLeDiff, Nat.reduceSub, Nat.reduceMul, ↓reduceIte, reduceCtorEq, Nat.add_zero, Int.toNat_natCast, List.getElem?_map, Option.map_some, List.length_map, Int.cast_ofNat_Int, decide_true, decide_false, ints_length]
  · rw [show leastR l w = (0, false) by unfold leastR; rw [if_pos (.inl h)]]
    exact Pub.of_eq rfl (by simp [go_sem, AV.pur])
  refine cond_d (fun h0 => ?_) (fun h0 => ?_) <;> simp only [go_sem, Int.reduceLT, Int.reduceLE, Int.reduceToNat, Nat.reduceLT, eq_self, Int.toNat_zero, Int.toNat_one, Nat.reduceEqDiff, Nat.reduceAdd, Nat.reduceLeDiff, Nat.reduceSub, Nat.reduceMul, ↓reduceIte, reduceCtorEq, Nat.add_zero, Int.toNat_natCast, List.getElem?_map, Option.map_some, List.length_map, Int.cast_ofNat_Int, decide_true, decide_false, ints_length]
  · have : l = [] := List.eq_nil_of_length_eq_zero (by omega)
    rw [show leastR l w = (0, false) by unfold leastR; rw [if_pos (.inr this)]]
    exact Pub.of_eq rfl (by simp [go_sem, AV.pur])
  have hne : l ≠ [] := fun h => h0 (by rw [h]; rfl)
  have hp := List.length_pos_iff.2 hne
  have hgl : l.length - 1 < l.length := by omega
  simp (disch := omega) only [go_sem, Int.reduceLT, Int.reduceLE, Int.reduceToNat, Nat.reduceLT, eq_self, Int.toNat_zero, Int.toNat_one, Nat.reduceEqDiff, Nat.reduceAdd, Nat.reduceLeDiff, Nat.reduceSub, Nat.reduceMul, ↓reduceIte, reduceCtorEq, Nat.add_zero, Int.toNat_natCast, List.getElem?_map, Option.map_some, List.length_map, Int.cast_ofNat_Int, decide_true, decide_false, wrap_id, ints_length, ints_get, show ((l.length : Int) - 1).toNat = l.length - 1 by omega, List.getElem?_eq_getElem hgl]
  refine ⟨by omega, by omega, ?_⟩
  have hres : leastR l w = (minS (lastW l w), true) := by unfold leastR; rw [if_neg (by rintro (h | h); omega; exact hne h)]
  refine awp_upF [6, 7, 21, 22, 23, 24, 25, 26, 27, 28, 29, 30, 31, 32, 33, 34, 35, 36, 37, 38, 39, 40] (by kernel_rfl) (min w.toNat l.length) (fun r e _ => e 6 = .int .i64 (minS (l.drop (l.length - max r 1))) ∧ e 7 = .int .i64 ((r : Int) + 1)) ?_ ?_
  · refine ⟨?_, ?_⟩
    · try simp only [go_sem, Int.reduceLT, Int.reduceLE, Int.reduceToNat, Nat.reduceLT, eq_self, Int.toNat_zero, Int.toNat_one, Nat.reduceEqDiff, Nat.reduceAdd, Nat.reduceLeDiff, Nat.reduceSub, Nat.reduceMul, ↓reduceIte, reduceCtorEq, Nat.add_zero, Int.toNat_natCast, List.getElem?_map, Option.map_some, List.length_map, Int.cast_ofNat_Int, decide_true, decide_false]
      rw [show l.length - max 0 1 = l.length - 1 by omega, List.drop_eq_getElem_cons hgl, List.drop_of_length_le (by omega)]
      rfl
    · simp [go_sem]
  · rintro r f ob c hr ⟨h6, h7⟩
    simp only [go_sem, Int.reduceLT, Int.reduceLE, Int.reduceToNat, Nat.reduceLT, eq_self, Int.toNat_zero, Int.toNat_one, Nat.reduceEqDiff, Nat.reduceAdd, Nat.reduceLeDiff, Nat.reduceSub, Nat.reduceMul, ↓reduceIte, reduceCtorEq, Nat.add_zero, Int.toNat_natCast, List.getElem?_map, Option.map_some, List.length_map, Int.cast_ofNat_Int, decide_true, decide_false] at h6 h7
    simp only [go_sem, Int.reduceLT, Int.reduceLE, Int.reduceToNat, Nat.reduceLT, eq_self, Int.toNat_zero, Int.toNat_one, Nat.reduceEqDiff, Nat.reduceAdd, Nat.reduceLeDiff, Nat.reduceSub, Nat.reduceMul, ↓reduceIte, reduceCtorEq, Nat.add_zero, Int.toNat_natCast, List.getElem?_map, Option.map_some, List.length_map, Int.cast_ofNat_Int, decide_true, decide_false, h6, h7, ints_length]
    refine gd_td rfl (fun h1 => ?_) (fun h1 => ?_) <;> simp only [go_sem, Int.reduceLT, Int.reduceLE, Int.reduceToNat, Nat.reduceLT, eq_self, Int.toNat_zero, Int.toNat_one, Nat.reduceEqDiff, Nat.reduceAdd, Nat.reduceLeDiff, Nat.reduceSub, Nat.reduceMul, ↓reduceIte, reduceCtorEq, Nat.add_zero, Int.toNat_natCast, List.getElem?_map, Option.map_some, List.length_map, Int.cast_ofNat_Int, decide_true, decide_false, ints_length, h6, h7]
    · refine cond_d (fun h2 => ?_) (fun h2 => ?_) <;> simp only [go_sem, Int.reduceLT, Int.reduceLE, Int.reduceToNat, Nat.reduceLT, eq_self, Int.toNat_zero, Int.toNat_one, Nat.reduceEqDiff, Nat.reduceAdd, Nat.reduceLeDiff, Nat.reduceSub, Nat.reduceMul, ↓reduceIte, reduceCtorEq, Nat.add_zero, Int.toNat_natCast, List.getElem?_map, Option.map_some, List.length_map, Int.cast_ofNat_Int, decide_true, decide_false, ints_length, h6, h7]
      · have hk : l.length - (r + 1) < l.length := by omega
        simp (disch := omega) only [go_sem, Int.reduceLT, Int.reduceLE, Int.reduceToNat, Nat.reduceLT, eq_self, Int.toNat_zero, Int.toNat_one, Nat.reduceEqDiff, Nat.reduceAdd, Nat.reduceLeDiff, Nat.reduceSub, Nat.reduceMul, ↓reduceIte, reduceCtorEq, Nat.add_zero, Int.toNat_natCast, List.getElem?_map, Option.map_some, List.length_map, Int.cast_ofNat_Int, decide_true, decide_false, wrap_id, ints_length, ints_get, h6, h7, show ((l.length : Int) - ((r : Int) + 1)).toNat = l.length - (r + 1) by omega, List.getElem?_eq_getElem hk]
        refine ⟨by omega, by omega, up_next (by omega) ⟨?_, by (try simp only [go_sem, Int.reduceLT, Int.reduceLE, Int.reduceToNat, Nat.reduceLT, eq_self, Int.toNat_zero, Int.toNat_one, Nat.reduceEqDiff, Nat.reduceAdd, Nat.reduceLeDiff, Nat.reduceSub, Nat.reduceMul, ↓reduceIte, reduceCtorEq, Nat.add_zero, Int.toNat_natCast, List.getElem?_map, Option.map_some, List.length_map, Int.cast_ofNat_Int, decide_true, decide_false]); rfl⟩⟩
        try simp only [go_sem, Int.reduceLT, Int.reduceLE, Int.reduceToNat, Nat.reduceLT, eq_self, Int.toNat_zero, Int.toNat_one, Nat.reduceEqDiff, Nat.reduceAdd, Nat.reduceLeDiff, Nat.reduceSub, Nat.reduceMul, ↓reduceIte, reduceCtorEq, Nat.add_zero, Int.toNat_natCast, List.getElem?_map, Option.map_some, List.length_map, Int.cast_ofNat_Int, decide_true, decide_false]
        rw [show max (r + 1) 1 = r + 1 by omega, List.drop_eq_getElem_cons hk, show l.length - (r + 1) + 1 = l.length - r by omega]
        by_cases hr0 : r = 0
        · subst hr0
          rw [show l.length - max 0 1 = l.length - 1 by omega, List.drop_of_length_le (by omega : l.length ≤ l.length - 0), List.drop_eq_getElem_cons hgl, List.drop_of_length_le (by omega)]
          simp [minS]
        · rw [show max r 1 = r by omega, minS_cons _ _ (by intro h; have := congrArg List.length h; simp at this; omega)]
          congr 1; omega
      · have hrr : max r 1 = max (min w.toNat l.length) 1 := by omega
        rw [hres]
        refine Pub.of_eq ?_ (by simp [go_sem, AV.pur])
        simp only [lastW]
        rw [show l.length - max r 1 = l.length - w.toNat by omega]
    · rw [hres]
      refine Pub.of_eq ?_ (by simp [go_sem, AV.pur])
      simp only [lastW]
      rw [show l.length - max r 1 = l.length - w.toNat by omega]
theorem ok_rise_Rise (l : List Int) (w f : Int) (hl : l.length ≤ 4611686018427387904) (hw : w ≤ 9223372036854775807) (hfl : okFl l) (hf : 0 ≤ f ∧ f ≤ 1073741824) : PC prog n_rise_Rise [.list 1 (ints l), .int .i64 w, .int .i64 f] (.int .i64 (riseS l w f)) := by
  refine PC_of_body b_rise_Rise (by simp) ?_
  simp only [c_rise_Rise, go_sem, Int.reduceLT, Int.reduceLE, Int.reduceToNat, Nat.reduceLT, eq_self, Int.toNat_zero, Int.toNat_one, Nat.reduceEqDiff, Nat.reduceAdd, Nat.reduceLeDiff, Nat.reduceSub, Nat.reduceMul, ↓reduceIte, reduceCtorEq, Nat.add_zero, Int.toNat_natCast, List.getElem?_map, Option.map_some, List.length_map, Int.cast_ofNat_Int, decide_true, decide_false]
  refine call_pc (ok_rise_least l w hl hw) (by simp [go_sem]) ?_
  have hb := leastR_bd (w := w) hfl
  unfold riseS
  generalize leastR l w = x at *
  obtain ⟨x, ok⟩ := x
  cases ok with
  | false =>
    try simp only [go_sem, Int.reduceLT, Int.reduceLE, Int.reduceToNat, Nat.reduceLT, eq_self, Int.toNat_zero, Int.toNat_one, Nat.reduceEqDiff, Nat.reduceAdd, Nat.reduceLeDiff, Nat.reduceSub, Nat.reduceMul, ↓reduceIte, reduceCtorEq, Nat.add_zero, Int.toNat_natCast, List.getElem?_map, Option.map_some, List.length_map, Int.cast_ofNat_Int, decide_true, decide_false]
    exact Pub.of_eq (by simp) rfl
  | true =>
    try simp only [go_sem, Int.reduceLT, Int.reduceLE, Int.reduceToNat, Nat.reduceLT, eq_self, Int.toNat_zero, Int.toNat_one, Nat.reduceEqDiff, Nat.reduceAdd, Nat.reduceLeDiff, Nat.reduceSub, Nat.reduceMul, ↓reduceIte, reduceCtorEq, Nat.add_zero, Int.toNat_natCast, List.getElem?_map, Option.map_some, List.length_map, Int.cast_ofNat_Int, decide_true, decide_false]
    refine cond_d (fun h => ?_) (fun h => ?_) <;> simp (disch := omega) only [go_sem, Int.reduceLT, Int.reduceLE, Int.reduceToNat, Nat.reduceLT, eq_self, Int.toNat_zero, Int.toNat_one, Nat.reduceEqDiff, Nat.reduceAdd, Nat.reduceLeDiff, Nat.reduceSub, Nat.reduceMul, ↓reduceIte, reduceCtorEq, Nat.add_zero, Int.toNat_natCast, List.getElem?_map, Option.map_some, List.length_map, Int.cast_ofNat_Int, decide_true, decide_false, wrap_id]
    · exact Pub.of_eq (by simp only [if_true, AV.int.injEq, true_and]; omega) rfl
    · exact Pub.of_eq (by simp only [if_true, AV.int.injEq, true_and]; omega) rfl
theorem ok_ref35_Rise (l : List Int) (w f : Int) (hl : l.length ≤ 4611686018427387904) (hw : w ≤ 9223372036854775807) (hfl : okFl l) (hf : 0 ≤ f ∧ f ≤ 1073741824) : PC prog n_ref35_Rise [.list 1 (ints l), .int .i64 w, .int .i64 f] (.int .i64 (riseS l w f)) := by
  refine PC_of_body b_ref35_Rise (by simp) ?_
  simp only [c_ref35_Rise, go_sem, Int.reduceLT, Int.reduceLE, Int.reduceToNat, Nat.reduceLT, eq_self, Int.toNat_zero, Int.toNat_one, Nat.reduceEqDiff, Nat.reduceAdd, Nat.reduceLeDiff, Nat.reduceSub, Nat.reduceMul, ↓reduceIte, reduceCtorEq, Nat.add_zero, Int.toNat_natCast, List.getElem?_map, Option.map_some, List.length_map, Int.cast_ofNat_Int, decide_true, decide_false]
  refine call_pc (ok_ref35_least l w hl hw) (by simp [go_sem]) ?_
  have hb := leastR_bd (w := w) hfl
  unfold riseS
  generalize leastR l w = x at *
  obtain ⟨x, ok⟩ := x
  cases ok with
  | false =>
    try simp only [go_sem, Int.reduceLT, Int.reduceLE, Int.reduceToNat, Nat.reduceLT, eq_self, Int.toNat_zero, Int.toNat_one, Nat.reduceEqDiff, Nat.reduceAdd, Nat.reduceLeDiff, Nat.reduceSub, Nat.reduceMul, ↓reduceIte, reduceCtorEq, Nat.add_zero, Int.toNat_natCast, List.getElem?_map, Option.map_some, List.length_map, Int.cast_ofNat_Int, decide_true, decide_false]
    exact Pub.of_eq (by simp) rfl
  | true =>
    simp (disch := omega) only [go_sem, Int.reduceLT, Int.reduceLE, Int.reduceToNat, Nat.reduceLT, eq_self, Int.toNat_zero, Int.toNat_one, Nat.reduceEqDiff, Nat.reduceAdd, Nat.reduceLeDiff, Nat.reduceSub, Nat.reduceMul, ↓reduceIte, reduceCtorEq, Nat.add_zero, Int.toNat_natCast, List.getElem?_map, Option.map_some, List.length_map, Int.cast_ofNat_Int, decide_true, decide_false, wrap_id]
    exact Pub.of_eq (by simp) rfl
theorem ok_rise_Room (l : List Int) (w k : Int) (hl : l.length ≤ 4611686018427387904) (hw : w ≤ 9223372036854775807) (hfl : okFl l) (hk : 0 ≤ k ∧ k ≤ 1073741824) : PC prog n_rise_Room [.list 1 (ints l), .int .i64 w, .int .i64 k] (.int .i64 (roomS l w k)) := by
  refine PC_of_body b_rise_Room (by simp) ?_
  simp only [c_rise_Room, go_sem, Int.reduceLT, Int.reduceLE, Int.reduceToNat, Nat.reduceLT, eq_self, Int.toNat_zero, Int.toNat_one, Nat.reduceEqDiff, Nat.reduceAdd, Nat.reduceLeDiff, Nat.reduceSub, Nat.reduceMul, ↓reduceIte, reduceCtorEq, Nat.add_zero, Int.toNat_natCast, List.getElem?_map, Option.map_some, List.length_map, Int.cast_ofNat_Int, decide_true, decide_false]
  refine call_pc (ok_rise_least l w hl hw) (by simp [go_sem]) ?_
  have hb := leastR_bd (w := w) hfl
  unfold roomS
  generalize leastR l w = x at *
  obtain ⟨x, ok⟩ := x
  cases ok with
  | false => (try simp only [go_sem, Int.reduceLT, Int.reduceLE, Int.reduceToNat, Nat.reduceLT, eq_self, Int.toNat_zero, Int.toNat_one, Nat.reduceEqDiff, Nat.reduceAdd, Nat.reduceLeDiff, Nat.reduceSub, Nat.reduceMul, ↓reduceIte, reduceCtorEq, Nat.add_zero, Int.toNat_natCast, List.getElem?_map, Option.map_some, List.length_map, Int.cast_ofNat_Int, decide_true, decide_false]); exact Pub.of_eq (by simp) rfl
  | true => simp (disch := omega) only [go_sem, Int.reduceLT, Int.reduceLE, Int.reduceToNat, Nat.reduceLT, eq_self, Int.toNat_zero, Int.toNat_one, Nat.reduceEqDiff, Nat.reduceAdd, Nat.reduceLeDiff, Nat.reduceSub, Nat.reduceMul, ↓reduceIte, reduceCtorEq, Nat.add_zero, Int.toNat_natCast, List.getElem?_map, Option.map_some, List.length_map, Int.cast_ofNat_Int, decide_true, decide_false, wrap_id]; exact Pub.of_eq (by simp) rfl
theorem ok_ref35_Room (l : List Int) (w k : Int) (hl : l.length ≤ 4611686018427387904) (hw : w ≤ 9223372036854775807) (hfl : okFl l) (hk : 0 ≤ k ∧ k ≤ 1073741824) : PC prog n_ref35_Room [.list 1 (ints l), .int .i64 w, .int .i64 k] (.int .i64 (roomS l w k)) := by
  refine PC_of_body b_ref35_Room (by simp) ?_
  simp only [c_ref35_Room, go_sem, Int.reduceLT, Int.reduceLE, Int.reduceToNat, Nat.reduceLT, eq_self, Int.toNat_zero, Int.toNat_one, Nat.reduceEqDiff, Nat.reduceAdd, Nat.reduceLeDiff, Nat.reduceSub, Nat.reduceMul, ↓reduceIte, reduceCtorEq, Nat.add_zero, Int.toNat_natCast, List.getElem?_map, Option.map_some, List.length_map, Int.cast_ofNat_Int, decide_true, decide_false]
  refine call_pc (ok_ref35_least l w hl hw) (by simp [go_sem]) ?_
  have hb := leastR_bd (w := w) hfl
  unfold roomS
  generalize leastR l w = x at *
  obtain ⟨x, ok⟩ := x
  cases ok with
  | false => (try simp only [go_sem, Int.reduceLT, Int.reduceLE, Int.reduceToNat, Nat.reduceLT, eq_self, Int.toNat_zero, Int.toNat_one, Nat.reduceEqDiff, Nat.reduceAdd, Nat.reduceLeDiff, Nat.reduceSub, Nat.reduceMul, ↓reduceIte, reduceCtorEq, Nat.add_zero, Int.toNat_natCast, List.getElem?_map, Option.map_some, List.length_map, Int.cast_ofNat_Int, decide_true, decide_false]); exact Pub.of_eq (by simp) rfl
  | true => simp (disch := omega) only [go_sem, Int.reduceLT, Int.reduceLE, Int.reduceToNat, Nat.reduceLT, eq_self, Int.toNat_zero, Int.toNat_one, Nat.reduceEqDiff, Nat.reduceAdd, Nat.reduceLeDiff, Nat.reduceSub, Nat.reduceMul, ↓reduceIte, reduceCtorEq, Nat.add_zero, Int.toNat_natCast, List.getElem?_map, Option.map_some, List.length_map, Int.cast_ofNat_Int, decide_true, decide_false, wrap_id]; exact Pub.of_eq (by simp) rfl
theorem concat2 (a b : List Int) : [AV.list 1 (ints a), AV.list 1 (ints b)] = lls [a, b] := rfl
theorem ok_rise_First (p n : List Int) (w k : Int) (hp : p.length + n.length ≤ 1000000) (hw : w ≤ 9223372036854775807) (h1 : okFl p) (h2 : okFl n) : PC prog n_rise_First [.list 1 (ints p), .list 1 (ints n), .int .i64 w, .int .i64 k] (.tuple [.int .i64 (firstGo w k 0 p n).1, .bool (firstGo w k 0 p n).2]) := by
  refine PC_of_body b_rise_First (by simp) ?_
  simp only [c_rise_First, go_sem, Int.reduceLT, Int.reduceLE, Int.reduceToNat, Nat.reduceLT, eq_self, Int.toNat_zero, Int.toNat_one, Nat.reduceEqDiff, Nat.reduceAdd, Nat.reduceLeDiff, Nat.reduceSub, Nat.reduceMul, ↓reduceIte, reduceCtorEq, Nat.add_zero, Int.toNat_natCast, List.getElem?_map, Option.map_some, List.length_map, Int.cast_ofNat_Int, decide_true, decide_false, concat2]
  refine ⟨by simp [go_sem, lls], call_pc (ok_slices_Concat__int [p, n] (by simp) (by simp [tot]; omega)) (by simp [go_sem]) ?_⟩
  simp only [go_sem, Int.reduceLT, Int.reduceLE, Int.reduceToNat, Nat.reduceLT, eq_self, Int.toNat_zero, Int.toNat_one, Nat.reduceEqDiff, Nat.reduceAdd, Nat.reduceLeDiff, Nat.reduceSub, Nat.reduceMul, ↓reduceIte, reduceCtorEq, Nat.add_zero, Int.toNat_natCast, List.getElem?_map, Option.map_some, List.length_map, Int.cast_ofNat_Int, decide_true, decide_false, ints_length, List.flatten_cons, List.flatten_nil]
  refine awp_upF [8, 9, 11, 12, 19, 20, 21, 22, 23, 24, 25, 26, 27, 28, 29, 30, 31, 32, 33, 34, 35, 36] (by kernel_rfl) n.length (fun r e _ => e 19 = .int .i64 r ∧ firstGo w k 0 p n = firstGo w k r (p ++ n.take r) (n.drop r)) ?_ ?_
  · refine ⟨by simp [go_sem], by simp⟩
  · rintro r f ob c hr ⟨h19, hgo⟩
    simp only [go_sem, Int.reduceLT, Int.reduceLE, Int.reduceToNat, Nat.reduceLT, eq_self, Int.toNat_zero, Int.toNat_one, Nat.reduceEqDiff, Nat.reduceAdd, Nat.reduceLeDiff, Nat.reduceSub, Nat.reduceMul, ↓reduceIte, reduceCtorEq, Nat.add_zero, Int.toNat_natCast, List.getElem?_map, Option.map_some, List.length_map, Int.cast_ofNat_Int, decide_true, decide_false] at h19
    simp only [go_sem, Int.reduceLT, Int.reduceLE, Int.reduceToNat, Nat.reduceLT, eq_self, Int.toNat_zero, Int.toNat_one, Nat.reduceEqDiff, Nat.reduceAdd, Nat.reduceLeDiff, Nat.reduceSub, Nat.reduceMul, ↓reduceIte, reduceCtorEq, Nat.add_zero, Int.toNat_natCast, List.getElem?_map, Option.map_some, List.length_map, Int.cast_ofNat_Int, decide_true, decide_false, h19]
    refine cond_d (fun hlt => ?_) (fun hge => ?_)
    · have hrl : r < n.length := by omega
      simp (disch := omega) only [go_sem, Int.reduceLT, Int.reduceLE, Int.reduceToNat, Nat.reduceLT, eq_self, Int.toNat_zero, Int.toNat_one, Nat.reduceEqDiff, Nat.reduceAdd, Nat.reduceLeDiff, Nat.reduceSub, Nat.reduceMul, ↓reduceIte, reduceCtorEq, Nat.add_zero, Int.toNat_natCast, List.getElem?_map, Option.map_some, List.length_map, Int.cast_ofNat_Int, decide_true, decide_false, ints_length, ints_get, List.getElem?_eq_getElem hrl, wrap_id, h19, ints_take, List.length_append, show ((p.length : Int) + r).toNat = p.length + r by omega, take_app]
      refine ⟨by omega, by omega, by omega, by omega, ?_⟩
      refine call_pc (ok_rise_Rise (p ++ n.take r) w n[r] (by simp; omega) hw (okFl_app h1 (okFl_take h2 r)) (h2 _ (List.getElem_mem hrl))) (by simp [go_sem]) ?_
      rw [List.drop_eq_getElem_cons hrl, firstGo] at hgo
      try simp only [go_sem, Int.reduceLT, Int.reduceLE, Int.reduceToNat, Nat.reduceLT, eq_self, Int.toNat_zero, Int.toNat_one, Nat.reduceEqDiff, Nat.reduceAdd, Nat.reduceLeDiff, Nat.reduceSub, Nat.reduceMul, ↓reduceIte, reduceCtorEq, Nat.add_zero, Int.toNat_natCast, List.getElem?_map, Option.map_some, List.length_map, Int.cast_ofNat_Int, decide_true, decide_false]
      refine cond_d (fun hh => ?_) (fun hh => ?_) <;> simp (disch := omega) only [go_sem, Int.reduceLT, Int.reduceLE, Int.reduceToNat, Nat.reduceLT, eq_self, Int.toNat_zero, Int.toNat_one, Nat.reduceEqDiff, Nat.reduceAdd, Nat.reduceLeDiff, Nat.reduceSub, Nat.reduceMul, ↓reduceIte, reduceCtorEq, Nat.add_zero, Int.toNat_natCast, List.getElem?_map, Option.map_some, List.length_map, Int.cast_ofNat_Int, decide_true, decide_false, wrap_id, h19]
      · rw [if_pos hh] at hgo
        rw [hgo]
        exact Pub.of_eq rfl (by simp [go_sem, AV.pur])
      · rw [if_neg hh] at hgo
        exact up_next hrl ⟨by (try simp only [go_sem, Int.reduceLT, Int.reduceLE, Int.reduceToNat, Nat.reduceLT, eq_self, Int.toNat_zero, Int.toNat_one, Nat.reduceEqDiff, Nat.reduceAdd, Nat.reduceLeDiff, Nat.reduceSub, Nat.reduceMul, ↓reduceIte, reduceCtorEq, Nat.add_zero, Int.toNat_natCast, List.getElem?_map, Option.map_some, List.length_map, Int.cast_ofNat_Int, decide_true, decide_false]); rfl, by rw [hgo, take_snoc n r hrl, List.append_assoc]⟩
    · try simp only [go_sem, Int.reduceLT, Int.reduceLE, Int.reduceToNat, Nat.reduceLT, eq_self, Int.toNat_zero, Int.toNat_one, Nat.reduceEqDiff, Nat.reduceAdd, Nat.reduceLeDiff, Nat.reduceSub, Nat.reduceMul, ↓reduceIte, reduceCtorEq, Nat.add_zero, Int.toNat_natCast, List.getElem?_map, Option.map_some, List.length_map, Int.cast_ofNat_Int, decide_true, decide_false]
      rw [hgo, List.drop_of_length_le (by omega)]
      exact Pub.of_eq rfl (by simp [go_sem, AV.pur])
theorem ok_ref35_First (p n : List Int) (w k : Int) (hp : p.length + n.length ≤ 1000000) (hw : w ≤ 9223372036854775807) (h1 : okFl p) (h2 : okFl n) : PC prog n_ref35_First [.list 1 (ints p), .list 1 (ints n), .int .i64 w, .int .i64 k] (.tuple [.int .i64 (firstGo w k 0 p n).1, .bool (firstGo w k 0 p n).2]) := by
  refine PC_of_body b_ref35_First (by simp) ?_
  simp only [c_ref35_First, go_sem, Int.reduceLT, Int.reduceLE, Int.reduceToNat, Nat.reduceLT, eq_self, Int.toNat_zero, Int.toNat_one, Nat.reduceEqDiff, Nat.reduceAdd, Nat.reduceLeDiff, Nat.reduceSub, Nat.reduceMul, ↓reduceIte, reduceCtorEq, Nat.add_zero, Int.toNat_natCast, List.getElem?_map, Option.map_some, List.length_map, Int.cast_ofNat_Int, decide_true, decide_false, ints_length]
  refine ⟨by simp [maxLen]; omega, by omega, ?_⟩
  refine awp_upF [8, 9, 10, 11, 12, 17, 18, 19, 20, 21, 22, 23, 24, 25, 26, 27, 28, 29, 30, 31, 32, 33] (by kernel_rfl) n.length (fun r e σ => ∃ g, e 10 = .sl 0 g 1 0 (p.length + r) ∧ e 17 = .int .i64 r ∧ σ.ob 0 = some ⟨g, 1, 3, false, true, ints (p ++ n.take r)⟩ ∧ firstGo w k 0 p n = firstGo w k r (p ++ n.take r) (n.drop r)) ?_ ?_
  · refine ⟨_, by simp only [go_sem, Int.reduceLT, Int.reduceLE, Int.reduceToNat, Nat.reduceLT, eq_self, Int.toNat_zero, Int.toNat_one, Nat.reduceEqDiff, Nat.reduceAdd, Nat.reduceLeDiff, Nat.reduceSub, Nat.reduceMul, ↓reduceIte, reduceCtorEq, Nat.add_zero, Int.toNat_natCast, List.getElem?_map, Option.map_some, List.length_map, Int.cast_ofNat_Int, decide_true, decide_false, ints_length]; rfl, by simp [go_sem], by simp [go_sem], by simp⟩
  · rintro r f ob c hr ⟨g, h10, h17, hob, hgo⟩
    simp only [go_sem, Int.reduceLT, Int.reduceLE, Int.reduceToNat, Nat.reduceLT, eq_self, Int.toNat_zero, Int.toNat_one, Nat.reduceEqDiff, Nat.reduceAdd, Nat.reduceLeDiff, Nat.reduceSub, Nat.reduceMul, ↓reduceIte, reduceCtorEq, Nat.add_zero, Int.toNat_natCast, List.getElem?_map, Option.map_some, List.length_map, Int.cast_ofNat_Int, decide_true, decide_false] at h10 h17 hob
    simp only [go_sem, Int.reduceLT, Int.reduceLE, Int.reduceToNat, Nat.reduceLT, eq_self, Int.toNat_zero, Int.toNat_one, Nat.reduceEqDiff, Nat.reduceAdd, Nat.reduceLeDiff, Nat.reduceSub, Nat.reduceMul, ↓reduceIte, reduceCtorEq, Nat.add_zero, Int.toNat_natCast, List.getElem?_map, Option.map_some, List.length_map, Int.cast_ofNat_Int, decide_true, decide_false, h10, h17]
    refine cond_d (fun hlt => ?_) (fun hge => ?_)
    · have hrl : r < n.length := by omega
      have hlen : (p ++ n.take r).length = p.length + r := by simp; omega
      simp (disch := omega) only [go_sem, Int.reduceLT, Int.reduceLE, Int.reduceToNat, Nat.reduceLT, eq_self, Int.toNat_zero, Int.toNat_one, Nat.reduceEqDiff, Nat.reduceAdd, Nat.reduceLeDiff, Nat.reduceSub, Nat.reduceMul, ↓reduceIte, reduceCtorEq, Nat.add_zero, Int.toNat_natCast, List.getElem?_map, Option.map_some, List.length_map, Int.cast_ofNat_Int, decide_true, decide_false, ints_length, ints_get, List.getElem?_eq_getElem hrl, wrap_id, h10, h17]
      refine ⟨by omega, by omega, ?_⟩
      refine call_lent (ok_ref35_Rise (p ++ n.take r) w n[r] (by simp; omega) hw (okFl_app h1 (okFl_take h2 r)) (h2 _ (List.getElem_mem hrl))) (.cons (Pub.of_sl hob (by rw [ints_length, hlen]) (ints_pur _) (ints_ok _)) (.cons (.pure rfl) (.cons (.pure rfl) .nil))) rfl ?_
      rw [List.drop_eq_getElem_cons hrl, firstGo] at hgo
      try simp only [go_sem, Int.reduceLT, Int.reduceLE, Int.reduceToNat, Nat.reduceLT, eq_self, Int.toNat_zero, Int.toNat_one, Nat.reduceEqDiff, Nat.reduceAdd, Nat.reduceLeDiff, Nat.reduceSub, Nat.reduceMul, ↓reduceIte, reduceCtorEq, Nat.add_zero, Int.toNat_natCast, List.getElem?_map, Option.map_some, List.length_map, Int.cast_ofNat_Int, decide_true, decide_false]
      refine cond_d (fun hh => ?_) (fun hh => ?_) <;> simp (disch := omega) only [go_sem, Int.reduceLT, Int.reduceLE, Int.reduceToNat, Nat.reduceLT, eq_self, Int.toNat_zero, Int.toNat_one, Nat.reduceEqDiff, Nat.reduceAdd, Nat.reduceLeDiff, Nat.reduceSub, Nat.reduceMul, ↓reduceIte, reduceCtorEq, Nat.add_zero, Int.toNat_natCast, List.getElem?_map, Option.map_some, List.length_map, Int.cast_ofNat_Int, decide_true, decide_false, wrap_id, h10, h17, hob]
      · rw [if_pos hh] at hgo
        rw [hgo]
        exact Pub.of_eq rfl (by simp [go_sem, AV.pur])
      · rw [if_neg hh] at hgo
        refine ⟨by rw [ints_length, hlen], by simp [maxLen]; omega, by omega, ?_⟩
        refine up_next hrl ⟨_, by (try simp only [go_sem, Int.reduceLT, Int.reduceLE, Int.reduceToNat, Nat.reduceLT, eq_self, Int.toNat_zero, Int.toNat_one, Nat.reduceEqDiff, Nat.reduceAdd, Nat.reduceLeDiff, Nat.reduceSub, Nat.reduceMul, ↓reduceIte, reduceCtorEq, Nat.add_zero, Int.toNat_natCast, List.getElem?_map, Option.map_some, List.length_map, Int.cast_ofNat_Int, decide_true, decide_false]); rfl, by (try simp only [go_sem, Int.reduceLT, Int.reduceLE, Int.reduceToNat, Nat.reduceLT, eq_self, Int.toNat_zero, Int.toNat_one, Nat.reduceEqDiff, Nat.reduceAdd, Nat.reduceLeDiff, Nat.reduceSub, Nat.reduceMul, ↓reduceIte, reduceCtorEq, Nat.add_zero, Int.toNat_natCast, List.getElem?_map, Option.map_some, List.length_map, Int.cast_ofNat_Int, decide_true, decide_false]); rfl, ?_, by rw [hgo, take_snoc n r hrl, List.append_assoc]⟩
        simp only [go_sem, Int.reduceLT, Int.reduceLE, Int.reduceToNat, Nat.reduceLT, eq_self, Int.toNat_zero, Int.toNat_one, Nat.reduceEqDiff, Nat.reduceAdd, Nat.reduceLeDiff, Nat.reduceSub, Nat.reduceMul, ↓reduceIte, reduceCtorEq, Nat.add_zero, Int.toNat_natCast, List.getElem?_map, Option.map_some, List.length_map, Int.cast_ofNat_Int, decide_true, decide_false, ints_snoc, take_snoc n r hrl, List.append_assoc, Nat.zero_lt_one]
    · try simp only [go_sem, Int.reduceLT, Int.reduceLE, Int.reduceToNat, Nat.reduceLT, eq_self, Int.toNat_zero, Int.toNat_one, Nat.reduceEqDiff, Nat.reduceAdd, Nat.reduceLeDiff, Nat.reduceSub, Nat.reduceMul, ↓reduceIte, reduceCtorEq, Nat.add_zero, Int.toNat_natCast, List.getElem?_map, Option.map_some, List.length_map, Int.cast_ofNat_Int, decide_true, decide_false]
      rw [hgo, List.drop_of_length_le (by omega)]
      exact Pub.of_eq rfl (by simp [go_sem, AV.pur])
theorem ok_rise_Worst (p n : List Int) (w : Int) (hp : p.length + n.length ≤ 1000000) (hw : w ≤ 9223372036854775807) (h1 : okFl p) (h2 : okFl n) : PC prog n_rise_Worst [.list 1 (ints p), .list 1 (ints n), .int .i64 w] (.int .i64 (worstGo w 0 p n)) := by
  refine PC_of_body b_rise_Worst (by simp) ?_
  simp only [c_rise_Worst, go_sem, Int.reduceLT, Int.reduceLE, Int.reduceToNat, Nat.reduceLT, eq_self, Int.toNat_zero, Int.toNat_one, Nat.reduceEqDiff, Nat.reduceAdd, Nat.reduceLeDiff, Nat.reduceSub, Nat.reduceMul, ↓reduceIte, reduceCtorEq, Nat.add_zero, Int.toNat_natCast, List.getElem?_map, Option.map_some, List.length_map, Int.cast_ofNat_Int, decide_true, decide_false, concat2]
  refine ⟨by simp [go_sem, lls], call_pc (ok_slices_Concat__int [p, n] (by simp) (by simp [tot]; omega)) (by simp [go_sem]) ?_⟩
  simp only [go_sem, Int.reduceLT, Int.reduceLE, Int.reduceToNat, Nat.reduceLT, eq_self, Int.toNat_zero, Int.toNat_one, Nat.reduceEqDiff, Nat.reduceAdd, Nat.reduceLeDiff, Nat.reduceSub, Nat.reduceMul, ↓reduceIte, reduceCtorEq, Nat.add_zero, Int.toNat_natCast, List.getElem?_map, Option.map_some, List.length_map, Int.cast_ofNat_Int, decide_true, decide_false, ints_length, List.flatten_cons, List.flatten_nil]
  refine awp_upF [8, 9, 10, 17, 18, 19, 20, 21, 22, 23, 24, 25, 26, 27, 28, 29, 30, 31, 32, 33] (by kernel_rfl) n.length (fun r e _ => ∃ m, e 8 = .int .i64 m ∧ e 17 = .int .i64 r ∧ worstGo w 0 p n = worstGo w m (p ++ n.take r) (n.drop r)) ?_ ?_
  · refine ⟨0, by simp [go_sem], by simp [go_sem], by simp⟩
  · rintro r f ob c hr ⟨m, h8, h17, hgo⟩
    simp only [go_sem, Int.reduceLT, Int.reduceLE, Int.reduceToNat, Nat.reduceLT, eq_self, Int.toNat_zero, Int.toNat_one, Nat.reduceEqDiff, Nat.reduceAdd, Nat.reduceLeDiff, Nat.reduceSub, Nat.reduceMul, ↓reduceIte, reduceCtorEq, Nat.add_zero, Int.toNat_natCast, List.getElem?_map, Option.map_some, List.length_map, Int.cast_ofNat_Int, decide_true, decide_false] at h8 h17
    simp only [go_sem, Int.reduceLT, Int.reduceLE, Int.reduceToNat, Nat.reduceLT, eq_self, Int.toNat_zero, Int.toNat_one, Nat.reduceEqDiff, Nat.reduceAdd, Nat.reduceLeDiff, Nat.reduceSub, Nat.reduceMul, ↓reduceIte, reduceCtorEq, Nat.add_zero, Int.toNat_natCast, List.getElem?_map, Option.map_some, List.length_map, Int.cast_ofNat_Int, decide_true, decide_false, h8, h17]
    refine cond_d (fun hlt => ?_) (fun hge => ?_)
    · have hrl : r < n.length := by omega
      simp (disch := omega) only [go_sem, Int.reduceLT, Int.reduceLE, Int.reduceToNat, Nat.reduceLT, eq_self, Int.toNat_zero, Int.toNat_one, Nat.reduceEqDiff, Nat.reduceAdd, Nat.reduceLeDiff, Nat.reduceSub, Nat.reduceMul, ↓reduceIte, reduceCtorEq, Nat.add_zero, Int.toNat_natCast, List.getElem?_map, Option.map_some, List.length_map, Int.cast_ofNat_Int, decide_true, decide_false, ints_length, ints_get, List.getElem?_eq_getElem hrl, wrap_id, h8, h17, ints_take, List.length_append, show ((p.length : Int) + r).toNat = p.length + r by omega, take_app]
      refine ⟨by omega, by omega, by omega, by omega, ?_⟩
      refine call_pc (ok_rise_Rise (p ++ n.take r) w n[r] (by simp; omega) hw (okFl_app h1 (okFl_take h2 r)) (h2 _ (List.getElem_mem hrl))) (by simp [go_sem]) ?_
      rw [List.drop_eq_getElem_cons hrl, worstGo] at hgo
      simp (disch := omega) only [go_sem, Int.reduceLT, Int.reduceLE, Int.reduceToNat, Nat.reduceLT, eq_self, Int.toNat_zero, Int.toNat_one, Nat.reduceEqDiff, Nat.reduceAdd, Nat.reduceLeDiff, Nat.reduceSub, Nat.reduceMul, ↓reduceIte, reduceCtorEq, Nat.add_zero, Int.toNat_natCast, List.getElem?_map, Option.map_some, List.length_map, Int.cast_ofNat_Int, decide_true, decide_false, wrap_id, h8, h17]
      exact up_next hrl ⟨max m (riseS (p ++ n.take r) w n[r]), (by first | ((try simp only [go_sem, Int.reduceLT, Int.reduceLE, Int.reduceToNat, Nat.reduceLT, eq_self, Int.toNat_zero, Int.toNat_one, Nat.reduceEqDiff, Nat.reduceAdd, Nat.reduceLeDiff, Nat.reduceSub, Nat.reduceMul, ↓reduceIte, reduceCtorEq, Nat.add_zero, Int.toNat_natCast, List.getElem?_map, Option.map_some, List.length_map, Int.cast_ofNat_Int, decide_true, decide_false]); done) | ((try simp only [go_sem, Int.reduceLT, Int.reduceLE, Int.reduceToNat, Nat.reduceLT, eq_self, Int.toNat_zero, Int.toNat_one, Nat.reduceEqDiff, Nat.reduceAdd, Nat.reduceLeDiff, Nat.reduceSub, Nat.reduceMul, ↓reduceIte, reduceCtorEq, Nat.add_zero, Int.toNat_natCast, List.getElem?_map, Option.map_some, List.length_map, Int.cast_ofNat_Int, decide_true, decide_false]); rfl)), (by first | ((try simp only [go_sem, Int.reduceLT, Int.reduceLE, Int.reduceToNat, Nat.reduceLT, eq_self, Int.toNat_zero, Int.toNat_one, Nat.reduceEqDiff, Nat.reduceAdd, Nat.reduceLeDiff, Nat.reduceSub, Nat.reduceMul, ↓reduceIte, reduceCtorEq, Nat.add_zero, Int.toNat_natCast, List.getElem?_map, Option.map_some, List.length_map, Int.cast_ofNat_Int, decide_true, decide_false]); done) | ((try simp only [go_sem, Int.reduceLT, Int.reduceLE, Int.reduceToNat, Nat.reduceLT, eq_self, Int.toNat_zero, Int.toNat_one, Nat.reduceEqDiff, Nat.reduceAdd, Nat.reduceLeDiff, Nat.reduceSub, Nat.reduceMul, ↓reduceIte, reduceCtorEq, Nat.add_zero, Int.toNat_natCast, List.getElem?_map, Option.map_some, List.length_map, Int.cast_ofNat_Int, decide_true, decide_false]); rfl)), by rw [hgo, take_snoc n r hrl, List.append_assoc]⟩
    · simp only [go_sem, Int.reduceLT, Int.reduceLE, Int.reduceToNat, Nat.reduceLT, eq_self, Int.toNat_zero, Int.toNat_one, Nat.reduceEqDiff, Nat.reduceAdd, Nat.reduceLeDiff, Nat.reduceSub, Nat.reduceMul, ↓reduceIte, reduceCtorEq, Nat.add_zero, Int.toNat_natCast, List.getElem?_map, Option.map_some, List.length_map, Int.cast_ofNat_Int, decide_true, decide_false, h8]
      rw [hgo, List.drop_of_length_le (by omega)]
      exact Pub.of_eq rfl rfl
theorem ok_ref35_Worst (p n : List Int) (w : Int) (hp : p.length + n.length ≤ 1000000) (hw : w ≤ 9223372036854775807) (h1 : okFl p) (h2 : okFl n) : PC prog n_ref35_Worst [.list 1 (ints p), .list 1 (ints n), .int .i64 w] (.int .i64 (worstGo w 0 p n)) := by
  refine PC_of_body b_ref35_Worst (by simp) ?_
  simp only [c_ref35_Worst, go_sem, Int.reduceLT, Int.reduceLE, Int.reduceToNat, Nat.reduceLT, eq_self, Int.toNat_zero, Int.toNat_one, Nat.reduceEqDiff, Nat.reduceAdd, Nat.reduceLeDiff, Nat.reduceSub, Nat.reduceMul, ↓reduceIte, reduceCtorEq, Nat.add_zero, Int.toNat_natCast, List.getElem?_map, Option.map_some, List.length_map, Int.cast_ofNat_Int, decide_true, decide_false, ints_length]
  refine ⟨by simp [maxLen]; omega, by omega, ?_⟩
  refine awp_upF [7, 8, 10, 15, 16, 17, 18, 19, 20, 21, 22, 23, 24, 25, 26, 27, 28, 29] (by kernel_rfl) n.length (fun r e σ => ∃ g m, e 7 = .sl 0 g 1 0 (p.length + r) ∧ e 8 = .int .i64 m ∧ e 15 = .int .i64 r ∧ σ.ob 0 = some ⟨g, 1, 3, false, true, ints (p ++ n.take r)⟩ ∧ worstGo w 0 p n = worstGo w m (p ++ n.take r) (n.drop r)) ?_ ?_
  · refine ⟨_, 0, by simp only [go_sem, Int.reduceLT, Int.reduceLE, Int.reduceToNat, Nat.reduceLT, eq_self, Int.toNat_zero, Int.toNat_one, Nat.reduceEqDiff, Nat.reduceAdd, Nat.reduceLeDiff, Nat.reduceSub, Nat.reduceMul, ↓reduceIte, reduceCtorEq, Nat.add_zero, Int.toNat_natCast, List.getElem?_map, Option.map_some, List.length_map, Int.cast_ofNat_Int, decide_true, decide_false, ints_length]; rfl, by simp [go_sem], by simp [go_sem], by simp [go_sem], by simp⟩
  · rintro r f ob c hr ⟨g, m, h7, h8, h15, hob, hgo⟩
    simp only [go_sem, Int.reduceLT, Int.reduceLE, Int.reduceToNat, Nat.reduceLT, eq_self, Int.toNat_zero, Int.toNat_one, Nat.reduceEqDiff, Nat.reduceAdd, Nat.reduceLeDiff, Nat.reduceSub, Nat.reduceMul, ↓reduceIte, reduceCtorEq, Nat.add_zero, Int.toNat_natCast, List.getElem?_map, Option.map_some, List.length_map, Int.cast_ofNat_Int, decide_true, decide_false] at h7 h8 h15 hob
    simp only [go_sem, Int.reduceLT, Int.reduceLE, Int.reduceToNat, Nat.reduceLT, eq_self, Int.toNat_zero, Int.toNat_one, Nat.reduceEqDiff, Nat.reduceAdd, Nat.reduceLeDiff, Nat.reduceSub, Nat.reduceMul, ↓reduceIte, reduceCtorEq, Nat.add_zero, Int.toNat_natCast, List.getElem?_map, Option.map_some, List.length_map, Int.cast_ofNat_Int, decide_true, decide_false, h7, h8, h15]
    refine cond_d (fun hlt => ?_) (fun hge => ?_)
    · have hrl : r < n.length := by omega
      have hlen : (p ++ n.take r).length = p.length + r := by simp; omega
      simp (disch := omega) only [go_sem, Int.reduceLT, Int.reduceLE, Int.reduceToNat, Nat.reduceLT, eq_self, Int.toNat_zero, Int.toNat_one, Nat.reduceEqDiff, Nat.reduceAdd, Nat.reduceLeDiff, Nat.reduceSub, Nat.reduceMul, ↓reduceIte, reduceCtorEq, Nat.add_zero, Int.toNat_natCast, List.getElem?_map, Option.map_some, List.length_map, Int.cast_ofNat_Int, decide_true, decide_false, ints_length, ints_get, List.getElem?_eq_getElem hrl, wrap_id, h7, h8, h15]
      refine ⟨by omega, by omega, ?_⟩
      refine call_lent (ok_ref35_Rise (p ++ n.take r) w n[r] (by simp; omega) hw (okFl_app h1 (okFl_take h2 r)) (h2 _ (List.getElem_mem hrl))) (.cons (Pub.of_sl hob (by rw [ints_length, hlen]) (ints_pur _) (ints_ok _)) (.cons (.pure rfl) (.cons (.pure rfl) .nil))) rfl ?_
      rw [List.drop_eq_getElem_cons hrl, worstGo] at hgo
      simp (disch := omega) only [go_sem, Int.reduceLT, Int.reduceLE, Int.reduceToNat, Nat.reduceLT, eq_self, Int.toNat_zero, Int.toNat_one, Nat.reduceEqDiff, Nat.reduceAdd, Nat.reduceLeDiff, Nat.reduceSub, Nat.reduceMul, ↓reduceIte, reduceCtorEq, Nat.add_zero, Int.toNat_natCast, List.getElem?_map, Option.map_some, List.length_map, Int.cast_ofNat_Int, decide_true, decide_false, wrap_id, h7, h8, h15, hob]
      refine ⟨by rw [ints_length, hlen], by simp [maxLen]; omega, by omega, ?_⟩
      refine up_next hrl ⟨_, max m (riseS (p ++ n.take r) w n[r]), (by first | ((try simp only [go_sem, Int.reduceLT, Int.reduceLE, Int.reduceToNat, Nat.reduceLT, eq_self, Int.toNat_zero, Int.toNat_one, Nat.reduceEqDiff, Nat.reduceAdd, Nat.reduceLeDiff, Nat.reduceSub, Nat.reduceMul, ↓reduceIte, reduceCtorEq, Nat.add_zero, Int.toNat_natCast, List.getElem?_map, Option.map_some, List.length_map, Int.cast_ofNat_Int, decide_true, decide_false]); done) | ((try simp only [go_sem, Int.reduceLT, Int.reduceLE, Int.reduceToNat, Nat.reduceLT, eq_self, Int.toNat_zero, Int.toNat_one, Nat.reduceEqDiff, Nat.reduceAdd, Nat.reduceLeDiff, Nat.reduceSub, Nat.reduceMul, ↓reduceIte, reduceCtorEq, Nat.add_zero, Int.toNat_natCast, List.getElem?_map, Option.map_some, List.length_map, Int.cast_ofNat_Int, decide_true, decide_false]); rfl)), (by first | ((try simp only [go_sem, Int.reduceLT, Int.reduceLE, Int.reduceToNat, Nat.reduceLT, eq_self, Int.toNat_zero, Int.toNat_one, Nat.reduceEqDiff, Nat.reduceAdd, Nat.reduceLeDiff, Nat.reduceSub, Nat.reduceMul, ↓reduceIte, reduceCtorEq, Nat.add_zero, Int.toNat_natCast, List.getElem?_map, Option.map_some, List.length_map, Int.cast_ofNat_Int, decide_true, decide_false]); done) | ((try simp only [go_sem, Int.reduceLT, Int.reduceLE, Int.reduceToNat, Nat.reduceLT, eq_self, Int.toNat_zero, Int.toNat_one, Nat.reduceEqDiff, Nat.reduceAdd, Nat.reduceLeDiff, Nat.reduceSub, Nat.reduceMul, ↓reduceIte, reduceCtorEq, Nat.add_zero, Int.toNat_natCast, List.getElem?_map, Option.map_some, List.length_map, Int.cast_ofNat_Int, decide_true, decide_false]); rfl)), (by first | ((try simp only [go_sem, Int.reduceLT, Int.reduceLE, Int.reduceToNat, Nat.reduceLT, eq_self, Int.toNat_zero, Int.toNat_one, Nat.reduceEqDiff, Nat.reduceAdd, Nat.reduceLeDiff, Nat.reduceSub, Nat.reduceMul, ↓reduceIte, reduceCtorEq, Nat.add_zero, Int.toNat_natCast, List.getElem?_map, Option.map_some, List.length_map, Int.cast_ofNat_Int, decide_true, decide_false]); done) | ((try simp only [go_sem, Int.reduceLT, Int.reduceLE, Int.reduceToNat, Nat.reduceLT, eq_self, Int.toNat_zero, Int.toNat_one, Nat.reduceEqDiff, Nat.reduceAdd, Nat.reduceLeDiff, Nat.reduceSub, Nat.reduceMul, ↓reduceIte, reduceCtorEq, Nat.add_zero, Int.toNat_natCast, List.getElem?_map, Option.map_some, List.length_map, Int.cast_ofNat_Int, decide_true, decide_false]); rfl)), ?_, by rw [hgo, take_snoc n r hrl, List.append_assoc]⟩
      simp only [go_sem, Int.reduceLT, Int.reduceLE, Int.reduceToNat, Nat.reduceLT, eq_self, Int.toNat_zero, Int.toNat_one, Nat.reduceEqDiff, Nat.reduceAdd, Nat.reduceLeDiff, Nat.reduceSub, Nat.reduceMul, ↓reduceIte, reduceCtorEq, Nat.add_zero, Int.toNat_natCast, List.getElem?_map, Option.map_some, List.length_map, Int.cast_ofNat_Int, decide_true, decide_false, ints_snoc, take_snoc n r hrl, List.append_assoc, Nat.zero_lt_one]
    · simp only [go_sem, Int.reduceLT, Int.reduceLE, Int.reduceToNat, Nat.reduceLT, eq_self, Int.toNat_zero, Int.toNat_one, Nat.reduceEqDiff, Nat.reduceAdd, Nat.reduceLeDiff, Nat.reduceSub, Nat.reduceMul, ↓reduceIte, reduceCtorEq, Nat.add_zero, Int.toNat_natCast, List.getElem?_map, Option.map_some, List.length_map, Int.cast_ofNat_Int, decide_true, decide_false, h8]
      rw [hgo, List.drop_of_length_le (by omega)]
      exact Pub.of_eq rfl rfl
theorem ok_rise_Path (p : List Int) (w k t s : Int) (hp : p.length ≤ 1000000) (hw : w ≤ 9223372036854775807) (h1 : okFl p) : PC prog n_rise_Path [.list 1 (ints p), .int .i64 w, .int .i64 k, .int .i64 t, .int .i64 s] (.tuple [.list 1 (ints (rpathR p w k t s).1), .int .i64 (rpathR p w k t s).2]) := by
  refine PC_of_body b_rise_Path (by simp) ?_
  simp only [c_rise_Path, go_sem, Int.reduceLT, Int.reduceLE, Int.reduceToNat, Nat.reduceLT, eq_self, Int.toNat_zero, Int.toNat_one, Nat.reduceEqDiff, Nat.reduceAdd, Nat.reduceLeDiff, Nat.reduceSub, Nat.reduceMul, ↓reduceIte, reduceCtorEq, Nat.add_zero, Int.toNat_natCast, List.getElem?_map, Option.map_some, List.length_map, Int.cast_ofNat_Int, decide_true, decide_false]
  by_cases ht : t < 0 ∨ 1073741824 < t ∨ k < 0 ∨ 1073741824 < k
  · rw [show rpathR p w k t s = ([], 1) by unfold rpathR; rw [if_pos ht]]
    refine gd_fd rfl (fun h => ?_) (fun h => ?_) <;> simp only [go_sem, Int.reduceLT, Int.reduceLE, Int.reduceToNat, Nat.reduceLT, eq_self, Int.toNat_zero, Int.toNat_one, Nat.reduceEqDiff, Nat.reduceAdd, Nat.reduceLeDiff, Nat.reduceSub, Nat.reduceMul, ↓reduceIte, reduceCtorEq, Nat.add_zero, Int.toNat_natCast, List.getElem?_map, Option.map_some, List.length_map, Int.cast_ofNat_Int, decide_true, decide_false]
    · exact Pub.pair (.nl 1) (.pure rfl)
    refine gd_fd rfl (fun h => ?_) (fun h => ?_) <;> simp only [go_sem, Int.reduceLT, Int.reduceLE, Int.reduceToNat, Nat.reduceLT, eq_self, Int.toNat_zero, Int.toNat_one, Nat.reduceEqDiff, Nat.reduceAdd, Nat.reduceLeDiff, Nat.reduceSub, Nat.reduceMul, ↓reduceIte, reduceCtorEq, Nat.add_zero, Int.toNat_natCast, List.getElem?_map, Option.map_some, List.length_map, Int.cast_ofNat_Int, decide_true, decide_false]
    · exact Pub.pair (.nl 1) (.pure rfl)
    refine gd_fd rfl (fun h => ?_) (fun h => ?_) <;> simp only [go_sem, Int.reduceLT, Int.reduceLE, Int.reduceToNat, Nat.reduceLT, eq_self, Int.toNat_zero, Int.toNat_one, Nat.reduceEqDiff, Nat.reduceAdd, Nat.reduceLeDiff, Nat.reduceSub, Nat.reduceMul, ↓reduceIte, reduceCtorEq, Nat.add_zero, Int.toNat_natCast, List.getElem?_map, Option.map_some, List.length_map, Int.cast_ofNat_Int, decide_true, decide_false]
    · exact Pub.pair (.nl 1) (.pure rfl)
    refine cond_d (fun h => ?_) (fun h => by omega) <;> simp only [go_sem, Int.reduceLT, Int.reduceLE, Int.reduceToNat, Nat.reduceLT, eq_self, Int.toNat_zero, Int.toNat_one, Nat.reduceEqDiff, Nat.reduceAdd, Nat.reduceLeDiff, Nat.reduceSub, Nat.reduceMul, ↓reduceIte, reduceCtorEq, Nat.add_zero, Int.toNat_natCast, List.getElem?_map, Option.map_some, List.length_map, Int.cast_ofNat_Int, decide_true, decide_false]
    exact Pub.pair (.nl 1) (.pure rfl)
  have e1 : ¬ t < 0 := by omega
  have e2 : ¬ 1073741824 < t := by omega
  have e3 : ¬ k < 0 := by omega
  have e4 : ¬ 1073741824 < k := by omega
  simp only [go_sem, Int.reduceLT, Int.reduceLE, Int.reduceToNat, Nat.reduceLT, eq_self, Int.toNat_zero, Int.toNat_one, Nat.reduceEqDiff, Nat.reduceAdd, Nat.reduceLeDiff, Nat.reduceSub, Nat.reduceMul, ↓reduceIte, reduceCtorEq, Nat.add_zero, Int.toNat_natCast, List.getElem?_map, Option.map_some, List.length_map, Int.cast_ofNat_Int, decide_true, decide_false, e1, e2, e3, e4]
  by_cases hs : s < 0 ∨ 400 < s
  · rw [show rpathR p w k t s = ([], 10) by unfold rpathR; rw [if_neg ht, if_pos hs]]
    refine gd_fd rfl (fun h => ?_) (fun h => ?_) <;> simp only [go_sem, Int.reduceLT, Int.reduceLE, Int.reduceToNat, Nat.reduceLT, eq_self, Int.toNat_zero, Int.toNat_one, Nat.reduceEqDiff, Nat.reduceAdd, Nat.reduceLeDiff, Nat.reduceSub, Nat.reduceMul, ↓reduceIte, reduceCtorEq, Nat.add_zero, Int.toNat_natCast, List.getElem?_map, Option.map_some, List.length_map, Int.cast_ofNat_Int, decide_true, decide_false]
    · exact Pub.pair (.nl 1) (.pure rfl)
    refine cond_d (fun h => ?_) (fun h => by omega) <;> simp only [go_sem, Int.reduceLT, Int.reduceLE, Int.reduceToNat, Nat.reduceLT, eq_self, Int.toNat_zero, Int.toNat_one, Nat.reduceEqDiff, Nat.reduceAdd, Nat.reduceLeDiff, Nat.reduceSub, Nat.reduceMul, ↓reduceIte, reduceCtorEq, Nat.add_zero, Int.toNat_natCast, List.getElem?_map, Option.map_some, List.length_map, Int.cast_ofNat_Int, decide_true, decide_false]
    exact Pub.pair (.nl 1) (.pure rfl)
  have e5 : ¬ s < 0 := by omega
  have e6 : ¬ 400 < s := by omega
  simp only [go_sem, Int.reduceLT, Int.reduceLE, Int.reduceToNat, Nat.reduceLT, eq_self, Int.toNat_zero, Int.toNat_one, Nat.reduceEqDiff, Nat.reduceAdd, Nat.reduceLeDiff, Nat.reduceSub, Nat.reduceMul, ↓reduceIte, reduceCtorEq, Nat.add_zero, Int.toNat_natCast, List.getElem?_map, Option.map_some, List.length_map, Int.cast_ofNat_Int, decide_true, decide_false, e5, e6]
  rw [show rpathR p w k t s = ((pathL p w k t s.toNat).drop p.length, 0) by unfold rpathR; rw [if_neg ht, if_neg hs]]
  refine HC.mono (hc_slices_Clone__int _ p (by omega)) ?_
  rintro v σ' ⟨g, c, rfl, rfl⟩
  simp only [go_sem, Int.reduceLT, Int.reduceLE, Int.reduceToNat, Nat.reduceLT, eq_self, Int.toNat_zero, Int.toNat_one, Nat.reduceEqDiff, Nat.reduceAdd, Nat.reduceLeDiff, Nat.reduceSub, Nat.reduceMul, ↓reduceIte, reduceCtorEq, Nat.add_zero, Int.toNat_natCast, List.getElem?_map, Option.map_some, List.length_map, Int.cast_ofNat_Int, decide_true, decide_false, ints_length]
  refine awp_upF [12, 36, 37, 38, 39, 40, 41, 42, 43, 44, 45, 46, 47] (by kernel_rfl) s.toNat (fun r e σ => ∃ g, e 12 = .sl 1 g 1 0 (p.length + r) ∧ e 36 = .int .i64 r ∧ σ.ob 1 = some ⟨g, 1, 3, false, true, ints (pathL p w k t r)⟩) ?_ ?_
  · exact ⟨g, (by first | ((try simp only [go_sem, Int.reduceLT, Int.reduceLE, Int.reduceToNat, Nat.reduceLT, eq_self, Int.toNat_zero, Int.toNat_one, Nat.reduceEqDiff, Nat.reduceAdd, Nat.reduceLeDiff, Nat.reduceSub, Nat.reduceMul, ↓reduceIte, reduceCtorEq, Nat.add_zero, Int.toNat_natCast, List.getElem?_map, Option.map_some, List.length_map, Int.cast_ofNat_Int, decide_true, decide_false]); done) | ((try simp only [go_sem, Int.reduceLT, Int.reduceLE, Int.reduceToNat, Nat.reduceLT, eq_self, Int.toNat_zero, Int.toNat_one, Nat.reduceEqDiff, Nat.reduceAdd, Nat.reduceLeDiff, Nat.reduceSub, Nat.reduceMul, ↓reduceIte, reduceCtorEq, Nat.add_zero, Int.toNat_natCast, List.getElem?_map, Option.map_some, List.length_map, Int.cast_ofNat_Int, decide_true, decide_false]); rfl)), (by first | ((try simp only [go_sem, Int.reduceLT, Int.reduceLE, Int.reduceToNat, Nat.reduceLT, eq_self, Int.toNat_zero, Int.toNat_one, Nat.reduceEqDiff, Nat.reduceAdd, Nat.reduceLeDiff, Nat.reduceSub, Nat.reduceMul, ↓reduceIte, reduceCtorEq, Nat.add_zero, Int.toNat_natCast, List.getElem?_map, Option.map_some, List.length_map, Int.cast_ofNat_Int, decide_true, decide_false]); done) | ((try simp only [go_sem, Int.reduceLT, Int.reduceLE, Int.reduceToNat, Nat.reduceLT, eq_self, Int.toNat_zero, Int.toNat_one, Nat.reduceEqDiff, Nat.reduceAdd, Nat.reduceLeDiff, Nat.reduceSub, Nat.reduceMul, ↓reduceIte, reduceCtorEq, Nat.add_zero, Int.toNat_natCast, List.getElem?_map, Option.map_some, List.length_map, Int.cast_ofNat_Int, decide_true, decide_false]); rfl)), by simp [go_sem, pathL, runS]⟩
  · rintro r f ob c hr ⟨g, h12, h36, hob⟩
    simp only [go_sem, Int.reduceLT, Int.reduceLE, Int.reduceToNat, Nat.reduceLT, eq_self, Int.toNat_zero, Int.toNat_one, Nat.reduceEqDiff, Nat.reduceAdd, Nat.reduceLeDiff, Nat.reduceSub, Nat.reduceMul, ↓reduceIte, reduceCtorEq, Nat.add_zero, Int.toNat_natCast, List.getElem?_map, Option.map_some, List.length_map, Int.cast_ofNat_Int, decide_true, decide_false] at h12 h36 hob
    simp only [go_sem, Int.reduceLT, Int.reduceLE, Int.reduceToNat, Nat.reduceLT, eq_self, Int.toNat_zero, Int.toNat_one, Nat.reduceEqDiff, Nat.reduceAdd, Nat.reduceLeDiff, Nat.reduceSub, Nat.reduceMul, ↓reduceIte, reduceCtorEq, Nat.add_zero, Int.toNat_natCast, List.getElem?_map, Option.map_some, List.length_map, Int.cast_ofNat_Int, decide_true, decide_false, h12, h36]
    have hl := pathL_length p w k t r
    refine cond_d (fun hlt => ?_) (fun hge => ?_)
    · have hrl : r < s.toNat := by omega
      have hok := pathL_ok (w := w) h1 (by omega : 0 ≤ k) (by omega : 0 ≤ t ∧ t ≤ 1073741824) r
      simp (disch := omega) only [go_sem, Int.reduceLT, Int.reduceLE, Int.reduceToNat, Nat.reduceLT, eq_self, Int.toNat_zero, Int.toNat_one, Nat.reduceEqDiff, Nat.reduceAdd, Nat.reduceLeDiff, Nat.reduceSub, Nat.reduceMul, ↓reduceIte, reduceCtorEq, Nat.add_zero, Int.toNat_natCast, List.getElem?_map, Option.map_some, List.length_map, Int.cast_ofNat_Int, decide_true, decide_false, wrap_id, h12, h36]
      refine call_lent (ok_rise_Room (pathL p w k t r) w k (by omega) hw hok ⟨by omega, by omega⟩) (.cons (Pub.of_sl hob (by rw [ints_length, hl]) (ints_pur _) (ints_ok _)) (.cons (.pure rfl) (.cons (.pure rfl) .nil))) rfl ?_
      simp (disch := omega) only [go_sem, Int.reduceLT, Int.reduceLE, Int.reduceToNat, Nat.reduceLT, eq_self, Int.toNat_zero, Int.toNat_one, Nat.reduceEqDiff, Nat.reduceAdd, Nat.reduceLeDiff, Nat.reduceSub, Nat.reduceMul, ↓reduceIte, reduceCtorEq, Nat.add_zero, Int.toNat_natCast, List.getElem?_map, Option.map_some, List.length_map, Int.cast_ofNat_Int, decide_true, decide_false, wrap_id, h12, h36, hob]
      refine ⟨by rw [ints_length, hl], by simp [maxLen]; omega, by omega, ?_⟩
      refine up_next hrl ⟨_, (by first | ((try simp only [go_sem, Int.reduceLT, Int.reduceLE, Int.reduceToNat, Nat.reduceLT, eq_self, Int.toNat_zero, Int.toNat_one, Nat.reduceEqDiff, Nat.reduceAdd, Nat.reduceLeDiff, Nat.reduceSub, Nat.reduceMul, ↓reduceIte, reduceCtorEq, Nat.add_zero, Int.toNat_natCast, List.getElem?_map, Option.map_some, List.length_map, Int.cast_ofNat_Int, decide_true, decide_false]); done) | ((try simp only [go_sem, Int.reduceLT, Int.reduceLE, Int.reduceToNat, Nat.reduceLT, eq_self, Int.toNat_zero, Int.toNat_one, Nat.reduceEqDiff, Nat.reduceAdd, Nat.reduceLeDiff, Nat.reduceSub, Nat.reduceMul, ↓reduceIte, reduceCtorEq, Nat.add_zero, Int.toNat_natCast, List.getElem?_map, Option.map_some, List.length_map, Int.cast_ofNat_Int, decide_true, decide_false]); rfl)), (by first | ((try simp only [go_sem, Int.reduceLT, Int.reduceLE, Int.reduceToNat, Nat.reduceLT, eq_self, Int.toNat_zero, Int.toNat_one, Nat.reduceEqDiff, Nat.reduceAdd, Nat.reduceLeDiff, Nat.reduceSub, Nat.reduceMul, ↓reduceIte, reduceCtorEq, Nat.add_zero, Int.toNat_natCast, List.getElem?_map, Option.map_some, List.length_map, Int.cast_ofNat_Int, decide_true, decide_false]); done) | ((try simp only [go_sem, Int.reduceLT, Int.reduceLE, Int.reduceToNat, Nat.reduceLT, eq_self, Int.toNat_zero, Int.toNat_one, Nat.reduceEqDiff, Nat.reduceAdd, Nat.reduceLeDiff, Nat.reduceSub, Nat.reduceMul, ↓reduceIte, reduceCtorEq, Nat.add_zero, Int.toNat_natCast, List.getElem?_map, Option.map_some, List.length_map, Int.cast_ofNat_Int, decide_true, decide_false]); rfl)), ?_⟩
      simp only [go_sem, Int.reduceLT, Int.reduceLE, Int.reduceToNat, Nat.reduceLT, eq_self, Int.toNat_zero, Int.toNat_one, Nat.reduceEqDiff, Nat.reduceAdd, Nat.reduceLeDiff, Nat.reduceSub, Nat.reduceMul, ↓reduceIte, reduceCtorEq, Nat.add_zero, Int.toNat_natCast, List.getElem?_map, Option.map_some, List.length_map, Int.cast_ofNat_Int, decide_true, decide_false, ints_snoc]
      try rfl
    · have hrs : r = s.toNat := by omega
      subst hrs
      simp only [go_sem, Int.reduceLT, Int.reduceLE, Int.reduceToNat, Nat.reduceLT, eq_self, Int.toNat_zero, Int.toNat_one, Nat.reduceEqDiff, Nat.reduceAdd, Nat.reduceLeDiff, Nat.reduceSub, Nat.reduceMul, ↓reduceIte, reduceCtorEq, Nat.add_zero, Int.toNat_natCast, List.getElem?_map, Option.map_some, List.length_map, Int.cast_ofNat_Int, decide_true, decide_false, h12, hob, ints_length]
      have hdl : (List.drop p.length (ints (pathL p w k t s.toNat))).length = s.toNat := by simp [ints, hl]
      refine ⟨by omega, by omega, fun hz => ?_, fun hz => ?_⟩
      · have h0 : s.toNat = 0 := by omega
        have hnil : (pathL p w k t s.toNat).drop p.length = [] := by rw [h0]; simp [pathL, runS]
        refine HC.mono (hc_slices_Clone__int _ [] (by simp)) ?_
        rintro v σ' ⟨g2, c2, rfl, rfl⟩
        rw [hnil]
        try simp only [go_sem, Int.reduceLT, Int.reduceLE, Int.reduceToNat, Nat.reduceLT, eq_self, Int.toNat_zero, Int.toNat_one, Nat.reduceEqDiff, Nat.reduceAdd, Nat.reduceLeDiff, Nat.reduceSub, Nat.reduceMul, ↓reduceIte, reduceCtorEq, Nat.add_zero, Int.toNat_natCast, List.getElem?_map, Option.map_some, List.length_map, Int.cast_ofNat_Int, decide_true, decide_false]
        exact Pub.pair (Pub.of_sl (by simp only [go_sem, ↓reduceIte]; rfl) (by simp [ints]) (ints_pur _) (ints_ok _)) (.pure rfl)
      · refine HC.mono (hc_slices_Clone__int_sl _ 1 g (0 + p.length) (p.length + s.toNat - p.length) _ ((pathL p w k t s.toNat).drop p.length) (by simp) (by simpa using hob) rfl rfl (by simp [ints, hl]) (by omega) (by rw [Nat.zero_add, ints_drop, ints_take, List.take_of_length_le (by simp [hl])]) (by simp [hl]; omega)) ?_
        rintro v σ' ⟨g2, c2, rfl, rfl⟩
        try simp only [go_sem, Int.reduceLT, Int.reduceLE, Int.reduceToNat, Nat.reduceLT, eq_self, Int.toNat_zero, Int.toNat_one, Nat.reduceEqDiff, Nat.reduceAdd, Nat.reduceLeDiff, Nat.reduceSub, Nat.reduceMul, ↓reduceIte, reduceCtorEq, Nat.add_zero, Int.toNat_natCast, List.getElem?_map, Option.map_some, List.length_map, Int.cast_ofNat_Int, decide_true, decide_false]
        exact Pub.pair (Pub.of_sl (by simp only [go_sem, ↓reduceIte]; rfl) rfl (ints_pur _) (ints_ok _)) (.pure rfl)
theorem ok_ref35_Path (p : List Int) (w k t s : Int) (hp : p.length ≤ 1000000) (hw : w ≤ 9223372036854775807) (h1 : okFl p) : PC prog n_ref35_Path [.list 1 (ints p), .int .i64 w, .int .i64 k, .int .i64 t, .int .i64 s] (.tuple [.list 1 (ints (rpathR p w k t s).1), .int .i64 (rpathR p w k t s).2]) := by
  refine PC_of_body b_ref35_Path (by simp) ?_
  simp only [c_ref35_Path, go_sem, Int.reduceLT, Int.reduceLE, Int.reduceToNat, Nat.reduceLT, eq_self, Int.toNat_zero, Int.toNat_one, Nat.reduceEqDiff, Nat.reduceAdd, Nat.reduceLeDiff, Nat.reduceSub, Nat.reduceMul, ↓reduceIte, reduceCtorEq, Nat.add_zero, Int.toNat_natCast, List.getElem?_map, Option.map_some, List.length_map, Int.cast_ofNat_Int, decide_true, decide_false]
  by_cases ht : t < 0 ∨ 1073741824 < t ∨ k < 0 ∨ 1073741824 < k
  · rw [show rpathR p w k t s = ([], 1) by unfold rpathR; rw [if_pos ht]]
    refine gd_fd rfl (fun h => ?_) (fun h => ?_) <;> simp only [go_sem, Int.reduceLT, Int.reduceLE, Int.reduceToNat, Nat.reduceLT, eq_self, Int.toNat_zero, Int.toNat_one, Nat.reduceEqDiff, Nat.reduceAdd, Nat.reduceLeDiff, Nat.reduceSub, Nat.reduceMul, ↓reduceIte, reduceCtorEq, Nat.add_zero, Int.toNat_natCast, List.getElem?_map, Option.map_some, List.length_map, Int.cast_ofNat_Int, decide_true, decide_false]
    · exact Pub.pair (.nl 1) (.pure rfl)
    refine gd_fd rfl (fun h => ?_) (fun h => ?_) <;> simp only [go_sem, Int.reduceLT, Int.reduceLE, Int.reduceToNat, Nat.reduceLT, eq_self, Int.toNat_zero, Int.toNat_one, Nat.reduceEqDiff, Nat.reduceAdd, Nat.reduceLeDiff, Nat.reduceSub, Nat.reduceMul, ↓reduceIte, reduceCtorEq, Nat.add_zero, Int.toNat_natCast, List.getElem?_map, Option.map_some, List.length_map, Int.cast_ofNat_Int, decide_true, decide_false]
    · exact Pub.pair (.nl 1) (.pure rfl)
    refine gd_fd rfl (fun h => ?_) (fun h => ?_) <;> simp only [go_sem, Int.reduceLT, Int.reduceLE, Int.reduceToNat, Nat.reduceLT, eq_self, Int.toNat_zero, Int.toNat_one, Nat.reduceEqDiff, Nat.reduceAdd, Nat.reduceLeDiff, Nat.reduceSub, Nat.reduceMul, ↓reduceIte, reduceCtorEq, Nat.add_zero, Int.toNat_natCast, List.getElem?_map, Option.map_some, List.length_map, Int.cast_ofNat_Int, decide_true, decide_false]
    · exact Pub.pair (.nl 1) (.pure rfl)
    refine cond_d (fun h => ?_) (fun h => by omega) <;> simp only [go_sem, Int.reduceLT, Int.reduceLE, Int.reduceToNat, Nat.reduceLT, eq_self, Int.toNat_zero, Int.toNat_one, Nat.reduceEqDiff, Nat.reduceAdd, Nat.reduceLeDiff, Nat.reduceSub, Nat.reduceMul, ↓reduceIte, reduceCtorEq, Nat.add_zero, Int.toNat_natCast, List.getElem?_map, Option.map_some, List.length_map, Int.cast_ofNat_Int, decide_true, decide_false]
    exact Pub.pair (.nl 1) (.pure rfl)
  have e1 : ¬ t < 0 := by omega
  have e2 : ¬ 1073741824 < t := by omega
  have e3 : ¬ k < 0 := by omega
  have e4 : ¬ 1073741824 < k := by omega
  simp only [go_sem, Int.reduceLT, Int.reduceLE, Int.reduceToNat, Nat.reduceLT, eq_self, Int.toNat_zero, Int.toNat_one, Nat.reduceEqDiff, Nat.reduceAdd, Nat.reduceLeDiff, Nat.reduceSub, Nat.reduceMul, ↓reduceIte, reduceCtorEq, Nat.add_zero, Int.toNat_natCast, List.getElem?_map, Option.map_some, List.length_map, Int.cast_ofNat_Int, decide_true, decide_false, e1, e2, e3, e4]
  by_cases hs : s < 0 ∨ 400 < s
  · rw [show rpathR p w k t s = ([], 10) by unfold rpathR; rw [if_neg ht, if_pos hs]]
    refine gd_fd rfl (fun h => ?_) (fun h => ?_) <;> simp only [go_sem, Int.reduceLT, Int.reduceLE, Int.reduceToNat, Nat.reduceLT, eq_self, Int.toNat_zero, Int.toNat_one, Nat.reduceEqDiff, Nat.reduceAdd, Nat.reduceLeDiff, Nat.reduceSub, Nat.reduceMul, ↓reduceIte, reduceCtorEq, Nat.add_zero, Int.toNat_natCast, List.getElem?_map, Option.map_some, List.length_map, Int.cast_ofNat_Int, decide_true, decide_false]
    · exact Pub.pair (.nl 1) (.pure rfl)
    refine cond_d (fun h => ?_) (fun h => by omega) <;> simp only [go_sem, Int.reduceLT, Int.reduceLE, Int.reduceToNat, Nat.reduceLT, eq_self, Int.toNat_zero, Int.toNat_one, Nat.reduceEqDiff, Nat.reduceAdd, Nat.reduceLeDiff, Nat.reduceSub, Nat.reduceMul, ↓reduceIte, reduceCtorEq, Nat.add_zero, Int.toNat_natCast, List.getElem?_map, Option.map_some, List.length_map, Int.cast_ofNat_Int, decide_true, decide_false]
    exact Pub.pair (.nl 1) (.pure rfl)
  have e5 : ¬ s < 0 := by omega
  have e6 : ¬ 400 < s := by omega
  simp only [go_sem, Int.reduceLT, Int.reduceLE, Int.reduceToNat, Nat.reduceLT, eq_self, Int.toNat_zero, Int.toNat_one, Nat.reduceEqDiff, Nat.reduceAdd, Nat.reduceLeDiff, Nat.reduceSub, Nat.reduceMul, ↓reduceIte, reduceCtorEq, Nat.add_zero, Int.toNat_natCast, List.getElem?_map, Option.map_some, List.length_map, Int.cast_ofNat_Int, decide_true, decide_false, e5, e6, ints_length]
  rw [show rpathR p w k t s = ((pathL p w k t s.toNat).drop p.length, 0) by unfold rpathR; rw [if_neg ht, if_neg hs]]
  refine ⟨by simp [maxLen]; omega, by omega, ?_⟩
  refine awp_upF [4, 12, 13, 14, 37, 38, 39, 40, 41, 42, 43, 44, 45, 46, 47, 48, 49, 50, 51, 52, 53, 54] (by kernel_rfl) s.toNat (fun r e σ => ∃ g g2, e 12 = .sl 0 g 1 0 (p.length + r) ∧ e 13 = .sl 1 g2 1 0 r ∧ e 4 = .int .i64 (s - r) ∧ σ.ob 0 = some ⟨g, 1, 3, false, true, ints (pathL p w k t r)⟩ ∧ σ.ob 1 = some ⟨g2, 1, 3, false, true, ints ((pathL p w k t r).drop p.length)⟩) ?_ ?_
  · refine ⟨_, _, by simp only [go_sem, Int.reduceLT, Int.reduceLE, Int.reduceToNat, Nat.reduceLT, eq_self, Int.toNat_zero, Int.toNat_one, Nat.reduceEqDiff, Nat.reduceAdd, Nat.reduceLeDiff, Nat.reduceSub, Nat.reduceMul, ↓reduceIte, reduceCtorEq, Nat.add_zero, Int.toNat_natCast, List.getElem?_map, Option.map_some, List.length_map, Int.cast_ofNat_Int, decide_true, decide_false, ints_length]; rfl, by (try simp only [go_sem, Int.reduceLT, Int.reduceLE, Int.reduceToNat, Nat.reduceLT, eq_self, Int.toNat_zero, Int.toNat_one, Nat.reduceEqDiff, Nat.reduceAdd, Nat.reduceLeDiff, Nat.reduceSub, Nat.reduceMul, ↓reduceIte, reduceCtorEq, Nat.add_zero, Int.toNat_natCast, List.getElem?_map, Option.map_some, List.length_map, Int.cast_ofNat_Int, decide_true, decide_false]); rfl, by simp [go_sem], by simp [go_sem, pathL, runS], by simp [go_sem, pathL, runS, ints]⟩
  · rintro r f ob c hr ⟨g, g2, h12, h13, h4, hob, hob2⟩
    simp only [go_sem, Int.reduceLT, Int.reduceLE, Int.reduceToNat, Nat.reduceLT, eq_self, Int.toNat_zero, Int.toNat_one, Nat.reduceEqDiff, Nat.reduceAdd, Nat.reduceLeDiff, Nat.reduceSub, Nat.reduceMul, ↓reduceIte, reduceCtorEq, Nat.add_zero, Int.toNat_natCast, List.getElem?_map, Option.map_some, List.length_map, Int.cast_ofNat_Int, decide_true, decide_false] at h12 h13 h4 hob hob2
    simp only [go_sem, Int.reduceLT, Int.reduceLE, Int.reduceToNat, Nat.reduceLT, eq_self, Int.toNat_zero, Int.toNat_one, Nat.reduceEqDiff, Nat.reduceAdd, Nat.reduceLeDiff, Nat.reduceSub, Nat.reduceMul, ↓reduceIte, reduceCtorEq, Nat.add_zero, Int.toNat_natCast, List.getElem?_map, Option.map_some, List.length_map, Int.cast_ofNat_Int, decide_true, decide_false, h4]
    have hl := pathL_length p w k t r
    refine cond_d (fun hlt => ?_) (fun hge => ?_)
    · have hrl : r < s.toNat := by omega
      have hok := pathL_ok (w := w) h1 (by omega : 0 ≤ k) (by omega : 0 ≤ t ∧ t ≤ 1073741824) r
      simp (disch := omega) only [go_sem, Int.reduceLT, Int.reduceLE, Int.reduceToNat, Nat.reduceLT, eq_self, Int.toNat_zero, Int.toNat_one, Nat.reduceEqDiff, Nat.reduceAdd, Nat.reduceLeDiff, Nat.reduceSub, Nat.reduceMul, ↓reduceIte, reduceCtorEq, Nat.add_zero, Int.toNat_natCast, List.getElem?_map, Option.map_some, List.length_map, Int.cast_ofNat_Int, decide_true, decide_false, wrap_id, h12, h13, h4]
      refine call_lent (ok_ref35_Room (pathL p w k t r) w k (by omega) hw hok ⟨by omega, by omega⟩) (.cons (Pub.of_sl hob (by rw [ints_length, hl]) (ints_pur _) (ints_ok _)) (.cons (.pure rfl) (.cons (.pure rfl) .nil))) rfl ?_
      simp (disch := omega) only [go_sem, Int.reduceLT, Int.reduceLE, Int.reduceToNat, Nat.reduceLT, eq_self, Int.toNat_zero, Int.toNat_one, Nat.reduceEqDiff, Nat.reduceAdd, Nat.reduceLeDiff, Nat.reduceSub, Nat.reduceMul, ↓reduceIte, reduceCtorEq, Nat.add_zero, Int.toNat_natCast, List.getElem?_map, Option.map_some, List.length_map, Int.cast_ofNat_Int, decide_true, decide_false, wrap_id, h12, h13, h4, hob, hob2]
      have hdl : (ints ((pathL p w k t r).drop p.length)).length = r := by simp [ints, hl]
      refine ⟨by rw [ints_length, hl], by simp [maxLen]; omega, by omega, by rw [hdl], by simp [maxLen]; omega, by omega, ?_⟩
      refine up_next hrl ⟨_, _, (by first | ((try simp only [go_sem, Int.reduceLT, Int.reduceLE, Int.reduceToNat, Nat.reduceLT, eq_self, Int.toNat_zero, Int.toNat_one, Nat.reduceEqDiff, Nat.reduceAdd, Nat.reduceLeDiff, Nat.reduceSub, Nat.reduceMul, ↓reduceIte, reduceCtorEq, Nat.add_zero, Int.toNat_natCast, List.getElem?_map, Option.map_some, List.length_map, Int.cast_ofNat_Int, decide_true, decide_false]); done) | ((try simp only [go_sem, Int.reduceLT, Int.reduceLE, Int.reduceToNat, Nat.reduceLT, eq_self, Int.toNat_zero, Int.toNat_one, Nat.reduceEqDiff, Nat.reduceAdd, Nat.reduceLeDiff, Nat.reduceSub, Nat.reduceMul, ↓reduceIte, reduceCtorEq, Nat.add_zero, Int.toNat_natCast, List.getElem?_map, Option.map_some, List.length_map, Int.cast_ofNat_Int, decide_true, decide_false]); rfl)), (by first | ((try simp only [go_sem, Int.reduceLT, Int.reduceLE, Int.reduceToNat, Nat.reduceLT, eq_self, Int.toNat_zero, Int.toNat_one, Nat.reduceEqDiff, Nat.reduceAdd, Nat.reduceLeDiff, Nat.reduceSub, Nat.reduceMul, ↓reduceIte, reduceCtorEq, Nat.add_zero, Int.toNat_natCast, List.getElem?_map, Option.map_some, List.length_map, Int.cast_ofNat_Int, decide_true, decide_false]); done) | ((try simp only [go_sem, Int.reduceLT, Int.reduceLE, Int.reduceToNat, Nat.reduceLT, eq_self, Int.toNat_zero, Int.toNat_one, Nat.reduceEqDiff, Nat.reduceAdd, Nat.reduceLeDiff, Nat.reduceSub, Nat.reduceMul, ↓reduceIte, reduceCtorEq, Nat.add_zero, Int.toNat_natCast, List.getElem?_map, Option.map_some, List.length_map, Int.cast_ofNat_Int, decide_true, decide_false]); rfl)), ?_, ?_, ?_⟩
      · (try simp only [go_sem, Int.reduceLT, Int.reduceLE, Int.reduceToNat, Nat.reduceLT, eq_self, Int.toNat_zero, Int.toNat_one, Nat.reduceEqDiff, Nat.reduceAdd, Nat.reduceLeDiff, Nat.reduceSub, Nat.reduceMul, ↓reduceIte, reduceCtorEq, Nat.add_zero, Int.toNat_natCast, List.getElem?_map, Option.map_some, List.length_map, Int.cast_ofNat_Int, decide_true, decide_false]); congr 1; omega
      · simp only [go_sem, Int.reduceLT, Int.reduceLE, Int.reduceToNat, Nat.reduceLT, eq_self, Int.toNat_zero, Int.toNat_one, Nat.reduceEqDiff, Nat.reduceAdd, Nat.reduceLeDiff, Nat.reduceSub, Nat.reduceMul, ↓reduceIte, reduceCtorEq, Nat.add_zero, Int.toNat_natCast, List.getElem?_map, Option.map_some, List.length_map, Int.cast_ofNat_Int, decide_true, decide_false, ints_snoc]
        try rfl
      · simp only [go_sem, Int.reduceLT, Int.reduceLE, Int.reduceToNat, Nat.reduceLT, eq_self, Int.toNat_zero, Int.toNat_one, Nat.reduceEqDiff, Nat.reduceAdd, Nat.reduceLeDiff, Nat.reduceSub, Nat.reduceMul, ↓reduceIte, reduceCtorEq, Nat.add_zero, Int.toNat_natCast, List.getElem?_map, Option.map_some, List.length_map, Int.cast_ofNat_Int, decide_true, decide_false, ints_snoc]
        rw [show pathL p w k t (r + 1) = pathL p w k t r ++ [min t (roomS (pathL p w k t r) w k)] from rfl, List.drop_append_of_le_length (by omega)]
    · have hrs : r = s.toNat := by omega
      subst hrs
      simp only [go_sem, Int.reduceLT, Int.reduceLE, Int.reduceToNat, Nat.reduceLT, eq_self, Int.toNat_zero, Int.toNat_one, Nat.reduceEqDiff, Nat.reduceAdd, Nat.reduceLeDiff, Nat.reduceSub, Nat.reduceMul, ↓reduceIte, reduceCtorEq, Nat.add_zero, Int.toNat_natCast, List.getElem?_map, Option.map_some, List.length_map, Int.cast_ofNat_Int, decide_true, decide_false, h13]
      exact Pub.pair (Pub.of_sl hob2 (by simp [ints, hl]) (ints_pur _) (ints_ok _)) (.pure rfl)
def flow35 (i : Nat) (x : Int) : Int := if i % 7 = 6 then x % 1073741825 else x % 40
def flowsS (l : List Int) : List Int := l.mapIdx flow35
theorem flowsS_length (l : List Int) : (flowsS l).length = l.length := by simp [flowsS]
theorem flowsS_get (l : List Int) (i : Nat) (h : i < l.length) : (flowsS l)[i]'(by rw [flowsS_length]; exact h) = flow35 i l[i] := by simp [flowsS]
theorem flowsS_ok (l : List Int) : okFl (flowsS l) := by
  intro x hx
  obtain ⟨i, hi, rfl⟩ := List.getElem_of_mem hx
  have hi' : i < l.length := by rwa [flowsS_length] at hi
  rw [flowsS_get l i hi']
  unfold flow35
  split <;> omega
/-- A new object; of what there was, what is below is left. -/
def Own1 (σ : St) (es : Nat) (ty : TypeId) (l : List AV) (r : AV) (σ' : St) : Prop := ∃ g c, r = .sl σ.n g es 0 l.length ∧ σ' = ⟨upd (fun i => if i < σ.n then σ.ob i else none) σ.n (some ⟨g, es, ty, false, true, l⟩), σ.n + 1, c⟩
def Own0 (σ : St) (es : Nat) (ty : TypeId) (l : List AV) (r : AV) (σ' : St) : Prop := ∃ g, r = .sl σ.n g es 0 l.length ∧ σ'.n = σ.n + 1 ∧ σ'.ob σ.n = some ⟨g, es, ty, false, true, l⟩ ∧ ∀ i, i < σ.n → σ'.ob i = σ.ob i
theorem HC.own1 {f : Nat} {args : List AV} {σ : St} {es : Nat} {ty : TypeId} {l : List AV} (h : HC prog f args σ (Own0 σ es ty l)) : HC prog f args σ (Own1 σ es ty l) := by
  refine h.sub ?_
  rintro r σ' ⟨g, rfl, hn, hob, hlt⟩
  refine ⟨upd (fun i => if i < σ.n then σ.ob i else none) σ.n (some ⟨g, es, ty, false, true, l⟩), ?_, g, σ'.c, rfl, by rw [hn]⟩
  intro i o h
  simp only [upd] at h
  split at h
  · rename_i hi; rw [hi, hob]; exact h
  · split at h
    · rename_i hi; rw [hlt i hi]; exact h
    · cases h
theorem hc_law35_flows (σ : St) (l : List Int) (hl : l.length ≤ 1000000) : HC prog n_law35_flows [.list 1 (ints l)] σ (Own1 σ 1 3 (ints (flowsS l))) := by
  refine HC.own1 (HC_of_body b_law35_flows (by simp) ?_)
  obtain ⟨ob0, n0, c0⟩ := σ
  simp only [c_law35_flows, go_sem, Int.reduceLT, Int.reduceLE, Int.reduceToNat, Nat.reduceLT, eq_self, Int.toNat_zero, Int.toNat_one, Nat.reduceEqDiff, Nat.reduceAdd, Nat.reduceLeDiff, Nat.reduceSub, Nat.reduceMul, ↓reduceIte, reduceCtorEq, Nat.add_zero, Int.toNat_natCast, List.getElem?_map, Option.map_some, List.length_map, Int.cast_ofNat_Int, decide_true, decide_false, ints_length]
  have hnn : ¬ n0 + 1 = n0 := by omega
  refine awp_upF [3, 4, 5, 8, 9, 10, 11, 12, 13, 14, 15, 16, 17, 18, 19, 20, 21, 22, 23, 24, 25, 26] (by kernel_rfl) l.length (fun r e σ => ∃ g, e 3 = .sl n0 g 1 0 r ∧ e 8 = .int .i64 r ∧ σ.ob n0 = some ⟨g, 1, 3, false, true, ints ((flowsS l).take r)⟩ ∧ ∀ i, i < n0 → σ.ob i = ob0 i) ?_ ?_
  · refine ⟨c0, (by first | ((try simp only [go_sem, Int.reduceLT, Int.reduceLE, Int.reduceToNat, Nat.reduceLT, eq_self, Int.toNat_zero, Int.toNat_one, Nat.reduceEqDiff, Nat.reduceAdd, Nat.reduceLeDiff, Nat.reduceSub, Nat.reduceMul, ↓reduceIte, reduceCtorEq, Nat.add_zero, Int.toNat_natCast, List.getElem?_map, Option.map_some, List.length_map, Int.cast_ofNat_Int, decide_true, decide_false]); done) | ((try simp only [go_sem, Int.reduceLT, Int.reduceLE, Int.reduceToNat, Nat.reduceLT, eq_self, Int.toNat_zero, Int.toNat_one, Nat.reduceEqDiff, Nat.reduceAdd, Nat.reduceLeDiff, Nat.reduceSub, Nat.reduceMul, ↓reduceIte, reduceCtorEq, Nat.add_zero, Int.toNat_natCast, List.getElem?_map, Option.map_some, List.length_map, Int.cast_ofNat_Int, decide_true, decide_false]); rfl)), (by first | ((try simp only [go_sem, Int.reduceLT, Int.reduceLE, Int.reduceToNat, Nat.reduceLT, eq_self, Int.toNat_zero, Int.toNat_one, Nat.reduceEqDiff, Nat.reduceAdd, Nat.reduceLeDiff, Nat.reduceSub, Nat.reduceMul, ↓reduceIte, reduceCtorEq, Nat.add_zero, Int.toNat_natCast, List.getElem?_map, Option.map_some, List.length_map, Int.cast_ofNat_Int, decide_true, decide_false]); done) | ((try simp only [go_sem, Int.reduceLT, Int.reduceLE, Int.reduceToNat, Nat.reduceLT, eq_self, Int.toNat_zero, Int.toNat_one, Nat.reduceEqDiff, Nat.reduceAdd, Nat.reduceLeDiff, Nat.reduceSub, Nat.reduceMul, ↓reduceIte, reduceCtorEq, Nat.add_zero, Int.toNat_natCast, List.getElem?_map, Option.map_some, List.length_map, Int.cast_ofNat_Int, decide_true, decide_false]); rfl)), by simp [go_sem, ints], fun i hi => by simp [go_sem]; intro h; omega⟩
  · rintro r f ob c hr ⟨g, h3, h8, hob, hlt0⟩
    simp only [go_sem, Int.reduceLT, Int.reduceLE, Int.reduceToNat, Nat.reduceLT, eq_self, Int.toNat_zero, Int.toNat_one, Nat.reduceEqDiff, Nat.reduceAdd, Nat.reduceLeDiff, Nat.reduceSub, Nat.reduceMul, ↓reduceIte, reduceCtorEq, Nat.add_zero, Int.toNat_natCast, List.getElem?_map, Option.map_some, List.length_map, Int.cast_ofNat_Int, decide_true, decide_false] at h3 h8 hob hlt0
    simp only [go_sem, Int.reduceLT, Int.reduceLE, Int.reduceToNat, Nat.reduceLT, eq_self, Int.toNat_zero, Int.toNat_one, Nat.reduceEqDiff, Nat.reduceAdd, Nat.reduceLeDiff, Nat.reduceSub, Nat.reduceMul, ↓reduceIte, reduceCtorEq, Nat.add_zero, Int.toNat_natCast, List.getElem?_map, Option.map_some, List.length_map, Int.cast_ofNat_Int, decide_true, decide_false, h8]
    refine cond_d (fun hlt => ?_) (fun hge => ?_)
    · have hrl : r < l.length := by omega
      have htk : ints ((flowsS l).take (r + 1)) = ints ((flowsS l).take r) ++ [.int .i64 (flow35 r l[r])] := by
        rw [take_snoc _ r (by rw [flowsS_length]; exact hrl), flowsS_get l r hrl, ints_snoc]
      have hlen : (ints ((flowsS l).take r)).length = r := by simp [ints, flowsS_length]; omega
      have hm7 : (r : Int).tmod 7 = ((r % 7 : Nat) : Int) := by rw [Int.tmod_eq_emod_of_nonneg (by omega)]; omega
      simp (disch := omega) only [go_sem, Int.reduceLT, Int.reduceLE, Int.reduceToNat, Nat.reduceLT, eq_self, Int.toNat_zero, Int.toNat_one, Nat.reduceEqDiff, Nat.reduceAdd, Nat.reduceLeDiff, Nat.reduceSub, Nat.reduceMul, ↓reduceIte, reduceCtorEq, Nat.add_zero, Int.toNat_natCast, List.getElem?_map, Option.map_some, List.length_map, Int.cast_ofNat_Int, decide_true, decide_false, wrap_id, h3, h8, ints_length, ints_get, List.getElem?_eq_getElem hrl, hm7]
      refine ⟨by omega, by omega, by omega, cond_d (fun h6 => ?_) (fun h6 => ?_)⟩
      · simp (disch := omega) only [go_sem, Int.reduceLT, Int.reduceLE, Int.reduceToNat, Nat.reduceLT, eq_self, Int.toNat_zero, Int.toNat_one, Nat.reduceEqDiff, Nat.reduceAdd, Nat.reduceLeDiff, Nat.reduceSub, Nat.reduceMul, ↓reduceIte, reduceCtorEq, Nat.add_zero, Int.toNat_natCast, List.getElem?_map, Option.map_some, List.length_map, Int.cast_ofNat_Int, decide_true, decide_false, wrap_id, h3, h8]
        refine call_pc (ok_mk_Mod l[r] 1073741825 (by omega) (by omega)) (by simp [go_sem]) ?_
        simp (disch := omega) only [go_sem, Int.reduceLT, Int.reduceLE, Int.reduceToNat, Nat.reduceLT, eq_self, Int.toNat_zero, Int.toNat_one, Nat.reduceEqDiff, Nat.reduceAdd, Nat.reduceLeDiff, Nat.reduceSub, Nat.reduceMul, ↓reduceIte, reduceCtorEq, Nat.add_zero, Int.toNat_natCast, List.getElem?_map, Option.map_some, List.length_map, Int.cast_ofNat_Int, decide_true, decide_false, wrap_id, h3, h8, hob]
        refine ⟨hlen, by simp [maxLen]; omega, by omega, up_next hrl ⟨_, (by first | ((try simp only [go_sem, Int.reduceLT, Int.reduceLE, Int.reduceToNat, Nat.reduceLT, eq_self, Int.toNat_zero, Int.toNat_one, Nat.reduceEqDiff, Nat.reduceAdd, Nat.reduceLeDiff, Nat.reduceSub, Nat.reduceMul, ↓reduceIte, reduceCtorEq, Nat.add_zero, Int.toNat_natCast, List.getElem?_map, Option.map_some, List.length_map, Int.cast_ofNat_Int, decide_true, decide_false]); done) | ((try simp only [go_sem, Int.reduceLT, Int.reduceLE, Int.reduceToNat, Nat.reduceLT, eq_self, Int.toNat_zero, Int.toNat_one, Nat.reduceEqDiff, Nat.reduceAdd, Nat.reduceLeDiff, Nat.reduceSub, Nat.reduceMul, ↓reduceIte, reduceCtorEq, Nat.add_zero, Int.toNat_natCast, List.getElem?_map, Option.map_some, List.length_map, Int.cast_ofNat_Int, decide_true, decide_false]); rfl)), (by first | ((try simp only [go_sem, Int.reduceLT, Int.reduceLE, Int.reduceToNat, Nat.reduceLT, eq_self, Int.toNat_zero, Int.toNat_one, Nat.reduceEqDiff, Nat.reduceAdd, Nat.reduceLeDiff, Nat.reduceSub, Nat.reduceMul, ↓reduceIte, reduceCtorEq, Nat.add_zero, Int.toNat_natCast, List.getElem?_map, Option.map_some, List.length_map, Int.cast_ofNat_Int, decide_true, decide_false]); done) | ((try simp only [go_sem, Int.reduceLT, Int.reduceLE, Int.reduceToNat, Nat.reduceLT, eq_self, Int.toNat_zero, Int.toNat_one, Nat.reduceEqDiff, Nat.reduceAdd, Nat.reduceLeDiff, Nat.reduceSub, Nat.reduceMul, ↓reduceIte, reduceCtorEq, Nat.add_zero, Int.toNat_natCast, List.getElem?_map, Option.map_some, List.length_map, Int.cast_ofNat_Int, decide_true, decide_false]); rfl)), ?_, ?_⟩⟩
        · have : n0 < n0 + 1 := by omega
          simp only [go_sem, Int.reduceLT, Int.reduceLE, Int.reduceToNat, Nat.reduceLT, eq_self, Int.toNat_zero, Int.toNat_one, Nat.reduceEqDiff, Nat.reduceAdd, Nat.reduceLeDiff, Nat.reduceSub, Nat.reduceMul, ↓reduceIte, reduceCtorEq, Nat.add_zero, Int.toNat_natCast, List.getElem?_map, Option.map_some, List.length_map, Int.cast_ofNat_Int, decide_true, decide_false, this, htk, flow35, show r % 7 = 6 by omega]
        · intro i hi
          have e1 : i < n0 + 1 := by omega
          have e2 : ¬ i = n0 := by omega
          simp only [go_sem, Int.reduceLT, Int.reduceLE, Int.reduceToNat, Nat.reduceLT, eq_self, Int.toNat_zero, Int.toNat_one, Nat.reduceEqDiff, Nat.reduceAdd, Nat.reduceLeDiff, Nat.reduceSub, Nat.reduceMul, ↓reduceIte, reduceCtorEq, Nat.add_zero, Int.toNat_natCast, List.getElem?_map, Option.map_some, List.length_map, Int.cast_ofNat_Int, decide_true, decide_false, e1, e2]; exact hlt0 i hi
      · simp (disch := omega) only [go_sem, Int.reduceLT, Int.reduceLE, Int.reduceToNat, Nat.reduceLT, eq_self, Int.toNat_zero, Int.toNat_one, Nat.reduceEqDiff, Nat.reduceAdd, Nat.reduceLeDiff, Nat.reduceSub, Nat.reduceMul, ↓reduceIte, reduceCtorEq, Nat.add_zero, Int.toNat_natCast, List.getElem?_map, Option.map_some, List.length_map, Int.cast_ofNat_Int, decide_true, decide_false, wrap_id, h3, h8]
        refine call_pc (ok_mk_Mod l[r] 40 (by omega) (by omega)) (by simp [go_sem]) ?_
        simp (disch := omega) only [go_sem, Int.reduceLT, Int.reduceLE, Int.reduceToNat, Nat.reduceLT, eq_self, Int.toNat_zero, Int.toNat_one, Nat.reduceEqDiff, Nat.reduceAdd, Nat.reduceLeDiff, Nat.reduceSub, Nat.reduceMul, ↓reduceIte, reduceCtorEq, Nat.add_zero, Int.toNat_natCast, List.getElem?_map, Option.map_some, List.length_map, Int.cast_ofNat_Int, decide_true, decide_false, wrap_id, h3, h8, hob]
        refine ⟨hlen, by simp [maxLen]; omega, by omega, up_next hrl ⟨_, (by first | ((try simp only [go_sem, Int.reduceLT, Int.reduceLE, Int.reduceToNat, Nat.reduceLT, eq_self, Int.toNat_zero, Int.toNat_one, Nat.reduceEqDiff, Nat.reduceAdd, Nat.reduceLeDiff, Nat.reduceSub, Nat.reduceMul, ↓reduceIte, reduceCtorEq, Nat.add_zero, Int.toNat_natCast, List.getElem?_map, Option.map_some, List.length_map, Int.cast_ofNat_Int, decide_true, decide_false]); done) | ((try simp only [go_sem, Int.reduceLT, Int.reduceLE, Int.reduceToNat, Nat.reduceLT, eq_self, Int.toNat_zero, Int.toNat_one, Nat.reduceEqDiff, Nat.reduceAdd, Nat.reduceLeDiff, Nat.reduceSub, Nat.reduceMul, ↓reduceIte, reduceCtorEq, Nat.add_zero, Int.toNat_natCast, List.getElem?_map, Option.map_some, List.length_map, Int.cast_ofNat_Int, decide_true, decide_false]); rfl)), (by first | ((try simp only [go_sem, Int.reduceLT, Int.reduceLE, Int.reduceToNat, Nat.reduceLT, eq_self, Int.toNat_zero, Int.toNat_one, Nat.reduceEqDiff, Nat.reduceAdd, Nat.reduceLeDiff, Nat.reduceSub, Nat.reduceMul, ↓reduceIte, reduceCtorEq, Nat.add_zero, Int.toNat_natCast, List.getElem?_map, Option.map_some, List.length_map, Int.cast_ofNat_Int, decide_true, decide_false]); done) | ((try simp only [go_sem, Int.reduceLT, Int.reduceLE, Int.reduceToNat, Nat.reduceLT, eq_self, Int.toNat_zero, Int.toNat_one, Nat.reduceEqDiff, Nat.reduceAdd, Nat.reduceLeDiff, Nat.reduceSub, Nat.reduceMul, ↓reduceIte, reduceCtorEq, Nat.add_zero, Int.toNat_natCast, List.getElem?_map, Option.map_some, List.length_map, Int.cast_ofNat_Int, decide_true, decide_false]); rfl)), ?_, ?_⟩⟩
        · have : n0 < n0 + 1 := by omega
          have h7 : ¬ r % 7 = 6 := by omega
          simp only [go_sem, Int.reduceLT, Int.reduceLE, Int.reduceToNat, Nat.reduceLT, eq_self, Int.toNat_zero, Int.toNat_one, Nat.reduceEqDiff, Nat.reduceAdd, Nat.reduceLeDiff, Nat.reduceSub, Nat.reduceMul, ↓reduceIte, reduceCtorEq, Nat.add_zero, Int.toNat_natCast, List.getElem?_map, Option.map_some, List.length_map, Int.cast_ofNat_Int, decide_true, decide_false, this, htk, flow35, h7]
        · intro i hi
          have e1 : i < n0 + 1 := by omega
          have e2 : ¬ i = n0 := by omega
          simp only [go_sem, Int.reduceLT, Int.reduceLE, Int.reduceToNat, Nat.reduceLT, eq_self, Int.toNat_zero, Int.toNat_one, Nat.reduceEqDiff, Nat.reduceAdd, Nat.reduceLeDiff, Nat.reduceSub, Nat.reduceMul, ↓reduceIte, reduceCtorEq, Nat.add_zero, Int.toNat_natCast, List.getElem?_map, Option.map_some, List.length_map, Int.cast_ofNat_Int, decide_true, decide_false, e1, e2]; exact hlt0 i hi
    · have hrs : r = l.length := by omega
      subst hrs
      simp only [go_sem, Int.reduceLT, Int.reduceLE, Int.reduceToNat, Nat.reduceLT, eq_self, Int.toNat_zero, Int.toNat_one, Nat.reduceEqDiff, Nat.reduceAdd, Nat.reduceLeDiff, Nat.reduceSub, Nat.reduceMul, ↓reduceIte, reduceCtorEq, Nat.add_zero, Int.toNat_natCast, List.getElem?_map, Option.map_some, List.length_map, Int.cast_ofNat_Int, decide_true, decide_false, h3]
      refine ⟨g, by simp [ints, flowsS_length], rfl, ?_, hlt0⟩
      rw [List.take_of_length_le (by rw [flowsS_length]; omega)] at hob
      exact hob
theorem ok_law35_flows (l : List Int) (hl : l.length ≤ 1000000) : PC prog n_law35_flows [.list 1 (ints l)] (.list 1 (ints (flowsS l))) := by
  refine PC_of_HC ((hc_law35_flows St.empty l hl).mono ?_)
  rintro r σ' ⟨g, c, rfl, rfl⟩
  exact Pub.of_sl (ty := 3) (ro := false) (ap := true) (by simp [upd]) rfl (ints_pur _) (ints_ok _)
theorem eq_of_get {α : Type} {a b : List α} (hl : a.length = b.length) (h : ∀ j, j < a.length → a[j]? = b[j]?) : a = b := by
  apply List.ext_getElem? ; intro j
  by_cases hj : j < a.length
  · exact h j hj
  · rw [List.getElem?_eq_none (by omega), List.getElem?_eq_none (by omega)]
theorem ok_law35_ints (a : List Int) (ha : a.length ≤ 1000000) : PC prog n_law35_ints [.list 1 (ints a), .list 1 (ints a)] (.bool true) := by
  refine PC_of_body b_law35_ints (by simp) ?_
  simp only [c_law35_ints, go_sem, Int.reduceLT, Int.reduceLE, Int.reduceToNat, Nat.reduceLT, eq_self, Int.toNat_zero, Int.toNat_one, Nat.reduceEqDiff, Nat.reduceAdd, Nat.reduceLeDiff, Nat.reduceSub, Nat.reduceMul, ↓reduceIte, reduceCtorEq, Nat.add_zero, Int.toNat_natCast, List.getElem?_map, Option.map_some, List.length_map, Int.cast_ofNat_Int, decide_true, decide_false, ints_length]
  refine awp_upF [4, 5, 13, 14, 15, 16, 17, 18, 19, 20, 21, 22, 23, 24, 25] (by kernel_rfl) a.length (fun r e _ => e 13 = .int .i64 r) ?_ ?_
  · exact (by first | ((try simp only [go_sem, Int.reduceLT, Int.reduceLE, Int.reduceToNat, Nat.reduceLT, eq_self, Int.toNat_zero, Int.toNat_one, Nat.reduceEqDiff, Nat.reduceAdd, Nat.reduceLeDiff, Nat.reduceSub, Nat.reduceMul, ↓reduceIte, reduceCtorEq, Nat.add_zero, Int.toNat_natCast, List.getElem?_map, Option.map_some, List.length_map, Int.cast_ofNat_Int, decide_true, decide_false]); done) | ((try simp only [go_sem, Int.reduceLT, Int.reduceLE, Int.reduceToNat, Nat.reduceLT, eq_self, Int.toNat_zero, Int.toNat_one, Nat.reduceEqDiff, Nat.reduceAdd, Nat.reduceLeDiff, Nat.reduceSub, Nat.reduceMul, ↓reduceIte, reduceCtorEq, Nat.add_zero, Int.toNat_natCast, List.getElem?_map, Option.map_some, List.length_map, Int.cast_ofNat_Int, decide_true, decide_false]); rfl))
  · rintro r f ob c hr h13
    simp only [go_sem, Int.reduceLT, Int.reduceLE, Int.reduceToNat, Nat.reduceLT, eq_self, Int.toNat_zero, Int.toNat_one, Nat.reduceEqDiff, Nat.reduceAdd, Nat.reduceLeDiff, Nat.reduceSub, Nat.reduceMul, ↓reduceIte, reduceCtorEq, Nat.add_zero, Int.toNat_natCast, List.getElem?_map, Option.map_some, List.length_map, Int.cast_ofNat_Int, decide_true, decide_false] at h13
    simp only [go_sem, Int.reduceLT, Int.reduceLE, Int.reduceToNat, Nat.reduceLT, eq_self, Int.toNat_zero, Int.toNat_one, Nat.reduceEqDiff, Nat.reduceAdd, Nat.reduceLeDiff, Nat.reduceSub, Nat.reduceMul, ↓reduceIte, reduceCtorEq, Nat.add_zero, Int.toNat_natCast, List.getElem?_map, Option.map_some, List.length_map, Int.cast_ofNat_Int, decide_true, decide_false, h13]
    refine cond_d (fun hlt => ?_) (fun hge => ?_)
    · have hrl : r < a.length := by omega
      simp (disch := omega) only [go_sem, Int.reduceLT, Int.reduceLE, Int.reduceToNat, Nat.reduceLT, eq_self, Int.toNat_zero, Int.toNat_one, Nat.reduceEqDiff, Nat.reduceAdd, Nat.reduceLeDiff, Nat.reduceSub, Nat.reduceMul, ↓reduceIte, reduceCtorEq, Nat.add_zero, Int.toNat_natCast, List.getElem?_map, Option.map_some, List.length_map, Int.cast_ofNat_Int, decide_true, decide_false, wrap_id, h13, ints_length, ints_get, List.getElem?_eq_getElem hrl]
      exact ⟨by omega, by omega, by omega, by omega, up_next hrl (by first | ((try simp only [go_sem, Int.reduceLT, Int.reduceLE, Int.reduceToNat, Nat.reduceLT, eq_self, Int.toNat_zero, Int.toNat_one, Nat.reduceEqDiff, Nat.reduceAdd, Nat.reduceLeDiff, Nat.reduceSub, Nat.reduceMul, ↓reduceIte, reduceCtorEq, Nat.add_zero, Int.toNat_natCast, List.getElem?_map, Option.map_some, List.length_map, Int.cast_ofNat_Int, decide_true, decide_false]); done) | ((try simp only [go_sem, Int.reduceLT, Int.reduceLE, Int.reduceToNat, Nat.reduceLT, eq_self, Int.toNat_zero, Int.toNat_one, Nat.reduceEqDiff, Nat.reduceAdd, Nat.reduceLeDiff, Nat.reduceSub, Nat.reduceMul, ↓reduceIte, reduceCtorEq, Nat.add_zero, Int.toNat_natCast, List.getElem?_map, Option.map_some, List.length_map, Int.cast_ofNat_Int, decide_true, decide_false]); rfl))⟩
    · try simp only [go_sem, Int.reduceLT, Int.reduceLE, Int.reduceToNat, Nat.reduceLT, eq_self, Int.toNat_zero, Int.toNat_one, Nat.reduceEqDiff, Nat.reduceAdd, Nat.reduceLeDiff, Nat.reduceSub, Nat.reduceMul, ↓reduceIte, reduceCtorEq, Nat.add_zero, Int.toNat_natCast, List.getElem?_map, Option.map_some, List.length_map, Int.cast_ofNat_Int, decide_true, decide_false]
      exact Pub.of_eq rfl rfl
theorem ok_law35_sane : PC prog n_law35_sane [] (.bool true) := by
  refine PC_of_body b_law35_sane (by simp) ?_
  simp only [c_law35_sane, go_sem, Int.reduceLT, Int.reduceLE, Int.reduceToNat, Nat.reduceLT, eq_self, Int.toNat_zero, Int.toNat_one, Nat.reduceEqDiff, Nat.reduceAdd, Nat.reduceLeDiff, Nat.reduceSub, Nat.reduceMul, ↓reduceIte, reduceCtorEq, Nat.add_zero, Int.toNat_natCast, List.getElem?_map, Option.map_some, List.length_map, Int.cast_ofNat_Int, decide_true, decide_false]
  refine call_pc (ok_rise_Path [10] 1 5 22 3 (by simp) (by omega) (by intro x hx; simp at hx; omega)) (by simp [go_sem]) ?_
  simp only [go_sem, Int.reduceLT, Int.reduceLE, Int.reduceToNat, Nat.reduceLT, eq_self, Int.toNat_zero, Int.toNat_one, Nat.reduceEqDiff, Nat.reduceAdd, Nat.reduceLeDiff, Nat.reduceSub, Nat.reduceMul, ↓reduceIte, reduceCtorEq, Nat.add_zero, Int.toNat_natCast, List.getElem?_map, Option.map_some, List.length_map, Int.cast_ofNat_Int, decide_true, decide_false, show rpathR [10] 1 5 22 3 = ([15, 20, 22], 0) by decide, ints, List.map_cons, List.map_nil]
  refine call_pc (ok_rise_Rise [10, 4, 6] 2 9 (by simp) (by omega) (by intro x hx; simp at hx; omega) (by omega)) (by simp [go_sem]) ?_
  simp only [go_sem, Int.reduceLT, Int.reduceLE, Int.reduceToNat, Nat.reduceLT, eq_self, Int.toNat_zero, Int.toNat_one, Nat.reduceEqDiff, Nat.reduceAdd, Nat.reduceLeDiff, Nat.reduceSub, Nat.reduceMul, ↓reduceIte, reduceCtorEq, Nat.add_zero, Int.toNat_natCast, List.getElem?_map, Option.map_some, List.length_map, Int.cast_ofNat_Int, decide_true, decide_false, show riseS [10, 4, 6] 2 9 = 5 by decide]
  refine call_lent (ok_rise_Rise [] 2 9 (by simp) (by omega) (by intro x hx; simp at hx) (by omega)) (.cons (.nl 1) (.cons (.pure rfl) (.cons (.pure rfl) .nil))) rfl ?_
  simp only [go_sem, Int.reduceLT, Int.reduceLE, Int.reduceToNat, Nat.reduceLT, eq_self, Int.toNat_zero, Int.toNat_one, Nat.reduceEqDiff, Nat.reduceAdd, Nat.reduceLeDiff, Nat.reduceSub, Nat.reduceMul, ↓reduceIte, reduceCtorEq, Nat.add_zero, Int.toNat_natCast, List.getElem?_map, Option.map_some, List.length_map, Int.cast_ofNat_Int, decide_true, decide_false, show riseS [] 2 9 = 0 by decide]
  refine call_pc (ok_rise_Worst [3] [5, 9] 1 (by simp) (by omega) (by intro x hx; simp at hx; omega) (by intro x hx; simp at hx; omega)) (by simp [go_sem]) ?_
  simp only [go_sem, Int.reduceLT, Int.reduceLE, Int.reduceToNat, Nat.reduceLT, eq_self, Int.toNat_zero, Int.toNat_one, Nat.reduceEqDiff, Nat.reduceAdd, Nat.reduceLeDiff, Nat.reduceSub, Nat.reduceMul, ↓reduceIte, reduceCtorEq, Nat.add_zero, Int.toNat_natCast, List.getElem?_map, Option.map_some, List.length_map, Int.cast_ofNat_Int, decide_true, decide_false, show worstGo 1 0 [3] [5, 9] = 4 by decide]
  exact Pub.of_eq rfl rfl
theorem leastR_add (l : List Int) (w d : Int) : leastR (l.map (· + d)) w = if (leastR l w).2 then ((leastR l w).1 + d, true) else (0, false) := by
  unfold leastR
  by_cases h : w < 1 ∨ l = []
  · rw [if_pos h, if_pos (by simpa using h)]; rfl
  · rw [if_neg h, if_neg (by simpa using h)]
    simp only [if_true, Prod.mk.injEq, and_true]
    have hne : lastW l w ≠ [] := lastW_ne (by omega) (fun e => h (.inr e))
    have : lastW (l.map (· + d)) w = (lastW l w).map (· + d) := by simp [lastW]
    rw [this]
    generalize lastW l w = k at hne
    cases k with
    | nil => exact absurd rfl hne
    | cons a k =>
      simp only [List.map_cons, minS]
      clear hne
      induction k generalizing a with
      | nil => rfl
      | cons b k ih =>
        simp only [List.map_cons, List.foldl_cons]
        rw [show min (a + d) (b + d) = min a b + d by omega]
        exact ih _
theorem riseS_add (l : List Int) (w f d : Int) : riseS (l.map (· + d)) w (f + d) = riseS l w f := by
  unfold riseS
  rw [leastR_add]
  cases h : (leastR l w).2
  · simp
  · simp only [if_true]; omega
theorem worstGo_add (w d : Int) : ∀ (n : List Int) (m : Int) (p : List Int), worstGo w m (p.map (· + d)) (n.map (· + d)) = worstGo w m p n
  | [], m, p => rfl
  | x :: n, m, p => by
    simp only [List.map_cons, worstGo]
    rw [riseS_add, show p.map (· + d) ++ [x + d] = (p ++ [x]).map (· + d) by simp, worstGo_add w d n]
theorem leastR_old (o p : List Int) (w : Int) (hw : 1 ≤ w) (h : w ≤ p.length) : leastR (o ++ p) w = leastR p w := by
  have hp : p ≠ [] := fun e => by subst e; simp at h; omega
  unfold leastR
  rw [if_neg (by rintro (e | e); omega; simp at e; exact hp e.2), if_neg (by rintro (e | e); omega; exact hp e)]
  have : lastW (o ++ p) w = lastW p w := by
    unfold lastW
    rw [List.length_append, List.drop_append, List.drop_of_length_le (by omega), List.nil_append]
    congr 1; omega
  rw [this]
theorem worstGo_old (w : Int) (hw : 1 ≤ w) (o : List Int) : ∀ (n : List Int) (m : Int) (p : List Int), w ≤ p.length → worstGo w m (o ++ p) n = worstGo w m p n
  | [], m, p, h => rfl
  | x :: n, m, p, h => by
    simp only [worstGo]
    rw [show riseS (o ++ p) w x = riseS p w x by unfold riseS; rw [leastR_old o p w hw h], List.append_assoc, worstGo_old w hw o n _ (p ++ [x]) (by simp; omega)]
/-! the greatest flows without a rise -/
theorem firstGo_none (w k : Int) : ∀ (l : List Int) (j : Nat) (p : List Int), (∀ i (h : i < l.length), riseS (p ++ l.take i) w l[i] ≤ k) → firstGo w k j p l = (0, false)
  | [], j, p, h => rfl
  | x :: l, j, p, h => by
    have h0 := h 0 (by simp)
    simp only [List.take_zero, List.append_nil, List.getElem_cons_zero] at h0
    simp only [firstGo]
    rw [if_neg (by omega)]
    refine firstGo_none w k l (j + 1) (p ++ [x]) fun i hi => ?_
    have := h (i + 1) (by simp; omega)
    simpa using this
theorem pathL_take (p : List Int) (w k t : Int) (n : Nat) : ∀ i, i ≤ n → (pathL p w k t n).take (p.length + i) = pathL p w k t i := by
  induction n with
  | zero =>
    intro i hi
    obtain rfl : i = 0 := by omega
    rw [List.take_of_length_le (by rw [pathL_length]; exact Nat.le_refl _)]
  | succ n ih =>
    intro i hi
    by_cases h : i = n + 1
    · subst h; rw [List.take_of_length_le (by rw [pathL_length]; exact Nat.le_refl _)]
    · have hl := pathL_length p w k t n
      rw [show pathL p w k t (n + 1) = pathL p w k t n ++ [min t (roomS (pathL p w k t n) w k)] from rfl, List.take_append_of_le_length (by omega)]
      exact ih i (by omega)
theorem pathL_tail (p : List Int) (w k t : Int) (n i : Nat) (h : i < n) : p ++ ((pathL p w k t n).drop p.length).take i = pathL p w k t i := by
  rw [← pathL_take p w k t n i (by omega)]
  obtain ⟨r, hr⟩ := pathL_pre p w k t n
  rw [← hr, take_app]
  simp
theorem pathL_get (p : List Int) (w k t : Int) (n i : Nat) (h : i < n) : ((pathL p w k t n).drop p.length)[i]? = some (min t (roomS (pathL p w k t i) w k)) := by
  have h1 := pathL_take p w k t n (i + 1) (by omega)
  have hl := pathL_length p w k t i
  have h2 : ((pathL p w k t n).take (p.length + (i + 1)))[p.length + i]? = some (min t (roomS (pathL p w k t i) w k)) := by
    rw [h1, show pathL p w k t (i + 1) = pathL p w k t i ++ [min t (roomS (pathL p w k t i) w k)] from rfl, List.getElem?_append_right (by omega), hl]
    simp
  rw [List.getElem?_take, if_pos (by omega)] at h2
  rw [List.getElem?_drop]
  exact h2
theorem rise_room (l : List Int) (w k t : Int) (hk : 0 ≤ k) : riseS l w (min t (roomS l w k)) ≤ k := by
  unfold riseS roomS
  split <;> omega
theorem path_none (p : List Int) (w k t : Int) (n j : Nat) (hk : 0 ≤ k) : firstGo w k j p ((pathL p w k t n).drop p.length) = (0, false) := by
  refine firstGo_none w k _ j p fun i hi => ?_
  have hin : i < n := by have := pathL_length p w k t n; simp at hi; omega
  have hg := pathL_get p w k t n i hin
  rw [List.getElem?_eq_getElem hi] at hg
  rw [Option.some.inj hg, pathL_tail p w k t n i hin]
  exact rise_room _ w k t hk
/-- one list is nowhere greater than the other -/
def LeL (a b : List Int) : Prop := a.length = b.length ∧ ∀ i (h : i < a.length) (h' : i < b.length), a[i] ≤ b[i]
theorem LeL.refl (a : List Int) : LeL a a := ⟨rfl, fun _ _ _ => Int.le_refl _⟩
theorem LeL.snoc {a b : List Int} {x y : Int} (h : LeL a b) (hxy : x ≤ y) : LeL (a ++ [x]) (b ++ [y]) := by
  refine ⟨by simp [h.1], fun i hi hi' => ?_⟩
  by_cases e : i < a.length
  · rw [List.getElem_append_left e, List.getElem_append_left (by rw [← h.1]; exact e)]; exact h.2 i e _
  · simp at hi hi'
    have e1 : i = a.length := by omega
    subst e1
    have hab := h.1
    rw [List.getElem_append_right (by omega), List.getElem_append_right (by omega)]
    simpa using hxy
theorem leL_min {a b : List Int} (h : LeL a b) (hb : b ≠ []) : minS a ≤ minS b := by
  obtain ⟨i, hi, he⟩ := List.getElem_of_mem (minS_mem b hb)
  have := h.2 i (by rw [h.1]; exact hi) hi
  rw [he] at this
  exact Int.le_trans (minS_le a _ (List.getElem_mem (by rw [h.1]; exact hi))) this
theorem leL_room {a b : List Int} (h : LeL a b) (w k : Int) : roomS a w k ≤ roomS b w k := by
  have key : (leastR a w).2 = (leastR b w).2 ∧ ((leastR b w).2 = true → (leastR a w).1 ≤ (leastR b w).1) := by
    unfold leastR
    by_cases hw : w < 1 ∨ b = []
    · have hw' : w < 1 ∨ a = [] := hw.imp_right fun e => by subst e; exact List.eq_nil_of_length_eq_zero h.1
      rw [if_pos hw, if_pos hw']; simp
    · have hw' : ¬ (w < 1 ∨ a = []) := fun hh => hw (hh.imp_right fun e => by subst e; exact List.eq_nil_of_length_eq_zero h.1.symm)
      rw [if_neg hw, if_neg hw']
      refine ⟨rfl, fun _ => leL_min ⟨by simp [lastW, h.1], fun i hi hi' => ?_⟩ (lastW_ne (by omega) fun e => hw (.inr e))⟩
      simp only [lastW, List.getElem_drop]
      simp only [h.1]
      exact h.2 _ _ _
  obtain ⟨k1, k2⟩ := key
  unfold roomS
  rw [k1]
  cases hh : (leastR b w).2
  · simp
  · have := k2 hh; simp; omega
/-! limits -/
theorem firstGo_mono (w k w' k' : Int) (h : ∀ p f, k' < riseS p w' f → k < riseS p w f) : ∀ (n : List Int) (i : Nat) (p : List Int) (y : Int), firstGo w' k' i p n = (y, true) → ∃ x, x ≤ y ∧ firstGo w k i p n = (x, true)
  | [], i, p, y, hh => by simp [firstGo] at hh
  | a :: n, i, p, y, hh => by
    simp only [firstGo] at hh ⊢
    by_cases h1 : k < riseS p w a
    · rw [if_pos h1]
      refine ⟨i, ?_, rfl⟩
      split at hh
      · simp at hh; omega
      · have key : ∀ (n : List Int) (j : Nat) (p : List Int) (y : Int), firstGo w' k' j p n = (y, true) → (j : Int) ≤ y := by
          intro n
          induction n with
          | nil => intro j p y hh; simp [firstGo] at hh
          | cons b n ih =>
            intro j p y hh
            simp only [firstGo] at hh
            split at hh
            · simp at hh; omega
            · have := ih _ _ _ hh; omega
        have := key n (i + 1) _ y hh
        omega
    · rw [if_neg h1]
      rw [if_neg (fun hc => h1 (h p a hc))] at hh
      exact firstGo_mono w k w' k' h n (i + 1) (p ++ [a]) y hh
theorem riseS_win (l : List Int) (w w' f : Int) (h1 : 1 ≤ w') (h2 : w' ≤ w) : riseS l w' f ≤ riseS l w f := by
  by_cases hl : l = []
  · have e : ∀ w, leastR l w = (0, false) := fun w => by unfold leastR; rw [if_pos (.inr hl)]
    unfold riseS; rw [e, e]; simp
  · have e : ∀ w, 1 ≤ w → leastR l w = (minS (lastW l w), true) := fun w hw => by unfold leastR; rw [if_neg (by rintro (e | e); omega; exact hl e)]
    unfold riseS
    rw [e w (by omega), e w' h1]
    simp only [if_true]
    have hs : lastW l w' = (lastW l w).drop ((l.length - w'.toNat) - (l.length - w.toNat)) := by
      unfold lastW; rw [List.drop_drop]; congr 1; omega
    have hsub : minS (lastW l w) ≤ minS (lastW l w') := by
      refine minS_le _ _ ?_
      rw [hs]
      exact List.mem_of_mem_drop (minS_mem _ (by rw [← hs]; exact lastW_ne h1 hl))
    omega
theorem worst_ge (w : Int) : ∀ (n : List Int) (m : Int) (p : List Int), m ≤ worstGo w m p n
  | [], m, p => Int.le_refl _
  | x :: n, m, p => by have := worst_ge w n (max m (riseS p w x)) (p ++ [x]); simp only [worstGo]; omega
theorem worst_none (w : Int) : ∀ (n : List Int) (m : Int) (p : List Int) (i : Nat) (k : Int), worstGo w m p n ≤ k → firstGo w k i p n = (0, false)
  | [], m, p, i, k, h => rfl
  | x :: n, m, p, i, k, h => by
    simp only [worstGo, firstGo] at h ⊢
    have := worst_ge w n (max m (riseS p w x)) (p ++ [x])
    rw [if_neg (by omega)]
    exact worst_none w n _ _ _ k h
theorem worst_some (w : Int) : ∀ (n : List Int) (m : Int) (p : List Int) (i : Nat), worstGo w m p n = m ∨ ∃ x, firstGo w (worstGo w m p n - 1) i p n = (x, true)
  | [], m, p, i => .inl rfl
  | x :: n, m, p, i => by
    have ih := worst_some w n (max m (riseS p w x)) (p ++ [x]) (i + 1)
    rw [show worstGo w m p (x :: n) = worstGo w (max m (riseS p w x)) (p ++ [x]) n from rfl]
    generalize worstGo w (max m (riseS p w x)) (p ++ [x]) n = W at *
    rcases ih with h | ⟨y, h⟩
    · subst h
      by_cases hm : riseS p w x ≤ m
      · exact .inl (by omega)
      · refine .inr ⟨i, ?_⟩
        simp only [firstGo]
        rw [if_pos (by omega)]
    · by_cases hc : W - 1 < riseS p w x
      · exact .inr ⟨i, by simp only [firstGo]; rw [if_pos hc]⟩
      · exact .inr ⟨y, by simp only [firstGo]; rw [if_neg hc]; exact h⟩
theorem u8_bd {n : Int} (h : (Lit.int .u8 n).wf = true) : 0 ≤ n ∧ n ≤ 255 := by simp [Lit.wf, IntKind.min, IntKind.max, IntKind.signed, IntKind.bits] at h; omega
theorem i64_bd {n : Int} (h : (Lit.int .i64 n).wf = true) : -9223372036854775808 ≤ n ∧ n ≤ 9223372036854775807 := by simp [Lit.wf, IntKind.min, IntKind.max, IntKind.signed, IntKind.bits] at h; omega
theorem wrapu8 {n : Int} (h0 : 0 ≤ n) (h1 : n ≤ 255) : IntKind.u8.wrap n = n := by simp [IntKind.wrap, IntKind.signed, IntKind.bits]; omega
theorem ok_law35_RiseLimits (past : List Int) (hp : past.length ≤ 9223372036854775807) (next : List Int) (hn : next.length ≤ 9223372036854775807) (window : Int) (w2 : (Lit.int .u8 window).wf = true) (limit : Int) (w3 : (Lit.int .u8 limit).wf = true) (more : Int) (w4 : (Lit.int .u8 more).wf = true) :
    PC prog n_law35_RiseLimits [.list 1 (ints past), .list 1 (ints next), .int .u8 window, .int .u8 limit, .int .u8 more] (.bool true) := by
  refine PC_of_body b_law35_RiseLimits (by simp) ?_
  simp only [c_law35_RiseLimits, go_sem, Int.reduceLT, Int.reduceLE, Int.reduceToNat, Nat.reduceLT, eq_self, Int.toNat_zero, Int.toNat_one, Nat.reduceEqDiff, Nat.reduceAdd, Nat.reduceLeDiff, Nat.reduceSub, Nat.reduceMul, ↓reduceIte, reduceCtorEq, Nat.add_zero, Int.toNat_natCast, List.getElem?_map, Option.map_some, List.length_map, Int.cast_ofNat_Int, decide_true, decide_false]
  refine call_pc ok_law35_sane (by simp) ?_
  simp only [go_sem, Int.reduceLT, Int.reduceLE, Int.reduceToNat, Nat.reduceLT, eq_self, Int.toNat_zero, Int.toNat_one, Nat.reduceEqDiff, Nat.reduceAdd, Nat.reduceLeDiff, Nat.reduceSub, Nat.reduceMul, ↓reduceIte, reduceCtorEq, Nat.add_zero, Int.toNat_natCast, List.getElem?_map, Option.map_some, List.length_map, Int.cast_ofNat_Int, decide_true, decide_false, ints_length]
  refine gd_fd rfl (fun h => ?_) (fun h => ?_) <;> simp only [go_sem, Int.reduceLT, Int.reduceLE, Int.reduceToNat, Nat.reduceLT, eq_self, Int.toNat_zero, Int.toNat_one, Nat.reduceEqDiff, Nat.reduceAdd, Nat.reduceLeDiff, Nat.reduceSub, Nat.reduceMul, ↓reduceIte, reduceCtorEq, Nat.add_zero, Int.toNat_natCast, List.getElem?_map, Option.map_some, List.length_map, Int.cast_ofNat_Int, decide_true, decide_false, ints_length]
  · exact Pub.of_eq rfl rfl
  refine cond_d (fun h2 => ?_) (fun h2 => ?_) <;> simp only [go_sem, Int.reduceLT, Int.reduceLE, Int.reduceToNat, Nat.reduceLT, eq_self, Int.toNat_zero, Int.toNat_one, Nat.reduceEqDiff, Nat.reduceAdd, Nat.reduceLeDiff, Nat.reduceSub, Nat.reduceMul, ↓reduceIte, reduceCtorEq, Nat.add_zero, Int.toNat_natCast, List.getElem?_map, Option.map_some, List.length_map, Int.cast_ofNat_Int, decide_true, decide_false, ints_length]
  · exact Pub.of_eq rfl rfl
  refine call_pc (ok_law35_flows past (by omega)) (by simp [go_sem]) ?_
  try simp only [go_sem, Int.reduceLT, Int.reduceLE, Int.reduceToNat, Nat.reduceLT, eq_self, Int.toNat_zero, Int.toNat_one, Nat.reduceEqDiff, Nat.reduceAdd, Nat.reduceLeDiff, Nat.reduceSub, Nat.reduceMul, ↓reduceIte, reduceCtorEq, Nat.add_zero, Int.toNat_natCast, List.getElem?_map, Option.map_some, List.length_map, Int.cast_ofNat_Int, decide_true, decide_false]
  refine call_pc (ok_law35_flows next (by omega)) (by simp [go_sem]) ?_
  have hw := u8_bd w2
  have hk := u8_bd w3
  have hm := u8_bd w4
  have htm : window.tmod 8 = window % 8 := Int.tmod_eq_emod_of_nonneg (by omega)
  have htd : (window % 8).tdiv 2 = window % 8 / 2 := Int.tdiv_eq_ediv_of_nonneg (by omega)
  have hpl := flowsS_length past
  have hnl := flowsS_length next
  have hpf := flowsS_ok past
  have hnf := flowsS_ok next
  generalize flowsS past = a at *
  generalize flowsS next = b at *
  simp (disch := omega) only [go_sem, Int.reduceLT, Int.reduceLE, Int.reduceToNat, Nat.reduceLT, eq_self, Int.toNat_zero, Int.toNat_one, Nat.reduceEqDiff, Nat.reduceAdd, Nat.reduceLeDiff, Nat.reduceSub, Nat.reduceMul, ↓reduceIte, reduceCtorEq, Nat.add_zero, Int.toNat_natCast, List.getElem?_map, Option.map_some, List.length_map, Int.cast_ofNat_Int, decide_true, decide_false, htm, wrap_id]
  refine ⟨by omega, call_pc (ok_rise_First a b (1 + window % 8) limit (by omega) (by omega) hpf hnf) (by simp [go_sem]) ?_⟩
  simp (disch := omega) only [go_sem, Int.reduceLT, Int.reduceLE, Int.reduceToNat, Nat.reduceLT, eq_self, Int.toNat_zero, Int.toNat_one, Nat.reduceEqDiff, Nat.reduceAdd, Nat.reduceLeDiff, Nat.reduceSub, Nat.reduceMul, ↓reduceIte, reduceCtorEq, Nat.add_zero, Int.toNat_natCast, List.getElem?_map, Option.map_some, List.length_map, Int.cast_ofNat_Int, decide_true, decide_false, htm, wrap_id]
  refine call_pc (ok_rise_First a b (1 + window % 8) (limit + more) (by omega) (by omega) hpf hnf) (by simp [go_sem]) ?_
  simp (disch := omega) only [go_sem, Int.reduceLT, Int.reduceLE, Int.reduceToNat, Nat.reduceLT, eq_self, Int.toNat_zero, Int.toNat_one, Nat.reduceEqDiff, Nat.reduceAdd, Nat.reduceLeDiff, Nat.reduceSub, Nat.reduceMul, ↓reduceIte, reduceCtorEq, Nat.add_zero, Int.toNat_natCast, List.getElem?_map, Option.map_some, List.length_map, Int.cast_ofNat_Int, decide_true, decide_false, htm, htd, wrap_id]
  refine ⟨by omega, by omega, call_pc (ok_rise_First a b (1 + window % 8 / 2) limit (by omega) (by omega) hpf hnf) (by simp [go_sem]) ?_⟩
  have m1 := firstGo_mono (1 + window % 8) limit (1 + window % 8) (limit + more) (fun p f h => by omega) b 0 a
  have m2 := firstGo_mono (1 + window % 8) limit (1 + window % 8 / 2) limit (fun p f h => by have := riseS_win p (1 + window % 8) (1 + window % 8 / 2) f (by omega) (by omega); omega) b 0 a
  generalize firstGo (1 + window % 8) limit 0 a b = f1 at *
  generalize firstGo (1 + window % 8) (limit + more) 0 a b = f2 at *
  generalize firstGo (1 + window % 8 / 2) limit 0 a b = f3 at *
  obtain ⟨x1, o1⟩ := f1
  obtain ⟨x2, o2⟩ := f2
  obtain ⟨x3, o3⟩ := f3
  simp (disch := omega) only [go_sem, Int.reduceLT, Int.reduceLE, Int.reduceToNat, Nat.reduceLT, eq_self, Int.toNat_zero, Int.toNat_one, Nat.reduceEqDiff, Nat.reduceAdd, Nat.reduceLeDiff, Nat.reduceSub, Nat.reduceMul, ↓reduceIte, reduceCtorEq, Nat.add_zero, Int.toNat_natCast, List.getElem?_map, Option.map_some, List.length_map, Int.cast_ofNat_Int, decide_true, decide_false, wrap_id]
  have e2 : o2 = true → o1 = true ∧ ¬ x2 < x1 := fun h => by subst h; obtain ⟨x, hx, he⟩ := m1 x2 rfl; cases he; exact ⟨rfl, by omega⟩
  have e3 : o3 = true → o1 = true ∧ ¬ x3 < x1 := fun h => by subst h; obtain ⟨x, hx, he⟩ := m2 x3 rfl; cases he; exact ⟨rfl, by omega⟩
  clear m1 m2
  have rest : ∀ (e : Nat → AV) (σ : St), e 11 = .list 1 (ints a) → e 12 = .list 1 (ints b) → e 13 = .int .i64 (1 + window % 8) →
      HC prog n_rise_Worst [e 11, e 12, e 13] σ (fun v σ => True) := fun e σ h1 h2 h3 => by
    rw [h1, h2, h3]
    exact call_pc (ok_rise_Worst a b _ (by omega) (by omega) hpf hnf) (by simp [go_sem]) trivial
  clear rest
  have hwn := worst_none (1 + window % 8) b 0 a 0 (worstGo (1 + window % 8) 0 a b) (Int.le_refl _)
  have hws := worst_some (1 + window % 8) b 0 a 0
  have hwg := worst_ge (1 + window % 8) b 0 a
  have hwb : worstGo (1 + window % 8) 0 a b ≤ 1073741824 := by
    have key : ∀ (n : List Int) (m : Int) (p : List Int), okFl p → okFl n → m ≤ 1073741824 → worstGo (1 + window % 8) m p n ≤ 1073741824 := by
      intro n
      induction n with
      | nil => intro m p _ _ h; exact h
      | cons x n ih =>
        intro m p h1 h2 h
        have hx := h2 x (by simp)
        have := riseS_bd (w := 1 + window % 8) h1 hx
        exact ih _ _ (okFl_app h1 (by intro y hy; simp at hy; subst hy; exact hx)) (fun y hy => h2 y (by simp [hy])) (by omega)
    exact key b 0 a hpf hnf (by omega)
  cases o2 <;> cases o3 <;> simp only [true_implies, reduceCtorEq, false_implies] at e2 e3
  all_goals
    first
    | (obtain ⟨rfl, e2⟩ := e2)
    | (obtain ⟨rfl, e3⟩ := e3)
    | skip
  all_goals
    (try (have e3 := e3.2))
    simp only [go_sem, Int.reduceLT, Int.reduceLE, Int.reduceToNat, Nat.reduceLT, eq_self, Int.toNat_zero, Int.toNat_one, Nat.reduceEqDiff, Nat.reduceAdd, Nat.reduceLeDiff, Nat.reduceSub, Nat.reduceMul, ↓reduceIte, reduceCtorEq, Nat.add_zero, Int.toNat_natCast, List.getElem?_map, Option.map_some, List.length_map, Int.cast_ofNat_Int, decide_true, decide_false, *]
    refine call_pc (ok_rise_Worst a b _ (by omega) (by omega) hpf hnf) (by simp [go_sem]) ?_
    try simp only [go_sem, Int.reduceLT, Int.reduceLE, Int.reduceToNat, Nat.reduceLT, eq_self, Int.toNat_zero, Int.toNat_one, Nat.reduceEqDiff, Nat.reduceAdd, Nat.reduceLeDiff, Nat.reduceSub, Nat.reduceMul, ↓reduceIte, reduceCtorEq, Nat.add_zero, Int.toNat_natCast, List.getElem?_map, Option.map_some, List.length_map, Int.cast_ofNat_Int, decide_true, decide_false]
    refine call_pc (ok_rise_First a b (1 + window % 8) _ (by omega) (by omega) hpf hnf) (by simp [go_sem]) ?_
    simp (disch := omega) only [go_sem, Int.reduceLT, Int.reduceLE, Int.reduceToNat, Nat.reduceLT, eq_self, Int.toNat_zero, Int.toNat_one, Nat.reduceEqDiff, Nat.reduceAdd, Nat.reduceLeDiff, Nat.reduceSub, Nat.reduceMul, ↓reduceIte, reduceCtorEq, Nat.add_zero, Int.toNat_natCast, List.getElem?_map, Option.map_some, List.length_map, Int.cast_ofNat_Int, decide_true, decide_false, hwn, wrap_id]
    refine call_pc (ok_rise_First a b (1 + window % 8) _ (by omega) (by omega) hpf hnf) (by simp [go_sem]) ?_
    rcases hws with hz | ⟨x, hx⟩
    · simp only [go_sem, Int.reduceLT, Int.reduceLE, Int.reduceToNat, Nat.reduceLT, eq_self, Int.toNat_zero, Int.toNat_one, Nat.reduceEqDiff, Nat.reduceAdd, Nat.reduceLeDiff, Nat.reduceSub, Nat.reduceMul, ↓reduceIte, reduceCtorEq, Nat.add_zero, Int.toNat_natCast, List.getElem?_map, Option.map_some, List.length_map, Int.cast_ofNat_Int, decide_true, decide_false, hz]
      exact Pub.of_eq rfl rfl
    · simp only [go_sem, Int.reduceLT, Int.reduceLE, Int.reduceToNat, Nat.reduceLT, eq_self, Int.toNat_zero, Int.toNat_one, Nat.reduceEqDiff, Nat.reduceAdd, Nat.reduceLeDiff, Nat.reduceSub, Nat.reduceMul, ↓reduceIte, reduceCtorEq, Nat.add_zero, Int.toNat_natCast, List.getElem?_map, Option.map_some, List.length_map, Int.cast_ofNat_Int, decide_true, decide_false, hx]
      by_cases hz : worstGo (1 + window % 8) 0 a b = 0
      · simp only [go_sem, Int.reduceLT, Int.reduceLE, Int.reduceToNat, Nat.reduceLT, eq_self, Int.toNat_zero, Int.toNat_one, Nat.reduceEqDiff, Nat.reduceAdd, Nat.reduceLeDiff, Nat.reduceSub, Nat.reduceMul, ↓reduceIte, reduceCtorEq, Nat.add_zero, Int.toNat_natCast, List.getElem?_map, Option.map_some, List.length_map, Int.cast_ofNat_Int, decide_true, decide_false, hz]
        exact Pub.of_eq rfl rfl
      · simp only [go_sem, Int.reduceLT, Int.reduceLE, Int.reduceToNat, Nat.reduceLT, eq_self, Int.toNat_zero, Int.toNat_one, Nat.reduceEqDiff, Nat.reduceAdd, Nat.reduceLeDiff, Nat.reduceSub, Nat.reduceMul, ↓reduceIte, reduceCtorEq, Nat.add_zero, Int.toNat_natCast, List.getElem?_map, Option.map_some, List.length_map, Int.cast_ofNat_Int, decide_true, decide_false, hz]
        exact Pub.of_eq rfl rfl
theorem ok_law35_RiseShifts (past : List Int) (hp : past.length ≤ 9223372036854775807) (next : List Int) (hn : next.length ≤ 9223372036854775807) (old : List Int) (ho : old.length ≤ 9223372036854775807) (window : Int) (w3 : (Lit.int .u8 window).wf = true) (by' : Int) (w4 : (Lit.int .u8 by').wf = true) :
    PC prog n_law35_RiseShifts [.list 1 (ints past), .list 1 (ints next), .list 1 (ints old), .int .u8 window, .int .u8 by'] (.bool true) := by
  refine PC_of_body b_law35_RiseShifts (by simp) ?_
  simp only [c_law35_RiseShifts, go_sem, Int.reduceLT, Int.reduceLE, Int.reduceToNat, Nat.reduceLT, eq_self, Int.toNat_zero, Int.toNat_one, Nat.reduceEqDiff, Nat.reduceAdd, Nat.reduceLeDiff, Nat.reduceSub, Nat.reduceMul, ↓reduceIte, reduceCtorEq, Nat.add_zero, Int.toNat_natCast, List.getElem?_map, Option.map_some, List.length_map, Int.cast_ofNat_Int, decide_true, decide_false]
  refine call_pc ok_law35_sane (by simp) ?_
  simp only [go_sem, Int.reduceLT, Int.reduceLE, Int.reduceToNat, Nat.reduceLT, eq_self, Int.toNat_zero, Int.toNat_one, Nat.reduceEqDiff, Nat.reduceAdd, Nat.reduceLeDiff, Nat.reduceSub, Nat.reduceMul, ↓reduceIte, reduceCtorEq, Nat.add_zero, Int.toNat_natCast, List.getElem?_map, Option.map_some, List.length_map, Int.cast_ofNat_Int, decide_true, decide_false, ints_length]
  refine gd_fd rfl (fun h => ?_) (fun h => ?_) <;> simp only [go_sem, Int.reduceLT, Int.reduceLE, Int.reduceToNat, Nat.reduceLT, eq_self, Int.toNat_zero, Int.toNat_one, Nat.reduceEqDiff, Nat.reduceAdd, Nat.reduceLeDiff, Nat.reduceSub, Nat.reduceMul, ↓reduceIte, reduceCtorEq, Nat.add_zero, Int.toNat_natCast, List.getElem?_map, Option.map_some, List.length_map, Int.cast_ofNat_Int, decide_true, decide_false, ints_length]
  · exact Pub.of_eq rfl rfl
  refine gd_fd rfl (fun h2 => ?_) (fun h2 => ?_) <;> simp only [go_sem, Int.reduceLT, Int.reduceLE, Int.reduceToNat, Nat.reduceLT, eq_self, Int.toNat_zero, Int.toNat_one, Nat.reduceEqDiff, Nat.reduceAdd, Nat.reduceLeDiff, Nat.reduceSub, Nat.reduceMul, ↓reduceIte, reduceCtorEq, Nat.add_zero, Int.toNat_natCast, List.getElem?_map, Option.map_some, List.length_map, Int.cast_ofNat_Int, decide_true, decide_false, ints_length]
  · exact Pub.of_eq rfl rfl
  refine cond_d (fun h3 => ?_) (fun h3 => ?_) <;> simp only [go_sem, Int.reduceLT, Int.reduceLE, Int.reduceToNat, Nat.reduceLT, eq_self, Int.toNat_zero, Int.toNat_one, Nat.reduceEqDiff, Nat.reduceAdd, Nat.reduceLeDiff, Nat.reduceSub, Nat.reduceMul, ↓reduceIte, reduceCtorEq, Nat.add_zero, Int.toNat_natCast, List.getElem?_map, Option.map_some, List.length_map, Int.cast_ofNat_Int, decide_true, decide_false, ints_length]
  · exact Pub.of_eq rfl rfl
  have hw := u8_bd w3
  have hb := u8_bd w4
  have htm : window.tmod 8 = window % 8 := Int.tmod_eq_emod_of_nonneg (by omega)
  simp (disch := omega) only [go_sem, Int.reduceLT, Int.reduceLE, Int.reduceToNat, Nat.reduceLT, eq_self, Int.toNat_zero, Int.toNat_one, Nat.reduceEqDiff, Nat.reduceAdd, Nat.reduceLeDiff, Nat.reduceSub, Nat.reduceMul, ↓reduceIte, reduceCtorEq, Nat.add_zero, Int.toNat_natCast, List.getElem?_map, Option.map_some, List.length_map, Int.cast_ofNat_Int, decide_true, decide_false, htm, wrap_id]
  refine ⟨by omega, ?_⟩
  have mlen : ∀ (l : List Int) (r : Nat) (d : Int), r ≤ l.length → (ints ((l.map fun x => x % 50 + d).take r)).length = r := fun l r d h => by simp [ints]; omega
  have msn : ∀ (l : List Int) (r : Nat) (d : Int) (h : r < l.length), ints ((l.map fun x => x % 50 + d).take r) ++ [.int .i64 (l[r] % 50 + d)] = ints ((l.map fun x => x % 50 + d).take (r + 1)) := fun l r d h => by
    rw [take_snoc _ r (by simpa using h), ints_snoc]; simp
  have m50 : ∀ x : Int, 0 ≤ x % 50 ∧ x % 50 < 50 := fun x => ⟨Int.emod_nonneg x (by omega), Int.emod_lt_of_pos x (by omega)⟩
  refine awp_upF [12, 14, 17, 41, 42, 43, 44, 45, 46, 47, 48, 49, 50, 51, 52, 53, 54, 55, 56, 57, 58] (by kernel_rfl) past.length (fun r e σ => ∃ g0 g2, e 12 = .sl 0 g0 1 0 r ∧ e 14 = .sl 2 g2 1 0 r ∧ e 41 = .int .i64 r ∧ σ.ob 0 = some ⟨g0, 1, 3, false, true, ints ((past.map fun x => x % 50 + 0).take r)⟩ ∧ σ.ob 2 = some ⟨g2, 1, 3, false, true, ints ((past.map fun x => x % 50 + by').take r)⟩ ∧
    σ.ob 1 = some ⟨1, 1, 3, false, true, []⟩ ∧ σ.ob 3 = some ⟨3, 1, 3, false, true, []⟩) ?_ ?_
  · exact ⟨_, _, by (try simp only [go_sem, Int.reduceLT, Int.reduceLE, Int.reduceToNat, Nat.reduceLT, eq_self, Int.toNat_zero, Int.toNat_one, Nat.reduceEqDiff, Nat.reduceAdd, Nat.reduceLeDiff, Nat.reduceSub, Nat.reduceMul, ↓reduceIte, reduceCtorEq, Nat.add_zero, Int.toNat_natCast, List.getElem?_map, Option.map_some, List.length_map, Int.cast_ofNat_Int, decide_true, decide_false]); rfl, by (try simp only [go_sem, Int.reduceLT, Int.reduceLE, Int.reduceToNat, Nat.reduceLT, eq_self, Int.toNat_zero, Int.toNat_one, Nat.reduceEqDiff, Nat.reduceAdd, Nat.reduceLeDiff, Nat.reduceSub, Nat.reduceMul, ↓reduceIte, reduceCtorEq, Nat.add_zero, Int.toNat_natCast, List.getElem?_map, Option.map_some, List.length_map, Int.cast_ofNat_Int, decide_true, decide_false]); rfl, (by first | ((try simp only [go_sem, Int.reduceLT, Int.reduceLE, Int.reduceToNat, Nat.reduceLT, eq_self, Int.toNat_zero, Int.toNat_one, Nat.reduceEqDiff, Nat.reduceAdd, Nat.reduceLeDiff, Nat.reduceSub, Nat.reduceMul, ↓reduceIte, reduceCtorEq, Nat.add_zero, Int.toNat_natCast, List.getElem?_map, Option.map_some, List.length_map, Int.cast_ofNat_Int, decide_true, decide_false]); done) | ((try simp only [go_sem, Int.reduceLT, Int.reduceLE, Int.reduceToNat, Nat.reduceLT, eq_self, Int.toNat_zero, Int.toNat_one, Nat.reduceEqDiff, Nat.reduceAdd, Nat.reduceLeDiff, Nat.reduceSub, Nat.reduceMul, ↓reduceIte, reduceCtorEq, Nat.add_zero, Int.toNat_natCast, List.getElem?_map, Option.map_some, List.length_map, Int.cast_ofNat_Int, decide_true, decide_false]); rfl)), by simp [go_sem, ints], by simp [go_sem, ints], by simp [go_sem], by simp [go_sem]⟩
  rintro r f ob c hr ⟨g0, g2, h12, h14, h41, hob0, hob2, hob1, hob3⟩
  simp only [go_sem, Int.reduceLT, Int.reduceLE, Int.reduceToNat, Nat.reduceLT, eq_self, Int.toNat_zero, Int.toNat_one, Nat.reduceEqDiff, Nat.reduceAdd, Nat.reduceLeDiff, Nat.reduceSub, Nat.reduceMul, ↓reduceIte, reduceCtorEq, Nat.add_zero, Int.toNat_natCast, List.getElem?_map, Option.map_some, List.length_map, Int.cast_ofNat_Int, decide_true, decide_false] at h12 h14 h41 hob0 hob2 hob1 hob3
  simp only [go_sem, Int.reduceLT, Int.reduceLE, Int.reduceToNat, Nat.reduceLT, eq_self, Int.toNat_zero, Int.toNat_one, Nat.reduceEqDiff, Nat.reduceAdd, Nat.reduceLeDiff, Nat.reduceSub, Nat.reduceMul, ↓reduceIte, reduceCtorEq, Nat.add_zero, Int.toNat_natCast, List.getElem?_map, Option.map_some, List.length_map, Int.cast_ofNat_Int, decide_true, decide_false, h41]
  refine cond_d (fun hlt => ?_) (fun hge => ?_)
  · have hrl : r < past.length := by omega
    have := m50 past[r]
    simp (disch := omega) only [go_sem, Int.reduceLT, Int.reduceLE, Int.reduceToNat, Nat.reduceLT, eq_self, Int.toNat_zero, Int.toNat_one, Nat.reduceEqDiff, Nat.reduceAdd, Nat.reduceLeDiff, Nat.reduceSub, Nat.reduceMul, ↓reduceIte, reduceCtorEq, Nat.add_zero, Int.toNat_natCast, List.getElem?_map, Option.map_some, List.length_map, Int.cast_ofNat_Int, decide_true, decide_false, wrap_id, h12, h14, h41, ints_length, ints_get, List.getElem?_eq_getElem hrl]
    refine ⟨by omega, by omega, call_pc (ok_mk_Mod past[r] 50 (by omega) (by omega)) (by simp [go_sem]) ?_⟩
    simp (disch := omega) only [go_sem, Int.reduceLT, Int.reduceLE, Int.reduceToNat, Nat.reduceLT, eq_self, Int.toNat_zero, Int.toNat_one, Nat.reduceEqDiff, Nat.reduceAdd, Nat.reduceLeDiff, Nat.reduceSub, Nat.reduceMul, ↓reduceIte, reduceCtorEq, Nat.add_zero, Int.toNat_natCast, List.getElem?_map, Option.map_some, List.length_map, Int.cast_ofNat_Int, decide_true, decide_false, wrap_id, h12, h14, h41, hob0, hob2]
    refine ⟨mlen _ _ _ hr, by simp [maxLen]; omega, by omega, call_pc (ok_mk_Mod past[r] 50 (by omega) (by omega)) (by simp [go_sem]) ?_⟩
    simp (disch := omega) only [go_sem, Int.reduceLT, Int.reduceLE, Int.reduceToNat, Nat.reduceLT, eq_self, Int.toNat_zero, Int.toNat_one, Nat.reduceEqDiff, Nat.reduceAdd, Nat.reduceLeDiff, Nat.reduceSub, Nat.reduceMul, ↓reduceIte, reduceCtorEq, Nat.add_zero, Int.toNat_natCast, List.getElem?_map, Option.map_some, List.length_map, Int.cast_ofNat_Int, decide_true, decide_false, wrap_id, h12, h14, h41, hob0, hob2]
    refine ⟨mlen _ _ _ hr, by simp [maxLen]; omega, by omega, up_next hrl ⟨_, _, (by first | ((try simp only [go_sem, Int.reduceLT, Int.reduceLE, Int.reduceToNat, Nat.reduceLT, eq_self, Int.toNat_zero, Int.toNat_one, Nat.reduceEqDiff, Nat.reduceAdd, Nat.reduceLeDiff, Nat.reduceSub, Nat.reduceMul, ↓reduceIte, reduceCtorEq, Nat.add_zero, Int.toNat_natCast, List.getElem?_map, Option.map_some, List.length_map, Int.cast_ofNat_Int, decide_true, decide_false]); done) | ((try simp only [go_sem, Int.reduceLT, Int.reduceLE, Int.reduceToNat, Nat.reduceLT, eq_self, Int.toNat_zero, Int.toNat_one, Nat.reduceEqDiff, Nat.reduceAdd, Nat.reduceLeDiff, Nat.reduceSub, Nat.reduceMul, ↓reduceIte, reduceCtorEq, Nat.add_zero, Int.toNat_natCast, List.getElem?_map, Option.map_some, List.length_map, Int.cast_ofNat_Int, decide_true, decide_false]); rfl)), (by first | ((try simp only [go_sem, Int.reduceLT, Int.reduceLE, Int.reduceToNat, Nat.reduceLT, eq_self, Int.toNat_zero, Int.toNat_one, Nat.reduceEqDiff, Nat.reduceAdd, Nat.reduceLeDiff, Nat.reduceSub, Nat.reduceMul, ↓reduceIte, reduceCtorEq, Nat.add_zero, Int.toNat_natCast, List.getElem?_map, Option.map_some, List.length_map, Int.cast_ofNat_Int, decide_true, decide_false]); done) | ((try simp only [go_sem, Int.reduceLT, Int.reduceLE, Int.reduceToNat, Nat.reduceLT, eq_self, Int.toNat_zero, Int.toNat_one, Nat.reduceEqDiff, Nat.reduceAdd, Nat.reduceLeDiff, Nat.reduceSub, Nat.reduceMul, ↓reduceIte, reduceCtorEq, Nat.add_zero, Int.toNat_natCast, List.getElem?_map, Option.map_some, List.length_map, Int.cast_ofNat_Int, decide_true, decide_false]); rfl)), (by first | ((try simp only [go_sem, Int.reduceLT, Int.reduceLE, Int.reduceToNat, Nat.reduceLT, eq_self, Int.toNat_zero, Int.toNat_one, Nat.reduceEqDiff, Nat.reduceAdd, Nat.reduceLeDiff, Nat.reduceSub, Nat.reduceMul, ↓reduceIte, reduceCtorEq, Nat.add_zero, Int.toNat_natCast, List.getElem?_map, Option.map_some, List.length_map, Int.cast_ofNat_Int, decide_true, decide_false]); done) | ((try simp only [go_sem, Int.reduceLT, Int.reduceLE, Int.reduceToNat, Nat.reduceLT, eq_self, Int.toNat_zero, Int.toNat_one, Nat.reduceEqDiff, Nat.reduceAdd, Nat.reduceLeDiff, Nat.reduceSub, Nat.reduceMul, ↓reduceIte, reduceCtorEq, Nat.add_zero, Int.toNat_natCast, List.getElem?_map, Option.map_some, List.length_map, Int.cast_ofNat_Int, decide_true, decide_false]); rfl)), ?_, ?_, ?_, ?_⟩⟩
    · have := msn past r 0 hrl
      rw [Int.add_zero] at this
      simp only [go_sem, Int.reduceLT, Int.reduceLE, Int.reduceToNat, Nat.reduceLT, eq_self, Int.toNat_zero, Int.toNat_one, Nat.reduceEqDiff, Nat.reduceAdd, Nat.reduceLeDiff, Nat.reduceSub, Nat.reduceMul, ↓reduceIte, reduceCtorEq, Nat.add_zero, Int.toNat_natCast, List.getElem?_map, Option.map_some, List.length_map, Int.cast_ofNat_Int, decide_true, decide_false, this]
    · simp only [go_sem, Int.reduceLT, Int.reduceLE, Int.reduceToNat, Nat.reduceLT, eq_self, Int.toNat_zero, Int.toNat_one, Nat.reduceEqDiff, Nat.reduceAdd, Nat.reduceLeDiff, Nat.reduceSub, Nat.reduceMul, ↓reduceIte, reduceCtorEq, Nat.add_zero, Int.toNat_natCast, List.getElem?_map, Option.map_some, List.length_map, Int.cast_ofNat_Int, decide_true, decide_false, msn past r by' hrl]
    · simp only [go_sem, Int.reduceLT, Int.reduceLE, Int.reduceToNat, Nat.reduceLT, eq_self, Int.toNat_zero, Int.toNat_one, Nat.reduceEqDiff, Nat.reduceAdd, Nat.reduceLeDiff, Nat.reduceSub, Nat.reduceMul, ↓reduceIte, reduceCtorEq, Nat.add_zero, Int.toNat_natCast, List.getElem?_map, Option.map_some, List.length_map, Int.cast_ofNat_Int, decide_true, decide_false, hob1]
    · simp only [go_sem, Int.reduceLT, Int.reduceLE, Int.reduceToNat, Nat.reduceLT, eq_self, Int.toNat_zero, Int.toNat_one, Nat.reduceEqDiff, Nat.reduceAdd, Nat.reduceLeDiff, Nat.reduceSub, Nat.reduceMul, ↓reduceIte, reduceCtorEq, Nat.add_zero, Int.toNat_natCast, List.getElem?_map, Option.map_some, List.length_map, Int.cast_ofNat_Int, decide_true, decide_false, hob3]
  have hrp : r = past.length := by omega
  subst hrp
  rw [List.take_of_length_le (by simp)] at hob0 hob2
  simp only [go_sem, Int.reduceLT, Int.reduceLE, Int.reduceToNat, Nat.reduceLT, eq_self, Int.toNat_zero, Int.toNat_one, Nat.reduceEqDiff, Nat.reduceAdd, Nat.reduceLeDiff, Nat.reduceSub, Nat.reduceMul, ↓reduceIte, reduceCtorEq, Nat.add_zero, Int.toNat_natCast, List.getElem?_map, Option.map_some, List.length_map, Int.cast_ofNat_Int, decide_true, decide_false, ints_length]
  refine awp_upF [13, 15, 19, 61, 62, 63, 64, 65, 66, 67, 68, 69, 70, 71, 72, 73, 74, 75, 76, 77, 78] (by kernel_rfl) next.length (fun r e σ => ∃ g1 g3, e 13 = .sl 1 g1 1 0 r ∧ e 15 = .sl 3 g3 1 0 r ∧ e 61 = .int .i64 r ∧ σ.ob 1 = some ⟨g1, 1, 3, false, true, ints ((next.map fun x => x % 50 + 0).take r)⟩ ∧ σ.ob 3 = some ⟨g3, 1, 3, false, true, ints ((next.map fun x => x % 50 + by').take r)⟩ ∧
    σ.ob 0 = some ⟨g0, 1, 3, false, true, ints (past.map fun x => x % 50 + 0)⟩ ∧ σ.ob 2 = some ⟨g2, 1, 3, false, true, ints (past.map fun x => x % 50 + by')⟩) ?_ ?_
  · exact ⟨_, _, by (try simp only [go_sem, Int.reduceLT, Int.reduceLE, Int.reduceToNat, Nat.reduceLT, eq_self, Int.toNat_zero, Int.toNat_one, Nat.reduceEqDiff, Nat.reduceAdd, Nat.reduceLeDiff, Nat.reduceSub, Nat.reduceMul, ↓reduceIte, reduceCtorEq, Nat.add_zero, Int.toNat_natCast, List.getElem?_map, Option.map_some, List.length_map, Int.cast_ofNat_Int, decide_true, decide_false]); rfl, by (try simp only [go_sem, Int.reduceLT, Int.reduceLE, Int.reduceToNat, Nat.reduceLT, eq_self, Int.toNat_zero, Int.toNat_one, Nat.reduceEqDiff, Nat.reduceAdd, Nat.reduceLeDiff, Nat.reduceSub, Nat.reduceMul, ↓reduceIte, reduceCtorEq, Nat.add_zero, Int.toNat_natCast, List.getElem?_map, Option.map_some, List.length_map, Int.cast_ofNat_Int, decide_true, decide_false]); rfl, (by first | ((try simp only [go_sem, Int.reduceLT, Int.reduceLE, Int.reduceToNat, Nat.reduceLT, eq_self, Int.toNat_zero, Int.toNat_one, Nat.reduceEqDiff, Nat.reduceAdd, Nat.reduceLeDiff, Nat.reduceSub, Nat.reduceMul, ↓reduceIte, reduceCtorEq, Nat.add_zero, Int.toNat_natCast, List.getElem?_map, Option.map_some, List.length_map, Int.cast_ofNat_Int, decide_true, decide_false]); done) | ((try simp only [go_sem, Int.reduceLT, Int.reduceLE, Int.reduceToNat, Nat.reduceLT, eq_self, Int.toNat_zero, Int.toNat_one, Nat.reduceEqDiff, Nat.reduceAdd, Nat.reduceLeDiff, Nat.reduceSub, Nat.reduceMul, ↓reduceIte, reduceCtorEq, Nat.add_zero, Int.toNat_natCast, List.getElem?_map, Option.map_some, List.length_map, Int.cast_ofNat_Int, decide_true, decide_false]); rfl)), by simp only [hob1]; simp [ints], by simp only [hob3]; simp [ints], hob0, hob2⟩
  clear hob0 hob1 hob2 hob3
  rintro r f2 ob c hr ⟨g1, g3, h13, h15, h61, hob1, hob3, hob0, hob2⟩
  simp only [go_sem, Int.reduceLT, Int.reduceLE, Int.reduceToNat, Nat.reduceLT, eq_self, Int.toNat_zero, Int.toNat_one, Nat.reduceEqDiff, Nat.reduceAdd, Nat.reduceLeDiff, Nat.reduceSub, Nat.reduceMul, ↓reduceIte, reduceCtorEq, Nat.add_zero, Int.toNat_natCast, List.getElem?_map, Option.map_some, List.length_map, Int.cast_ofNat_Int, decide_true, decide_false] at h13 h15 h61 hob0 hob2 hob1 hob3
  simp only [go_sem, Int.reduceLT, Int.reduceLE, Int.reduceToNat, Nat.reduceLT, eq_self, Int.toNat_zero, Int.toNat_one, Nat.reduceEqDiff, Nat.reduceAdd, Nat.reduceLeDiff, Nat.reduceSub, Nat.reduceMul, ↓reduceIte, reduceCtorEq, Nat.add_zero, Int.toNat_natCast, List.getElem?_map, Option.map_some, List.length_map, Int.cast_ofNat_Int, decide_true, decide_false, h61]
  refine cond_d (fun hlt => ?_) (fun hge => ?_)
  · have hrl : r < next.length := by omega
    have := m50 next[r]
    simp (disch := omega) only [go_sem, Int.reduceLT, Int.reduceLE, Int.reduceToNat, Nat.reduceLT, eq_self, Int.toNat_zero, Int.toNat_one, Nat.reduceEqDiff, Nat.reduceAdd, Nat.reduceLeDiff, Nat.reduceSub, Nat.reduceMul, ↓reduceIte, reduceCtorEq, Nat.add_zero, Int.toNat_natCast, List.getElem?_map, Option.map_some, List.length_map, Int.cast_ofNat_Int, decide_true, decide_false, wrap_id, h13, h15, h61, ints_length, ints_get, List.getElem?_eq_getElem hrl]
    refine ⟨by omega, by omega, call_pc (ok_mk_Mod next[r] 50 (by omega) (by omega)) (by simp [go_sem]) ?_⟩
    simp (disch := omega) only [go_sem, Int.reduceLT, Int.reduceLE, Int.reduceToNat, Nat.reduceLT, eq_self, Int.toNat_zero, Int.toNat_one, Nat.reduceEqDiff, Nat.reduceAdd, Nat.reduceLeDiff, Nat.reduceSub, Nat.reduceMul, ↓reduceIte, reduceCtorEq, Nat.add_zero, Int.toNat_natCast, List.getElem?_map, Option.map_some, List.length_map, Int.cast_ofNat_Int, decide_true, decide_false, wrap_id, h13, h15, h61, hob1, hob3]
    refine ⟨mlen _ _ _ hr, by simp [maxLen]; omega, by omega, call_pc (ok_mk_Mod next[r] 50 (by omega) (by omega)) (by simp [go_sem]) ?_⟩
    simp (disch := omega) only [go_sem, Int.reduceLT, Int.reduceLE, Int.reduceToNat, Nat.reduceLT, eq_self, Int.toNat_zero, Int.toNat_one, Nat.reduceEqDiff, Nat.reduceAdd, Nat.reduceLeDiff, Nat.reduceSub, Nat.reduceMul, ↓reduceIte, reduceCtorEq, Nat.add_zero, Int.toNat_natCast, List.getElem?_map, Option.map_some, List.length_map, Int.cast_ofNat_Int, decide_true, decide_false, wrap_id, h13, h15, h61, hob1, hob3]
    refine ⟨mlen _ _ _ hr, by simp [maxLen]; omega, by omega, up_next hrl ⟨_, _, (by first | ((try simp only [go_sem, Int.reduceLT, Int.reduceLE, Int.reduceToNat, Nat.reduceLT, eq_self, Int.toNat_zero, Int.toNat_one, Nat.reduceEqDiff, Nat.reduceAdd, Nat.reduceLeDiff, Nat.reduceSub, Nat.reduceMul, ↓reduceIte, reduceCtorEq, Nat.add_zero, Int.toNat_natCast, List.getElem?_map, Option.map_some, List.length_map, Int.cast_ofNat_Int, decide_true, decide_false]); done) | ((try simp only [go_sem, Int.reduceLT, Int.reduceLE, Int.reduceToNat, Nat.reduceLT, eq_self, Int.toNat_zero, Int.toNat_one, Nat.reduceEqDiff, Nat.reduceAdd, Nat.reduceLeDiff, Nat.reduceSub, Nat.reduceMul, ↓reduceIte, reduceCtorEq, Nat.add_zero, Int.toNat_natCast, List.getElem?_map, Option.map_some, List.length_map, Int.cast_ofNat_Int, decide_true, decide_false]); rfl)), (by first | ((try simp only [go_sem, Int.reduceLT, Int.reduceLE, Int.reduceToNat, Nat.reduceLT, eq_self, Int.toNat_zero, Int.toNat_one, Nat.reduceEqDiff, Nat.reduceAdd, Nat.reduceLeDiff, Nat.reduceSub, Nat.reduceMul, ↓reduceIte, reduceCtorEq, Nat.add_zero, Int.toNat_natCast, List.getElem?_map, Option.map_some, List.length_map, Int.cast_ofNat_Int, decide_true, decide_false]); done) | ((try simp only [go_sem, Int.reduceLT, Int.reduceLE, Int.reduceToNat, Nat.reduceLT, eq_self, Int.toNat_zero, Int.toNat_one, Nat.reduceEqDiff, Nat.reduceAdd, Nat.reduceLeDiff, Nat.reduceSub, Nat.reduceMul, ↓reduceIte, reduceCtorEq, Nat.add_zero, Int.toNat_natCast, List.getElem?_map, Option.map_some, List.length_map, Int.cast_ofNat_Int, decide_true, decide_false]); rfl)), (by first | ((try simp only [go_sem, Int.reduceLT, Int.reduceLE, Int.reduceToNat, Nat.reduceLT, eq_self, Int.toNat_zero, Int.toNat_one, Nat.reduceEqDiff, Nat.reduceAdd, Nat.reduceLeDiff, Nat.reduceSub, Nat.reduceMul, ↓reduceIte, reduceCtorEq, Nat.add_zero, Int.toNat_natCast, List.getElem?_map, Option.map_some, List.length_map, Int.cast_ofNat_Int, decide_true, decide_false]); done) | ((try simp only [go_sem, Int.reduceLT, Int.reduceLE, Int.reduceToNat, Nat.reduceLT, eq_self, Int.toNat_zero, Int.toNat_one, Nat.reduceEqDiff, Nat.reduceAdd, Nat.reduceLeDiff, Nat.reduceSub, Nat.reduceMul, ↓reduceIte, reduceCtorEq, Nat.add_zero, Int.toNat_natCast, List.getElem?_map, Option.map_some, List.length_map, Int.cast_ofNat_Int, decide_true, decide_false]); rfl)), ?_, ?_, ?_, ?_⟩⟩
    · have := msn next r 0 hrl
      rw [Int.add_zero] at this
      simp only [go_sem, Int.reduceLT, Int.reduceLE, Int.reduceToNat, Nat.reduceLT, eq_self, Int.toNat_zero, Int.toNat_one, Nat.reduceEqDiff, Nat.reduceAdd, Nat.reduceLeDiff, Nat.reduceSub, Nat.reduceMul, ↓reduceIte, reduceCtorEq, Nat.add_zero, Int.toNat_natCast, List.getElem?_map, Option.map_some, List.length_map, Int.cast_ofNat_Int, decide_true, decide_false, this]
    · simp only [go_sem, Int.reduceLT, Int.reduceLE, Int.reduceToNat, Nat.reduceLT, eq_self, Int.toNat_zero, Int.toNat_one, Nat.reduceEqDiff, Nat.reduceAdd, Nat.reduceLeDiff, Nat.reduceSub, Nat.reduceMul, ↓reduceIte, reduceCtorEq, Nat.add_zero, Int.toNat_natCast, List.getElem?_map, Option.map_some, List.length_map, Int.cast_ofNat_Int, decide_true, decide_false, msn next r by' hrl]
    · simp only [go_sem, Int.reduceLT, Int.reduceLE, Int.reduceToNat, Nat.reduceLT, eq_self, Int.toNat_zero, Int.toNat_one, Nat.reduceEqDiff, Nat.reduceAdd, Nat.reduceLeDiff, Nat.reduceSub, Nat.reduceMul, ↓reduceIte, reduceCtorEq, Nat.add_zero, Int.toNat_natCast, List.getElem?_map, Option.map_some, List.length_map, Int.cast_ofNat_Int, decide_true, decide_false, hob0]
    · simp only [go_sem, Int.reduceLT, Int.reduceLE, Int.reduceToNat, Nat.reduceLT, eq_self, Int.toNat_zero, Int.toNat_one, Nat.reduceEqDiff, Nat.reduceAdd, Nat.reduceLeDiff, Nat.reduceSub, Nat.reduceMul, ↓reduceIte, reduceCtorEq, Nat.add_zero, Int.toNat_natCast, List.getElem?_map, Option.map_some, List.length_map, Int.cast_ofNat_Int, decide_true, decide_false, hob2]
  have hrn : r = next.length := by omega
  subst hrn
  rw [List.take_of_length_le (by simp)] at hob1 hob3
  have e0 : (past.map fun x => x % 50 + by') = (past.map fun x => x % 50 + 0).map (· + by') := by simp
  have e1 : (next.map fun x => x % 50 + by') = (next.map fun x => x % 50 + 0).map (· + by') := by simp
  have okm : ∀ (l : List Int) (d : Int), 0 ≤ d → d ≤ 255 → okFl (l.map fun x => x % 50 + d) := fun l d h1 h2 x hx => by
    obtain ⟨y, _, rfl⟩ := List.mem_map.1 hx
    have := m50 y; omega
  have okA := okm past 0 (by omega) (by omega)
  have okB := okm next 0 (by omega) (by omega)
  have okC := okm past by' (by omega) (by omega)
  have okD := okm next by' (by omega) (by omega)
  have lA : (past.map fun x => x % 50 + 0).length = past.length := by simp
  have lB : (next.map fun x => x % 50 + 0).length = next.length := by simp
  have lC : (past.map fun x => x % 50 + by').length = past.length := by simp
  have lD : (next.map fun x => x % 50 + by').length = next.length := by simp
  have hWW : worstGo (1 + window % 8) 0 (past.map fun x => x % 50 + by') (next.map fun x => x % 50 + by') = worstGo (1 + window % 8) 0 (past.map fun x => x % 50 + 0) (next.map fun x => x % 50 + 0) := by rw [e0, e1, worstGo_add]
  clear e0 e1
  generalize (past.map fun x => x % 50 + 0) = A at *
  generalize (next.map fun x => x % 50 + 0) = B at *
  generalize (past.map fun x => x % 50 + by') = C at *
  generalize (next.map fun x => x % 50 + by') = D at *
  simp only [go_sem, Int.reduceLT, Int.reduceLE, Int.reduceToNat, Nat.reduceLT, eq_self, Int.toNat_zero, Int.toNat_one, Nat.reduceEqDiff, Nat.reduceAdd, Nat.reduceLeDiff, Nat.reduceSub, Nat.reduceMul, ↓reduceIte, reduceCtorEq, Nat.add_zero, Int.toNat_natCast, List.getElem?_map, Option.map_some, List.length_map, Int.cast_ofNat_Int, decide_true, decide_false, h12, h13, h14, h15]
  refine call_lent (ok_rise_Worst A B (1 + window % 8) (by omega) (by omega) okA okB) (.cons (Pub.of_sl hob0 (by rw [ints_length, lA]) (ints_pur _) (ints_ok _)) (.cons (Pub.of_sl hob1 (by rw [ints_length, lB]) (ints_pur _) (ints_ok _)) (.cons (.pure rfl) .nil))) rfl ?_
  simp only [go_sem, Int.reduceLT, Int.reduceLE, Int.reduceToNat, Nat.reduceLT, eq_self, Int.toNat_zero, Int.toNat_one, Nat.reduceEqDiff, Nat.reduceAdd, Nat.reduceLeDiff, Nat.reduceSub, Nat.reduceMul, ↓reduceIte, reduceCtorEq, Nat.add_zero, Int.toNat_natCast, List.getElem?_map, Option.map_some, List.length_map, Int.cast_ofNat_Int, decide_true, decide_false, h12, h13, h14, h15]
  refine call_lent (ok_rise_Worst C D (1 + window % 8) (by omega) (by omega) okC okD) (.cons (Pub.of_sl hob2 (by rw [ints_length, lC]) (ints_pur _) (ints_ok _)) (.cons (Pub.of_sl hob3 (by rw [ints_length, lD]) (ints_pur _) (ints_ok _)) (.cons (.pure rfl) .nil))) rfl ?_
  simp only [go_sem, Int.reduceLT, Int.reduceLE, Int.reduceToNat, Nat.reduceLT, eq_self, Int.toNat_zero, Int.toNat_one, Nat.reduceEqDiff, Nat.reduceAdd, Nat.reduceLeDiff, Nat.reduceSub, Nat.reduceMul, ↓reduceIte, reduceCtorEq, Nat.add_zero, Int.toNat_natCast, List.getElem?_map, Option.map_some, List.length_map, Int.cast_ofNat_Int, decide_true, decide_false, h12, h13, hWW]
  refine cond_d (fun hl => ?_) (fun hl => ?_) <;> simp only [go_sem, Int.reduceLT, Int.reduceLE, Int.reduceToNat, Nat.reduceLT, eq_self, Int.toNat_zero, Int.toNat_one, Nat.reduceEqDiff, Nat.reduceAdd, Nat.reduceLeDiff, Nat.reduceSub, Nat.reduceMul, ↓reduceIte, reduceCtorEq, Nat.add_zero, Int.toNat_natCast, List.getElem?_map, Option.map_some, List.length_map, Int.cast_ofNat_Int, decide_true, decide_false]
  · exact Pub.of_eq rfl rfl
  refine HC.mono (hc_law35_flows _ old (by omega)) ?_
  rintro v σ' ⟨g, c5, rfl, rfl⟩
  have hol : (ints (flowsS old)).length = old.length := by simp [ints, flowsS_length]
  simp only [go_sem, Int.reduceLT, Int.reduceLE, Int.reduceToNat, Nat.reduceLT, eq_self, Int.toNat_zero, Int.toNat_one, Nat.reduceEqDiff, Nat.reduceAdd, Nat.reduceLeDiff, Nat.reduceSub, Nat.reduceMul, ↓reduceIte, reduceCtorEq, Nat.add_zero, Int.toNat_natCast, List.getElem?_map, Option.map_some, List.length_map, Int.cast_ofNat_Int, decide_true, decide_false, h12, h13, hob0, hob1, hol]
  have lA' : (ints A).length = past.length := by rw [ints_length, lA]
  have lB' : (ints B).length = next.length := by rw [ints_length, lB]
  have e5 : List.take past.length (ints A) = ints A := by rw [List.take_of_length_le (by omega)]
  simp only [lA', e5, ints_app]
  refine ⟨by omega, by simp [maxLen]; omega, by omega, ?_⟩
  refine call_lent (ok_rise_Worst (flowsS old ++ A) B (1 + window % 8) (by simp [flowsS_length]; omega) (by omega) (okFl_app (flowsS_ok old) okA) okB) (.cons (Pub.of_sl (by (try simp only [go_sem, Int.reduceLT, Int.reduceLE, Int.reduceToNat, Nat.reduceLT, eq_self, Int.toNat_zero, Int.toNat_one, Nat.reduceEqDiff, Nat.reduceAdd, Nat.reduceLeDiff, Nat.reduceSub, Nat.reduceMul, ↓reduceIte, reduceCtorEq, Nat.add_zero, Int.toNat_natCast, List.getElem?_map, Option.map_some, List.length_map, Int.cast_ofNat_Int, decide_true, decide_false]); rfl) (by simp [ints, flowsS_length, lA]) (ints_pur _) (ints_ok _)) (.cons (Pub.of_sl (by (try simp only [go_sem, Int.reduceLT, Int.reduceLE, Int.reduceToNat, Nat.reduceLT, eq_self, Int.toNat_zero, Int.toNat_one, Nat.reduceEqDiff, Nat.reduceAdd, Nat.reduceLeDiff, Nat.reduceSub, Nat.reduceMul, ↓reduceIte, reduceCtorEq, Nat.add_zero, Int.toNat_natCast, List.getElem?_map, Option.map_some, List.length_map, Int.cast_ofNat_Int, decide_true, decide_false]); exact hob1) (by rw [lB']) (ints_pur _) (ints_ok _)) (.cons (.pure rfl) .nil))) rfl ?_
  simp only [go_sem, Int.reduceLT, Int.reduceLE, Int.reduceToNat, Nat.reduceLT, eq_self, Int.toNat_zero, Int.toNat_one, Nat.reduceEqDiff, Nat.reduceAdd, Nat.reduceLeDiff, Nat.reduceSub, Nat.reduceMul, ↓reduceIte, reduceCtorEq, Nat.add_zero, Int.toNat_natCast, List.getElem?_map, Option.map_some, List.length_map, Int.cast_ofNat_Int, decide_true, decide_false, h12, h13]
  refine call_lent (ok_rise_Worst A B (1 + window % 8) (by omega) (by omega) okA okB) (.cons (Pub.of_sl (by (try simp only [go_sem, Int.reduceLT, Int.reduceLE, Int.reduceToNat, Nat.reduceLT, eq_self, Int.toNat_zero, Int.toNat_one, Nat.reduceEqDiff, Nat.reduceAdd, Nat.reduceLeDiff, Nat.reduceSub, Nat.reduceMul, ↓reduceIte, reduceCtorEq, Nat.add_zero, Int.toNat_natCast, List.getElem?_map, Option.map_some, List.length_map, Int.cast_ofNat_Int, decide_true, decide_false]); exact hob0) (by rw [lA']) (ints_pur _) (ints_ok _)) (.cons (Pub.of_sl (by (try simp only [go_sem, Int.reduceLT, Int.reduceLE, Int.reduceToNat, Nat.reduceLT, eq_self, Int.toNat_zero, Int.toNat_one, Nat.reduceEqDiff, Nat.reduceAdd, Nat.reduceLeDiff, Nat.reduceSub, Nat.reduceMul, ↓reduceIte, reduceCtorEq, Nat.add_zero, Int.toNat_natCast, List.getElem?_map, Option.map_some, List.length_map, Int.cast_ofNat_Int, decide_true, decide_false]); exact hob1) (by rw [lB']) (ints_pur _) (ints_ok _)) (.cons (.pure rfl) .nil))) rfl ?_
  simp only [go_sem, Int.reduceLT, Int.reduceLE, Int.reduceToNat, Nat.reduceLT, eq_self, Int.toNat_zero, Int.toNat_one, Nat.reduceEqDiff, Nat.reduceAdd, Nat.reduceLeDiff, Nat.reduceSub, Nat.reduceMul, ↓reduceIte, reduceCtorEq, Nat.add_zero, Int.toNat_natCast, List.getElem?_map, Option.map_some, List.length_map, Int.cast_ofNat_Int, decide_true, decide_false, worstGo_old (1 + window % 8) (by omega) (flowsS old) B 0 A (by omega)]
  exact Pub.of_eq rfl rfl
theorem ok_law35_RisePaths (past : List Int) (hp : past.length ≤ 9223372036854775807) (other : List Int) (hn : other.length ≤ 9223372036854775807) (window : Int) (w2 : (Lit.int .u8 window).wf = true) (limit : Int) (w3 : (Lit.int .u8 limit).wf = true) (target : Int) (w4 : (Lit.int .u8 target).wf = true) :
    PC prog n_law35_RisePaths [.list 1 (ints past), .list 1 (ints other), .int .u8 window, .int .u8 limit, .int .u8 target] (.bool true) := by
  refine PC_of_body b_law35_RisePaths (by simp) ?_
  simp only [c_law35_RisePaths, go_sem, Int.reduceLT, Int.reduceLE, Int.reduceToNat, Nat.reduceLT, eq_self, Int.toNat_zero, Int.toNat_one, Nat.reduceEqDiff, Nat.reduceAdd, Nat.reduceLeDiff, Nat.reduceSub, Nat.reduceMul, ↓reduceIte, reduceCtorEq, Nat.add_zero, Int.toNat_natCast, List.getElem?_map, Option.map_some, List.length_map, Int.cast_ofNat_Int, decide_true, decide_false]
  refine call_pc ok_law35_sane (by simp) ?_
  simp only [go_sem, Int.reduceLT, Int.reduceLE, Int.reduceToNat, Nat.reduceLT, eq_self, Int.toNat_zero, Int.toNat_one, Nat.reduceEqDiff, Nat.reduceAdd, Nat.reduceLeDiff, Nat.reduceSub, Nat.reduceMul, ↓reduceIte, reduceCtorEq, Nat.add_zero, Int.toNat_natCast, List.getElem?_map, Option.map_some, List.length_map, Int.cast_ofNat_Int, decide_true, decide_false, ints_length]
  refine gd_fd rfl (fun h => ?_) (fun h => ?_) <;> simp only [go_sem, Int.reduceLT, Int.reduceLE, Int.reduceToNat, Nat.reduceLT, eq_self, Int.toNat_zero, Int.toNat_one, Nat.reduceEqDiff, Nat.reduceAdd, Nat.reduceLeDiff, Nat.reduceSub, Nat.reduceMul, ↓reduceIte, reduceCtorEq, Nat.add_zero, Int.toNat_natCast, List.getElem?_map, Option.map_some, List.length_map, Int.cast_ofNat_Int, decide_true, decide_false, ints_length]
  · exact Pub.of_eq rfl rfl
  refine cond_d (fun h2 => ?_) (fun h2 => ?_) <;> simp only [go_sem, Int.reduceLT, Int.reduceLE, Int.reduceToNat, Nat.reduceLT, eq_self, Int.toNat_zero, Int.toNat_one, Nat.reduceEqDiff, Nat.reduceAdd, Nat.reduceLeDiff, Nat.reduceSub, Nat.reduceMul, ↓reduceIte, reduceCtorEq, Nat.add_zero, Int.toNat_natCast, List.getElem?_map, Option.map_some, List.length_map, Int.cast_ofNat_Int, decide_true, decide_false, ints_length]
  · exact Pub.of_eq rfl rfl
  refine call_pc (ok_law35_flows past (by omega)) (by simp [go_sem]) ?_
  have hw := u8_bd w2
  have hk := u8_bd w3
  have hm := u8_bd w4
  have ht1 : window.tmod 8 = window % 8 := Int.tmod_eq_emod_of_nonneg (by omega)
  have ht2 : limit.tmod 20 = limit % 20 := Int.tmod_eq_emod_of_nonneg (by omega)
  have ht3 : target.tmod 90 = target % 90 := Int.tmod_eq_emod_of_nonneg (by omega)
  have hpl := flowsS_length past
  have hpf := flowsS_ok past
  generalize flowsS past = a at *
  simp (disch := omega) only [go_sem, Int.reduceLT, Int.reduceLE, Int.reduceToNat, Nat.reduceLT, eq_self, Int.toNat_zero, Int.toNat_one, Nat.reduceEqDiff, Nat.reduceAdd, Nat.reduceLeDiff, Nat.reduceSub, Nat.reduceMul, ↓reduceIte, reduceCtorEq, Nat.add_zero, Int.toNat_natCast, List.getElem?_map, Option.map_some, List.length_map, Int.cast_ofNat_Int, decide_true, decide_false, ht1, ht2, ht3, wrap_id, ints_length]
  obtain ⟨w, hwd⟩ : ∃ w, w = 1 + window % 8 := ⟨_, rfl⟩
  obtain ⟨k, hkd⟩ : ∃ k, k = limit % 20 := ⟨_, rfl⟩
  obtain ⟨m, hmd⟩ : ∃ m, m = target % 90 := ⟨_, rfl⟩
  rw [← hwd, ← hkd, ← hmd]
  refine ⟨by omega, by omega, by omega, call_pc (ok_rise_Path a w k m other.length (by omega) (by omega) hpf) (by simp [go_sem]) ?_⟩
  have hrp : rpathR a w k m other.length = ((pathL a w k m other.length).drop a.length, 0) := by
    unfold rpathR; rw [if_neg (by omega), if_neg (by omega)]; rfl
  have hll : ((pathL a w k m other.length).drop a.length).length = other.length := by simp [pathL_length]
  have hlf : okFl ((pathL a w k m other.length).drop a.length) := fun x hx => pathL_ok (w := w) hpf (by omega : 0 ≤ k) (by omega : 0 ≤ m ∧ m ≤ 1073741824) _ x (List.mem_of_mem_drop hx)
  simp only [go_sem, Int.reduceLT, Int.reduceLE, Int.reduceToNat, Nat.reduceLT, eq_self, Int.toNat_zero, Int.toNat_one, Nat.reduceEqDiff, Nat.reduceAdd, Nat.reduceLeDiff, Nat.reduceSub, Nat.reduceMul, ↓reduceIte, reduceCtorEq, Nat.add_zero, Int.toNat_natCast, List.getElem?_map, Option.map_some, List.length_map, Int.cast_ofNat_Int, decide_true, decide_false, hrp]
  refine call_pc (ok_rise_First a _ w k (by omega) (by omega) hpf hlf) (by simp [go_sem]) ?_
  simp only [go_sem, Int.reduceLT, Int.reduceLE, Int.reduceToNat, Nat.reduceLT, eq_self, Int.toNat_zero, Int.toNat_one, Nat.reduceEqDiff, Nat.reduceAdd, Nat.reduceLeDiff, Nat.reduceSub, Nat.reduceMul, ↓reduceIte, reduceCtorEq, Nat.add_zero, Int.toNat_natCast, List.getElem?_map, Option.map_some, List.length_map, Int.cast_ofNat_Int, decide_true, decide_false, path_none a w k m other.length 0 (by omega), ints_length, hll]
  refine ⟨by simp [maxLen]; omega, by omega, ?_⟩
  refine awp_upF [10, 19, 20, 21, 22, 79, 80, 81, 82, 83, 84, 85, 86, 87, 88, 89, 90, 91, 92, 93, 94, 95, 96, 97, 98, 99, 100, 101, 102, 103] (by kernel_rfl) other.length (fun r e σ => ∃ g L, e 19 = .sl 0 g 1 0 (a.length + r) ∧ e 79 = .int .i64 r ∧ σ.ob 0 = some ⟨g, 1, 3, false, true, ints L⟩ ∧ L.length = a.length + r ∧ okFl L ∧ LeL L (pathL a w k m r)) ?_ ?_
  · exact ⟨_, a, by simp only [go_sem, Int.reduceLT, Int.reduceLE, Int.reduceToNat, Nat.reduceLT, eq_self, Int.toNat_zero, Int.toNat_one, Nat.reduceEqDiff, Nat.reduceAdd, Nat.reduceLeDiff, Nat.reduceSub, Nat.reduceMul, ↓reduceIte, reduceCtorEq, Nat.add_zero, Int.toNat_natCast, List.getElem?_map, Option.map_some, List.length_map, Int.cast_ofNat_Int, decide_true, decide_false, ints_length]; rfl, (by first | ((try simp only [go_sem, Int.reduceLT, Int.reduceLE, Int.reduceToNat, Nat.reduceLT, eq_self, Int.toNat_zero, Int.toNat_one, Nat.reduceEqDiff, Nat.reduceAdd, Nat.reduceLeDiff, Nat.reduceSub, Nat.reduceMul, ↓reduceIte, reduceCtorEq, Nat.add_zero, Int.toNat_natCast, List.getElem?_map, Option.map_some, List.length_map, Int.cast_ofNat_Int, decide_true, decide_false]); done) | ((try simp only [go_sem, Int.reduceLT, Int.reduceLE, Int.reduceToNat, Nat.reduceLT, eq_self, Int.toNat_zero, Int.toNat_one, Nat.reduceEqDiff, Nat.reduceAdd, Nat.reduceLeDiff, Nat.reduceSub, Nat.reduceMul, ↓reduceIte, reduceCtorEq, Nat.add_zero, Int.toNat_natCast, List.getElem?_map, Option.map_some, List.length_map, Int.cast_ofNat_Int, decide_true, decide_false]); rfl)), by simp [go_sem], rfl, hpf, LeL.refl a⟩
  · rintro r f ob c hr ⟨g, L, h19, h79, hob, hL, hLf, hle⟩
    simp only [go_sem, Int.reduceLT, Int.reduceLE, Int.reduceToNat, Nat.reduceLT, eq_self, Int.toNat_zero, Int.toNat_one, Nat.reduceEqDiff, Nat.reduceAdd, Nat.reduceLeDiff, Nat.reduceSub, Nat.reduceMul, ↓reduceIte, reduceCtorEq, Nat.add_zero, Int.toNat_natCast, List.getElem?_map, Option.map_some, List.length_map, Int.cast_ofNat_Int, decide_true, decide_false] at h19 h79 hob
    simp only [go_sem, Int.reduceLT, Int.reduceLE, Int.reduceToNat, Nat.reduceLT, eq_self, Int.toNat_zero, Int.toNat_one, Nat.reduceEqDiff, Nat.reduceAdd, Nat.reduceLeDiff, Nat.reduceSub, Nat.reduceMul, ↓reduceIte, reduceCtorEq, Nat.add_zero, Int.toNat_natCast, List.getElem?_map, Option.map_some, List.length_map, Int.cast_ofNat_Int, decide_true, decide_false, h79]
    refine cond_d (fun hlt => ?_) (fun hge => ?_)
    · have hrl : r < other.length := by omega
      simp (disch := omega) only [go_sem, Int.reduceLT, Int.reduceLE, Int.reduceToNat, Nat.reduceLT, eq_self, Int.toNat_zero, Int.toNat_one, Nat.reduceEqDiff, Nat.reduceAdd, Nat.reduceLeDiff, Nat.reduceSub, Nat.reduceMul, ↓reduceIte, reduceCtorEq, Nat.add_zero, Int.toNat_natCast, List.getElem?_map, Option.map_some, List.length_map, Int.cast_ofNat_Int, decide_true, decide_false, wrap_id, h19, h79, ints_length, ints_get, List.getElem?_eq_getElem hrl]
      refine ⟨by omega, by omega, call_pc (ok_mk_Mod other[r] (m + 1) (by omega) (by omega)) (by simp [go_sem]) ?_⟩
      have hx0 := Int.emod_nonneg other[r] (show m + 1 ≠ 0 by omega)
      have hx1 := Int.emod_lt_of_pos other[r] (show 0 < m + 1 by omega)
      generalize other[r] % (m + 1) = x at *
      simp only [go_sem, Int.reduceLT, Int.reduceLE, Int.reduceToNat, Nat.reduceLT, eq_self, Int.toNat_zero, Int.toNat_one, Nat.reduceEqDiff, Nat.reduceAdd, Nat.reduceLeDiff, Nat.reduceSub, Nat.reduceMul, ↓reduceIte, reduceCtorEq, Nat.add_zero, Int.toNat_natCast, List.getElem?_map, Option.map_some, List.length_map, Int.cast_ofNat_Int, decide_true, decide_false, h19]
      refine call_lent (ok_rise_Room L w k (by omega) (by omega) hLf ⟨by omega, by omega⟩) (.cons (Pub.of_sl hob (by rw [ints_length, hL]) (ints_pur _) (ints_ok _)) (.cons (.pure rfl) (.cons (.pure rfl) .nil))) rfl ?_
      have hr1 := leL_room hle w k
      have hr2 := roomS_bd (w := w) hLf (by omega : 0 ≤ k)
      have hg := pathL_get a w k m other.length r hrl
      simp (disch := omega) only [go_sem, Int.reduceLT, Int.reduceLE, Int.reduceToNat, Nat.reduceLT, eq_self, Int.toNat_zero, Int.toNat_one, Nat.reduceEqDiff, Nat.reduceAdd, Nat.reduceLeDiff, Nat.reduceSub, Nat.reduceMul, ↓reduceIte, reduceCtorEq, Nat.add_zero, Int.toNat_natCast, List.getElem?_map, Option.map_some, List.length_map, Int.cast_ofNat_Int, decide_true, decide_false, wrap_id, h19, h79, ints_length, ints_get, hg, hll, hob]
      refine ⟨by omega, by omega, cond_d (fun hh => by omega) (fun _ => ?_)⟩
      simp (disch := omega) only [go_sem, Int.reduceLT, Int.reduceLE, Int.reduceToNat, Nat.reduceLT, eq_self, Int.toNat_zero, Int.toNat_one, Nat.reduceEqDiff, Nat.reduceAdd, Nat.reduceLeDiff, Nat.reduceSub, Nat.reduceMul, ↓reduceIte, reduceCtorEq, Nat.add_zero, Int.toNat_natCast, List.getElem?_map, Option.map_some, List.length_map, Int.cast_ofNat_Int, decide_true, decide_false, wrap_id, h19, h79, hob, ints_length]
      refine ⟨hL, by simp [maxLen]; omega, by omega, up_next hrl ⟨_, L ++ [min x (roomS L w k)], (by first | ((try simp only [go_sem, Int.reduceLT, Int.reduceLE, Int.reduceToNat, Nat.reduceLT, eq_self, Int.toNat_zero, Int.toNat_one, Nat.reduceEqDiff, Nat.reduceAdd, Nat.reduceLeDiff, Nat.reduceSub, Nat.reduceMul, ↓reduceIte, reduceCtorEq, Nat.add_zero, Int.toNat_natCast, List.getElem?_map, Option.map_some, List.length_map, Int.cast_ofNat_Int, decide_true, decide_false]); done) | ((try simp only [go_sem, Int.reduceLT, Int.reduceLE, Int.reduceToNat, Nat.reduceLT, eq_self, Int.toNat_zero, Int.toNat_one, Nat.reduceEqDiff, Nat.reduceAdd, Nat.reduceLeDiff, Nat.reduceSub, Nat.reduceMul, ↓reduceIte, reduceCtorEq, Nat.add_zero, Int.toNat_natCast, List.getElem?_map, Option.map_some, List.length_map, Int.cast_ofNat_Int, decide_true, decide_false]); rfl)), (by first | ((try simp only [go_sem, Int.reduceLT, Int.reduceLE, Int.reduceToNat, Nat.reduceLT, eq_self, Int.toNat_zero, Int.toNat_one, Nat.reduceEqDiff, Nat.reduceAdd, Nat.reduceLeDiff, Nat.reduceSub, Nat.reduceMul, ↓reduceIte, reduceCtorEq, Nat.add_zero, Int.toNat_natCast, List.getElem?_map, Option.map_some, List.length_map, Int.cast_ofNat_Int, decide_true, decide_false]); done) | ((try simp only [go_sem, Int.reduceLT, Int.reduceLE, Int.reduceToNat, Nat.reduceLT, eq_self, Int.toNat_zero, Int.toNat_one, Nat.reduceEqDiff, Nat.reduceAdd, Nat.reduceLeDiff, Nat.reduceSub, Nat.reduceMul, ↓reduceIte, reduceCtorEq, Nat.add_zero, Int.toNat_natCast, List.getElem?_map, Option.map_some, List.length_map, Int.cast_ofNat_Int, decide_true, decide_false]); rfl)), by simp only [go_sem, Int.reduceLT, Int.reduceLE, Int.reduceToNat, Nat.reduceLT, eq_self, Int.toNat_zero, Int.toNat_one, Nat.reduceEqDiff, Nat.reduceAdd, Nat.reduceLeDiff, Nat.reduceSub, Nat.reduceMul, ↓reduceIte, reduceCtorEq, Nat.add_zero, Int.toNat_natCast, List.getElem?_map, Option.map_some, List.length_map, Int.cast_ofNat_Int, decide_true, decide_false, ints_snoc, Nat.zero_lt_one], by simp [hL]; omega, okFl_app hLf (by intro y hy; simp at hy; subst hy; omega), ?_⟩⟩
      show LeL _ (pathL a w k m r ++ [min m (roomS (pathL a w k m r) w k)])
      exact hle.snoc (by omega)
    · try simp only [go_sem, Int.reduceLT, Int.reduceLE, Int.reduceToNat, Nat.reduceLT, eq_self, Int.toNat_zero, Int.toNat_one, Nat.reduceEqDiff, Nat.reduceAdd, Nat.reduceLeDiff, Nat.reduceSub, Nat.reduceMul, ↓reduceIte, reduceCtorEq, Nat.add_zero, Int.toNat_natCast, List.getElem?_map, Option.map_some, List.length_map, Int.cast_ofNat_Int, decide_true, decide_false]
      exact Pub.of_eq rfl rfl
theorem ok_law35_RiseTells (past : List Int) (hp : past.length ≤ 9223372036854775807) (next : List Int) (hn : next.length ≤ 9223372036854775807) (window : Int) (w2 : (Lit.int .i64 window).wf = true) (flow : Int) (w3 : (Lit.int .i64 flow).wf = true) (limit : Int) (w4 : (Lit.int .i64 limit).wf = true) (target : Int) (w5 : (Lit.int .i64 target).wf = true) (steps : Int) (w6 : (Lit.int .i64 steps).wf = true) :
    PC prog n_law35_RiseTells [.list 1 (ints past), .list 1 (ints next), .int .i64 window, .int .i64 flow, .int .i64 limit, .int .i64 target, .int .i64 steps] (.bool true) := by
  refine PC_of_body b_law35_RiseTells (by simp) ?_
  simp only [c_law35_RiseTells, go_sem, Int.reduceLT, Int.reduceLE, Int.reduceToNat, Nat.reduceLT, eq_self, Int.toNat_zero, Int.toNat_one, Nat.reduceEqDiff, Nat.reduceAdd, Nat.reduceLeDiff, Nat.reduceSub, Nat.reduceMul, ↓reduceIte, reduceCtorEq, Nat.add_zero, Int.toNat_natCast, List.getElem?_map, Option.map_some, List.length_map, Int.cast_ofNat_Int, decide_true, decide_false]
  refine call_pc ok_law35_sane (by simp) ?_
  simp only [go_sem, Int.reduceLT, Int.reduceLE, Int.reduceToNat, Nat.reduceLT, eq_self, Int.toNat_zero, Int.toNat_one, Nat.reduceEqDiff, Nat.reduceAdd, Nat.reduceLeDiff, Nat.reduceSub, Nat.reduceMul, ↓reduceIte, reduceCtorEq, Nat.add_zero, Int.toNat_natCast, List.getElem?_map, Option.map_some, List.length_map, Int.cast_ofNat_Int, decide_true, decide_false, ints_length]
  refine gd_fd rfl (fun h => ?_) (fun h => ?_) <;> simp only [go_sem, Int.reduceLT, Int.reduceLE, Int.reduceToNat, Nat.reduceLT, eq_self, Int.toNat_zero, Int.toNat_one, Nat.reduceEqDiff, Nat.reduceAdd, Nat.reduceLeDiff, Nat.reduceSub, Nat.reduceMul, ↓reduceIte, reduceCtorEq, Nat.add_zero, Int.toNat_natCast, List.getElem?_map, Option.map_some, List.length_map, Int.cast_ofNat_Int, decide_true, decide_false, ints_length]
  · exact Pub.of_eq rfl rfl
  refine cond_d (fun h2 => ?_) (fun h2 => ?_) <;> simp only [go_sem, Int.reduceLT, Int.reduceLE, Int.reduceToNat, Nat.reduceLT, eq_self, Int.toNat_zero, Int.toNat_one, Nat.reduceEqDiff, Nat.reduceAdd, Nat.reduceLeDiff, Nat.reduceSub, Nat.reduceMul, ↓reduceIte, reduceCtorEq, Nat.add_zero, Int.toNat_natCast, List.getElem?_map, Option.map_some, List.length_map, Int.cast_ofNat_Int, decide_true, decide_false, ints_length]
  · exact Pub.of_eq rfl rfl
  refine call_pc (ok_law35_flows past (by omega)) (by simp [go_sem]) ?_
  try simp only [go_sem, Int.reduceLT, Int.reduceLE, Int.reduceToNat, Nat.reduceLT, eq_self, Int.toNat_zero, Int.toNat_one, Nat.reduceEqDiff, Nat.reduceAdd, Nat.reduceLeDiff, Nat.reduceSub, Nat.reduceMul, ↓reduceIte, reduceCtorEq, Nat.add_zero, Int.toNat_natCast, List.getElem?_map, Option.map_some, List.length_map, Int.cast_ofNat_Int, decide_true, decide_false]
  refine call_pc (ok_law35_flows next (by omega)) (by simp [go_sem]) ?_
  have hw := i64_bd w2
  have hpl := flowsS_length past
  have hnl := flowsS_length next
  have hpf := flowsS_ok past
  have hnf := flowsS_ok next
  generalize flowsS past = a at *
  generalize flowsS next = b at *
  try simp only [go_sem, Int.reduceLT, Int.reduceLE, Int.reduceToNat, Nat.reduceLT, eq_self, Int.toNat_zero, Int.toNat_one, Nat.reduceEqDiff, Nat.reduceAdd, Nat.reduceLeDiff, Nat.reduceSub, Nat.reduceMul, ↓reduceIte, reduceCtorEq, Nat.add_zero, Int.toNat_natCast, List.getElem?_map, Option.map_some, List.length_map, Int.cast_ofNat_Int, decide_true, decide_false]
  refine call_pc (ok_mk_Mod window 6 (by omega) (by omega)) (by simp [go_sem]) ?_
  have hw6 := Int.emod_lt_of_pos window (show 0 < (6 : Int) by omega)
  obtain ⟨ws, hws, hwl, hwb⟩ : ∃ ws : List Int, [AV.int .i64 window, AV.int .i64 (window % 6)] = ints ws ∧ ws.length = 2 ∧ ∀ x ∈ ws, x ≤ 9223372036854775807 := ⟨[window, window % 6], rfl, rfl, by intro x hx; simp at hx; omega⟩
  simp only [go_sem, Int.reduceLT, Int.reduceLE, Int.reduceToNat, Nat.reduceLT, eq_self, Int.toNat_zero, Int.toNat_one, Nat.reduceEqDiff, Nat.reduceAdd, Nat.reduceLeDiff, Nat.reduceSub, Nat.reduceMul, ↓reduceIte, reduceCtorEq, Nat.add_zero, Int.toNat_natCast, List.getElem?_map, Option.map_some, List.length_map, Int.cast_ofNat_Int, decide_true, decide_false, hws, ints_length, hwl]
  refine ⟨by simp [go_sem, ints], ?_⟩
  refine awp_upF [14, 18, 20, 21, 22, 23, 24, 25, 27, 28, 29, 30, 31, 51, 52, 53, 54, 55, 56, 57, 58, 59, 60, 61, 62, 63, 64, 65, 66, 67, 68, 69, 70, 71, 72, 73, 74, 75, 76, 77, 78, 79, 80, 81, 82, 83, 84, 85, 86, 87, 88, 89, 90, 91, 92, 93, 94, 95, 96, 97, 98, 99, 100, 101, 102, 103, 104, 105, 106, 107, 108, 109, 110, 111, 112, 113, 114, 115, 116, 117, 118, 119, 120, 121, 122, 123, 124, 125, 126, 127, 128, 129, 130, 131, 132, 133, 134, 135, 136, 137, 138, 139, 140, 141, 142, 143, 144, 145, 146, 147, 148, 149, 150, 151, 152, 153, 154, 155, 156, 157, 158, 159, 160, 161, 162, 163, 164, 165, 166, 167, 168, 169, 170, 171, 172, 173, 174] (by kernel_rfl) 2 (fun r e _ => e 51 = .int .i64 r) ?_ ?_
  · exact (by first | ((try simp only [go_sem, Int.reduceLT, Int.reduceLE, Int.reduceToNat, Nat.reduceLT, eq_self, Int.toNat_zero, Int.toNat_one, Nat.reduceEqDiff, Nat.reduceAdd, Nat.reduceLeDiff, Nat.reduceSub, Nat.reduceMul, ↓reduceIte, reduceCtorEq, Nat.add_zero, Int.toNat_natCast, List.getElem?_map, Option.map_some, List.length_map, Int.cast_ofNat_Int, decide_true, decide_false]); done) | ((try simp only [go_sem, Int.reduceLT, Int.reduceLE, Int.reduceToNat, Nat.reduceLT, eq_self, Int.toNat_zero, Int.toNat_one, Nat.reduceEqDiff, Nat.reduceAdd, Nat.reduceLeDiff, Nat.reduceSub, Nat.reduceMul, ↓reduceIte, reduceCtorEq, Nat.add_zero, Int.toNat_natCast, List.getElem?_map, Option.map_some, List.length_map, Int.cast_ofNat_Int, decide_true, decide_false]); rfl))
  rintro r f ob c hr h51
  simp only [go_sem, Int.reduceLT, Int.reduceLE, Int.reduceToNat, Nat.reduceLT, eq_self, Int.toNat_zero, Int.toNat_one, Nat.reduceEqDiff, Nat.reduceAdd, Nat.reduceLeDiff, Nat.reduceSub, Nat.reduceMul, ↓reduceIte, reduceCtorEq, Nat.add_zero, Int.toNat_natCast, List.getElem?_map, Option.map_some, List.length_map, Int.cast_ofNat_Int, decide_true, decide_false] at h51
  simp only [go_sem, Int.reduceLT, Int.reduceLE, Int.reduceToNat, Nat.reduceLT, eq_self, Int.toNat_zero, Int.toNat_one, Nat.reduceEqDiff, Nat.reduceAdd, Nat.reduceLeDiff, Nat.reduceSub, Nat.reduceMul, ↓reduceIte, reduceCtorEq, Nat.add_zero, Int.toNat_natCast, List.getElem?_map, Option.map_some, List.length_map, Int.cast_ofNat_Int, decide_true, decide_false, h51]
  refine cond_d (fun hlt => ?_) (fun hge => by (try simp only [go_sem, Int.reduceLT, Int.reduceLE, Int.reduceToNat, Nat.reduceLT, eq_self, Int.toNat_zero, Int.toNat_one, Nat.reduceEqDiff, Nat.reduceAdd, Nat.reduceLeDiff, Nat.reduceSub, Nat.reduceMul, ↓reduceIte, reduceCtorEq, Nat.add_zero, Int.toNat_natCast, List.getElem?_map, Option.map_some, List.length_map, Int.cast_ofNat_Int, decide_true, decide_false]); exact Pub.of_eq rfl rfl)
  have hr2 : r < ws.length := by omega
  have hwb' := hwb _ (List.getElem_mem hr2)
  simp only [go_sem, Int.reduceLT, Int.reduceLE, Int.reduceToNat, Nat.reduceLT, eq_self, Int.toNat_zero, Int.toNat_one, Nat.reduceEqDiff, Nat.reduceAdd, Nat.reduceLeDiff, Nat.reduceSub, Nat.reduceMul, ↓reduceIte, reduceCtorEq, Nat.add_zero, Int.toNat_natCast, List.getElem?_map, Option.map_some, List.length_map, Int.cast_ofNat_Int, decide_true, decide_false, h51, ints_length, ints_get, List.getElem?_eq_getElem hr2, hwl]
  generalize ws[r] = w at *
  refine ⟨by omega, by omega, call_pc (ok_mk_Mod limit 1073741825 (by omega) (by omega)) (by simp [go_sem]) ?_⟩
  try simp only [go_sem, Int.reduceLT, Int.reduceLE, Int.reduceToNat, Nat.reduceLT, eq_self, Int.toNat_zero, Int.toNat_one, Nat.reduceEqDiff, Nat.reduceAdd, Nat.reduceLeDiff, Nat.reduceSub, Nat.reduceMul, ↓reduceIte, reduceCtorEq, Nat.add_zero, Int.toNat_natCast, List.getElem?_map, Option.map_some, List.length_map, Int.cast_ofNat_Int, decide_true, decide_false]
  refine call_pc (ok_mk_Mod limit 20 (by omega) (by omega)) (by simp [go_sem]) ?_
  obtain ⟨ks, hks, hkl, hkb⟩ : ∃ ks : List Int, [AV.int .i64 (limit % 1073741825), AV.int .i64 (limit % 20)] = ints ks ∧ ks.length = 2 ∧ ∀ x ∈ ks, 0 ≤ x ∧ x ≤ 1073741824 := ⟨[limit % 1073741825, limit % 20], rfl, rfl, by intro x hx; simp at hx; omega⟩
  simp only [go_sem, Int.reduceLT, Int.reduceLE, Int.reduceToNat, Nat.reduceLT, eq_self, Int.toNat_zero, Int.toNat_one, Nat.reduceEqDiff, Nat.reduceAdd, Nat.reduceLeDiff, Nat.reduceSub, Nat.reduceMul, ↓reduceIte, reduceCtorEq, Nat.add_zero, Int.toNat_natCast, List.getElem?_map, Option.map_some, List.length_map, Int.cast_ofNat_Int, decide_true, decide_false, hks, ints_length, hkl]
  refine ⟨by simp [go_sem, ints], ?_⟩
  refine awp_upF [14, 20, 21, 22, 23, 24, 61, 62, 63, 64, 65, 66, 67, 68, 69, 70, 71, 72, 73, 74, 75, 76, 77, 78, 79, 80, 81, 82, 83, 84, 85, 86, 87, 88, 89, 90, 91, 92, 93, 94, 95, 96, 97, 98, 99, 100] (by kernel_rfl) 2 (fun r e _ => e 61 = .int .i64 r) ?_ ?_
  · exact (by first | ((try simp only [go_sem, Int.reduceLT, Int.reduceLE, Int.reduceToNat, Nat.reduceLT, eq_self, Int.toNat_zero, Int.toNat_one, Nat.reduceEqDiff, Nat.reduceAdd, Nat.reduceLeDiff, Nat.reduceSub, Nat.reduceMul, ↓reduceIte, reduceCtorEq, Nat.add_zero, Int.toNat_natCast, List.getElem?_map, Option.map_some, List.length_map, Int.cast_ofNat_Int, decide_true, decide_false]); done) | ((try simp only [go_sem, Int.reduceLT, Int.reduceLE, Int.reduceToNat, Nat.reduceLT, eq_self, Int.toNat_zero, Int.toNat_one, Nat.reduceEqDiff, Nat.reduceAdd, Nat.reduceLeDiff, Nat.reduceSub, Nat.reduceMul, ↓reduceIte, reduceCtorEq, Nat.add_zero, Int.toNat_natCast, List.getElem?_map, Option.map_some, List.length_map, Int.cast_ofNat_Int, decide_true, decide_false]); rfl))
  · rintro r2 f2 ob c hr h61
    simp only [go_sem, Int.reduceLT, Int.reduceLE, Int.reduceToNat, Nat.reduceLT, eq_self, Int.toNat_zero, Int.toNat_one, Nat.reduceEqDiff, Nat.reduceAdd, Nat.reduceLeDiff, Nat.reduceSub, Nat.reduceMul, ↓reduceIte, reduceCtorEq, Nat.add_zero, Int.toNat_natCast, List.getElem?_map, Option.map_some, List.length_map, Int.cast_ofNat_Int, decide_true, decide_false] at h61
    simp only [go_sem, Int.reduceLT, Int.reduceLE, Int.reduceToNat, Nat.reduceLT, eq_self, Int.toNat_zero, Int.toNat_one, Nat.reduceEqDiff, Nat.reduceAdd, Nat.reduceLeDiff, Nat.reduceSub, Nat.reduceMul, ↓reduceIte, reduceCtorEq, Nat.add_zero, Int.toNat_natCast, List.getElem?_map, Option.map_some, List.length_map, Int.cast_ofNat_Int, decide_true, decide_false, h61]
    refine cond_d (fun hlt => ?_) (fun hge => ?_)
    · have hr2 : r2 < ks.length := by omega
      have hkb' := hkb _ (List.getElem_mem hr2)
      simp only [go_sem, Int.reduceLT, Int.reduceLE, Int.reduceToNat, Nat.reduceLT, eq_self, Int.toNat_zero, Int.toNat_one, Nat.reduceEqDiff, Nat.reduceAdd, Nat.reduceLeDiff, Nat.reduceSub, Nat.reduceMul, ↓reduceIte, reduceCtorEq, Nat.add_zero, Int.toNat_natCast, List.getElem?_map, Option.map_some, List.length_map, Int.cast_ofNat_Int, decide_true, decide_false, h61, ints_length, ints_get, List.getElem?_eq_getElem hr2, hkl]
      generalize ks[r2] = k at *
      refine ⟨by omega, by omega, call_pc (ok_rise_First a b w k (by omega) (by omega) hpf hnf) (by simp [go_sem]) ?_⟩
      try simp only [go_sem, Int.reduceLT, Int.reduceLE, Int.reduceToNat, Nat.reduceLT, eq_self, Int.toNat_zero, Int.toNat_one, Nat.reduceEqDiff, Nat.reduceAdd, Nat.reduceLeDiff, Nat.reduceSub, Nat.reduceMul, ↓reduceIte, reduceCtorEq, Nat.add_zero, Int.toNat_natCast, List.getElem?_map, Option.map_some, List.length_map, Int.cast_ofNat_Int, decide_true, decide_false]
      refine call_pc (ok_ref35_First a b w k (by omega) (by omega) hpf hnf) (by simp [go_sem]) ?_
      try simp only [go_sem, Int.reduceLT, Int.reduceLE, Int.reduceToNat, Nat.reduceLT, eq_self, Int.toNat_zero, Int.toNat_one, Nat.reduceEqDiff, Nat.reduceAdd, Nat.reduceLeDiff, Nat.reduceSub, Nat.reduceMul, ↓reduceIte, reduceCtorEq, Nat.add_zero, Int.toNat_natCast, List.getElem?_map, Option.map_some, List.length_map, Int.cast_ofNat_Int, decide_true, decide_false]
      refine call_pc (ok_rise_Room a w k (by omega) (by omega) hpf (by omega)) (by simp [go_sem]) ?_
      try simp only [go_sem, Int.reduceLT, Int.reduceLE, Int.reduceToNat, Nat.reduceLT, eq_self, Int.toNat_zero, Int.toNat_one, Nat.reduceEqDiff, Nat.reduceAdd, Nat.reduceLeDiff, Nat.reduceSub, Nat.reduceMul, ↓reduceIte, reduceCtorEq, Nat.add_zero, Int.toNat_natCast, List.getElem?_map, Option.map_some, List.length_map, Int.cast_ofNat_Int, decide_true, decide_false]
      refine call_pc (ok_ref35_Room a w k (by omega) (by omega) hpf (by omega)) (by simp [go_sem]) ?_
      simp (disch := omega) only [go_sem, Int.reduceLT, Int.reduceLE, Int.reduceToNat, Nat.reduceLT, eq_self, Int.toNat_zero, Int.toNat_one, Nat.reduceEqDiff, Nat.reduceAdd, Nat.reduceLeDiff, Nat.reduceSub, Nat.reduceMul, ↓reduceIte, reduceCtorEq, Nat.add_zero, Int.toNat_natCast, List.getElem?_map, Option.map_some, List.length_map, Int.cast_ofNat_Int, decide_true, decide_false, h61, wrap_id]
      exact up_next (by omega) (by first | ((try simp only [go_sem, Int.reduceLT, Int.reduceLE, Int.reduceToNat, Nat.reduceLT, eq_self, Int.toNat_zero, Int.toNat_one, Nat.reduceEqDiff, Nat.reduceAdd, Nat.reduceLeDiff, Nat.reduceSub, Nat.reduceMul, ↓reduceIte, reduceCtorEq, Nat.add_zero, Int.toNat_natCast, List.getElem?_map, Option.map_some, List.length_map, Int.cast_ofNat_Int, decide_true, decide_false]); done) | ((try simp only [go_sem, Int.reduceLT, Int.reduceLE, Int.reduceToNat, Nat.reduceLT, eq_self, Int.toNat_zero, Int.toNat_one, Nat.reduceEqDiff, Nat.reduceAdd, Nat.reduceLeDiff, Nat.reduceSub, Nat.reduceMul, ↓reduceIte, reduceCtorEq, Nat.add_zero, Int.toNat_natCast, List.getElem?_map, Option.map_some, List.length_map, Int.cast_ofNat_Int, decide_true, decide_false]); rfl))
    · try simp only [go_sem, Int.reduceLT, Int.reduceLE, Int.reduceToNat, Nat.reduceLT, eq_self, Int.toNat_zero, Int.toNat_one, Nat.reduceEqDiff, Nat.reduceAdd, Nat.reduceLeDiff, Nat.reduceSub, Nat.reduceMul, ↓reduceIte, reduceCtorEq, Nat.add_zero, Int.toNat_natCast, List.getElem?_map, Option.map_some, List.length_map, Int.cast_ofNat_Int, decide_true, decide_false]
      refine call_pc (ok_mk_Mod flow 1073741825 (by omega) (by omega)) (by simp [go_sem]) ?_
      have hf0 := Int.emod_nonneg flow (show (1073741825 : Int) ≠ 0 by omega)
      have hf1 := Int.emod_lt_of_pos flow (show 0 < (1073741825 : Int) by omega)
      generalize flow % 1073741825 = fl at *
      try simp only [go_sem, Int.reduceLT, Int.reduceLE, Int.reduceToNat, Nat.reduceLT, eq_self, Int.toNat_zero, Int.toNat_one, Nat.reduceEqDiff, Nat.reduceAdd, Nat.reduceLeDiff, Nat.reduceSub, Nat.reduceMul, ↓reduceIte, reduceCtorEq, Nat.add_zero, Int.toNat_natCast, List.getElem?_map, Option.map_some, List.length_map, Int.cast_ofNat_Int, decide_true, decide_false]
      refine call_pc (ok_rise_Rise a w fl (by omega) (by omega) hpf (by omega)) (by simp [go_sem]) ?_
      try simp only [go_sem, Int.reduceLT, Int.reduceLE, Int.reduceToNat, Nat.reduceLT, eq_self, Int.toNat_zero, Int.toNat_one, Nat.reduceEqDiff, Nat.reduceAdd, Nat.reduceLeDiff, Nat.reduceSub, Nat.reduceMul, ↓reduceIte, reduceCtorEq, Nat.add_zero, Int.toNat_natCast, List.getElem?_map, Option.map_some, List.length_map, Int.cast_ofNat_Int, decide_true, decide_false]
      refine call_pc (ok_ref35_Rise a w fl (by omega) (by omega) hpf (by omega)) (by simp [go_sem]) ?_
      try simp only [go_sem, Int.reduceLT, Int.reduceLE, Int.reduceToNat, Nat.reduceLT, eq_self, Int.toNat_zero, Int.toNat_one, Nat.reduceEqDiff, Nat.reduceAdd, Nat.reduceLeDiff, Nat.reduceSub, Nat.reduceMul, ↓reduceIte, reduceCtorEq, Nat.add_zero, Int.toNat_natCast, List.getElem?_map, Option.map_some, List.length_map, Int.cast_ofNat_Int, decide_true, decide_false]
      refine call_pc (ok_rise_Worst a b w (by omega) (by omega) hpf hnf) (by simp [go_sem]) ?_
      try simp only [go_sem, Int.reduceLT, Int.reduceLE, Int.reduceToNat, Nat.reduceLT, eq_self, Int.toNat_zero, Int.toNat_one, Nat.reduceEqDiff, Nat.reduceAdd, Nat.reduceLeDiff, Nat.reduceSub, Nat.reduceMul, ↓reduceIte, reduceCtorEq, Nat.add_zero, Int.toNat_natCast, List.getElem?_map, Option.map_some, List.length_map, Int.cast_ofNat_Int, decide_true, decide_false]
      refine call_pc (ok_ref35_Worst a b w (by omega) (by omega) hpf hnf) (by simp [go_sem]) ?_
      try simp only [go_sem, Int.reduceLT, Int.reduceLE, Int.reduceToNat, Nat.reduceLT, eq_self, Int.toNat_zero, Int.toNat_one, Nat.reduceEqDiff, Nat.reduceAdd, Nat.reduceLeDiff, Nat.reduceSub, Nat.reduceMul, ↓reduceIte, reduceCtorEq, Nat.add_zero, Int.toNat_natCast, List.getElem?_map, Option.map_some, List.length_map, Int.cast_ofNat_Int, decide_true, decide_false]
      refine call_pc (ok_mk_Mod limit 9 (by omega) (by omega)) (by simp [go_sem]) ?_
      try simp only [go_sem, Int.reduceLT, Int.reduceLE, Int.reduceToNat, Nat.reduceLT, eq_self, Int.toNat_zero, Int.toNat_one, Nat.reduceEqDiff, Nat.reduceAdd, Nat.reduceLeDiff, Nat.reduceSub, Nat.reduceMul, ↓reduceIte, reduceCtorEq, Nat.add_zero, Int.toNat_natCast, List.getElem?_map, Option.map_some, List.length_map, Int.cast_ofNat_Int, decide_true, decide_false]
      refine call_pc (ok_mk_Mod target 60 (by omega) (by omega)) (by simp [go_sem]) ?_
      try simp only [go_sem, Int.reduceLT, Int.reduceLE, Int.reduceToNat, Nat.reduceLT, eq_self, Int.toNat_zero, Int.toNat_one, Nat.reduceEqDiff, Nat.reduceAdd, Nat.reduceLeDiff, Nat.reduceSub, Nat.reduceMul, ↓reduceIte, reduceCtorEq, Nat.add_zero, Int.toNat_natCast, List.getElem?_map, Option.map_some, List.length_map, Int.cast_ofNat_Int, decide_true, decide_false]
      refine call_pc (ok_mk_Mod steps 20 (by omega) (by omega)) (by simp [go_sem]) ?_
      try simp only [go_sem, Int.reduceLT, Int.reduceLE, Int.reduceToNat, Nat.reduceLT, eq_self, Int.toNat_zero, Int.toNat_one, Nat.reduceEqDiff, Nat.reduceAdd, Nat.reduceLeDiff, Nat.reduceSub, Nat.reduceMul, ↓reduceIte, reduceCtorEq, Nat.add_zero, Int.toNat_natCast, List.getElem?_map, Option.map_some, List.length_map, Int.cast_ofNat_Int, decide_true, decide_false]
      obtain ⟨qs, hqs, hql⟩ : ∃ qs : List (Int × Int × Int), [AV.agg [.int .i64 limit, .int .i64 target, .int .i64 steps], AV.agg [.int .i64 (limit % 9), .int .i64 (target % 60), .int .i64 (steps % 20)]] = qs.map (fun q => AV.agg [.int .i64 q.1, .int .i64 q.2.1, .int .i64 q.2.2]) ∧ qs.length = 2 := ⟨[(limit, target, steps), (limit % 9, target % 60, steps % 20)], rfl, rfl⟩
      simp only [hqs, List.length_map, hql]
      refine awp_upF [14, 27, 28, 29, 30, 31, 136, 137, 138, 139, 140, 141, 142, 143, 144, 145, 146, 147, 148, 149, 150, 151, 152, 153, 154, 155, 156, 157, 158, 159, 160, 161, 162, 163, 164, 165, 166, 167, 168, 169, 170, 171, 172, 173] (by kernel_rfl) 2 (fun r e _ => e 136 = .int .i64 r) ?_ ?_
      · exact (by first | ((try simp only [go_sem, Int.reduceLT, Int.reduceLE, Int.reduceToNat, Nat.reduceLT, eq_self, Int.toNat_zero, Int.toNat_one, Nat.reduceEqDiff, Nat.reduceAdd, Nat.reduceLeDiff, Nat.reduceSub, Nat.reduceMul, ↓reduceIte, reduceCtorEq, Nat.add_zero, Int.toNat_natCast, List.getElem?_map, Option.map_some, List.length_map, Int.cast_ofNat_Int, decide_true, decide_false]); done) | ((try simp only [go_sem, Int.reduceLT, Int.reduceLE, Int.reduceToNat, Nat.reduceLT, eq_self, Int.toNat_zero, Int.toNat_one, Nat.reduceEqDiff, Nat.reduceAdd, Nat.reduceLeDiff, Nat.reduceSub, Nat.reduceMul, ↓reduceIte, reduceCtorEq, Nat.add_zero, Int.toNat_natCast, List.getElem?_map, Option.map_some, List.length_map, Int.cast_ofNat_Int, decide_true, decide_false]); rfl))
      · rintro r3 f3 ob c hr h136
        simp only [go_sem, Int.reduceLT, Int.reduceLE, Int.reduceToNat, Nat.reduceLT, eq_self, Int.toNat_zero, Int.toNat_one, Nat.reduceEqDiff, Nat.reduceAdd, Nat.reduceLeDiff, Nat.reduceSub, Nat.reduceMul, ↓reduceIte, reduceCtorEq, Nat.add_zero, Int.toNat_natCast, List.getElem?_map, Option.map_some, List.length_map, Int.cast_ofNat_Int, decide_true, decide_false] at h136
        simp only [go_sem, Int.reduceLT, Int.reduceLE, Int.reduceToNat, Nat.reduceLT, eq_self, Int.toNat_zero, Int.toNat_one, Nat.reduceEqDiff, Nat.reduceAdd, Nat.reduceLeDiff, Nat.reduceSub, Nat.reduceMul, ↓reduceIte, reduceCtorEq, Nat.add_zero, Int.toNat_natCast, List.getElem?_map, Option.map_some, List.length_map, Int.cast_ofNat_Int, decide_true, decide_false, h136]
        refine cond_d (fun hlt => ?_) (fun hge => ?_)
        · have hr3 : r3 < qs.length := by omega
          simp only [go_sem, Int.reduceLT, Int.reduceLE, Int.reduceToNat, Nat.reduceLT, eq_self, Int.toNat_zero, Int.toNat_one, Nat.reduceEqDiff, Nat.reduceAdd, Nat.reduceLeDiff, Nat.reduceSub, Nat.reduceMul, ↓reduceIte, reduceCtorEq, Nat.add_zero, Int.toNat_natCast, List.getElem?_map, Option.map_some, List.length_map, Int.cast_ofNat_Int, decide_true, decide_false, h136, hql, List.length_map, List.getElem?_map, List.getElem?_eq_getElem hr3, Option.map_some]
          generalize qs[r3] = q at *
          obtain ⟨q1, q2, q3⟩ := q
          try simp only [go_sem, Int.reduceLT, Int.reduceLE, Int.reduceToNat, Nat.reduceLT, eq_self, Int.toNat_zero, Int.toNat_one, Nat.reduceEqDiff, Nat.reduceAdd, Nat.reduceLeDiff, Nat.reduceSub, Nat.reduceMul, ↓reduceIte, reduceCtorEq, Nat.add_zero, Int.toNat_natCast, List.getElem?_map, Option.map_some, List.length_map, Int.cast_ofNat_Int, decide_true, decide_false]
          refine ⟨by omega, by omega, call_pc (ok_rise_Path a w q1 q2 q3 (by omega) (by omega) hpf) (by simp [go_sem]) ?_⟩
          try simp only [go_sem, Int.reduceLT, Int.reduceLE, Int.reduceToNat, Nat.reduceLT, eq_self, Int.toNat_zero, Int.toNat_one, Nat.reduceEqDiff, Nat.reduceAdd, Nat.reduceLeDiff, Nat.reduceSub, Nat.reduceMul, ↓reduceIte, reduceCtorEq, Nat.add_zero, Int.toNat_natCast, List.getElem?_map, Option.map_some, List.length_map, Int.cast_ofNat_Int, decide_true, decide_false]
          refine call_pc (ok_ref35_Path a w q1 q2 q3 (by omega) (by omega) hpf) (by simp [go_sem]) ?_
          try simp only [go_sem, Int.reduceLT, Int.reduceLE, Int.reduceToNat, Nat.reduceLT, eq_self, Int.toNat_zero, Int.toNat_one, Nat.reduceEqDiff, Nat.reduceAdd, Nat.reduceLeDiff, Nat.reduceSub, Nat.reduceMul, ↓reduceIte, reduceCtorEq, Nat.add_zero, Int.toNat_natCast, List.getElem?_map, Option.map_some, List.length_map, Int.cast_ofNat_Int, decide_true, decide_false]
          have hpl2 : (rpathR a w q1 q2 q3).1.length ≤ 1000000 := by
            unfold rpathR
            split
            · simp
            · split
              · simp
              · simp [pathL_length]; omega
          refine call_pc (ok_law35_ints _ hpl2) (by simp [go_sem]) ?_
          simp (disch := omega) only [go_sem, Int.reduceLT, Int.reduceLE, Int.reduceToNat, Nat.reduceLT, eq_self, Int.toNat_zero, Int.toNat_one, Nat.reduceEqDiff, Nat.reduceAdd, Nat.reduceLeDiff, Nat.reduceSub, Nat.reduceMul, ↓reduceIte, reduceCtorEq, Nat.add_zero, Int.toNat_natCast, List.getElem?_map, Option.map_some, List.length_map, Int.cast_ofNat_Int, decide_true, decide_false, h136, wrap_id]
          exact up_next (by omega) (by first | ((try simp only [go_sem, Int.reduceLT, Int.reduceLE, Int.reduceToNat, Nat.reduceLT, eq_self, Int.toNat_zero, Int.toNat_one, Nat.reduceEqDiff, Nat.reduceAdd, Nat.reduceLeDiff, Nat.reduceSub, Nat.reduceMul, ↓reduceIte, reduceCtorEq, Nat.add_zero, Int.toNat_natCast, List.getElem?_map, Option.map_some, List.length_map, Int.cast_ofNat_Int, decide_true, decide_false]); done) | ((try simp only [go_sem, Int.reduceLT, Int.reduceLE, Int.reduceToNat, Nat.reduceLT, eq_self, Int.toNat_zero, Int.toNat_one, Nat.reduceEqDiff, Nat.reduceAdd, Nat.reduceLeDiff, Nat.reduceSub, Nat.reduceMul, ↓reduceIte, reduceCtorEq, Nat.add_zero, Int.toNat_natCast, List.getElem?_map, Option.map_some, List.length_map, Int.cast_ofNat_Int, decide_true, decide_false]); rfl))
        · simp (disch := omega) only [go_sem, Int.reduceLT, Int.reduceLE, Int.reduceToNat, Nat.reduceLT, eq_self, Int.toNat_zero, Int.toNat_one, Nat.reduceEqDiff, Nat.reduceAdd, Nat.reduceLeDiff, Nat.reduceSub, Nat.reduceMul, ↓reduceIte, reduceCtorEq, Nat.add_zero, Int.toNat_natCast, List.getElem?_map, Option.map_some, List.length_map, Int.cast_ofNat_Int, decide_true, decide_false, h51, wrap_id]
          exact up_next (by omega) (by first | ((try simp only [go_sem, Int.reduceLT, Int.reduceLE, Int.reduceToNat, Nat.reduceLT, eq_self, Int.toNat_zero, Int.toNat_one, Nat.reduceEqDiff, Nat.reduceAdd, Nat.reduceLeDiff, Nat.reduceSub, Nat.reduceMul, ↓reduceIte, reduceCtorEq, Nat.add_zero, Int.toNat_natCast, List.getElem?_map, Option.map_some, List.length_map, Int.cast_ofNat_Int, decide_true, decide_false]); done) | ((try simp only [go_sem, Int.reduceLT, Int.reduceLE, Int.reduceToNat, Nat.reduceLT, eq_self, Int.toNat_zero, Int.toNat_one, Nat.reduceEqDiff, Nat.reduceAdd, Nat.reduceLeDiff, Nat.reduceSub, Nat.reduceMul, ↓reduceIte, reduceCtorEq, Nat.add_zero, Int.toNat_natCast, List.getElem?_map, Option.map_some, List.length_map, Int.cast_ofNat_Int, decide_true, decide_false]); rfl))
end Go.Proofs.Try
