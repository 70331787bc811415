/-
  OWN WORK, put together by tools/asm.py: what functions do.
-/
import Derived.Test.YtkjjlopkooiljaaCode
set_option linter.unusedSimpArgs false
set_option linter.unusedVariables false
set_option maxRecDepth 100000
set_option maxHeartbeats 1000000
namespace Go.Proofs.Try
open Go.Ab Go
theorem tmod_mod (n k : Int) (hk : 0 < k) : (n.tmod k + k).tmod k = n % k := by
  have h2 := Int.tmod_eq_emod (a := n) (b := k)
  have h3 := Int.emod_nonneg n (show k ≠ 0 by omega)
  have h4 := Int.emod_lt_of_pos n hk
  have h5 : 0 ≤ n.tmod k + k := by rw [h2]; split <;> omega
  rw [Int.tmod_eq_emod_of_nonneg h5, Int.add_emod_right, h2]
  split
  · simp
  · rw [show ((k.natAbs : Nat) : Int) = k by omega, Int.sub_emod_right]; exact Int.emod_emod_of_dvd n (Int.dvd_refl k)
theorem tmod_bd (n k : Int) (hk : 0 < k) : -k < n.tmod k ∧ n.tmod k < k := by
  have h2 := Int.tmod_eq_emod (a := n) (b := k)
  have h3 := Int.emod_nonneg n (show k ≠ 0 by omega)
  have h4 := Int.emod_lt_of_pos n hk
  by_cases h : 0 ≤ n ∨ k ∣ n
  · rw [if_pos h] at h2; omega
  · rw [if_neg h] at h2
    have : n % k ≠ 0 := fun h0 => h (.inr (Int.dvd_of_emod_eq_zero h0))
    omega
def ints (l : List Int) : List AV := l.map (.int .i64)
theorem ints_length (l : List Int) : (ints l).length = l.length := by simp [ints]
theorem ints_get (l : List Int) (i : Nat) : (ints l)[i]? = (l[i]?).map (AV.int .i64) := by simp [ints]
theorem ints_append (l r : List Int) : ints l ++ ints r = ints (l ++ r) := by simp [ints]
theorem ints_pur (l : List Int) : ∀ x ∈ ints l, x.pur = true := by simp [ints, go_sem]
theorem ints_ok (l : List Int) : ∀ x ∈ ints l, okE 1 x := by simp [ints, okE, go_sem]
/-- two numbers that are bounds -/
structure Bd where
  lo : Int
  hi : Int
  deriving DecidableEq, Inhabited
def bdv (b : Bd) : AV := .agg [.int .i64 b.lo, .int .i64 b.hi]
def bds (l : List Bd) : List AV := l.map bdv
theorem bds_length (l : List Bd) : (bds l).length = l.length := by simp [bds]
theorem bds_get (l : List Bd) (i : Nat) : (bds l)[i]? = (l[i]?).map bdv := by simp [bds]
theorem bds_append (l r : List Bd) : bds l ++ bds r = bds (l ++ r) := by simp [bds]
theorem bds_pur (l : List Bd) : ∀ x ∈ bds l, x.pur = true := by simp [bds, bdv, go_sem]
theorem bds_ok (l : List Bd) : ∀ x ∈ bds l, okE 2 x := by simp [bds, bdv, okE, go_sem]
/-- the index of the first element with p; -1 -/
def firstIdx {α : Type} (p : α → Bool) (l : List α) : Int := match l.findIdx? p with | some i => (i : Int) | none => -1
theorem firstIdx_at {α : Type} (p : α → Bool) (l : List α) (k : Nat) (hk : k < l.length) (h1 : ∀ j, j < k → ∀ x, l[j]? = some x → p x = false) (h2 : p l[k] = true) : firstIdx p l = k := by
  have : l.findIdx? p = some k := by
    rw [List.findIdx?_eq_some_iff_getElem]
    exact ⟨hk, h2, fun j hj => by have := h1 j hj l[j] (List.getElem?_eq_getElem _); simp [this]⟩
  simp [firstIdx, this]
theorem firstIdx_none {α : Type} (p : α → Bool) (l : List α) (h1 : ∀ j, j < l.length → ∀ x, l[j]? = some x → p x = false) : firstIdx p l = -1 := by
  have : l.findIdx? p = none := by
    rw [List.findIdx?_eq_none_iff]
    intro x hx
    obtain ⟨j, hj⟩ := List.getElem?_of_mem hx
    exact h1 j (List.getElem?_eq_some_iff.1 hj).1 x hj
  simp [firstIdx, this]
theorem firstIdx_any {α : Type} (p : α → Bool) (l : List α) : decide (0 ≤ firstIdx p l) = l.any p := by
  unfold firstIdx
  cases h : l.findIdx? p with
  | none =>
    rw [List.findIdx?_eq_none_iff] at h
    have : l.any p = false := by rw [List.any_eq_false]; intro x hx; simpa using h x hx
    rw [this]; simp
  | some i =>
    obtain ⟨hi, h1, _⟩ := List.findIdx?_eq_some_iff_getElem.1 h
    have : l.any p = true := List.any_eq_true.2 ⟨_, List.getElem_mem hi, h1⟩
    rw [this]; simp
theorem lt_snoc {α : Type} {l : List α} {k : Nat} {P : α → Prop} (hj : ∀ j, j < k → ∀ x, l[j]? = some x → P x) (hk : k < l.length) (h : P l[k]) : ∀ j, j < k + 1 → ∀ x, l[j]? = some x → P x := by
  intro j hj' x hx
  by_cases e : j = k
  · subst e; rw [List.getElem?_eq_getElem hk] at hx; obtain rfl := Option.some.inj hx; exact h
  · exact hj j (by omega) x hx
def flow1 (n : Int) : Bool := decide (0 ≤ n) && decide (n ≤ 1073741824)
theorem flow1_iff (n : Int) : flow1 n = true ↔ 0 ≤ n ∧ n ≤ 1073741824 := by simp [flow1]
/-- f, k times -/
def runS {α : Type} (f : α → α) (b : α) : Nat → α
  | 0 => b
  | k + 1 => f (runS f b k)
/-- what the first k times give, one behind the other -/
def pathS {α : Type} (f : α → α) (b : α) (k : Nat) : List α := (List.range k).map fun i => runS f b (i + 1)
theorem pathS_zero {α : Type} (f : α → α) (b : α) : pathS f b 0 = [] := rfl
theorem pathS_succ {α : Type} (f : α → α) (b : α) (k : Nat) : pathS f b (k + 1) = pathS f b k ++ [runS f b (k + 1)] := by simp [pathS, List.range_succ]
theorem pathS_length {α : Type} (f : α → α) (b : α) (k : Nat) : (pathS f b k).length = k := by simp [pathS]
theorem pathS_get {α : Type} (f : α → α) (b : α) (k i : Nat) (h : i < k) : (pathS f b k)[i]? = some (runS f b (i + 1)) := by simp [pathS, h]
theorem ints_snoc (l : List Int) (n : Int) : ints l ++ [.int .i64 n] = ints (l ++ [n]) := by simp [ints]
theorem ok_mk_Mod (n k : Int) (hk : 0 < k) (hk2 : k ≤ 4611686018427387904) : PC prog n_mk_Mod [.int .i64 n, .int .i64 k] (.int .i64 (n % k)) := by
  have h1 := tmod_bd n k hk
  refine PC_of_body b_mk_Mod (by simp) ?_
  simp (disch := omega) only [c_mk_Mod, go_sem, Int.reduceEq, Int.reduceLT, Int.reduceLE, Int.reduceToNat, Nat.reduceLT, Nat.reduceEqDiff, Nat.reduceAdd, Nat.reduceLeDiff, Nat.reduceSub, Nat.reduceMul, ↓reduceIte, reduceCtorEq, w_app_nl, wrap_id]
  exact ⟨by omega, by omega, Pub.of_eq (by rw [tmod_mod n k hk]) rfl⟩
/-- A deck: its numbers, and how many are drawn. -/
def deckV (l : List Int) (at' : Nat) : AV := .agg [.list 1 (ints l), .int .i64 at']
def deckR (l : List Int) (at' : Nat) (n : Int) : Int × Nat := if n < 1 ∨ l.length ≤ at' then (0, at') else (l.getD at' 0 % n, at' + 1)
theorem deckR_bd (l : List Int) (at' : Nat) (n : Int) : 0 ≤ (deckR l at' n).1 ∧ ((deckR l at' n).1 = 0 ∨ (deckR l at' n).1 < n) := by
  unfold deckR
  split
  · simp
  · have h1 := Int.emod_nonneg (l.getD at' 0) (show n ≠ 0 by omega)
    have h2 := Int.emod_lt_of_pos (l.getD at' 0) (show 0 < n by omega)
    exact ⟨h1, .inr h2⟩
theorem deckR_at (l : List Int) (at' : Nat) (n : Int) (h : at' ≤ l.length) : (deckR l at' n).2 ≤ l.length := by
  unfold deckR; split <;> simp <;> omega
theorem upd_self {α : Type} (f : Nat → α) (i : Nat) (x : α) (h : f i = x) : upd f i x = f := by
  funext j; by_cases e : j = i
  · subst e; rw [upd_same, h]
  · rw [upd_ne _ _ _ _ e]
abbrev ty_Deck : TypeId := 33
theorem ok_mk_New (σ : St) (l : List Int) : HC prog n_mk_New [.list 1 (ints l)] σ (fun r σ' => r = .ptr σ.n σ.c 2 0 0 ∧ σ' = σ.push 2 ty_Deck [deckV l 0]) := by
  refine HC_of_body b_mk_New (by simp) ?_
  simp only [c_mk_New, go_sem, Int.reduceEq, Int.reduceLT, Int.reduceLE, Int.reduceToNat, Nat.reduceLT, Nat.reduceEqDiff, Nat.reduceAdd, Nat.reduceLeDiff, Nat.reduceSub, Nat.reduceMul, ↓reduceIte, reduceCtorEq, w_app_nl]
  simp [deckV]
theorem ok_mk_Deck_Next (σ : St) (id g : Nat) (ty : TypeId) (ap : Bool) (l : List Int) (at' : Nat) (n : Int) (hob : σ.ob id = some ⟨g, 2, ty, false, ap, [deckV l at']⟩) (hn : n ≤ 4611686018427387904) (hl : l.length ≤ 9223372036854775807) :
    HC prog n_mk_Deck_Next [.ptr id g 2 0 0, .int .i64 n] σ (fun r σ' => r = .int .i64 (deckR l at' n).1 ∧ σ' = ⟨upd σ.ob id (some ⟨g, 2, ty, false, ap, [deckV l (deckR l at' n).2]⟩), σ.n, σ.c⟩) := by
  obtain ⟨ob, nn, cc⟩ := σ
  simp only at hob
  refine HC_of_body b_mk_Deck_Next (by simp) ?_
  simp only [c_mk_Deck_Next, go_sem, Int.reduceEq, Int.reduceLT, Int.reduceLE, Int.reduceToNat, Nat.reduceLT, Nat.reduceEqDiff, Nat.reduceAdd, Nat.reduceLeDiff, Nat.reduceSub, Nat.reduceMul, ↓reduceIte, reduceCtorEq, w_app_nl, hob, deckV]
  have no : (n < 1 ∨ l.length ≤ at') → AV.int IntKind.i64 0 = AV.int IntKind.i64 (deckR l at' n).fst ∧ St.mk ob nn cc = St.mk (upd ob id (some ⟨g, 2, ty, false, ap, [.agg [.list 1 (ints l), .int .i64 (deckR l at' n).2]]⟩)) nn cc := by
    intro h
    rw [show deckR l at' n = (0, at') by unfold deckR; rw [if_pos h]]
    exact ⟨rfl, by have h1 := upd_self ob id _ hob; simp only [deckV] at h1 ⊢; rw [h1]⟩
  refine gd_fd rfl (fun h => ?_) (fun h => ?_) <;> simp (maxSteps := 1000000) only [go_sem, Int.reduceEq, Int.reduceLT, Int.reduceLE, Int.reduceToNat, Nat.reduceLT, Nat.reduceEqDiff, Nat.reduceAdd, Nat.reduceLeDiff, Nat.reduceSub, Nat.reduceMul, ↓reduceIte, reduceCtorEq, w_app_nl, hob, deckV, ints_length]
  · exact no (.inl h)
  refine cond_d (fun h2 => ?_) (fun h2 => ?_) <;> simp (maxSteps := 1000000) only [go_sem, Int.reduceEq, Int.reduceLT, Int.reduceLE, Int.reduceToNat, Nat.reduceLT, Nat.reduceEqDiff, Nat.reduceAdd, Nat.reduceLeDiff, Nat.reduceSub, Nat.reduceMul, ↓reduceIte, reduceCtorEq, w_app_nl, hob, deckV, ints_length, ints_get]
  · exact no (.inr (by omega))
  have hat : at' < l.length := by omega
  have hg : l[at']? = some l[at'] := List.getElem?_eq_getElem hat
  have hd : deckR l at' n = (l[at'] % n, at' + 1) := by unfold deckR; rw [if_neg (by omega)]; simp [List.getD_eq_getElem?_getD, hg]
  simp (maxSteps := 1000000) (disch := omega) only [go_sem, Int.reduceEq, Int.reduceLT, Int.reduceLE, Int.reduceToNat, Nat.reduceLT, Nat.reduceEqDiff, Nat.reduceAdd, Nat.reduceLeDiff, Nat.reduceSub, Nat.reduceMul, ↓reduceIte, reduceCtorEq, w_app_nl, hg, wrap_id]
  refine ⟨by omega, by omega, call_pc (ok_mk_Mod _ n (by omega) (by omega)) (by simp [go_sem]) ?_⟩
  simp (maxSteps := 1000000) only [go_sem, Int.reduceEq, Int.reduceLT, Int.reduceLE, Int.reduceToNat, Nat.reduceLT, Nat.reduceEqDiff, Nat.reduceAdd, Nat.reduceLeDiff, Nat.reduceSub, Nat.reduceMul, ↓reduceIte, reduceCtorEq, w_app_nl, hd]
  simp
/-! Functions that draw from a deck and return a value that names no objects (or: lists for those). -/
def Deck0 (σ : St) (id g : Nat) (t : List Int) (W : AV → Prop) (r : AV) (σ' : St) : Prop := ∃ r2 at2, Pub ⟨fun i => if i < σ.n then none else σ'.ob i, σ'.n, σ'.c⟩ r r2 ∧ W r2 ∧ σ'.ob id = some ⟨g, 2, ty_Deck, false, true, [deckV t at2]⟩ ∧ ∀ i, i < σ.n → i ≠ id → σ'.ob i = σ.ob i
def DeckR (σ : St) (id g : Nat) (t : List Int) (W : AV → Prop) (r : AV) (σ' : St) : Prop := ∃ at2 c, W r ∧ σ' = ⟨upd (fun i => if i < σ.n then σ.ob i else none) id (some ⟨g, 2, ty_Deck, false, true, [deckV t at2]⟩), σ.n, c⟩
theorem HC.deck {f : Nat} {args : List AV} {σ : St} {id g : Nat} {t : List Int} {W : AV → Prop} (hid : id < σ.n) (h : HC prog f args σ (Deck0 σ id g t W)) : HC prog f args σ (DeckR σ id g t W) := by
  refine HC.trunc σ.n (HC.seal (fun i => decide (i < σ.n)) h ?_)
  rintro r σ' ⟨r2, at2, h1, h2, h3, h4⟩
  refine ⟨r2, by simpa using h1, at2, σ'.c, h2, ?_⟩
  simp only [St.trunc]
  congr 1
  funext i
  simp only [upd]
  by_cases e : i = id
  · subst e; simp [hid, h3]
  · rw [if_neg e]
    by_cases hi : i < σ.n
    · simp [hi, h4 i hi e]
    · simp [hi]
theorem DeckR.use {σ σ' : St} {id g : Nat} {t : List Int} {W : AV → Prop} {r : AV} (h : DeckR σ id g t W r σ') (hid : id < σ.n) :
    W r ∧ σ'.n = σ.n ∧ (∃ at2, σ'.ob id = some ⟨g, 2, ty_Deck, false, true, [deckV t at2]⟩) ∧ ∀ i, i < σ.n → i ≠ id → σ'.ob i = σ.ob i := by
  obtain ⟨at2, c, h1, rfl⟩ := h
  exact ⟨h1, rfl, ⟨at2, by simp [upd]⟩, fun i hi h2 => by simp [upd, h2, hi]⟩
theorem upd_upd {α : Type} (f : Nat → α) (i : Nat) (x y : α) : upd (upd f i x) i y = upd f i y := by funext j; by_cases e : j = i <;> simp [upd, e]
/-- A new object with these elements, behind one that is forgotten. -/
def NewSl (σ : St) (es : Nat) (ty : TypeId) (l : List AV) (r : AV) (σ' : St) : Prop := ∃ g c, r = .sl (σ.n + 1) g es 0 l.length ∧ σ' = ⟨upd (upd σ.ob σ.n none) (σ.n + 1) (some ⟨g, es, ty, false, true, l⟩), σ.n + 2, c⟩
def NewSl1 (σ : St) (es : Nat) (ty : TypeId) (l : List AV) (r : AV) (σ' : St) : Prop := ∃ g c o, r = .sl (σ.n + 1) g es 0 l.length ∧ σ' = ⟨upd (upd σ.ob σ.n (some o)) (σ.n + 1) (some ⟨g, es, ty, false, true, l⟩), σ.n + 2, c⟩
theorem HC.new {f : Nat} {args : List AV} {σ : St} {es : Nat} {ty : TypeId} {l : List AV} (h : HC prog f args σ (NewSl1 σ es ty l)) : HC prog f args σ (NewSl σ es ty l) := by
  refine h.sub ?_
  rintro r σ' ⟨g, c, o, rfl, rfl⟩
  refine ⟨_, ?_, g, c, rfl, rfl⟩
  intro i o' h
  simp only [upd] at h ⊢
  split at h
  · rename_i hi; rw [if_pos hi]; exact h
  · rename_i hi
    rw [if_neg hi]
    split at h
    · cases h
    · rename_i h2; rw [if_neg h2]; exact h
theorem cpy_ss {σ : St} {C : AV → St → Prop} {es id g off n id2 g2 off2 n2 : Nat} (h : ∃ o2, σ.ob id2 = some o2 ∧ o2.g = g2 ∧ o2.es = es ∧ off2 + n2 ≤ o2.l.length ∧ ∃ o, σ.ob id = some o ∧ o.g = g ∧ o.es = es ∧ o.ro = false ∧ off + n ≤ o.l.length ∧
          C (.int .i64 (min ((o2.l.drop off2).take n2).length n : Nat)) (σ.put id o (o.l.take off ++ ((o2.l.drop off2).take n2).take n ++ o.l.drop (off + min ((o2.l.drop off2).take n2).length n)))) :
    cpyC es (.sl id g es off n) (.sl id2 g2 es off2 n2) σ C := by
  obtain ⟨o2, a1, a2, a3, a4, h⟩ := h
  refine .inr ⟨?_, ?_, o2, a1, a2, a3, a4, rfl, h⟩
  · intro _ _ h; cases h
  · intro _ _ _ _ _ h; rcases h with h | ⟨_, h⟩ <;> cases h; rfl
theorem cpy_ks {σ : St} {C : AV → St → Prop} {es id g off n c id2 g2 off2 n2 : Nat} (h : ∃ o2, σ.ob id2 = some o2 ∧ o2.g = g2 ∧ o2.es = es ∧ off2 + n2 ≤ o2.l.length ∧ 0 < min ((o2.l.drop off2).take n2).length n ∧ ∃ o, σ.ob id = some o ∧ o.g = g ∧ o.es = es ∧ o.ro = false ∧ off ≤ o.l.length ∧
          C (.int .i64 (min ((o2.l.drop off2).take n2).length n : Nat)) (σ.put id o (o.l.take off ++ ((o2.l.drop off2).take n2).take n ++ o.l.drop (off + min ((o2.l.drop off2).take n2).length n)))) :
    cpyC es (.slk id g es off n c) (.sl id2 g2 es off2 n2) σ C := by
  obtain ⟨o2, a1, a2, a3, a4, h⟩ := h
  refine .inr ⟨?_, ?_, o2, a1, a2, a3, a4, rfl, h⟩
  · intro _ _ h; cases h
  · intro _ _ _ _ _ h; rcases h with h | ⟨_, h⟩ <;> cases h; rfl
theorem insG1 {L : List AV} {x z : AV} {i k m : Nat} (hi : i < L.length) (hk : k = L.length + 1 - i) (hm : m = 1) : (L.take i ++ List.replicate (L.length + 1 - i) z).take i ++ [x].take k ++ (L.take i ++ List.replicate (L.length + 1 - i) z).drop (i + m) = L.take i ++ x :: List.replicate (L.length - i) z := by
  subst hk; subst hm
  have h1 : (L.take i).length = i := by simp; omega
  rw [List.take_left' h1, List.take_of_length_le (l := [x]) (by simp; omega), List.drop_append, List.drop_of_length_le (l := L.take i) (by omega), h1, Nat.add_sub_cancel_left, List.drop_replicate, show L.length + 1 - i - 1 = L.length - i by omega]
  simp
theorem insG2 {L : List AV} {x z : AV} {i k l m : Nat} (hi : i < L.length) (hk : k = L.length - i) (hl : l = L.length - i) (hm : m = L.length - i) : (L.take i ++ x :: List.replicate (L.length - i) z).take (i + 1) ++ ((L.drop i).take k).take l ++ (L.take i ++ x :: List.replicate (L.length - i) z).drop (i + 1 + m) = L.take i ++ x :: L.drop i := by
  subst hk; subst hl; subst hm
  have h1 : (L.take i ++ [x]).length = i + 1 := by simp; omega
  rw [show L.take i ++ x :: List.replicate (L.length - i) z = (L.take i ++ [x]) ++ List.replicate (L.length - i) z by simp, List.take_left' h1, List.take_of_length_le (l := L.drop i) (by simp), List.take_of_length_le (l := L.drop i) (by simp), List.drop_of_length_le (l := (L.take i ++ [x]) ++ List.replicate (L.length - i) z) (by rw [List.length_append, h1, List.length_replicate]; omega)]
  simp
theorem insR1 {L : List AV} {i k m : Nat} (hi : i < L.length) (hk : k = L.length - i) (hm : m = L.length - i) : L.take (i + 1) ++ (L.drop i).take k ++ L.drop (i + 1 + m) = L.take (i + 1) ++ L.drop i := by
  subst hk; subst hm
  rw [List.take_of_length_le (l := L.drop i) (by simp), List.drop_of_length_le (l := L) (i := i + 1 + (L.length - i)) (by omega), List.append_nil]
theorem insR2 {L : List AV} {x : AV} {i k m : Nat} (hi : i < L.length) (hk : 1 ≤ k) (hm : m = 1) : (L.take (i + 1) ++ L.drop i).take i ++ [x].take k ++ (L.take (i + 1) ++ L.drop i).drop (i + m) = L.take i ++ x :: L.drop i := by
  subst hm
  have h1 : (L.take (i + 1)).length = i + 1 := by simp; omega
  rw [List.take_append_of_le_length (by omega), List.take_take, List.take_of_length_le (l := [x]) (by simpa using hk), List.drop_left' h1, show min i (i + 1) = i by omega]
  simp
/-- What an insertion into an object leaves: it, longer, or a new one; the others are as they were. -/
def InsO (σ : St) (id es : Nat) (ty : TypeId) (L : List AV) (r : AV) (τ : St) : Prop :=
  ∃ id' g', r = .sl id' g' es 0 L.length ∧ (id' = id ∨ σ.n ≤ id') ∧ id' < τ.n ∧ σ.n ≤ τ.n ∧ τ.ob id' = some ⟨g', es, ty, false, true, L⟩ ∧ ∀ k, k < σ.n → k ≠ id → τ.ob k = σ.ob k
/-- A new object; what there was is as it was. -/
def NewO (σ : St) (es : Nat) (ty : TypeId) (L : List AV) (r : AV) (τ : St) : Prop := ∃ id g, r = .sl id g es 0 L.length ∧ σ.n ≤ id ∧ id < τ.n ∧ τ.ob id = some ⟨g, es, ty, false, true, L⟩ ∧ ∀ i, i < σ.n → τ.ob i = σ.ob i
/-! A slice that is appended to: nil, or an object of its own. -/
/-- X does not name object i -/
def Oth (X : AV) (i : Nat) : Prop := ∀ g es o n, X ≠ .sl i g es o n
def SlR (es : Nat) (ty : TypeId) (σ : St) (L : List AV) (X : AV) : Prop := (X = .nil ∧ L = []) ∨ ∃ id g, X = .sl id g es 0 L.length ∧ id < σ.n ∧ σ.ob id = some ⟨g, es, ty, false, true, L⟩
theorem Oth.nil (i : Nat) : Oth .nil i := fun _ _ _ _ h => by cases h
theorem Oth.ne {id g es o n i : Nat} (h : Oth (.sl id g es o n) i) : ¬ id = i := fun e => h _ _ _ _ (by rw [e])
theorem Oth.sl {id g es o n i : Nat} (h : ¬ id = i) : Oth (.sl id g es o n) i := fun _ _ _ _ hh => by cases hh; exact h rfl
/-- What becomes of the rest of the store when X is appended to. -/
def Kp (σ : St) (X : AV) (τ : St) (X' : AV) : Prop := σ.n ≤ τ.n ∧ (∀ i, i < σ.n → Oth X i → τ.ob i = σ.ob i) ∧ ∀ i, i < σ.n → Oth X i → Oth X' i
theorem Kp.trans {σ τ ρ : St} {X Y Z : AV} (h : Kp σ X τ Y) (k : Kp τ Y ρ Z) : Kp σ X ρ Z :=
  ⟨Nat.le_trans h.1 k.1, fun i hi hx => (k.2.1 i (Nat.lt_of_lt_of_le hi h.1) (h.2.2 i hi hx)).trans (h.2.1 i hi hx), fun i hi hx => k.2.2 i (Nat.lt_of_lt_of_le hi h.1) (h.2.2 i hi hx)⟩
section
variable {es : Nat} {ty : TypeId} {σ τ : St} {L : List AV} {X : AV}
theorem SlR.nil : SlR es ty σ [] .nil := .inl ⟨rfl, rfl⟩
theorem SlR.one (h : SlR es ty σ L X) : X.one = true := by rcases h with ⟨rfl, _⟩ | ⟨id, g, rfl, _⟩ <;> rfl
theorem SlR.flat (h : SlR es ty σ L X) : X.flat = true := by rcases h with ⟨rfl, _⟩ | ⟨id, g, rfl, _⟩ <;> rfl
theorem SlR.cells (h : SlR es ty σ L X) : X.cells = [X] := by rcases h with ⟨rfl, _⟩ | ⟨id, g, rfl, _⟩ <;> rfl
theorem SlR.move (h : SlR es ty σ L X) (hn : σ.n ≤ τ.n) (ho : ∀ i, i < σ.n → ¬ Oth X i → τ.ob i = σ.ob i) : SlR es ty τ L X := by
  rcases h with h | ⟨id, g, rfl, h2, h3⟩
  · exact .inl h
  · exact .inr ⟨id, g, rfl, Nat.lt_of_lt_of_le h2 hn, by rw [ho id h2 (fun h => h _ _ _ _ rfl)]; exact h3⟩
theorem SlR.oth (h : SlR es ty σ L X) {i : Nat} (hi : σ.n ≤ i) : Oth X i := by
  rcases h with ⟨rfl, _⟩ | ⟨id, g, rfl, h2, _⟩
  · exact Oth.nil i
  · exact Oth.sl (by omega)
theorem SlR.pub (h : SlR es ty σ L X) (ho : ∀ i, i < σ.n → ¬ Oth X i → τ.ob i = σ.ob i) (hp : ∀ x ∈ L, x.pur = true) (hk : ∀ x ∈ L, okE es x) : Pub τ X (.list es L) := by
  rcases h with ⟨rfl, rfl⟩ | ⟨id, g, rfl, h2, h3⟩
  · exact .nl es
  · exact Pub.of_sl (by rw [ho id h2 (fun h => h _ _ _ _ rfl)]; exact h3) rfl hp hk
/-- One more element. -/
theorem app_slr {b : Nat} {a : AV} {K : AV → St → Prop} (h : SlR es ty σ L X) (hm : L.length + 1 ≤ 9223372036854775807) (hb : (L.length + 1) * b ≤ 140737488355328)
    (k : ∀ X' τ, SlR es ty τ (L ++ [a]) X' → Kp σ X τ X' → K X' τ) : appC es b ty X (.list es [a]) σ K := by
  rcases h with ⟨rfl, rfl⟩ | ⟨id, g, rfl, h2, h3⟩
  · rw [w_app_nl]
    simp only [List.length_nil, Nat.zero_add] at hb
    refine ⟨by simp [maxLen], by simpa using hb, fun h => by simp at h, fun _ => k _ _ (.inr ⟨σ.n, σ.c, rfl, Nat.lt_succ_self _, by simp [St.push, upd]⟩) ⟨Nat.le_succ _, fun i hi _ => ?_, fun i hi _ => Oth.sl (by omega)⟩⟩
    simp only [St.push]; rw [upd_ne _ _ _ _ (by omega)]
  · rw [w_app_ll]
    refine ⟨_, h3, rfl, rfl, rfl, rfl, rfl, rfl, by rw [mxL]; simpa using hm, by simpa using hb, k _ _ (.inr ⟨id, σ.c, by simp, h2, by simp [St.renew, upd]⟩) ⟨Nat.le_refl _, fun i hi hx => ?_, fun i hi hx => Oth.sl hx.ne⟩⟩
    simp only [St.renew]
    rw [upd_ne _ _ _ _ (fun e => hx.ne e.symm)]
/-- Any elements appended. -/
theorem app_slrs {b : Nat} {M : List AV} {K : AV → St → Prop} (h : SlR es ty σ L X) (hm : L.length + M.length ≤ 9223372036854775807) (hb : (L.length + M.length) * b ≤ 140737488355328)
    (k : ∀ X' τ, SlR es ty τ (L ++ M) X' → Kp σ X τ X' → K X' τ) : appC es b ty X (.list es M) σ K := by
  rcases h with ⟨rfl, rfl⟩ | ⟨id, g, rfl, h2, h3⟩
  · rw [w_app_nl]
    simp only [List.length_nil, Nat.zero_add] at hm hb
    refine ⟨by rw [mxL]; omega, hb, fun h => k _ _ (.inl ⟨rfl, by rw [h]; rfl⟩) ⟨Nat.le_refl _, fun _ _ _ => rfl, fun _ _ h => h⟩, fun _ => k _ _ (.inr ⟨σ.n, σ.c, rfl, Nat.lt_succ_self _, by simp [St.push, upd]⟩) ⟨Nat.le_succ _, fun i hi _ => ?_, fun i hi _ => Oth.sl (by omega)⟩⟩
    simp only [St.push]; rw [upd_ne _ _ _ _ (by omega)]
  · rw [w_app_ll]
    refine ⟨_, h3, rfl, rfl, rfl, rfl, rfl, rfl, by rw [mxL]; exact hm, hb, k _ _ (.inr ⟨id, σ.c, by simp, h2, by simp [St.renew, upd]⟩) ⟨Nat.le_refl _, fun i hi hx => ?_, fun i hi hx => Oth.sl hx.ne⟩⟩
    simp only [St.renew]
    rw [upd_ne _ _ _ _ (fun e => hx.ne e.symm)]
end
theorem NewO.slr {σ : St} {es : Nat} {ty : TypeId} {L : List AV} {r : AV} {τ : St} (h : NewO σ es ty L r τ) : SlR es ty τ L r ∧ σ.n ≤ τ.n ∧ (∀ i, i < σ.n → τ.ob i = σ.ob i) ∧ ∀ i, i < σ.n → Oth r i := by
  obtain ⟨id, g, rfl, h1, h2, h3, h4⟩ := h
  exact ⟨.inr ⟨id, g, rfl, h2, h3⟩, by omega, h4, fun i hi => Oth.sl (by omega)⟩
theorem pub_ptrless {σ : St} {a : AV} (h : a.pur = true) : Pub σ a a := .pure h
/-! Results of several parts. -/
inductive PubS (σ : St) : List AV → List AV → Prop
  | nil : PubS σ [] []
  | cons {a b : AV} {l r : List AV} (h : Pub σ a b) (k : PubS σ l r) : PubS σ (a :: l) (b :: r)
theorem PubS.get {σ : St} {l r : List AV} (h : PubS σ l r) : l.length = r.length ∧ ∀ (i : Nat) (x y : AV), l[i]? = some x → r[i]? = some y → Pub σ x y := by
  induction h with
  | nil => exact ⟨rfl, fun i x y h => by simp at h⟩
  | cons h k ih =>
    refine ⟨by simp [ih.1], fun i x y hx hy => ?_⟩
    cases i with
    | zero => simp at hx hy; subst hx; subst hy; exact h
    | succ i => exact ih.2 i x y (by simpa using hx) (by simpa using hy)
theorem Pub.ag {σ : St} {l r : List AV} (h : PubS σ l r) : Pub σ (.agg l) (.agg r) := .agg h.get.1 h.get.2
theorem Pub.tu {σ : St} {l r : List AV} (h : PubS σ l r) : Pub σ (.tuple l) (.tuple r) := .tuple h.get.1 h.get.2
theorem Pub.e {σ : St} {a : AV} (h : a.pur = true) : Pub σ a a := .pure h
/-! nil, where a list is asked for -/
def NlR (a b : AV) : Prop := ∀ (S : Nat → Prop) (w : World) (v : Value), VP S w a v → VP S w b v
theorem NlR.rfl {a : AV} : NlR a a := fun _ _ _ h => h
theorem NlR.nil (es : Nat) : NlR .nil (.list es []) := fun S w v h => by cases h; exact .listNil _ _ _
inductive NlRs : List AV → List AV → Prop
  | nil : NlRs [] []
  | cons {a b : AV} {l r : List AV} (h : NlR a b) (k : NlRs l r) : NlRs (a :: l) (b :: r)
theorem NlRs.get {l r : List AV} (h : NlRs l r) : l.length = r.length ∧ ∀ (j : Nat) (y : AV), r[j]? = some y → ∃ x, l[j]? = some x ∧ NlR x y := by
  induction h with
  | nil => exact ⟨Eq.refl _, fun j y h => by simp at h⟩
  | cons h k ih =>
    refine ⟨by simp [ih.1], fun j y hy => ?_⟩
    cases j with
    | zero => simp at hy; subst hy; exact ⟨_, Eq.refl _, h⟩
    | succ j => exact ih.2 j y (by simpa using hy)
theorem NlRs.refl : ∀ (l : List AV), NlRs l l
  | [] => .nil
  | _ :: l => .cons .rfl (NlRs.refl l)
theorem NlR.agg {l r : List AV} (h : NlRs l r) : NlR (.agg l) (.agg r) := fun S w v hv => by
  cases hv with
  | agg hl hh =>
    refine .agg (by rw [hl, h.get.1]) fun j y u hy hu => ?_
    obtain ⟨x, hx, hxy⟩ := h.get.2 j y hy
    exact hxy S w u (hh j x u hx hu)
theorem pc_nl {P : Program} {f : Nat} {args args' : List AV} {r : AV} (h : PC P f args' r) (k : NlRs args args') : PC P f args r :=
  ⟨h.1, fun S w vs hlt hv => h.2 S w vs hlt ⟨by rw [hv.1, k.get.1], fun j y u hy hu => by obtain ⟨x, hx, hxy⟩ := k.get.2 j y hy; exact hxy S w u (hv.2 j x u hx hu)⟩⟩
/-! A slice that is read: nil, a list, or a part of an object; E holds the elements L. -/
def ER (es : Nat) (σ : St) (L : List AV) (E : AV) : Prop :=
  (E = .nil ∧ L = []) ∨ E = .list es L ∨ ∃ id g off o, E = .sl id g es off L.length ∧ id < σ.n ∧ σ.ob id = some o ∧ o.g = g ∧ o.es = es ∧ off + L.length ≤ o.l.length ∧ (o.l.drop off).take L.length = L
theorem hkeep_lt {af : List Nat} {R : List (Nat × Nat)} {ob ob' : Nat → Option AObj} {n : Nat} (h : ∀ x ∈ R, x.2 < n) (k : ∀ i, i < n → ob' i = ob i) : hkeep af R ob ob' := fun x hx => .inr (k _ (h x hx))
theorem tagR_lt {p n : Nat} {l : List Nat} (h : ∀ i ∈ l, i < n) : ∀ x ∈ tagR p l, x.2 < n := fun x hx => by
  obtain ⟨i, hi, rfl⟩ := List.mem_map.1 hx
  exact h i hi
theorem app_lt {n : Nat} {R S : List (Nat × Nat)} (h : ∀ x ∈ R, x.2 < n) (k : ∀ x ∈ S, x.2 < n) : ∀ x ∈ R ++ S, x.2 < n := fun x hx => (List.mem_append.1 hx).elim (h x) (k x)
section
variable {es : Nat} {σ τ : St} {L : List AV} {E : AV}
theorem ER.of_slr {ty : TypeId} (h : SlR es ty σ L E) : ER es σ L E := by
  rcases h with h | ⟨id, g, rfl, h2, h3⟩
  · exact .inl h
  · exact .inr (.inr ⟨id, g, 0, _, rfl, h2, h3, rfl, rfl, by simp, by simp⟩)
theorem ER.of_sl {id g : Nat} {ty : TypeId} {ro ap : Bool} (h : σ.ob id = some ⟨g, es, ty, ro, ap, L⟩) (hn : id < σ.n) : ER es σ L (.sl id g es 0 L.length) := .inr (.inr ⟨id, g, 0, _, rfl, hn, h, rfl, rfl, by simp, by simp⟩)
theorem ER.list (es : Nat) (σ : St) (L : List AV) : ER es σ L (.list es L) := .inr (.inl rfl)
theorem ER.one (h : ER es σ L E) : E.one = true := by rcases h with ⟨rfl, _⟩ | rfl | ⟨_, _, _, _, rfl, _⟩ <;> rfl
theorem ER.flat (h : ER es σ L E) : E.flat = true := by rcases h with ⟨rfl, _⟩ | rfl | ⟨_, _, _, _, rfl, _⟩ <;> rfl
theorem ER.cells (h : ER es σ L E) : E.cells = [E] := by rcases h with ⟨rfl, _⟩ | rfl | ⟨_, _, _, _, rfl, _⟩ <;> rfl
theorem ER.oid (h : ER es σ L E) : ∀ i ∈ E.oid, i < σ.n := by
  rcases h with ⟨rfl, _⟩ | rfl | ⟨id, _, _, _, rfl, h, _⟩ <;> intro i hi
  · cases hi
  · cases hi
  · obtain rfl : i = id := by simpa [AV.oid] using hi
    exact h
/-- the same elements, elsewhere: the object that E names (if any) holds what it held -/
theorem ER.move (h : ER es σ L E) (hn : σ.n ≤ τ.n) (ho : ∀ i, i < σ.n → ¬ Oth E i → ∀ o, σ.ob i = some o → ∃ b, τ.ob i = some { o with ro := b }) : ER es τ L E := by
  rcases h with h | h | ⟨id, g, off, o, rfl, h1, h2, h3, h4, h5, h6⟩
  · exact .inl h
  · exact .inr (.inl h)
  · obtain ⟨b, hb⟩ := ho id h1 (fun h => h _ _ _ _ rfl) o h2
    exact .inr (.inr ⟨id, g, off, _, rfl, Nat.lt_of_lt_of_le h1 hn, hb, h3, h4, h5, h6⟩)
theorem ER.keep (h : ER es σ L E) (hn : σ.n ≤ τ.n) (ho : ∀ i, i < σ.n → ¬ Oth E i → τ.ob i = σ.ob i) : ER es τ L E :=
  h.move hn fun i hi h2 o h3 => ⟨o.ro, by rw [ho i hi h2]; exact h3⟩
theorem ER.pub (h : ER es σ L E) (hp : ∀ x ∈ L, x.pur = true) (hk : ∀ x ∈ L, okE es x) (ho : ∀ i, i < σ.n → ¬ Oth E i → ∀ o, σ.ob i = some o → ∃ b, τ.ob i = some { o with ro := b }) : Pub τ E (.list es L) := by
  rcases h with ⟨rfl, rfl⟩ | rfl | ⟨id, g, off, o, rfl, h1, h2, h3, h4, h5, h6⟩
  · exact .nl es
  · exact .pure rfl
  · obtain ⟨b, hb⟩ := ho id h1 (fun h => h _ _ _ _ rfl) o h2
    refine .sl hb h3 h4 h5 (by simp only []; rw [h6]) (fun i x y hx hy => ?_) hk
    simp only [] at hx
    rw [h6, hy] at hx
    obtain rfl := Option.some.inj hx
    exact .pure (hp _ (List.mem_of_getElem? hy))
theorem ER.pub' (h : ER es σ L E) (hp : ∀ x ∈ L, x.pur = true) (hk : ∀ x ∈ L, okE es x) : Pub σ E (.list es L) := h.pub hp hk fun i _ _ o h => ⟨o.ro, h⟩
theorem ER.len (h : ER es σ L E) {K : AV → St → Prop} (k : K (.int .i64 L.length) σ) : lenC E σ K := by
  rcases h with ⟨rfl, rfl⟩ | rfl | ⟨id, g, off, o, rfl, _⟩
  · simpa [lenC] using k
  · simpa [lenC] using k
  · simpa [lenC] using k
/-- L[lo:] -/
theorem ER.drop {K : AV → St → Prop} {kd : IntKind} {lo : Int} {k : Nat} (h : ER es σ L E) (hlo : lo = k) (hk : k ≤ L.length) (f : ∀ E', ER es σ (L.drop k) E' → (∀ i, Oth E i → Oth E' i) → K E' σ) : slcC es E (some (.int kd lo)) none σ K := by
  subst hlo
  rcases h with ⟨rfl, rfl⟩ | rfl | ⟨id, g, off, o, rfl, h1, h2, h3, h4, h5, h6⟩
  · obtain rfl : k = 0 := by simpa using hk
    exact ⟨by simp, by simp, f _ (.inl ⟨rfl, rfl⟩) fun _ h => h⟩
  · refine ⟨rfl, by omega, by simpa using hk, ?_⟩
    show K (.list es ((L.take L.length).drop (k : Int).toNat)) σ
    rw [List.take_length, Int.toNat_natCast]
    exact f _ (.inr (.inl rfl)) fun _ _ _ _ _ _ h => (by cases h)
  · refine ⟨rfl, ⟨_, h2, h3⟩, by omega, by simpa using hk, ?_⟩
    show ((k : Int).toNat = L.length → K (.list es []) σ) ∧ ((k : Int).toNat < L.length → K (.sl id g es (off + (k : Int).toNat) (L.length - (k : Int).toNat)) σ)
    rw [Int.toNat_natCast]
    refine ⟨fun h => f _ (.inr (.inl ?_)) fun _ _ _ _ _ _ h => (by cases h), fun h => f _ (.inr (.inr ⟨id, g, off + k, o, by simp, h1, h2, h3, h4, by simp; omega, ?_⟩)) fun i hi => Oth.sl (Oth.ne hi)⟩
    · rw [h, List.drop_length]
    · have := congrArg (List.drop k) h6
      rw [← this]
      simp [List.drop_take, Nat.min_eq_left (show L.length - k ≤ o.l.length - (off + k) by omega)]
/-- L[:hi] -/
theorem ER.take {K : AV → St → Prop} {kd : IntKind} {hi : Int} {k : Nat} (h : ER es σ L E) (hhi : hi = k) (hk : k ≤ L.length) (f : ∀ E', ER es σ (L.take k) E' → (∀ i, Oth E i → Oth E' i) → K E' σ) : slcC es E none (some (.int kd hi)) σ K := by
  subst hhi
  rcases h with ⟨rfl, rfl⟩ | rfl | ⟨id, g, off, o, rfl, h1, h2, h3, h4, h5, h6⟩
  · obtain rfl : k = 0 := by simpa using hk
    exact ⟨by simp, by simp, f _ (.inl ⟨rfl, rfl⟩) fun _ h => h⟩
  · refine ⟨rfl, by omega, by simpa using hk, ?_⟩
    show K (.list es ((L.take (k : Int).toNat).drop 0)) σ
    rw [List.drop_zero, Int.toNat_natCast]
    exact f _ (.inr (.inl rfl)) fun _ _ _ _ _ _ h => (by cases h)
  · refine ⟨rfl, ⟨_, h2, h3⟩, by omega, by simpa using hk, ?_⟩
    show (0 = (k : Int).toNat → K (.list es []) σ) ∧ (0 < (k : Int).toNat → K (.sl id g es off (k : Int).toNat) σ)
    rw [Int.toNat_natCast]
    refine ⟨fun h => f _ (.inr (.inl ?_)) fun _ _ _ _ _ _ h => (by cases h), fun h => f _ (.inr (.inr ⟨id, g, off, o, by simp [Nat.min_eq_left hk], h1, h2, h3, h4, by simp; omega, ?_⟩)) fun i hi => Oth.sl (Oth.ne hi)⟩
    · rw [← h]; simp
    · have := congrArg (List.take k) h6
      rw [← this]
      simp [List.take_take, Nat.min_eq_left (show min k L.length ≤ o.l.length - off by omega)]
/-- where an element stands -/
theorem ER.at (h : ER es σ L E) {k : Nat} (hk : k < L.length) : E = .list es L ∨ ∃ id g off o, E = .sl id g es off L.length ∧ id < σ.n ∧ σ.ob id = some o ∧ o.g = g ∧ o.es = es ∧ off + L.length ≤ o.l.length ∧ o.l[off + k]? = L[k]? := by
  rcases h with ⟨rfl, rfl⟩ | rfl | ⟨id, g, off, o, rfl, h1, h2, h3, h4, h5, h6⟩
  · simp at hk
  · exact .inl rfl
  · refine .inr ⟨id, g, off, o, rfl, h1, h2, h3, h4, h5, ?_⟩
    have := congrArg (fun z => z[k]?) h6
    simp only [List.getElem?_take, if_pos hk, List.getElem?_drop] at this
    exact this
/-- its elements are appended -/
theorem app_er {b : Nat} {ty : TypeId} {X : AV} {K : AV → St → Prop} (h : ER es σ L E) (k : appC es b ty X (.list es L) σ K) : appC es b ty X E σ K := by
  rcases h with ⟨rfl, rfl⟩ | rfl | ⟨id, g, off, o, rfl, h1, h2, h3, h4, h5, h6⟩
  · obtain ⟨_, _, k⟩ := k
    exact ⟨fun _ _ h => (by cases h), fun _ _ _ _ _ h => (by rcases h with h | ⟨_, h⟩ <;> cases h), k⟩
  · exact k
  · obtain ⟨_, _, k⟩ := k
    refine ⟨fun _ _ h => (by cases h), fun _ _ _ _ _ h => (by rcases h with h | ⟨_, h⟩ <;> cases h; rfl), o, h2, h3, h4, h5, ?_⟩
    rw [h6]
    exact k
end
def fewB (t : List Int) : Bool := decide ((t.length : Int) ≤ 500)
theorem ok_mk_Few (t : List Int) : PC prog n_mk_Few [.list 1 (ints t)] (.bool (fewB t)) := by
  refine PC_of_body b_mk_Few (by simp) ?_
  simp only [c_mk_Few, go_sem, Int.reduceEq, Int.reduceLT, Int.reduceLE, Int.reduceToNat, Nat.reduceLT, Nat.reduceEqDiff, Nat.reduceAdd, Nat.reduceLeDiff, Nat.reduceSub, Nat.reduceMul, ↓reduceIte, reduceCtorEq, w_app_nl, ints_length]
  exact Pub.of_eq rfl rfl
/-- where a number stands, or belongs, in a list that ascends -/
def bsI (l : List Int) (x : Int) : Nat := l.findIdx fun y => decide (x ≤ y)
theorem bsI_le (l : List Int) (x : Int) : bsI l x ≤ l.length := List.findIdx_le_length
theorem bsI_eq (l : List Int) (x : Int) (i : Nat) (hi : i ≤ l.length) (h1 : ∀ k, k < i → ∀ y, l[k]? = some y → y < x) (h2 : ∀ k, i ≤ k → ∀ y, l[k]? = some y → x ≤ y) : bsI l x = i := by
  unfold bsI
  by_cases h : i < l.length
  · rw [List.findIdx_eq h]
    refine ⟨by simpa using h2 i (Nat.le_refl _) _ (List.getElem?_eq_getElem h), fun j hj => ?_⟩
    have := h1 j hj _ (List.getElem?_eq_getElem (by omega))
    simp; omega
  · have : i = l.length := by omega
    subst this
    rw [List.findIdx_eq_length]
    intro y hy
    obtain ⟨k, hk⟩ := List.getElem?_of_mem hy
    have := h1 k (List.getElem?_eq_some_iff.1 hk).1 y hk
    simp; omega
theorem bit_half (x : Int) (h0 : 0 ≤ x) (h1 : x ≤ 9223372036854775807) : bitD .shr .u64 x .u64 1 = some (.int .u64 (x / 2)) := by
  simp only [bitD, IntKind.bits]
  rw [if_pos (by omega)]
  have : (2 : Int) ^ min (1 : Int).toNat 64 = 2 := by decide
  rw [this, Int.fdiv_eq_ediv_of_nonneg _ (by omega)]
theorem wrap_u64 {n : Int} (h0 : 0 ≤ n) (h1 : n ≤ 18446744073709551615) : IntKind.u64.wrap n = n := by
  simp [IntKind.wrap, IntKind.bits, IntKind.signed]; omega
def Asc (l : List Int) : Prop := ∀ i j : Nat, i < j → ∀ x y, l[i]? = some x → l[j]? = some y → x ≤ y
theorem bsI_mem (l : List Int) (x : Int) (hs : Asc l) : l[bsI l x]? = some x ↔ x ∈ l := by
  constructor
  · intro h; exact List.mem_of_getElem? h
  · intro h
    have hlt : bsI l x < l.length := List.findIdx_lt_length.2 ⟨x, h, by simp⟩
    have h3 : x ≤ l[bsI l x] := of_decide_eq_true (List.findIdx_getElem (p := fun y => decide (x ≤ y)) (w := hlt))
    obtain ⟨i, hi⟩ := List.getElem?_of_mem h
    have h4 : bsI l x ≤ i := by
      rcases Nat.lt_or_ge i (bsI l x) with h5 | h5
      · have := List.not_of_lt_findIdx h5
        rw [List.getElem?_eq_some_iff] at hi
        obtain ⟨_, rfl⟩ := hi
        simp at this
      · exact h5
    rw [List.getElem?_eq_getElem hlt]
    by_cases e : i = bsI l x
    · subst e; rw [List.getElem?_eq_getElem hlt] at hi; exact hi
    · have := hs _ i (by omega) _ x (List.getElem?_eq_getElem hlt) hi
      congr 1; omega
theorem bsI_at {l : List Int} {x y : Int} (h : l[bsI l x]? = some y) : x ≤ y := by
  obtain ⟨hlt, rfl⟩ := List.getElem?_eq_some_iff.1 h
  exact of_decide_eq_true (List.findIdx_getElem (p := fun y => decide (x ≤ y)) (w := hlt))
theorem bsI_le_of {l : List Int} {x y : Int} {k : Nat} (h : l[k]? = some y) (hy : x ≤ y) : bsI l x ≤ k := by
  obtain ⟨hlt, rfl⟩ := List.getElem?_eq_some_iff.1 h
  rcases Nat.lt_or_ge k (bsI l x) with h5 | h5
  · have := List.not_of_lt_findIdx h5
    simp at this; omega
  · exact h5
theorem eq_of_get {α : Type} {a b : List α} (hl : a.length = b.length) (h : ∀ j, j < a.length → a[j]? = b[j]?) : a = b := by
  apply List.ext_getElem? ; intro j
  by_cases hj : j < a.length
  · exact h j hj
  · rw [List.getElem?_eq_none (by omega), List.getElem?_eq_none (by omega)]
theorem shInts {c : List AV} (h : (Sh.slice 1 (.int .i64)).R c) : ∃ L : List Int, c = [.list 1 (ints L)] ∧ L.length ≤ 9223372036854775807 ∧ ∀ n ∈ L, (Lit.int .i64 n).wf = true := by
  obtain ⟨xs, rfl, hl, h⟩ := h
  obtain ⟨L, rfl, hL⟩ := exists_map (f := AV.int .i64) (Q := fun n => (Lit.int .i64 n).wf = true) fun x hx => by
    obtain ⟨cs, hr, _, rfl⟩ := h x hx
    obtain ⟨a, rfl, ha⟩ := hr
    exact ⟨a, ha, rfl⟩
  exact ⟨L, rfl, by simpa using hl, hL⟩
theorem wf_u8 {n : Int} (h : (Lit.int .u8 n).wf = true) : 0 ≤ n ∧ n ≤ 255 := by
  simp [Lit.wf, IntKind.min, IntKind.max, IntKind.signed, IntKind.bits] at h; omega
theorem wf_u16 {n : Int} (h : (Lit.int .u16 n).wf = true) : 0 ≤ n ∧ n ≤ 65535 := by
  simp [Lit.wf, IntKind.min, IntKind.max, IntKind.signed, IntKind.bits] at h; omega
theorem wf_i64 {n : Int} (h : (Lit.int .i64 n).wf = true) : -9223372036854775808 ≤ n ∧ n ≤ 9223372036854775807 := by
  simp [Lit.wf, IntKind.min, IntKind.max, IntKind.signed, IntKind.bits] at h; omega
abbrev ty_el_Order : TypeId := 36
theorem hcl_slices_Clone__Order (σ : St) (L : List AV) (hl : L.length * 32 ≤ 140737488355328) : HC prog n_slices_Clone__Order [.list 4 L] σ (NewO σ 4 ty_el_Order L) := by
  refine HC_of_body b_slices_Clone__Order (by simp) ?_
  obtain ⟨ob, n, c⟩ := σ
  simp only [c_slices_Clone__Order, go_sem, Int.reduceEq, Int.reduceLT, Int.reduceLE, Int.reduceToNat, Nat.reduceLT, Nat.reduceEqDiff, Nat.reduceAdd, Nat.reduceLeDiff, Nat.reduceSub, Nat.reduceMul, ↓reduceIte, reduceCtorEq, w_app_nl]
  refine isnil_l (fun h => ?_) (fun h => ?_)
  · subst h
    refine ⟨?_, ?_⟩
    · try simp (maxSteps := 500000) (disch := omega) only [go_sem, Int.reduceEq, Int.reduceLT, Int.reduceLE, Int.reduceToNat, Nat.reduceLT, Nat.reduceEqDiff, Nat.reduceAdd, Nat.reduceLeDiff, Nat.reduceSub, Nat.reduceMul, ↓reduceIte, reduceCtorEq, wrap_id, w_ite_ne, w_ite_lt, Nat.sub_zero, Nat.sub_self]
      refine ⟨_, _, rfl, Nat.le_succ _, Nat.lt_succ_self _, (by first | ((try simp (maxSteps := 1000000) only [go_sem, Int.reduceEq, Int.reduceLT, Int.reduceLE, Int.reduceToNat, Nat.reduceLT, Nat.reduceEqDiff, Nat.reduceAdd, Nat.reduceLeDiff, Nat.reduceSub, Nat.reduceMul, ↓reduceIte, reduceCtorEq, w_app_nl]); done) | ((try simp (maxSteps := 1000000) only [go_sem, Int.reduceEq, Int.reduceLT, Int.reduceLE, Int.reduceToNat, Nat.reduceLT, Nat.reduceEqDiff, Nat.reduceAdd, Nat.reduceLeDiff, Nat.reduceSub, Nat.reduceMul, ↓reduceIte, reduceCtorEq, w_app_nl]); rfl) | ((try simp (maxSteps := 1000000) (disch := omega) only [go_sem, Int.reduceEq, Int.reduceLT, Int.reduceLE, Int.reduceToNat, Nat.reduceLT, Nat.reduceEqDiff, Nat.reduceAdd, Nat.reduceLeDiff, Nat.reduceSub, Nat.reduceMul, ↓reduceIte, reduceCtorEq, w_app_nl, wrap_id, w_ite_ne, w_ite_lt]); rfl) | (simp (maxSteps := 1000000) (disch := omega) only [go_sem, Int.reduceEq, Int.reduceLT, Int.reduceLE, Int.reduceToNat, Nat.reduceLT, Nat.reduceEqDiff, Nat.reduceAdd, Nat.reduceLeDiff, Nat.reduceSub, Nat.reduceMul, ↓reduceIte, reduceCtorEq, w_app_nl, wrap_id, w_ite_ne, w_ite_lt]; done)), fun i hi => ?_⟩
      simp only at hi
      try simp (maxSteps := 500000) (disch := omega) only [go_sem, Int.reduceEq, Int.reduceLT, Int.reduceLE, Int.reduceToNat, Nat.reduceLT, Nat.reduceEqDiff, Nat.reduceAdd, Nat.reduceLeDiff, Nat.reduceSub, Nat.reduceMul, ↓reduceIte, reduceCtorEq, wrap_id, w_ite_ne, w_ite_lt, Nat.sub_zero, Nat.sub_self]
    · try simp (maxSteps := 500000) (disch := omega) only [go_sem, Int.reduceEq, Int.reduceLT, Int.reduceLE, Int.reduceToNat, Nat.reduceLT, Nat.reduceEqDiff, Nat.reduceAdd, Nat.reduceLeDiff, Nat.reduceSub, Nat.reduceMul, ↓reduceIte, reduceCtorEq, wrap_id, w_ite_ne, w_ite_lt, Nat.sub_zero, Nat.sub_self]
      repeat (refine And.intro (by first | omega | (rw [mxL]; omega) | (simp [maxLen]; done) | (simp [maxLen]; omega)) ?_)
      refine ⟨_, _, rfl, Nat.le_succ _, Nat.lt_succ_self _, (by first | ((try simp (maxSteps := 1000000) only [go_sem, Int.reduceEq, Int.reduceLT, Int.reduceLE, Int.reduceToNat, Nat.reduceLT, Nat.reduceEqDiff, Nat.reduceAdd, Nat.reduceLeDiff, Nat.reduceSub, Nat.reduceMul, ↓reduceIte, reduceCtorEq, w_app_nl]); done) | ((try simp (maxSteps := 1000000) only [go_sem, Int.reduceEq, Int.reduceLT, Int.reduceLE, Int.reduceToNat, Nat.reduceLT, Nat.reduceEqDiff, Nat.reduceAdd, Nat.reduceLeDiff, Nat.reduceSub, Nat.reduceMul, ↓reduceIte, reduceCtorEq, w_app_nl]); rfl) | ((try simp (maxSteps := 1000000) (disch := omega) only [go_sem, Int.reduceEq, Int.reduceLT, Int.reduceLE, Int.reduceToNat, Nat.reduceLT, Nat.reduceEqDiff, Nat.reduceAdd, Nat.reduceLeDiff, Nat.reduceSub, Nat.reduceMul, ↓reduceIte, reduceCtorEq, w_app_nl, wrap_id, w_ite_ne, w_ite_lt]); rfl) | (simp (maxSteps := 1000000) (disch := omega) only [go_sem, Int.reduceEq, Int.reduceLT, Int.reduceLE, Int.reduceToNat, Nat.reduceLT, Nat.reduceEqDiff, Nat.reduceAdd, Nat.reduceLeDiff, Nat.reduceSub, Nat.reduceMul, ↓reduceIte, reduceCtorEq, w_app_nl, wrap_id, w_ite_ne, w_ite_lt]; done)), fun i hi => ?_⟩
      simp only at hi
      try simp (maxSteps := 500000) (disch := omega) only [go_sem, Int.reduceEq, Int.reduceLT, Int.reduceLE, Int.reduceToNat, Nat.reduceLT, Nat.reduceEqDiff, Nat.reduceAdd, Nat.reduceLeDiff, Nat.reduceSub, Nat.reduceMul, ↓reduceIte, reduceCtorEq, wrap_id, w_ite_ne, w_ite_lt, Nat.sub_zero, Nat.sub_self]
  · try simp (maxSteps := 500000) (disch := omega) only [go_sem, Int.reduceEq, Int.reduceLT, Int.reduceLE, Int.reduceToNat, Nat.reduceLT, Nat.reduceEqDiff, Nat.reduceAdd, Nat.reduceLeDiff, Nat.reduceSub, Nat.reduceMul, ↓reduceIte, reduceCtorEq, wrap_id, w_ite_ne, w_ite_lt, Nat.sub_zero, Nat.sub_self]
    repeat (refine And.intro (by first | omega | (rw [mxL]; omega) | (simp [maxLen]; done) | (simp [maxLen]; omega)) ?_)
    refine ⟨_, _, rfl, Nat.le_succ _, Nat.lt_succ_self _, (by first | ((try simp (maxSteps := 1000000) only [go_sem, Int.reduceEq, Int.reduceLT, Int.reduceLE, Int.reduceToNat, Nat.reduceLT, Nat.reduceEqDiff, Nat.reduceAdd, Nat.reduceLeDiff, Nat.reduceSub, Nat.reduceMul, ↓reduceIte, reduceCtorEq, w_app_nl]); done) | ((try simp (maxSteps := 1000000) only [go_sem, Int.reduceEq, Int.reduceLT, Int.reduceLE, Int.reduceToNat, Nat.reduceLT, Nat.reduceEqDiff, Nat.reduceAdd, Nat.reduceLeDiff, Nat.reduceSub, Nat.reduceMul, ↓reduceIte, reduceCtorEq, w_app_nl]); rfl) | ((try simp (maxSteps := 1000000) (disch := omega) only [go_sem, Int.reduceEq, Int.reduceLT, Int.reduceLE, Int.reduceToNat, Nat.reduceLT, Nat.reduceEqDiff, Nat.reduceAdd, Nat.reduceLeDiff, Nat.reduceSub, Nat.reduceMul, ↓reduceIte, reduceCtorEq, w_app_nl, wrap_id, w_ite_ne, w_ite_lt]); rfl) | (simp (maxSteps := 1000000) (disch := omega) only [go_sem, Int.reduceEq, Int.reduceLT, Int.reduceLE, Int.reduceToNat, Nat.reduceLT, Nat.reduceEqDiff, Nat.reduceAdd, Nat.reduceLeDiff, Nat.reduceSub, Nat.reduceMul, ↓reduceIte, reduceCtorEq, w_app_nl, wrap_id, w_ite_ne, w_ite_lt]; done)), fun i hi => ?_⟩
    simp only at hi
    try simp (maxSteps := 500000) (disch := omega) only [go_sem, Int.reduceEq, Int.reduceLT, Int.reduceLE, Int.reduceToNat, Nat.reduceLT, Nat.reduceEqDiff, Nat.reduceAdd, Nat.reduceLeDiff, Nat.reduceSub, Nat.reduceMul, ↓reduceIte, reduceCtorEq, wrap_id, w_ite_ne, w_ite_lt, Nat.sub_zero, Nat.sub_self]
/-- .. read only -/
theorem okl_slices_Clone__Order (L : List AV) (hl : L.length * 32 ≤ 140737488355328) (hp : ∀ x ∈ L, x.pur = true) (hk : ∀ x ∈ L, okE 4 x) : PC prog n_slices_Clone__Order [.list 4 L] (.list 4 L) :=
  PC_of_HC b_slices_Clone__Order ((hcl_slices_Clone__Order St.empty L hl).mono fun r τ ⟨id, g, h1, _, _, h2, _⟩ => by rw [h1]; exact Pub.of_sl h2 rfl hp hk)
theorem hc_slices_Insert__Order (σ : St) (id g idv gv : Nat) (tyv : TypeId) (L : List AV) (x : AV) (i : Nat) (hob : σ.ob id = some ⟨g, 4, ty_el_Order, false, true, L⟩) (hov : σ.ob idv = some ⟨gv, 4, tyv, false, true, [x]⟩)
    (hne : id ≠ idv) (hid : id < σ.n) (hidv : idv < σ.n) (hi : i ≤ L.length) (hl : L.length ≤ 1000000) :
    HC prog n_slices_Insert__Order [.sl id g 4 0 L.length, .int .i64 i, .sl idv gv 4 0 1] σ (InsO σ id 4 ty_el_Order (L.take i ++ x :: L.drop i)) := by
  obtain ⟨ob0, n0, c0⟩ := σ
  simp only at hob hov hid hidv
  by_cases h0 : i = L.length
  · subst h0
    refine HC_of_body b_slices_Insert__Order (by simp) ?_
    simp only [c_slices_Insert__Order, go_sem, Int.reduceEq, Int.reduceLT, Int.reduceLE, Int.reduceToNat, Nat.reduceLT, Nat.reduceEqDiff, Nat.reduceAdd, Nat.reduceLeDiff, Nat.reduceSub, Nat.reduceMul, ↓reduceIte, reduceCtorEq, w_app_nl]
    try simp (maxSteps := 500000) (disch := omega) only [go_sem, Int.reduceEq, Int.reduceLT, Int.reduceLE, Int.reduceToNat, Nat.reduceLT, Nat.reduceEqDiff, Nat.reduceAdd, Nat.reduceLeDiff, Nat.reduceSub, Nat.reduceMul, ↓reduceIte, reduceCtorEq, wrap_id, w_ite_ne, w_ite_lt, Nat.sub_zero, Nat.sub_self]
    refine ⟨⟨_, hob, rfl⟩, by omega, by omega, ?_, fun h => absurd h (by omega)⟩
    try simp (maxSteps := 500000) (disch := omega) only [go_sem, Int.reduceEq, Int.reduceLT, Int.reduceLE, Int.reduceToNat, Nat.reduceLT, Nat.reduceEqDiff, Nat.reduceAdd, Nat.reduceLeDiff, Nat.reduceSub, Nat.reduceMul, ↓reduceIte, reduceCtorEq, wrap_id, w_ite_ne, w_ite_lt, Nat.sub_zero, Nat.sub_self, hob, hov]
    repeat (refine And.intro (by first | omega | (rw [mxL]; omega) | (simp [maxLen]; done) | (simp [maxLen]; omega)) ?_)
    have e : L.take L.length ++ x :: L.drop L.length = L ++ [x] := by simp
    rw [e]
    exact ⟨id, c0, by simp, .inl rfl, hid, Nat.le_refl _, upd_same _ _ _, fun k _ hk => upd_ne _ _ _ _ hk⟩
  refine HC.clip (R := fun r τ => (∃ c, r = .slk id g 4 0 (L.length + 1) c ∧ τ = ⟨upd ob0 id (some ⟨g, 4, ty_el_Order, false, true, L.take i ++ x :: L.drop i⟩), n0, c0⟩) ∨
    (r = .sl n0 c0 4 0 (L.length + 1) ∧ τ = ⟨upd ob0 n0 (some ⟨c0, 4, ty_el_Order, false, true, L.take i ++ x :: L.drop i⟩), n0 + 1, c0 + 1⟩)) (HC.slk hob rfl (by omega) rfl (fun c hc hcm => ?_) (by omega)) ?_
  · refine HC_of_body b_slices_Insert__Order (by simp) ?_
    simp only [c_slices_Insert__Order, go_sem, Int.reduceEq, Int.reduceLT, Int.reduceLE, Int.reduceToNat, Nat.reduceLT, Nat.reduceEqDiff, Nat.reduceAdd, Nat.reduceLeDiff, Nat.reduceSub, Nat.reduceMul, ↓reduceIte, reduceCtorEq, w_app_nl]
    have hne1 : ¬ ((i : Int) = (L.length : Int)) := by omega
    try simp (maxSteps := 500000) (disch := omega) only [go_sem, Int.reduceEq, Int.reduceLT, Int.reduceLE, Int.reduceToNat, Nat.reduceLT, Nat.reduceEqDiff, Nat.reduceAdd, Nat.reduceLeDiff, Nat.reduceSub, Nat.reduceMul, ↓reduceIte, reduceCtorEq, wrap_id, w_ite_ne, w_ite_lt, Nat.sub_zero, Nat.sub_self, hne1]
    refine ⟨hc, by omega, by omega, fun h => by omega, fun _ => ?_⟩
    refine cond_d (fun hgrow => ?_) (fun hroom => ?_)
    · have hcl : c = L.length := by omega
      subst hcl
      try simp (maxSteps := 500000) (disch := omega) only [go_sem, Int.reduceEq, Int.reduceLT, Int.reduceLE, Int.reduceToNat, Nat.reduceLT, Nat.reduceEqDiff, Nat.reduceAdd, Nat.reduceLeDiff, Nat.reduceSub, Nat.reduceMul, ↓reduceIte, reduceCtorEq, wrap_id, w_ite_ne, w_ite_lt, Nat.sub_zero, Nat.sub_self]
      refine ⟨by omega, by omega, by omega, fun h => by omega, fun _ => ?_⟩
      refine appz_k ?_
      have htn : ((L.length : Int) + 1 - (i : Int)).toNat = L.length + 1 - i := by omega
      try simp (maxSteps := 500000) (disch := omega) only [go_sem, Int.reduceEq, Int.reduceLT, Int.reduceLE, Int.reduceToNat, Nat.reduceLT, Nat.reduceEqDiff, Nat.reduceAdd, Nat.reduceLeDiff, Nat.reduceSub, Nat.reduceMul, ↓reduceIte, reduceCtorEq, wrap_id, w_ite_ne, w_ite_lt, Nat.sub_zero, Nat.sub_self, hob, htn]
      refine ⟨by omega, by omega, by omega, by omega, by omega, by omega, by omega, fun h => by omega, fun _ => ?_⟩
      have hn1 : ¬ n0 = idv := by omega
      have hn2 : ¬ n0 = id := by omega
      try simp (maxSteps := 500000) (disch := omega) only [go_sem, Int.reduceEq, Int.reduceLT, Int.reduceLE, Int.reduceToNat, Nat.reduceLT, Nat.reduceEqDiff, Nat.reduceAdd, Nat.reduceLeDiff, Nat.reduceSub, Nat.reduceMul, ↓reduceIte, reduceCtorEq, wrap_id, w_ite_ne, w_ite_lt, Nat.sub_zero, Nat.sub_self, hov, hob]
      refine cpy_ss ?_
      have hin : ((i : Int) + 1).toNat = i + 1 := by omega
      try simp (maxSteps := 500000) (disch := omega) only [go_sem, Int.reduceEq, Int.reduceLT, Int.reduceLE, Int.reduceToNat, Nat.reduceLT, Nat.reduceEqDiff, Nat.reduceAdd, Nat.reduceLeDiff, Nat.reduceSub, Nat.reduceMul, ↓reduceIte, reduceCtorEq, wrap_id, w_ite_ne, w_ite_lt, Nat.sub_zero, Nat.sub_self, hov, hob, hin]
      refine ⟨by simp; omega, by omega, by omega, by omega, fun h => by omega, fun _ => ⟨by omega, by omega, fun h => by omega, fun _ => ?_⟩⟩
      refine cpy_sk ?_
      try simp (maxSteps := 500000) (disch := omega) only [go_sem, Int.reduceEq, Int.reduceLT, Int.reduceLE, Int.reduceToNat, Nat.reduceLT, Nat.reduceEqDiff, Nat.reduceAdd, Nat.reduceLeDiff, Nat.reduceSub, Nat.reduceMul, ↓reduceIte, reduceCtorEq, wrap_id, w_ite_ne, w_ite_lt, Nat.sub_zero, Nat.sub_self, hov, hob]
      rw [insG1 (by omega) (by omega) (by omega)]
      refine ⟨by omega, by simp; omega, .inr ⟨by rw [show i + (L.length + 1 - i) = L.length + 1 by omega], ?_⟩⟩
      rw [insG2 (by omega) (by omega) (by omega) (by simp; omega)]
      simp only [upd_upd]
    · have hin : ((i : Int) + 1).toNat = i + 1 := by omega
      have hln : ((L.length : Int) + 1).toNat = L.length + 1 := by omega
      try simp (maxSteps := 500000) (disch := omega) only [go_sem, Int.reduceEq, Int.reduceLT, Int.reduceLE, Int.reduceToNat, Nat.reduceLT, Nat.reduceEqDiff, Nat.reduceAdd, Nat.reduceLeDiff, Nat.reduceSub, Nat.reduceMul, ↓reduceIte, reduceCtorEq, wrap_id, w_ite_ne, w_ite_lt, Nat.sub_zero, Nat.sub_self, hin, hln]
      repeat (refine And.intro (by first | omega | (rw [mxL]; omega) | (simp [maxLen]; done) | (simp [maxLen]; omega)) ?_)
      refine fun _ => ⟨by omega, by omega, by omega, fun h => by omega, fun _ => ?_⟩
      refine (HC_ovl (σ := ⟨ob0, n0, c0⟩) x_slices_overlaps__Order xt_slices_overlaps__Order hov rfl rfl hob rfl (fun h => hne h.symm) (by simp only; omega) (by omega)).mono ?_
      rintro _ _ ⟨rfl, rfl⟩
      try simp (maxSteps := 500000) (disch := omega) only [go_sem, Int.reduceEq, Int.reduceLT, Int.reduceLE, Int.reduceToNat, Nat.reduceLT, Nat.reduceEqDiff, Nat.reduceAdd, Nat.reduceLeDiff, Nat.reduceSub, Nat.reduceMul, ↓reduceIte, reduceCtorEq, wrap_id, w_ite_ne, w_ite_lt, Nat.sub_zero, Nat.sub_self, hin]
      refine ⟨by omega, by omega, by omega, fun h => by omega, fun _ => ⟨by omega, by omega, by omega, fun h => by omega, fun _ => ?_⟩⟩
      refine cpy_kk ?_
      try simp (maxSteps := 500000) (disch := omega) only [go_sem, Int.reduceEq, Int.reduceLT, Int.reduceLE, Int.reduceToNat, Nat.reduceLT, Nat.reduceEqDiff, Nat.reduceAdd, Nat.reduceLeDiff, Nat.reduceSub, Nat.reduceMul, ↓reduceIte, reduceCtorEq, wrap_id, w_ite_ne, w_ite_lt, Nat.sub_zero, Nat.sub_self, hob]
      rw [insR1 (by omega) (by omega) (by omega)]
      refine ⟨by omega, by omega, by omega, by omega, by omega, by omega, fun h => by omega, fun _ => ?_⟩
      refine cpy_ks ?_
      try simp (maxSteps := 500000) (disch := omega) only [go_sem, Int.reduceEq, Int.reduceLT, Int.reduceLE, Int.reduceToNat, Nat.reduceLT, Nat.reduceEqDiff, Nat.reduceAdd, Nat.reduceLeDiff, Nat.reduceSub, Nat.reduceMul, ↓reduceIte, reduceCtorEq, wrap_id, w_ite_ne, w_ite_lt, Nat.sub_zero, Nat.sub_self, hov]
      rw [insR2 (by omega) (by omega) (by omega)]
      refine ⟨by omega, by simp; omega, c, rfl, ?_⟩
      rw [upd_upd]
  · rintro r τ (⟨c, rfl, rfl⟩ | ⟨rfl, rfl⟩)
    · refine ⟨.sl id g 4 0 (L.length + 1), upd ob0 id (some ⟨g, 4, ty_el_Order, false, true, L.take i ++ x :: L.drop i⟩), .inr ⟨id, g, 4, 0, _, c, rfl, rfl⟩, fun q o hq => ⟨o, hq, rfl, rfl, rfl, rfl, rfl, o.l.length, by simp⟩, ?_⟩
      have hlen : (L.take i ++ x :: L.drop i).length = L.length + 1 := by simp; omega
      refine ⟨id, g, by rw [hlen], .inl rfl, hid, Nat.le_refl _, upd_same _ _ _, fun k _ hk => upd_ne _ _ _ _ hk⟩
    · refine ⟨.sl n0 c0 4 0 (L.length + 1), upd ob0 n0 (some ⟨c0, 4, ty_el_Order, false, true, L.take i ++ x :: L.drop i⟩), .inl rfl, fun q o hq => ⟨o, hq, rfl, rfl, rfl, rfl, rfl, o.l.length, by simp⟩, ?_⟩
      have hlen : (L.take i ++ x :: L.drop i).length = L.length + 1 := by simp; omega
      exact ⟨n0, c0, by rw [hlen], .inr (Nat.le_refl _), Nat.lt_succ_self _, Nat.le_succ _, upd_same _ _ _, fun k hk _ => upd_ne _ _ _ _ (by simp only at hk; omega)⟩
/-- an order: its number, kind, index, value -/
structure Od where
  n : Int
  k : Int
  i : Int
  v : Int
  deriving DecidableEq
def odv (o : Od) : AV := .agg [.int .i64 o.n, .int .i64 o.k, .int .i64 o.i, .int .i64 o.v]
def ods (l : List Od) : List AV := l.map odv
theorem ods_length (l : List Od) : (ods l).length = l.length := by simp [ods]
theorem ods_get (l : List Od) (i : Nat) : (ods l)[i]? = (l[i]?).map odv := by simp [ods]
theorem ods_pur (l : List Od) : ∀ x ∈ ods l, x.pur = true := by simp [ods, odv, go_sem]
theorem ods_ok (l : List Od) : ∀ x ∈ ods l, okE 4 x := by simp [ods, odv, okE, go_sem]
def inO (x a b : Int) : Bool := decide (a ≤ x) && decide (x ≤ b)
def fitE (k i v : Int) : Int :=
  if k = 1 then (if i = 0 ∧ inO v 0 1073741824 = true then 0 else 1) else
  if k = 2 then (if inO i 0 7 = true ∧ v = 0 then 0 else 1) else
  if k = 3 then (if inO i 0 5 = true ∧ inO v 0 1 = true then 0 else 1) else 5
def odOk (o : Od) : Bool := inO o.n 1 1073741824 && decide (fitE o.k o.i o.v = 0)
/-- orders with numbers one behind the other -/
def runO : Int → List Od → Bool
  | _, [] => true
  | s, o :: r => odOk o && decide (o.n = s) && runO (s + 1) r
/-- orders whose numbers ascend -/
def ascO : Int → List Od → Bool
  | _, [] => true
  | s, o :: r => odOk o && decide (s < o.n) && ascO o.n r
/-- a sender -/
structure Sd where
  n : Int
  l : List Od
  deriving DecidableEq
def sdv (s : Sd) : AV := .agg [.int .i64 s.n, .list 4 (ods s.l)]
def sdOk (s : Sd) : Bool := inO s.n 1 1073741824 && decide (s.l.length ≤ 64) && runO (s.n - s.l.length) s.l
/-- a station -/
structure Sn where
  d : Int
  l : List Od
  deriving DecidableEq
def snv (s : Sn) : AV := .agg [.int .i64 s.d, .list 4 (ods s.l)]
def snOk (s : Sn) : Bool := inO s.d 0 1073741824 && decide (s.l.length ≤ 64) && ascO (s.d + 1) s.l
theorem runO_step : ∀ (l : List Od) (s : Int) (k : Nat) (hk : k < l.length), runO s (l.take (k + 1)) = (runO s (l.take k) && (odOk l[k] && decide (l[k].n = s + k)))
  | [], _, k, hk => by simp at hk
  | o :: r, s, 0, _ => by simp [runO]
  | o :: r, s, k + 1, hk => by
    have hk' : k < r.length := by simpa using hk
    simp only [List.take_succ_cons, runO, List.getElem_cons_succ]
    rw [runO_step r (s + 1) k hk', Bool.and_assoc]
    have : s + 1 + (k : Int) = s + ((k + 1 : Nat) : Int) := by omega
    rw [this, Bool.and_assoc, Bool.and_assoc]
theorem runO_take : ∀ (l : List Od) (s : Int) (k : Nat), runO s l = true → runO s (l.take k) = true
  | [], _, k, _ => by simp [runO]
  | o :: r, s, 0, _ => by simp [runO]
  | o :: r, s, k + 1, h => by
    simp only [runO, Bool.and_eq_true, List.take_succ_cons] at h ⊢
    exact ⟨h.1, runO_take r (s + 1) k h.2⟩
def odPrev (s : Int) (l : List Od) (k : Nat) : Int := if k = 0 then s else ((l[k - 1]?).map Od.n).getD s
theorem ascO_step : ∀ (l : List Od) (s : Int) (k : Nat) (hk : k < l.length), ascO s (l.take (k + 1)) = (ascO s (l.take k) && (odOk l[k] && decide (odPrev s l k < l[k].n)))
  | [], _, k, hk => by simp at hk
  | o :: r, s, 0, _ => by simp [ascO, odPrev]
  | o :: r, s, k + 1, hk => by
    have hk' : k < r.length := by simpa using hk
    simp only [List.take_succ_cons, ascO, List.getElem_cons_succ]
    rw [ascO_step r o.n k hk', Bool.and_assoc, Bool.and_assoc, Bool.and_assoc]
    congr 4
    cases k with
    | zero => simp [odPrev]
    | succ k =>
      have : r[k]? = some r[k] := List.getElem?_eq_getElem (by omega)
      simp [odPrev, this]
theorem ascO_take : ∀ (l : List Od) (s : Int) (k : Nat), ascO s l = true → ascO s (l.take k) = true
  | [], _, k, _ => by simp [ascO]
  | o :: r, s, 0, _ => by simp [ascO]
  | o :: r, s, k + 1, h => by
    simp only [ascO, Bool.and_eq_true, List.take_succ_cons] at h ⊢
    exact ⟨h.1, ascO_take r o.n k h.2⟩
theorem ascO_lt : ∀ {l : List Od} {s : Int}, ascO s l = true → ∀ o ∈ l, s < o.n ∧ odOk o = true
  | [], _, _, o, ho => by simp at ho
  | a :: r, s, h, o, ho => by
    simp only [ascO, Bool.and_eq_true, decide_eq_true_eq] at h
    rcases List.mem_cons.1 ho with rfl | ho
    · exact ⟨h.1.2, h.1.1⟩
    · have := ascO_lt h.2 o ho
      exact ⟨by omega, this.2⟩
theorem ok_orders_within (x a b : Int) : PC prog n_orders_within [.int .i64 x, .int .i64 a, .int .i64 b] (.bool (inO x a b)) := by
  refine PC_of_body b_orders_within (by simp) ?_
  simp only [c_orders_within, go_sem, Int.reduceEq, Int.reduceLT, Int.reduceLE, Int.reduceToNat, Nat.reduceLT, Nat.reduceEqDiff, Nat.reduceAdd, Nat.reduceLeDiff, Nat.reduceSub, Nat.reduceMul, ↓reduceIte, reduceCtorEq, w_app_nl]
  refine gd_td rfl (fun h => ?_) (fun h => ?_) <;> try simp (maxSteps := 500000) (disch := omega) only [go_sem, Int.reduceEq, Int.reduceLT, Int.reduceLE, Int.reduceToNat, Nat.reduceLT, Nat.reduceEqDiff, Nat.reduceAdd, Nat.reduceLeDiff, Nat.reduceSub, Nat.reduceMul, ↓reduceIte, reduceCtorEq, wrap_id, w_ite_ne, w_ite_lt, Nat.sub_zero, Nat.sub_self]
  · exact Pub.of_eq (by simp [inO, h]) rfl
  · exact Pub.of_eq (by simp [inO, h]) rfl
theorem ok_ref27_in (x a b : Int) : PC prog n_ref27_in [.int .i64 x, .int .i64 a, .int .i64 b] (.bool (inO x a b)) := by
  refine PC_of_body b_ref27_in (by simp) ?_
  simp only [c_ref27_in, go_sem, Int.reduceEq, Int.reduceLT, Int.reduceLE, Int.reduceToNat, Nat.reduceLT, Nat.reduceEqDiff, Nat.reduceAdd, Nat.reduceLeDiff, Nat.reduceSub, Nat.reduceMul, ↓reduceIte, reduceCtorEq, w_app_nl]
  refine gd_td rfl (fun h => ?_) (fun h => ?_) <;> try simp (maxSteps := 500000) (disch := omega) only [go_sem, Int.reduceEq, Int.reduceLT, Int.reduceLE, Int.reduceToNat, Nat.reduceLT, Nat.reduceEqDiff, Nat.reduceAdd, Nat.reduceLeDiff, Nat.reduceSub, Nat.reduceMul, ↓reduceIte, reduceCtorEq, wrap_id, w_ite_ne, w_ite_lt, Nat.sub_zero, Nat.sub_self]
  · exact Pub.of_eq (by simp [inO, h]) rfl
  · exact Pub.of_eq (by simp [inO, h]) rfl
theorem ok_orders_check (k i v : Int) : PC prog n_orders_check [.int .i64 k, .int .i64 i, .int .i64 v] (.int .i64 (fitE k i v)) := by
  refine PC_of_body b_orders_check (by simp) ?_
  simp only [c_orders_check, go_sem, Int.reduceEq, Int.reduceLT, Int.reduceLE, Int.reduceToNat, Nat.reduceLT, Nat.reduceEqDiff, Nat.reduceAdd, Nat.reduceLeDiff, Nat.reduceSub, Nat.reduceMul, ↓reduceIte, reduceCtorEq, w_app_nl]
  refine cond_d (fun h1 => ?_) (fun h1 => ?_) <;> try simp (maxSteps := 500000) (disch := omega) only [go_sem, Int.reduceEq, Int.reduceLT, Int.reduceLE, Int.reduceToNat, Nat.reduceLT, Nat.reduceEqDiff, Nat.reduceAdd, Nat.reduceLeDiff, Nat.reduceSub, Nat.reduceMul, ↓reduceIte, reduceCtorEq, wrap_id, w_ite_ne, w_ite_lt, Nat.sub_zero, Nat.sub_self]
  · refine gd_td rfl (fun h2 => ?_) (fun h2 => ?_) <;> try simp (maxSteps := 500000) (disch := omega) only [go_sem, Int.reduceEq, Int.reduceLT, Int.reduceLE, Int.reduceToNat, Nat.reduceLT, Nat.reduceEqDiff, Nat.reduceAdd, Nat.reduceLeDiff, Nat.reduceSub, Nat.reduceMul, ↓reduceIte, reduceCtorEq, wrap_id, w_ite_ne, w_ite_lt, Nat.sub_zero, Nat.sub_self]
    · refine call_pc (ok_orders_within _ _ _) (by simp [go_sem]) ?_
      cases h3 : inO v 0 1073741824 <;> try simp (maxSteps := 500000) (disch := omega) only [go_sem, Int.reduceEq, Int.reduceLT, Int.reduceLE, Int.reduceToNat, Nat.reduceLT, Nat.reduceEqDiff, Nat.reduceAdd, Nat.reduceLeDiff, Nat.reduceSub, Nat.reduceMul, ↓reduceIte, reduceCtorEq, wrap_id, w_ite_ne, w_ite_lt, Nat.sub_zero, Nat.sub_self]
      · exact Pub.of_eq (by simp [fitE, h1, h2, h3]) rfl
      · exact Pub.of_eq (by simp [fitE, h1, h2, h3]) rfl
    · exact Pub.of_eq (by simp [fitE, h1, h2]) rfl
  refine cond_d (fun h2 => ?_) (fun h2 => ?_) <;> try simp (maxSteps := 500000) (disch := omega) only [go_sem, Int.reduceEq, Int.reduceLT, Int.reduceLE, Int.reduceToNat, Nat.reduceLT, Nat.reduceEqDiff, Nat.reduceAdd, Nat.reduceLeDiff, Nat.reduceSub, Nat.reduceMul, ↓reduceIte, reduceCtorEq, wrap_id, w_ite_ne, w_ite_lt, Nat.sub_zero, Nat.sub_self]
  · refine call_pc (ok_orders_within _ _ _) (by simp [go_sem]) ?_
    cases h3 : inO i 0 7 <;> try simp (maxSteps := 500000) (disch := omega) only [go_sem, Int.reduceEq, Int.reduceLT, Int.reduceLE, Int.reduceToNat, Nat.reduceLT, Nat.reduceEqDiff, Nat.reduceAdd, Nat.reduceLeDiff, Nat.reduceSub, Nat.reduceMul, ↓reduceIte, reduceCtorEq, wrap_id, w_ite_ne, w_ite_lt, Nat.sub_zero, Nat.sub_self]
    · exact Pub.of_eq (by simp [fitE, h1, h2, h3]) rfl
    · refine cond_n (fun h4 => ?_) (fun h4 => ?_) <;> try simp (maxSteps := 500000) (disch := omega) only [go_sem, Int.reduceEq, Int.reduceLT, Int.reduceLE, Int.reduceToNat, Nat.reduceLT, Nat.reduceEqDiff, Nat.reduceAdd, Nat.reduceLeDiff, Nat.reduceSub, Nat.reduceMul, ↓reduceIte, reduceCtorEq, wrap_id, w_ite_ne, w_ite_lt, Nat.sub_zero, Nat.sub_self]
      · exact Pub.of_eq (by simp [fitE, h1, h2, h3, h4]) rfl
      · exact Pub.of_eq (by simp [fitE, h1, h2, h3, h4]) rfl
  refine cond_d (fun h3 => ?_) (fun h3 => ?_) <;> try simp (maxSteps := 500000) (disch := omega) only [go_sem, Int.reduceEq, Int.reduceLT, Int.reduceLE, Int.reduceToNat, Nat.reduceLT, Nat.reduceEqDiff, Nat.reduceAdd, Nat.reduceLeDiff, Nat.reduceSub, Nat.reduceMul, ↓reduceIte, reduceCtorEq, wrap_id, w_ite_ne, w_ite_lt, Nat.sub_zero, Nat.sub_self]
  · refine call_pc (ok_orders_within _ _ _) (by simp [go_sem]) ?_
    cases h4 : inO i 0 5 <;> try simp (maxSteps := 500000) (disch := omega) only [go_sem, Int.reduceEq, Int.reduceLT, Int.reduceLE, Int.reduceToNat, Nat.reduceLT, Nat.reduceEqDiff, Nat.reduceAdd, Nat.reduceLeDiff, Nat.reduceSub, Nat.reduceMul, ↓reduceIte, reduceCtorEq, wrap_id, w_ite_ne, w_ite_lt, Nat.sub_zero, Nat.sub_self]
    · exact Pub.of_eq (by simp [fitE, h1, h2, h3, h4]) rfl
    · refine call_pc (ok_orders_within _ _ _) (by simp [go_sem]) ?_
      cases h5 : inO v 0 1 <;> try simp (maxSteps := 500000) (disch := omega) only [go_sem, Int.reduceEq, Int.reduceLT, Int.reduceLE, Int.reduceToNat, Nat.reduceLT, Nat.reduceEqDiff, Nat.reduceAdd, Nat.reduceLeDiff, Nat.reduceSub, Nat.reduceMul, ↓reduceIte, reduceCtorEq, wrap_id, w_ite_ne, w_ite_lt, Nat.sub_zero, Nat.sub_self]
      · exact Pub.of_eq (by simp [fitE, h1, h2, h3, h4, h5]) rfl
      · exact Pub.of_eq (by simp [fitE, h1, h2, h3, h4, h5]) rfl
  · exact Pub.of_eq (by simp [fitE, h1, h2, h3]) rfl
theorem ok_ref27_Fits (k i v : Int) : PC prog n_ref27_Fits [.int .i64 k, .int .i64 i, .int .i64 v] (.int .i64 (fitE k i v)) := by
  refine PC_of_body b_ref27_Fits (by simp) ?_
  simp only [c_ref27_Fits, go_sem, Int.reduceEq, Int.reduceLT, Int.reduceLE, Int.reduceToNat, Nat.reduceLT, Nat.reduceEqDiff, Nat.reduceAdd, Nat.reduceLeDiff, Nat.reduceSub, Nat.reduceMul, ↓reduceIte, reduceCtorEq, w_app_nl]
  refine cond_d (fun h1 => ?_) (fun h1 => ?_) <;> try simp (maxSteps := 500000) (disch := omega) only [go_sem, Int.reduceEq, Int.reduceLT, Int.reduceLE, Int.reduceToNat, Nat.reduceLT, Nat.reduceEqDiff, Nat.reduceAdd, Nat.reduceLeDiff, Nat.reduceSub, Nat.reduceMul, ↓reduceIte, reduceCtorEq, wrap_id, w_ite_ne, w_ite_lt, Nat.sub_zero, Nat.sub_self]
  · refine gd_fn rfl (fun h2 => ?_) (fun h2 => ?_) <;> try simp (maxSteps := 500000) (disch := omega) only [go_sem, Int.reduceEq, Int.reduceLT, Int.reduceLE, Int.reduceToNat, Nat.reduceLT, Nat.reduceEqDiff, Nat.reduceAdd, Nat.reduceLeDiff, Nat.reduceSub, Nat.reduceMul, ↓reduceIte, reduceCtorEq, wrap_id, w_ite_ne, w_ite_lt, Nat.sub_zero, Nat.sub_self]
    · exact Pub.of_eq (by simp [fitE, h1, h2]) rfl
    · refine call_pc (ok_ref27_in _ _ _) (by simp [go_sem]) ?_
      cases h3 : inO v 0 1073741824 <;> try simp (maxSteps := 500000) (disch := omega) only [go_sem, Int.reduceEq, Int.reduceLT, Int.reduceLE, Int.reduceToNat, Nat.reduceLT, Nat.reduceEqDiff, Nat.reduceAdd, Nat.reduceLeDiff, Nat.reduceSub, Nat.reduceMul, ↓reduceIte, reduceCtorEq, wrap_id, w_ite_ne, w_ite_lt, Nat.sub_zero, Nat.sub_self]
      · exact Pub.of_eq (by simp [fitE, h1, h2, h3]) rfl
      · exact Pub.of_eq (by simp [fitE, h1, h2, h3]) rfl
  refine cond_d (fun h2 => ?_) (fun h2 => ?_) <;> try simp (maxSteps := 500000) (disch := omega) only [go_sem, Int.reduceEq, Int.reduceLT, Int.reduceLE, Int.reduceToNat, Nat.reduceLT, Nat.reduceEqDiff, Nat.reduceAdd, Nat.reduceLeDiff, Nat.reduceSub, Nat.reduceMul, ↓reduceIte, reduceCtorEq, wrap_id, w_ite_ne, w_ite_lt, Nat.sub_zero, Nat.sub_self]
  · refine call_pc (ok_ref27_in _ _ _) (by simp [go_sem]) ?_
    cases h3 : inO i 0 7 <;> try simp (maxSteps := 500000) (disch := omega) only [go_sem, Int.reduceEq, Int.reduceLT, Int.reduceLE, Int.reduceToNat, Nat.reduceLT, Nat.reduceEqDiff, Nat.reduceAdd, Nat.reduceLeDiff, Nat.reduceSub, Nat.reduceMul, ↓reduceIte, reduceCtorEq, wrap_id, w_ite_ne, w_ite_lt, Nat.sub_zero, Nat.sub_self]
    · exact Pub.of_eq (by simp [fitE, h1, h2, h3]) rfl
    · refine cond_n (fun h4 => ?_) (fun h4 => ?_) <;> try simp (maxSteps := 500000) (disch := omega) only [go_sem, Int.reduceEq, Int.reduceLT, Int.reduceLE, Int.reduceToNat, Nat.reduceLT, Nat.reduceEqDiff, Nat.reduceAdd, Nat.reduceLeDiff, Nat.reduceSub, Nat.reduceMul, ↓reduceIte, reduceCtorEq, wrap_id, w_ite_ne, w_ite_lt, Nat.sub_zero, Nat.sub_self]
      · exact Pub.of_eq (by simp [fitE, h1, h2, h3, h4]) rfl
      · exact Pub.of_eq (by simp [fitE, h1, h2, h3, h4]) rfl
  refine cond_d (fun h3 => ?_) (fun h3 => ?_) <;> try simp (maxSteps := 500000) (disch := omega) only [go_sem, Int.reduceEq, Int.reduceLT, Int.reduceLE, Int.reduceToNat, Nat.reduceLT, Nat.reduceEqDiff, Nat.reduceAdd, Nat.reduceLeDiff, Nat.reduceSub, Nat.reduceMul, ↓reduceIte, reduceCtorEq, wrap_id, w_ite_ne, w_ite_lt, Nat.sub_zero, Nat.sub_self]
  · refine call_pc (ok_ref27_in _ _ _) (by simp [go_sem]) ?_
    cases h4 : inO i 0 5 <;> try simp (maxSteps := 500000) (disch := omega) only [go_sem, Int.reduceEq, Int.reduceLT, Int.reduceLE, Int.reduceToNat, Nat.reduceLT, Nat.reduceEqDiff, Nat.reduceAdd, Nat.reduceLeDiff, Nat.reduceSub, Nat.reduceMul, ↓reduceIte, reduceCtorEq, wrap_id, w_ite_ne, w_ite_lt, Nat.sub_zero, Nat.sub_self]
    · exact Pub.of_eq (by simp [fitE, h1, h2, h3, h4]) rfl
    · refine call_pc (ok_ref27_in _ _ _) (by simp [go_sem]) ?_
      cases h5 : inO v 0 1 <;> try simp (maxSteps := 500000) (disch := omega) only [go_sem, Int.reduceEq, Int.reduceLT, Int.reduceLE, Int.reduceToNat, Nat.reduceLT, Nat.reduceEqDiff, Nat.reduceAdd, Nat.reduceLeDiff, Nat.reduceSub, Nat.reduceMul, ↓reduceIte, reduceCtorEq, wrap_id, w_ite_ne, w_ite_lt, Nat.sub_zero, Nat.sub_self]
      · exact Pub.of_eq (by simp [fitE, h1, h2, h3, h4, h5]) rfl
      · exact Pub.of_eq (by simp [fitE, h1, h2, h3, h4, h5]) rfl
  · exact Pub.of_eq (by simp [fitE, h1, h2, h3]) rfl
theorem ok_orders_proper (o : Od) : PC prog n_orders_proper [odv o] (.bool (odOk o)) := by
  refine PC_of_body b_orders_proper (by simp) ?_
  simp only [c_orders_proper, go_sem, Int.reduceEq, Int.reduceLT, Int.reduceLE, Int.reduceToNat, Nat.reduceLT, Nat.reduceEqDiff, Nat.reduceAdd, Nat.reduceLeDiff, Nat.reduceSub, Nat.reduceMul, ↓reduceIte, reduceCtorEq, w_app_nl, odv]
  try simp (maxSteps := 500000) (disch := omega) only [go_sem, Int.reduceEq, Int.reduceLT, Int.reduceLE, Int.reduceToNat, Nat.reduceLT, Nat.reduceEqDiff, Nat.reduceAdd, Nat.reduceLeDiff, Nat.reduceSub, Nat.reduceMul, ↓reduceIte, reduceCtorEq, wrap_id, w_ite_ne, w_ite_lt, Nat.sub_zero, Nat.sub_self]
  refine call_pc (ok_orders_within _ _ _) (by simp [go_sem]) ?_
  cases h1 : inO o.n 1 1073741824 <;> try simp (maxSteps := 500000) (disch := omega) only [go_sem, Int.reduceEq, Int.reduceLT, Int.reduceLE, Int.reduceToNat, Nat.reduceLT, Nat.reduceEqDiff, Nat.reduceAdd, Nat.reduceLeDiff, Nat.reduceSub, Nat.reduceMul, ↓reduceIte, reduceCtorEq, wrap_id, w_ite_ne, w_ite_lt, Nat.sub_zero, Nat.sub_self]
  · exact Pub.of_eq (by simp [odOk, h1]) rfl
  · refine call_pc (ok_orders_check _ _ _) (by simp [go_sem]) ?_
    try simp (maxSteps := 500000) (disch := omega) only [go_sem, Int.reduceEq, Int.reduceLT, Int.reduceLE, Int.reduceToNat, Nat.reduceLT, Nat.reduceEqDiff, Nat.reduceAdd, Nat.reduceLeDiff, Nat.reduceSub, Nat.reduceMul, ↓reduceIte, reduceCtorEq, wrap_id, w_ite_ne, w_ite_lt, Nat.sub_zero, Nat.sub_self]
    exact Pub.of_eq (by simp [odOk, h1]) rfl
theorem ok_ref27_order (o : Od) : PC prog n_ref27_order [odv o] (.bool (odOk o)) := by
  refine PC_of_body b_ref27_order (by simp) ?_
  simp only [c_ref27_order, go_sem, Int.reduceEq, Int.reduceLT, Int.reduceLE, Int.reduceToNat, Nat.reduceLT, Nat.reduceEqDiff, Nat.reduceAdd, Nat.reduceLeDiff, Nat.reduceSub, Nat.reduceMul, ↓reduceIte, reduceCtorEq, w_app_nl, odv]
  try simp (maxSteps := 500000) (disch := omega) only [go_sem, Int.reduceEq, Int.reduceLT, Int.reduceLE, Int.reduceToNat, Nat.reduceLT, Nat.reduceEqDiff, Nat.reduceAdd, Nat.reduceLeDiff, Nat.reduceSub, Nat.reduceMul, ↓reduceIte, reduceCtorEq, wrap_id, w_ite_ne, w_ite_lt, Nat.sub_zero, Nat.sub_self]
  refine call_pc (ok_ref27_in _ _ _) (by simp [go_sem]) ?_
  cases h1 : inO o.n 1 1073741824 <;> try simp (maxSteps := 500000) (disch := omega) only [go_sem, Int.reduceEq, Int.reduceLT, Int.reduceLE, Int.reduceToNat, Nat.reduceLT, Nat.reduceEqDiff, Nat.reduceAdd, Nat.reduceLeDiff, Nat.reduceSub, Nat.reduceMul, ↓reduceIte, reduceCtorEq, wrap_id, w_ite_ne, w_ite_lt, Nat.sub_zero, Nat.sub_self]
  · exact Pub.of_eq (by simp [odOk, h1]) rfl
  · refine call_pc (ok_ref27_Fits _ _ _) (by simp [go_sem]) ?_
    try simp (maxSteps := 500000) (disch := omega) only [go_sem, Int.reduceEq, Int.reduceLT, Int.reduceLE, Int.reduceToNat, Nat.reduceLT, Nat.reduceEqDiff, Nat.reduceAdd, Nat.reduceLeDiff, Nat.reduceSub, Nat.reduceMul, ↓reduceIte, reduceCtorEq, wrap_id, w_ite_ne, w_ite_lt, Nat.sub_zero, Nat.sub_self]
    exact Pub.of_eq (by simp [odOk, h1]) rfl
theorem ok_orders_Valid (s : Sd) (hl : s.l.length ≤ 9223372036854775807) : PC prog n_orders_Valid [sdv s] (.bool (sdOk s)) := by
  refine PC_of_body b_orders_Valid (by simp) ?_
  simp only [c_orders_Valid, go_sem, Int.reduceEq, Int.reduceLT, Int.reduceLE, Int.reduceToNat, Nat.reduceLT, Nat.reduceEqDiff, Nat.reduceAdd, Nat.reduceLeDiff, Nat.reduceSub, Nat.reduceMul, ↓reduceIte, reduceCtorEq, w_app_nl, sdv]
  have no : ∀ {σ : St}, sdOk s = false → Pub σ (.bool false) (.bool (sdOk s)) := fun h => Pub.of_eq (by rw [h]) rfl
  refine call_pc (ok_orders_within _ _ _) (by simp [go_sem]) ?_
  try simp (maxSteps := 500000) (disch := omega) only [go_sem, Int.reduceEq, Int.reduceLT, Int.reduceLE, Int.reduceToNat, Nat.reduceLT, Nat.reduceEqDiff, Nat.reduceAdd, Nat.reduceLeDiff, Nat.reduceSub, Nat.reduceMul, ↓reduceIte, reduceCtorEq, wrap_id, w_ite_ne, w_ite_lt, Nat.sub_zero, Nat.sub_self]
  cases h1 : inO s.n 1 1073741824 <;> try simp (maxSteps := 500000) (disch := omega) only [go_sem, Int.reduceEq, Int.reduceLT, Int.reduceLE, Int.reduceToNat, Nat.reduceLT, Nat.reduceEqDiff, Nat.reduceAdd, Nat.reduceLeDiff, Nat.reduceSub, Nat.reduceMul, ↓reduceIte, reduceCtorEq, wrap_id, w_ite_ne, w_ite_lt, Nat.sub_zero, Nat.sub_self, ods_length]
  · exact no (by simp [sdOk, h1])
  refine cond_d (fun h2 => ?_) (fun h2 => ?_) <;> try simp (maxSteps := 500000) (disch := omega) only [go_sem, Int.reduceEq, Int.reduceLT, Int.reduceLE, Int.reduceToNat, Nat.reduceLT, Nat.reduceEqDiff, Nat.reduceAdd, Nat.reduceLeDiff, Nat.reduceSub, Nat.reduceMul, ↓reduceIte, reduceCtorEq, wrap_id, w_ite_ne, w_ite_lt, Nat.sub_zero, Nat.sub_self, ods_length]
  · exact no (by simp [sdOk]; intros; omega)
  have hn : 1 ≤ s.n ∧ s.n ≤ 1073741824 := by simpa [inO] using h1
  refine awp_upF [2, 3, 4, 18, 19, 20, 21, 22, 23, 24, 25, 26, 27, 28, 29, 30, 31, 32, 33, 34, 35, 36, 37, 38, 39] (by kernel_rfl) s.l.length (fun k e σ => e 18 = .int .i64 k ∧ σ.ob 0 = some ⟨0, 2, 29, false, true, [sdv s]⟩ ∧ runO (s.n - s.l.length) (s.l.take k) = true) ?_ ?_
  · exact ⟨(by first | ((try simp (maxSteps := 1000000) only [go_sem, Int.reduceEq, Int.reduceLT, Int.reduceLE, Int.reduceToNat, Nat.reduceLT, Nat.reduceEqDiff, Nat.reduceAdd, Nat.reduceLeDiff, Nat.reduceSub, Nat.reduceMul, ↓reduceIte, reduceCtorEq, w_app_nl]); done) | ((try simp (maxSteps := 1000000) only [go_sem, Int.reduceEq, Int.reduceLT, Int.reduceLE, Int.reduceToNat, Nat.reduceLT, Nat.reduceEqDiff, Nat.reduceAdd, Nat.reduceLeDiff, Nat.reduceSub, Nat.reduceMul, ↓reduceIte, reduceCtorEq, w_app_nl]); rfl) | ((try simp (maxSteps := 1000000) (disch := omega) only [go_sem, Int.reduceEq, Int.reduceLT, Int.reduceLE, Int.reduceToNat, Nat.reduceLT, Nat.reduceEqDiff, Nat.reduceAdd, Nat.reduceLeDiff, Nat.reduceSub, Nat.reduceMul, ↓reduceIte, reduceCtorEq, w_app_nl, wrap_id, w_ite_ne, w_ite_lt]); rfl) | (simp (maxSteps := 1000000) (disch := omega) only [go_sem, Int.reduceEq, Int.reduceLT, Int.reduceLE, Int.reduceToNat, Nat.reduceLT, Nat.reduceEqDiff, Nat.reduceAdd, Nat.reduceLeDiff, Nat.reduceSub, Nat.reduceMul, ↓reduceIte, reduceCtorEq, w_app_nl, wrap_id, w_ite_ne, w_ite_lt]; done)), (by first | ((try simp (maxSteps := 1000000) only [go_sem, Int.reduceEq, Int.reduceLT, Int.reduceLE, Int.reduceToNat, Nat.reduceLT, Nat.reduceEqDiff, Nat.reduceAdd, Nat.reduceLeDiff, Nat.reduceSub, Nat.reduceMul, ↓reduceIte, reduceCtorEq, w_app_nl]); done) | ((try simp (maxSteps := 1000000) only [go_sem, Int.reduceEq, Int.reduceLT, Int.reduceLE, Int.reduceToNat, Nat.reduceLT, Nat.reduceEqDiff, Nat.reduceAdd, Nat.reduceLeDiff, Nat.reduceSub, Nat.reduceMul, ↓reduceIte, reduceCtorEq, w_app_nl]); rfl) | ((try simp (maxSteps := 1000000) (disch := omega) only [go_sem, Int.reduceEq, Int.reduceLT, Int.reduceLE, Int.reduceToNat, Nat.reduceLT, Nat.reduceEqDiff, Nat.reduceAdd, Nat.reduceLeDiff, Nat.reduceSub, Nat.reduceMul, ↓reduceIte, reduceCtorEq, w_app_nl, wrap_id, w_ite_ne, w_ite_lt]); rfl) | (simp (maxSteps := 1000000) (disch := omega) only [go_sem, Int.reduceEq, Int.reduceLT, Int.reduceLE, Int.reduceToNat, Nat.reduceLT, Nat.reduceEqDiff, Nat.reduceAdd, Nat.reduceLeDiff, Nat.reduceSub, Nat.reduceMul, ↓reduceIte, reduceCtorEq, w_app_nl, wrap_id, w_ite_ne, w_ite_lt]; done)), by simp [runO]⟩
  · rintro k fe ob c hk ⟨h18, hob, hj⟩
    simp (maxSteps := 1000000) only [go_sem, Int.reduceEq, Int.reduceLT, Int.reduceLE, Int.reduceToNat, Nat.reduceLT, Nat.reduceEqDiff, Nat.reduceAdd, Nat.reduceLeDiff, Nat.reduceSub, Nat.reduceMul, ↓reduceIte, reduceCtorEq, w_app_nl, sdv] at h18 hob
    try simp (maxSteps := 500000) (disch := omega) only [go_sem, Int.reduceEq, Int.reduceLT, Int.reduceLE, Int.reduceToNat, Nat.reduceLT, Nat.reduceEqDiff, Nat.reduceAdd, Nat.reduceLeDiff, Nat.reduceSub, Nat.reduceMul, ↓reduceIte, reduceCtorEq, wrap_id, w_ite_ne, w_ite_lt, Nat.sub_zero, Nat.sub_self, h18, ods_length]
    refine cond_d (fun hlt => ?_) (fun hge => ?_)
    · have hkl : k < s.l.length := by omega
      have hk2 : s.l[k]? = some s.l[k] := List.getElem?_eq_getElem hkl
      have hst := runO_step s.l (s.n - s.l.length) k hkl
      rw [hj, Bool.true_and] at hst
      have hbad : runO (s.n - s.l.length) (s.l.take (k + 1)) = false → sdOk s = false := fun h => by
        have : runO (s.n - s.l.length) s.l = false := by
          cases h2 : runO (s.n - s.l.length) s.l with
          | false => rfl
          | true => rw [runO_take _ _ (k + 1) h2] at h; cases h
        simp [sdOk, this]
      generalize s.l[k] = o at *
      try simp (maxSteps := 500000) (disch := omega) only [go_sem, Int.reduceEq, Int.reduceLT, Int.reduceLE, Int.reduceToNat, Nat.reduceLT, Nat.reduceEqDiff, Nat.reduceAdd, Nat.reduceLeDiff, Nat.reduceSub, Nat.reduceMul, ↓reduceIte, reduceCtorEq, wrap_id, w_ite_ne, w_ite_lt, Nat.sub_zero, Nat.sub_self, h18, hob, ods_length, ods_get, hk2, Option.map_some, odv]
      refine ⟨by omega, by omega, ?_⟩
      refine call_pc (ok_orders_proper o) (by simp [go_sem, odv]) ?_
      cases hp : odOk o <;> try simp (maxSteps := 500000) (disch := omega) only [go_sem, Int.reduceEq, Int.reduceLT, Int.reduceLE, Int.reduceToNat, Nat.reduceLT, Nat.reduceEqDiff, Nat.reduceAdd, Nat.reduceLeDiff, Nat.reduceSub, Nat.reduceMul, ↓reduceIte, reduceCtorEq, wrap_id, w_ite_ne, w_ite_lt, Nat.sub_zero, Nat.sub_self, h18, hob, ods_length]
      · exact no (hbad (by rw [hst, hp]; rfl))
      refine cond_n (fun g => ?_) (fun g => ?_) <;> try simp (maxSteps := 500000) (disch := omega) only [go_sem, Int.reduceEq, Int.reduceLT, Int.reduceLE, Int.reduceToNat, Nat.reduceLT, Nat.reduceEqDiff, Nat.reduceAdd, Nat.reduceLeDiff, Nat.reduceSub, Nat.reduceMul, ↓reduceIte, reduceCtorEq, wrap_id, w_ite_ne, w_ite_lt, Nat.sub_zero, Nat.sub_self, h18, hob]
      · exact no (hbad (by rw [hst, hp]; simp; omega))
      · exact up_next hkl ⟨(by first | ((try simp (maxSteps := 1000000) only [go_sem, Int.reduceEq, Int.reduceLT, Int.reduceLE, Int.reduceToNat, Nat.reduceLT, Nat.reduceEqDiff, Nat.reduceAdd, Nat.reduceLeDiff, Nat.reduceSub, Nat.reduceMul, ↓reduceIte, reduceCtorEq, w_app_nl]); done) | ((try simp (maxSteps := 1000000) only [go_sem, Int.reduceEq, Int.reduceLT, Int.reduceLE, Int.reduceToNat, Nat.reduceLT, Nat.reduceEqDiff, Nat.reduceAdd, Nat.reduceLeDiff, Nat.reduceSub, Nat.reduceMul, ↓reduceIte, reduceCtorEq, w_app_nl]); rfl) | ((try simp (maxSteps := 1000000) (disch := omega) only [go_sem, Int.reduceEq, Int.reduceLT, Int.reduceLE, Int.reduceToNat, Nat.reduceLT, Nat.reduceEqDiff, Nat.reduceAdd, Nat.reduceLeDiff, Nat.reduceSub, Nat.reduceMul, ↓reduceIte, reduceCtorEq, w_app_nl, wrap_id, w_ite_ne, w_ite_lt]); rfl) | (simp (maxSteps := 1000000) (disch := omega) only [go_sem, Int.reduceEq, Int.reduceLT, Int.reduceLE, Int.reduceToNat, Nat.reduceLT, Nat.reduceEqDiff, Nat.reduceAdd, Nat.reduceLeDiff, Nat.reduceSub, Nat.reduceMul, ↓reduceIte, reduceCtorEq, w_app_nl, wrap_id, w_ite_ne, w_ite_lt]; done)), by try simp (maxSteps := 500000) (disch := omega) only [go_sem, Int.reduceEq, Int.reduceLT, Int.reduceLE, Int.reduceToNat, Nat.reduceLT, Nat.reduceEqDiff, Nat.reduceAdd, Nat.reduceLeDiff, Nat.reduceSub, Nat.reduceMul, ↓reduceIte, reduceCtorEq, wrap_id, w_ite_ne, w_ite_lt, Nat.sub_zero, Nat.sub_self]; exact hob, by rw [hst, hp]; simp; omega⟩
    · try simp (maxSteps := 500000) (disch := omega) only [go_sem, Int.reduceEq, Int.reduceLT, Int.reduceLE, Int.reduceToNat, Nat.reduceLT, Nat.reduceEqDiff, Nat.reduceAdd, Nat.reduceLeDiff, Nat.reduceSub, Nat.reduceMul, ↓reduceIte, reduceCtorEq, wrap_id, w_ite_ne, w_ite_lt, Nat.sub_zero, Nat.sub_self]
      have : k = s.l.length := by omega
      subst this
      rw [List.take_length] at hj
      exact Pub.of_eq (by simp [sdOk, h1, hj]; omega) rfl
theorem ok_ref27_Valid (s : Sd) (hl : s.l.length ≤ 9223372036854775807) : PC prog n_ref27_Valid [sdv s] (.bool (sdOk s)) := by
  refine PC_of_body b_ref27_Valid (by simp) ?_
  simp only [c_ref27_Valid, go_sem, Int.reduceEq, Int.reduceLT, Int.reduceLE, Int.reduceToNat, Nat.reduceLT, Nat.reduceEqDiff, Nat.reduceAdd, Nat.reduceLeDiff, Nat.reduceSub, Nat.reduceMul, ↓reduceIte, reduceCtorEq, w_app_nl, sdv]
  have no : ∀ {σ : St}, sdOk s = false → Pub σ (.bool false) (.bool (sdOk s)) := fun h => Pub.of_eq (by rw [h]) rfl
  refine call_pc (ok_ref27_in _ _ _) (by simp [go_sem]) ?_
  try simp (maxSteps := 500000) (disch := omega) only [go_sem, Int.reduceEq, Int.reduceLT, Int.reduceLE, Int.reduceToNat, Nat.reduceLT, Nat.reduceEqDiff, Nat.reduceAdd, Nat.reduceLeDiff, Nat.reduceSub, Nat.reduceMul, ↓reduceIte, reduceCtorEq, wrap_id, w_ite_ne, w_ite_lt, Nat.sub_zero, Nat.sub_self]
  cases h1 : inO s.n 1 1073741824 <;> try simp (maxSteps := 500000) (disch := omega) only [go_sem, Int.reduceEq, Int.reduceLT, Int.reduceLE, Int.reduceToNat, Nat.reduceLT, Nat.reduceEqDiff, Nat.reduceAdd, Nat.reduceLeDiff, Nat.reduceSub, Nat.reduceMul, ↓reduceIte, reduceCtorEq, wrap_id, w_ite_ne, w_ite_lt, Nat.sub_zero, Nat.sub_self, ods_length]
  · exact no (by simp [sdOk, h1])
  refine cond_d (fun h2 => ?_) (fun h2 => ?_) <;> try simp (maxSteps := 500000) (disch := omega) only [go_sem, Int.reduceEq, Int.reduceLT, Int.reduceLE, Int.reduceToNat, Nat.reduceLT, Nat.reduceEqDiff, Nat.reduceAdd, Nat.reduceLeDiff, Nat.reduceSub, Nat.reduceMul, ↓reduceIte, reduceCtorEq, wrap_id, w_ite_ne, w_ite_lt, Nat.sub_zero, Nat.sub_self, ods_length]
  · exact no (by simp [sdOk]; intros; omega)
  have hn : 1 ≤ s.n ∧ s.n ≤ 1073741824 := by simpa [inO] using h1
  refine awp_upF [2, 3, 4, 18, 19, 20, 21, 22, 23, 24, 25, 26, 27, 28, 29, 30, 31, 32, 33, 34, 35, 36, 37, 38, 39] (by kernel_rfl) s.l.length (fun k e σ => e 18 = .int .i64 k ∧ σ.ob 0 = some ⟨0, 2, 29, false, true, [sdv s]⟩ ∧ runO (s.n - s.l.length) (s.l.take k) = true) ?_ ?_
  · exact ⟨(by first | ((try simp (maxSteps := 1000000) only [go_sem, Int.reduceEq, Int.reduceLT, Int.reduceLE, Int.reduceToNat, Nat.reduceLT, Nat.reduceEqDiff, Nat.reduceAdd, Nat.reduceLeDiff, Nat.reduceSub, Nat.reduceMul, ↓reduceIte, reduceCtorEq, w_app_nl]); done) | ((try simp (maxSteps := 1000000) only [go_sem, Int.reduceEq, Int.reduceLT, Int.reduceLE, Int.reduceToNat, Nat.reduceLT, Nat.reduceEqDiff, Nat.reduceAdd, Nat.reduceLeDiff, Nat.reduceSub, Nat.reduceMul, ↓reduceIte, reduceCtorEq, w_app_nl]); rfl) | ((try simp (maxSteps := 1000000) (disch := omega) only [go_sem, Int.reduceEq, Int.reduceLT, Int.reduceLE, Int.reduceToNat, Nat.reduceLT, Nat.reduceEqDiff, Nat.reduceAdd, Nat.reduceLeDiff, Nat.reduceSub, Nat.reduceMul, ↓reduceIte, reduceCtorEq, w_app_nl, wrap_id, w_ite_ne, w_ite_lt]); rfl) | (simp (maxSteps := 1000000) (disch := omega) only [go_sem, Int.reduceEq, Int.reduceLT, Int.reduceLE, Int.reduceToNat, Nat.reduceLT, Nat.reduceEqDiff, Nat.reduceAdd, Nat.reduceLeDiff, Nat.reduceSub, Nat.reduceMul, ↓reduceIte, reduceCtorEq, w_app_nl, wrap_id, w_ite_ne, w_ite_lt]; done)), (by first | ((try simp (maxSteps := 1000000) only [go_sem, Int.reduceEq, Int.reduceLT, Int.reduceLE, Int.reduceToNat, Nat.reduceLT, Nat.reduceEqDiff, Nat.reduceAdd, Nat.reduceLeDiff, Nat.reduceSub, Nat.reduceMul, ↓reduceIte, reduceCtorEq, w_app_nl]); done) | ((try simp (maxSteps := 1000000) only [go_sem, Int.reduceEq, Int.reduceLT, Int.reduceLE, Int.reduceToNat, Nat.reduceLT, Nat.reduceEqDiff, Nat.reduceAdd, Nat.reduceLeDiff, Nat.reduceSub, Nat.reduceMul, ↓reduceIte, reduceCtorEq, w_app_nl]); rfl) | ((try simp (maxSteps := 1000000) (disch := omega) only [go_sem, Int.reduceEq, Int.reduceLT, Int.reduceLE, Int.reduceToNat, Nat.reduceLT, Nat.reduceEqDiff, Nat.reduceAdd, Nat.reduceLeDiff, Nat.reduceSub, Nat.reduceMul, ↓reduceIte, reduceCtorEq, w_app_nl, wrap_id, w_ite_ne, w_ite_lt]); rfl) | (simp (maxSteps := 1000000) (disch := omega) only [go_sem, Int.reduceEq, Int.reduceLT, Int.reduceLE, Int.reduceToNat, Nat.reduceLT, Nat.reduceEqDiff, Nat.reduceAdd, Nat.reduceLeDiff, Nat.reduceSub, Nat.reduceMul, ↓reduceIte, reduceCtorEq, w_app_nl, wrap_id, w_ite_ne, w_ite_lt]; done)), by simp [runO]⟩
  · rintro k fe ob c hk ⟨h18, hob, hj⟩
    simp (maxSteps := 1000000) only [go_sem, Int.reduceEq, Int.reduceLT, Int.reduceLE, Int.reduceToNat, Nat.reduceLT, Nat.reduceEqDiff, Nat.reduceAdd, Nat.reduceLeDiff, Nat.reduceSub, Nat.reduceMul, ↓reduceIte, reduceCtorEq, w_app_nl, sdv] at h18 hob
    try simp (maxSteps := 500000) (disch := omega) only [go_sem, Int.reduceEq, Int.reduceLT, Int.reduceLE, Int.reduceToNat, Nat.reduceLT, Nat.reduceEqDiff, Nat.reduceAdd, Nat.reduceLeDiff, Nat.reduceSub, Nat.reduceMul, ↓reduceIte, reduceCtorEq, wrap_id, w_ite_ne, w_ite_lt, Nat.sub_zero, Nat.sub_self, h18, ods_length]
    refine cond_d (fun hlt => ?_) (fun hge => ?_)
    · have hkl : k < s.l.length := by omega
      have hk2 : s.l[k]? = some s.l[k] := List.getElem?_eq_getElem hkl
      have hst := runO_step s.l (s.n - s.l.length) k hkl
      rw [hj, Bool.true_and] at hst
      have hbad : runO (s.n - s.l.length) (s.l.take (k + 1)) = false → sdOk s = false := fun h => by
        have : runO (s.n - s.l.length) s.l = false := by
          cases h2 : runO (s.n - s.l.length) s.l with
          | false => rfl
          | true => rw [runO_take _ _ (k + 1) h2] at h; cases h
        simp [sdOk, this]
      generalize s.l[k] = o at *
      try simp (maxSteps := 500000) (disch := omega) only [go_sem, Int.reduceEq, Int.reduceLT, Int.reduceLE, Int.reduceToNat, Nat.reduceLT, Nat.reduceEqDiff, Nat.reduceAdd, Nat.reduceLeDiff, Nat.reduceSub, Nat.reduceMul, ↓reduceIte, reduceCtorEq, wrap_id, w_ite_ne, w_ite_lt, Nat.sub_zero, Nat.sub_self, h18, hob, ods_length, ods_get, hk2, Option.map_some, odv]
      refine ⟨by omega, by omega, ?_⟩
      refine call_pc (ok_ref27_order o) (by simp [go_sem, odv]) ?_
      cases hp : odOk o <;> try simp (maxSteps := 500000) (disch := omega) only [go_sem, Int.reduceEq, Int.reduceLT, Int.reduceLE, Int.reduceToNat, Nat.reduceLT, Nat.reduceEqDiff, Nat.reduceAdd, Nat.reduceLeDiff, Nat.reduceSub, Nat.reduceMul, ↓reduceIte, reduceCtorEq, wrap_id, w_ite_ne, w_ite_lt, Nat.sub_zero, Nat.sub_self, h18, hob, ods_length]
      · exact no (hbad (by rw [hst, hp]; rfl))
      refine cond_n (fun g => ?_) (fun g => ?_) <;> try simp (maxSteps := 500000) (disch := omega) only [go_sem, Int.reduceEq, Int.reduceLT, Int.reduceLE, Int.reduceToNat, Nat.reduceLT, Nat.reduceEqDiff, Nat.reduceAdd, Nat.reduceLeDiff, Nat.reduceSub, Nat.reduceMul, ↓reduceIte, reduceCtorEq, wrap_id, w_ite_ne, w_ite_lt, Nat.sub_zero, Nat.sub_self, h18, hob]
      · exact no (hbad (by rw [hst, hp]; simp; omega))
      · exact up_next hkl ⟨(by first | ((try simp (maxSteps := 1000000) only [go_sem, Int.reduceEq, Int.reduceLT, Int.reduceLE, Int.reduceToNat, Nat.reduceLT, Nat.reduceEqDiff, Nat.reduceAdd, Nat.reduceLeDiff, Nat.reduceSub, Nat.reduceMul, ↓reduceIte, reduceCtorEq, w_app_nl]); done) | ((try simp (maxSteps := 1000000) only [go_sem, Int.reduceEq, Int.reduceLT, Int.reduceLE, Int.reduceToNat, Nat.reduceLT, Nat.reduceEqDiff, Nat.reduceAdd, Nat.reduceLeDiff, Nat.reduceSub, Nat.reduceMul, ↓reduceIte, reduceCtorEq, w_app_nl]); rfl) | ((try simp (maxSteps := 1000000) (disch := omega) only [go_sem, Int.reduceEq, Int.reduceLT, Int.reduceLE, Int.reduceToNat, Nat.reduceLT, Nat.reduceEqDiff, Nat.reduceAdd, Nat.reduceLeDiff, Nat.reduceSub, Nat.reduceMul, ↓reduceIte, reduceCtorEq, w_app_nl, wrap_id, w_ite_ne, w_ite_lt]); rfl) | (simp (maxSteps := 1000000) (disch := omega) only [go_sem, Int.reduceEq, Int.reduceLT, Int.reduceLE, Int.reduceToNat, Nat.reduceLT, Nat.reduceEqDiff, Nat.reduceAdd, Nat.reduceLeDiff, Nat.reduceSub, Nat.reduceMul, ↓reduceIte, reduceCtorEq, w_app_nl, wrap_id, w_ite_ne, w_ite_lt]; done)), by try simp (maxSteps := 500000) (disch := omega) only [go_sem, Int.reduceEq, Int.reduceLT, Int.reduceLE, Int.reduceToNat, Nat.reduceLT, Nat.reduceEqDiff, Nat.reduceAdd, Nat.reduceLeDiff, Nat.reduceSub, Nat.reduceMul, ↓reduceIte, reduceCtorEq, wrap_id, w_ite_ne, w_ite_lt, Nat.sub_zero, Nat.sub_self]; exact hob, by rw [hst, hp]; simp; omega⟩
    · try simp (maxSteps := 500000) (disch := omega) only [go_sem, Int.reduceEq, Int.reduceLT, Int.reduceLE, Int.reduceToNat, Nat.reduceLT, Nat.reduceEqDiff, Nat.reduceAdd, Nat.reduceLeDiff, Nat.reduceSub, Nat.reduceMul, ↓reduceIte, reduceCtorEq, wrap_id, w_ite_ne, w_ite_lt, Nat.sub_zero, Nat.sub_self]
      have : k = s.l.length := by omega
      subst this
      rw [List.take_length] at hj
      exact Pub.of_eq (by simp [sdOk, h1, hj]; omega) rfl
theorem ok_orders_Right (s : Sn) (hl : s.l.length ≤ 9223372036854775807) : PC prog n_orders_Right [snv s] (.bool (snOk s)) := by
  refine PC_of_body b_orders_Right (by simp) ?_
  simp only [c_orders_Right, go_sem, Int.reduceEq, Int.reduceLT, Int.reduceLE, Int.reduceToNat, Nat.reduceLT, Nat.reduceEqDiff, Nat.reduceAdd, Nat.reduceLeDiff, Nat.reduceSub, Nat.reduceMul, ↓reduceIte, reduceCtorEq, w_app_nl, snv]
  have no : ∀ {σ : St}, snOk s = false → Pub σ (.bool false) (.bool (snOk s)) := fun h => Pub.of_eq (by rw [h]) rfl
  refine call_pc (ok_orders_within _ _ _) (by simp [go_sem]) ?_
  try simp (maxSteps := 500000) (disch := omega) only [go_sem, Int.reduceEq, Int.reduceLT, Int.reduceLE, Int.reduceToNat, Nat.reduceLT, Nat.reduceEqDiff, Nat.reduceAdd, Nat.reduceLeDiff, Nat.reduceSub, Nat.reduceMul, ↓reduceIte, reduceCtorEq, wrap_id, w_ite_ne, w_ite_lt, Nat.sub_zero, Nat.sub_self]
  cases h1 : inO s.d 0 1073741824 <;> try simp (maxSteps := 500000) (disch := omega) only [go_sem, Int.reduceEq, Int.reduceLT, Int.reduceLE, Int.reduceToNat, Nat.reduceLT, Nat.reduceEqDiff, Nat.reduceAdd, Nat.reduceLeDiff, Nat.reduceSub, Nat.reduceMul, ↓reduceIte, reduceCtorEq, wrap_id, w_ite_ne, w_ite_lt, Nat.sub_zero, Nat.sub_self, ods_length]
  · exact no (by simp [snOk, h1])
  refine cond_d (fun h2 => ?_) (fun h2 => ?_) <;> try simp (maxSteps := 500000) (disch := omega) only [go_sem, Int.reduceEq, Int.reduceLT, Int.reduceLE, Int.reduceToNat, Nat.reduceLT, Nat.reduceEqDiff, Nat.reduceAdd, Nat.reduceLeDiff, Nat.reduceSub, Nat.reduceMul, ↓reduceIte, reduceCtorEq, wrap_id, w_ite_ne, w_ite_lt, Nat.sub_zero, Nat.sub_self, ods_length]
  · exact no (by simp [snOk]; intros; omega)
  have hn : 0 ≤ s.d ∧ s.d ≤ 1073741824 := by simpa [inO] using h1
  try simp (maxSteps := 500000) (disch := omega) only [go_sem, Int.reduceEq, Int.reduceLT, Int.reduceLE, Int.reduceToNat, Nat.reduceLT, Nat.reduceEqDiff, Nat.reduceAdd, Nat.reduceLeDiff, Nat.reduceSub, Nat.reduceMul, ↓reduceIte, reduceCtorEq, wrap_id, w_ite_ne, w_ite_lt, Nat.sub_zero, Nat.sub_self, ods_length]
  refine awp_upF [2, 3, 5, 22, 23, 24, 25, 26, 27, 28, 29, 30, 31, 32, 33, 34, 35, 36, 37] (by kernel_rfl) s.l.length (fun k e σ => e 22 = .int .i64 k ∧ e 3 = .int .i64 (odPrev (s.d + 1) s.l k) ∧ ascO (s.d + 1) (s.l.take k) = true) ?_ ?_
  · exact ⟨(by first | ((try simp (maxSteps := 1000000) only [go_sem, Int.reduceEq, Int.reduceLT, Int.reduceLE, Int.reduceToNat, Nat.reduceLT, Nat.reduceEqDiff, Nat.reduceAdd, Nat.reduceLeDiff, Nat.reduceSub, Nat.reduceMul, ↓reduceIte, reduceCtorEq, w_app_nl]); done) | ((try simp (maxSteps := 1000000) only [go_sem, Int.reduceEq, Int.reduceLT, Int.reduceLE, Int.reduceToNat, Nat.reduceLT, Nat.reduceEqDiff, Nat.reduceAdd, Nat.reduceLeDiff, Nat.reduceSub, Nat.reduceMul, ↓reduceIte, reduceCtorEq, w_app_nl]); rfl) | ((try simp (maxSteps := 1000000) (disch := omega) only [go_sem, Int.reduceEq, Int.reduceLT, Int.reduceLE, Int.reduceToNat, Nat.reduceLT, Nat.reduceEqDiff, Nat.reduceAdd, Nat.reduceLeDiff, Nat.reduceSub, Nat.reduceMul, ↓reduceIte, reduceCtorEq, w_app_nl, wrap_id, w_ite_ne, w_ite_lt]); rfl) | (simp (maxSteps := 1000000) (disch := omega) only [go_sem, Int.reduceEq, Int.reduceLT, Int.reduceLE, Int.reduceToNat, Nat.reduceLT, Nat.reduceEqDiff, Nat.reduceAdd, Nat.reduceLeDiff, Nat.reduceSub, Nat.reduceMul, ↓reduceIte, reduceCtorEq, w_app_nl, wrap_id, w_ite_ne, w_ite_lt]; done)), by try simp (maxSteps := 500000) (disch := omega) only [go_sem, Int.reduceEq, Int.reduceLT, Int.reduceLE, Int.reduceToNat, Nat.reduceLT, Nat.reduceEqDiff, Nat.reduceAdd, Nat.reduceLeDiff, Nat.reduceSub, Nat.reduceMul, ↓reduceIte, reduceCtorEq, wrap_id, w_ite_ne, w_ite_lt, Nat.sub_zero, Nat.sub_self]; simp [odPrev], by simp [ascO]⟩
  · rintro k fe ob c hk ⟨h22, h3, hj⟩
    simp (maxSteps := 1000000) only [go_sem, Int.reduceEq, Int.reduceLT, Int.reduceLE, Int.reduceToNat, Nat.reduceLT, Nat.reduceEqDiff, Nat.reduceAdd, Nat.reduceLeDiff, Nat.reduceSub, Nat.reduceMul, ↓reduceIte, reduceCtorEq, w_app_nl] at h22 h3
    try simp (maxSteps := 500000) (disch := omega) only [go_sem, Int.reduceEq, Int.reduceLT, Int.reduceLE, Int.reduceToNat, Nat.reduceLT, Nat.reduceEqDiff, Nat.reduceAdd, Nat.reduceLeDiff, Nat.reduceSub, Nat.reduceMul, ↓reduceIte, reduceCtorEq, wrap_id, w_ite_ne, w_ite_lt, Nat.sub_zero, Nat.sub_self, h22, ods_length]
    refine cond_d (fun hlt => ?_) (fun hge => ?_)
    · have hkl : k < s.l.length := by omega
      have hk2 : s.l[k]? = some s.l[k] := List.getElem?_eq_getElem hkl
      have hst := ascO_step s.l (s.d + 1) k hkl
      rw [hj, Bool.true_and] at hst
      have hbad : ascO (s.d + 1) (s.l.take (k + 1)) = false → snOk s = false := fun h => by
        have : ascO (s.d + 1) s.l = false := by
          cases h2 : ascO (s.d + 1) s.l with
          | false => rfl
          | true => rw [ascO_take _ _ (k + 1) h2] at h; cases h
        simp [snOk, this]
      have hnx : odPrev (s.d + 1) s.l (k + 1) = s.l[k].n := by simp [odPrev, hk2]
      generalize s.l[k] = o at *
      generalize odPrev (s.d + 1) s.l k = pr at *
      try simp (maxSteps := 500000) (disch := omega) only [go_sem, Int.reduceEq, Int.reduceLT, Int.reduceLE, Int.reduceToNat, Nat.reduceLT, Nat.reduceEqDiff, Nat.reduceAdd, Nat.reduceLeDiff, Nat.reduceSub, Nat.reduceMul, ↓reduceIte, reduceCtorEq, wrap_id, w_ite_ne, w_ite_lt, Nat.sub_zero, Nat.sub_self, h22, h3, ods_length, ods_get, hk2, Option.map_some, odv]
      refine ⟨by omega, by omega, ?_⟩
      refine call_pc (ok_orders_proper o) (by simp [go_sem, odv]) ?_
      cases hp : odOk o <;> try simp (maxSteps := 500000) (disch := omega) only [go_sem, Int.reduceEq, Int.reduceLT, Int.reduceLE, Int.reduceToNat, Nat.reduceLT, Nat.reduceEqDiff, Nat.reduceAdd, Nat.reduceLeDiff, Nat.reduceSub, Nat.reduceMul, ↓reduceIte, reduceCtorEq, wrap_id, w_ite_ne, w_ite_lt, Nat.sub_zero, Nat.sub_self, h22, h3]
      · exact no (hbad (by rw [hst, hp]; rfl))
      refine cond_d (fun g => ?_) (fun g => ?_) <;> try simp (maxSteps := 500000) (disch := omega) only [go_sem, Int.reduceEq, Int.reduceLT, Int.reduceLE, Int.reduceToNat, Nat.reduceLT, Nat.reduceEqDiff, Nat.reduceAdd, Nat.reduceLeDiff, Nat.reduceSub, Nat.reduceMul, ↓reduceIte, reduceCtorEq, wrap_id, w_ite_ne, w_ite_lt, Nat.sub_zero, Nat.sub_self, h22, h3]
      · exact no (hbad (by rw [hst, hp]; simp; omega))
      · exact up_next hkl ⟨(by first | ((try simp (maxSteps := 1000000) only [go_sem, Int.reduceEq, Int.reduceLT, Int.reduceLE, Int.reduceToNat, Nat.reduceLT, Nat.reduceEqDiff, Nat.reduceAdd, Nat.reduceLeDiff, Nat.reduceSub, Nat.reduceMul, ↓reduceIte, reduceCtorEq, w_app_nl]); done) | ((try simp (maxSteps := 1000000) only [go_sem, Int.reduceEq, Int.reduceLT, Int.reduceLE, Int.reduceToNat, Nat.reduceLT, Nat.reduceEqDiff, Nat.reduceAdd, Nat.reduceLeDiff, Nat.reduceSub, Nat.reduceMul, ↓reduceIte, reduceCtorEq, w_app_nl]); rfl) | ((try simp (maxSteps := 1000000) (disch := omega) only [go_sem, Int.reduceEq, Int.reduceLT, Int.reduceLE, Int.reduceToNat, Nat.reduceLT, Nat.reduceEqDiff, Nat.reduceAdd, Nat.reduceLeDiff, Nat.reduceSub, Nat.reduceMul, ↓reduceIte, reduceCtorEq, w_app_nl, wrap_id, w_ite_ne, w_ite_lt]); rfl) | (simp (maxSteps := 1000000) (disch := omega) only [go_sem, Int.reduceEq, Int.reduceLT, Int.reduceLE, Int.reduceToNat, Nat.reduceLT, Nat.reduceEqDiff, Nat.reduceAdd, Nat.reduceLeDiff, Nat.reduceSub, Nat.reduceMul, ↓reduceIte, reduceCtorEq, w_app_nl, wrap_id, w_ite_ne, w_ite_lt]; done)), by try simp (maxSteps := 500000) (disch := omega) only [go_sem, Int.reduceEq, Int.reduceLT, Int.reduceLE, Int.reduceToNat, Nat.reduceLT, Nat.reduceEqDiff, Nat.reduceAdd, Nat.reduceLeDiff, Nat.reduceSub, Nat.reduceMul, ↓reduceIte, reduceCtorEq, wrap_id, w_ite_ne, w_ite_lt, Nat.sub_zero, Nat.sub_self]; rw [hnx], by rw [hst, hp]; simp; omega⟩
    · try simp (maxSteps := 500000) (disch := omega) only [go_sem, Int.reduceEq, Int.reduceLT, Int.reduceLE, Int.reduceToNat, Nat.reduceLT, Nat.reduceEqDiff, Nat.reduceAdd, Nat.reduceLeDiff, Nat.reduceSub, Nat.reduceMul, ↓reduceIte, reduceCtorEq, wrap_id, w_ite_ne, w_ite_lt, Nat.sub_zero, Nat.sub_self]
      have : k = s.l.length := by omega
      subst this
      rw [List.take_length] at hj
      exact Pub.of_eq (by simp [snOk, h1, hj]; omega) rfl
end Go.Proofs.Try
