/- OWN WORK, put together by tools/asm.py, seat.py, mini.py. -/
import Derived.Test.YtmjcbljjnhmmnaaCode
set_option linter.unusedSimpArgs false
set_option linter.unusedVariables false
set_option maxRecDepth 100000
set_option maxHeartbeats 1000000
namespace Go.Proofs.Try
open Go.Ab Go
open Int renaming reduceEq → jA, reduceLT → jB, reduceLE → jC, reduceToNat → jD
open Go.Ab renaming w_ite_ne → jM, w_ite_lt → jN, wrap_id → jO, w_app_nl → jP
open Nat renaming reduceLT → jE, reduceEqDiff → jF, reduceAdd → jG, reduceLeDiff → jH, reduceSub → jI, reduceMul → jJ, sub_zero → jK, sub_self → jL
theorem tmod_mod (n k : Int) (hk : 0 < k) : (n.tmod k + k).tmod k = n % k := by
 have h2 := Int.tmod_eq_emod (a := n) (b := k)
 have h3 := Int.emod_nonneg n (show k ≠ 0 by omega)
 have h4 := Int.emod_lt_of_pos n hk
 have h5 : 0 ≤ n.tmod k + k := by rw [h2]; split <;> omega
 rw [Int.tmod_eq_emod_of_nonneg h5, Int.add_emod_right, h2]
 split
 ·simp
 ·rw [show ((k.natAbs : Nat) : Int) = k by omega, Int.sub_emod_right]; exact Int.emod_emod_of_dvd n (Int.dvd_refl k)
theorem tmod_bd (n k : Int) (hk : 0 < k) : -k < n.tmod k ∧ n.tmod k < k := by
 have h2 := Int.tmod_eq_emod (a := n) (b := k)
 have h3 := Int.emod_nonneg n (show k ≠ 0 by omega)
 have h4 := Int.emod_lt_of_pos n hk
 by_cases h : 0 ≤ n ∨ k ∣ n
 ·rw [if_pos h] at h2; omega
 ·rw [if_neg h] at h2
  have : n % k ≠ 0 := fun h0 => h (.inr (Int.dvd_of_emod_eq_zero h0))
  omega
def ints (l : List Int) : List AV := l.map (.int .i64)
theorem ints_length (l : List Int) : (ints l).length = l.length := by simp [ints]
theorem ints_get (l : List Int) (i : Nat) : (ints l)[i]? = (l[i]?).map (AV.int .i64) := by simp [ints]
theorem ints_append (l r : List Int) : ints l ++ ints r = ints (l ++ r) := by simp [ints]
theorem ints_pur (l : List Int) : ∀ x ∈ ints l, x.pur = true := by simp [ints, go_sem]
theorem ints_ok (l : List Int) : ∀ x ∈ ints l, okE 1 x := by simp [ints, okE, go_sem]
structure Bd where
 lo : Int
 hi : Int
 deriving DecidableEq, Inhabited
def bdv (b : Bd) : AV := .agg [.int .i64 b.lo, .int .i64 b.hi]
def bds (l : List Bd) : List AV := l.map bdv
theorem bds_length (l : List Bd) : (bds l).length = l.length := by simp [bds]
theorem bds_get (l : List Bd) (i : Nat) : (bds l)[i]? = (l[i]?).map bdv := by simp [bds]
theorem bds_pur (l : List Bd) : ∀ x ∈ bds l, x.pur = true := by simp [bds, bdv, go_sem]
theorem bds_ok (l : List Bd) : ∀ x ∈ bds l, okE 2 x := by simp [bds, bdv, okE, go_sem]
def firstIdx {α : Type} (p : α → Bool) (l : List α) : Int := match l.findIdx? p with | some i => (i : Int) | none => -1
theorem firstIdx_at {α : Type} (p : α → Bool) (l : List α) (k : Nat) (hk : k < l.length) (h1 : ∀ j, j < k → ∀ x, l[j]? = some x → p x = false) (h2 : p l[k] = true) : firstIdx p l = k := by
 have : l.findIdx? p = some k := by
  rw [List.findIdx?_eq_some_iff_getElem]
  exact ⟨hk, h2, fun j hj => by have := h1 j hj l[j] (List.getElem?_eq_getElem _); simp [this]⟩
 simp [firstIdx, this]
theorem firstIdx_none {α : Type} (p : α → Bool) (l : List α) (h1 : ∀ j, j < l.length → ∀ x, l[j]? = some x → p x = false) : firstIdx p l = -1 := by
 have : l.findIdx? p = none := by
  rw [List.findIdx?_eq_none_iff]
  intro x hx
  obtain ⟨j, hj⟩ := List.getElem?_of_mem hx
  exact h1 j (List.getElem?_eq_some_iff.1 hj).1 x hj
 simp [firstIdx, this]
theorem firstIdx_any {α : Type} (p : α → Bool) (l : List α) : decide (0 ≤ firstIdx p l) = l.any p := by
 unfold firstIdx
 cases h : l.findIdx? p with
 | none =>
  rw [List.findIdx?_eq_none_iff] at h
  have : l.any p = false := by rw [List.any_eq_false]; intro x hx; simpa using h x hx
  rw [this]; simp
 | some i =>
  obtain ⟨hi, h1, _⟩ := List.findIdx?_eq_some_iff_getElem.1 h
  have : l.any p = true := List.any_eq_true.2 ⟨_, List.getElem_mem hi, h1⟩
  rw [this]; simp
theorem lt_snoc {α : Type} {l : List α} {k : Nat} {P : α → Prop} (hj : ∀ j, j < k → ∀ x, l[j]? = some x → P x) (hk : k < l.length) (h : P l[k]) : ∀ j, j < k + 1 → ∀ x, l[j]? = some x → P x := by
 intro j hj' x hx
 by_cases e : j = k
 ·subst e; rw [List.getElem?_eq_getElem hk] at hx; obtain rfl := Option.some.inj hx; exact h
 ·exact hj j (by omega) x hx
def runS {α : Type} (f : α → α) (b : α) : Nat → α
 | 0 => b
 | k + 1 => f (runS f b k)
theorem ok_mk_Mod (n k : Int) (hk : 0 < k) (hk2 : k ≤ 4611686018427387904) : PC prog n_mk_Mod [.int .i64 n, .int .i64 k] (.int .i64 (n % k)) := by
 have h1 := tmod_bd n k hk
 refine PC_of_body b_mk_Mod (by simp) ?_
 simp (disch := omega) only [c_mk_Mod, go_sem, jA, jB, jC, jD, jE, jF, jG, jH, jI, jJ, ↓reduceIte, reduceCtorEq, jP, jO]
 exact ⟨by omega, by omega, Pub.of_eq (by rw [tmod_mod n k hk]) rfl⟩
def deckV (l : List Int) (at' : Nat) : AV := .agg [.list 1 (ints l), .int .i64 at']
def deckR (l : List Int) (at' : Nat) (n : Int) : Int × Nat := if n < 1 ∨ l.length ≤ at' then (0, at') else (l.getD at' 0 % n, at' + 1)
theorem deckR_bd (l : List Int) (at' : Nat) (n : Int) : 0 ≤ (deckR l at' n).1 ∧ ((deckR l at' n).1 = 0 ∨ (deckR l at' n).1 < n) := by
 unfold deckR
 split
 ·simp
 ·have h1 := Int.emod_nonneg (l.getD at' 0) (show n ≠ 0 by omega)
  have h2 := Int.emod_lt_of_pos (l.getD at' 0) (show 0 < n by omega)
  exact ⟨h1, .inr h2⟩
theorem upd_self {α : Type} (f : Nat → α) (i : Nat) (x : α) (h : f i = x) : upd f i x = f := by
 funext j; by_cases e : j = i
 ·subst e; rw [upd_same, h]
 ·rw [upd_ne _ _ _ _ e]
abbrev ty_Deck : TypeId := 36
theorem ok_mk_New (σ : St) (l : List Int) : HC prog n_mk_New [.list 1 (ints l)] σ (fun r σ' => r = .ptr σ.n σ.c 2 0 0 ∧ σ' = σ.push 2 ty_Deck [deckV l 0]) := by
 refine HC_of_body b_mk_New (by simp) ?_
 simp only [c_mk_New, go_sem, jA, jB, jC, jD, jE, jF, jG, jH, jI, jJ, ↓reduceIte, reduceCtorEq, jP]
 simp [deckV]
theorem ok_mk_Deck_Next (σ : St) (id g : Nat) (ty : TypeId) (ap : Bool) (l : List Int) (at' : Nat) (n : Int) (hob : σ.ob id = some ⟨g, 2, ty, false, ap, [deckV l at']⟩) (hn : n ≤ 4611686018427387904) (hl : l.length ≤ 9223372036854775807) :
  HC prog n_mk_Deck_Next [.ptr id g 2 0 0, .int .i64 n] σ (fun r σ' => r = .int .i64 (deckR l at' n).1 ∧ σ' = ⟨upd σ.ob id (some ⟨g, 2, ty, false, ap, [deckV l (deckR l at' n).2]⟩), σ.n, σ.c⟩) := by
 obtain ⟨ob, nn, cc⟩ := σ
 simp only at hob
 refine HC_of_body b_mk_Deck_Next (by simp) ?_
 simp only [c_mk_Deck_Next, go_sem, jA, jB, jC, jD, jE, jF, jG, jH, jI, jJ, ↓reduceIte, reduceCtorEq, jP, hob, deckV]
 have no : (n < 1 ∨ l.length ≤ at') → AV.int IntKind.i64 0 = AV.int IntKind.i64 (deckR l at' n).fst ∧ St.mk ob nn cc = St.mk (upd ob id (some ⟨g, 2, ty, false, ap, [.agg [.list 1 (ints l), .int .i64 (deckR l at' n).2]]⟩)) nn cc := by
  intro h
  rw [show deckR l at' n = (0, at') by unfold deckR; rw [if_pos h]]
  exact ⟨rfl, by have h1 := upd_self ob id _ hob; simp only [deckV] at h1 ⊢; rw [h1]⟩
 refine gd_fd rfl (fun h => ?_) (fun h => ?_) <;> simp (maxSteps := 1000000) only [go_sem, jA, jB, jC, jD, jE, jF, jG, jH, jI, jJ, ↓reduceIte, reduceCtorEq, jP, hob, deckV, ints_length]
 ·exact no (.inl h)
 refine cond_d (fun h2 => ?_) (fun h2 => ?_) <;> simp (maxSteps := 1000000) only [go_sem, jA, jB, jC, jD, jE, jF, jG, jH, jI, jJ, ↓reduceIte, reduceCtorEq, jP, hob, deckV, ints_length, ints_get]
 ·exact no (.inr (by omega))
 have hat : at' < l.length := by omega
 have hg : l[at']? = some l[at'] := List.getElem?_eq_getElem hat
 have hd : deckR l at' n = (l[at'] % n, at' + 1) := by unfold deckR; rw [if_neg (by omega)]; simp [List.getD_eq_getElem?_getD, hg]
 simp (maxSteps := 1000000) (disch := omega) only [go_sem, jA, jB, jC, jD, jE, jF, jG, jH, jI, jJ, ↓reduceIte, reduceCtorEq, jP, hg, jO]
 refine ⟨by omega, by omega, call_pc (ok_mk_Mod _ n (by omega) (by omega)) (by simp [go_sem]) ?_⟩
 simp (maxSteps := 1000000) only [go_sem, jA, jB, jC, jD, jE, jF, jG, jH, jI, jJ, ↓reduceIte, reduceCtorEq, jP, hd]
 simp
def Deck0 (σ : St) (id g : Nat) (t : List Int) (W : AV → Prop) (r : AV) (σ' : St) : Prop := ∃ r2 at2, Pub ⟨fun i => if i < σ.n then none else σ'.ob i, σ'.n, σ'.c⟩ r r2 ∧ W r2 ∧ σ'.ob id = some ⟨g, 2, ty_Deck, false, true, [deckV t at2]⟩ ∧ ∀ i, i < σ.n → i ≠ id → σ'.ob i = σ.ob i
def DeckR (σ : St) (id g : Nat) (t : List Int) (W : AV → Prop) (r : AV) (σ' : St) : Prop := ∃ at2 c, W r ∧ σ' = ⟨upd (fun i => if i < σ.n then σ.ob i else none) id (some ⟨g, 2, ty_Deck, false, true, [deckV t at2]⟩), σ.n, c⟩
theorem HC.deck {f : Nat} {args : List AV} {σ : St} {id g : Nat} {t : List Int} {W : AV → Prop} (hid : id < σ.n) (h : HC prog f args σ (Deck0 σ id g t W)) : HC prog f args σ (DeckR σ id g t W) := by
 refine HC.trunc σ.n (HC.seal (fun i => decide (i < σ.n)) h ?_)
 rintro r σ' ⟨r2, at2, h1, h2, h3, h4⟩
 refine ⟨r2, by simpa using h1, at2, σ'.c, h2, ?_⟩
 simp only [St.trunc]
 congr 1
 funext i
 simp only [upd]
 by_cases e : i = id
 ·subst e; simp [hid, h3]
 ·rw [if_neg e]
  by_cases hi : i < σ.n
  ·simp [hi, h4 i hi e]
  ·simp [hi]
theorem DeckR.use {σ σ' : St} {id g : Nat} {t : List Int} {W : AV → Prop} {r : AV} (h : DeckR σ id g t W r σ') (hid : id < σ.n) :
  W r ∧ σ'.n = σ.n ∧ (∃ at2, σ'.ob id = some ⟨g, 2, ty_Deck, false, true, [deckV t at2]⟩) ∧ ∀ i, i < σ.n → i ≠ id → σ'.ob i = σ.ob i := by
 obtain ⟨at2, c, h1, rfl⟩ := h
 exact ⟨h1, rfl, ⟨at2, by simp [upd]⟩, fun i hi h2 => by simp [upd, h2, hi]⟩
theorem upd_upd {α : Type} (f : Nat → α) (i : Nat) (x y : α) : upd (upd f i x) i y = upd f i y := by funext j; by_cases e : j = i <;> simp [upd, e]
def NewSl (σ : St) (es : Nat) (ty : TypeId) (l : List AV) (r : AV) (σ' : St) : Prop := ∃ g c, r = .sl (σ.n + 1) g es 0 l.length ∧ σ' = ⟨upd (upd σ.ob σ.n none) (σ.n + 1) (some ⟨g, es, ty, false, true, l⟩), σ.n + 2, c⟩
def NewSl1 (σ : St) (es : Nat) (ty : TypeId) (l : List AV) (r : AV) (σ' : St) : Prop := ∃ g c o, r = .sl (σ.n + 1) g es 0 l.length ∧ σ' = ⟨upd (upd σ.ob σ.n (some o)) (σ.n + 1) (some ⟨g, es, ty, false, true, l⟩), σ.n + 2, c⟩
theorem HC.new {f : Nat} {args : List AV} {σ : St} {es : Nat} {ty : TypeId} {l : List AV} (h : HC prog f args σ (NewSl1 σ es ty l)) : HC prog f args σ (NewSl σ es ty l) := by
 refine h.sub ?_
 rintro r σ' ⟨g, c, o, rfl, rfl⟩
 refine ⟨_, ?_, g, c, rfl, rfl⟩
 intro i o' h
 simp only [upd] at h ⊢
 split at h
 ·rename_i hi; rw [if_pos hi]; exact h
 ·rename_i hi
  rw [if_neg hi]
  split at h
  ·cases h
  ·rename_i h2; rw [if_neg h2]; exact h
theorem insG1 {L : List AV} {x z : AV} {i k m : Nat} (hi : i < L.length) (hk : k = L.length + 1 - i) (hm : m = 1) : (L.take i ++ List.replicate (L.length + 1 - i) z).take i ++ [x].take k ++ (L.take i ++ List.replicate (L.length + 1 - i) z).drop (i + m) = L.take i ++ x :: List.replicate (L.length - i) z := by
 subst hk; subst hm
 have h1 : (L.take i).length = i := by simp; omega
 rw [List.take_left' h1, List.take_of_length_le (l := [x]) (by simp; omega), List.drop_append, List.drop_of_length_le (l := L.take i) (by omega), h1, Nat.add_sub_cancel_left, List.drop_replicate, show L.length + 1 - i - 1 = L.length - i by omega]
 simp
theorem insG2 {L : List AV} {x z : AV} {i k l m : Nat} (hi : i < L.length) (hk : k = L.length - i) (hl : l = L.length - i) (hm : m = L.length - i) : (L.take i ++ x :: List.replicate (L.length - i) z).take (i + 1) ++ ((L.drop i).take k).take l ++ (L.take i ++ x :: List.replicate (L.length - i) z).drop (i + 1 + m) = L.take i ++ x :: L.drop i := by
 subst hk; subst hl; subst hm
 have h1 : (L.take i ++ [x]).length = i + 1 := by simp; omega
 rw [show L.take i ++ x :: List.replicate (L.length - i) z = (L.take i ++ [x]) ++ List.replicate (L.length - i) z by simp, List.take_left' h1, List.take_of_length_le (l := L.drop i) (by simp), List.take_of_length_le (l := L.drop i) (by simp), List.drop_of_length_le (l := (L.take i ++ [x]) ++ List.replicate (L.length - i) z) (by rw [List.length_append, h1, List.length_replicate]; omega)]
 simp
theorem insR1 {L : List AV} {i k m : Nat} (hi : i < L.length) (hk : k = L.length - i) (hm : m = L.length - i) : L.take (i + 1) ++ (L.drop i).take k ++ L.drop (i + 1 + m) = L.take (i + 1) ++ L.drop i := by
 subst hk; subst hm
 rw [List.take_of_length_le (l := L.drop i) (by simp), List.drop_of_length_le (l := L) (i := i + 1 + (L.length - i)) (by omega), List.append_nil]
theorem insR2 {L : List AV} {x : AV} {i k m : Nat} (hi : i < L.length) (hk : 1 ≤ k) (hm : m = 1) : (L.take (i + 1) ++ L.drop i).take i ++ [x].take k ++ (L.take (i + 1) ++ L.drop i).drop (i + m) = L.take i ++ x :: L.drop i := by
 subst hm
 have h1 : (L.take (i + 1)).length = i + 1 := by simp; omega
 rw [List.take_append_of_le_length (by omega), List.take_take, List.take_of_length_le (l := [x]) (by simpa using hk), List.drop_left' h1, show min i (i + 1) = i by omega]
 simp
def InsO (σ : St) (id es : Nat) (ty : TypeId) (L : List AV) (r : AV) (τ : St) : Prop :=
 ∃ id' g', r = .sl id' g' es 0 L.length ∧ (id' = id ∨ σ.n ≤ id') ∧ id' < τ.n ∧ σ.n ≤ τ.n ∧ τ.ob id' = some ⟨g', es, ty, false, true, L⟩ ∧ ∀ k, k < σ.n → k ≠ id → τ.ob k = σ.ob k
def NewO (σ : St) (es : Nat) (ty : TypeId) (L : List AV) (r : AV) (τ : St) : Prop := ∃ id g, r = .sl id g es 0 L.length ∧ σ.n ≤ id ∧ id < τ.n ∧ τ.ob id = some ⟨g, es, ty, false, true, L⟩ ∧ ∀ i, i < σ.n → τ.ob i = σ.ob i
def Oth (X : AV) (i : Nat) : Prop := ∀ g es o n, X ≠ .sl i g es o n
def SlR (es : Nat) (ty : TypeId) (σ : St) (L : List AV) (X : AV) : Prop := (X = .nil ∧ L = []) ∨ ∃ id g, X = .sl id g es 0 L.length ∧ id < σ.n ∧ σ.ob id = some ⟨g, es, ty, false, true, L⟩
theorem Oth.em {X : AV} {i : Nat} (h : ¬ ¬ Oth X i) : Oth X i := Classical.byContradiction h
theorem Oth.nil (i : Nat) : Oth .nil i := fun _ _ _ _ h => by cases h
theorem Oth.ne {id g es o n i : Nat} (h : Oth (.sl id g es o n) i) : ¬ id = i := fun e => h _ _ _ _ (by rw [e])
theorem Oth.sl {id g es o n i : Nat} (h : ¬ id = i) : Oth (.sl id g es o n) i := fun _ _ _ _ hh => by cases hh; exact h rfl
def Kp (σ : St) (X : AV) (τ : St) (X' : AV) : Prop := σ.n ≤ τ.n ∧ (∀ i, i < σ.n → Oth X i → τ.ob i = σ.ob i) ∧ ∀ i, i < σ.n → Oth X i → Oth X' i
theorem Kp.trans {σ τ ρ : St} {X Y Z : AV} (h : Kp σ X τ Y) (k : Kp τ Y ρ Z) : Kp σ X ρ Z :=
 ⟨Nat.le_trans h.1 k.1, fun i hi hx => (k.2.1 i (Nat.lt_of_lt_of_le hi h.1) (h.2.2 i hi hx)).trans (h.2.1 i hi hx), fun i hi hx => k.2.2 i (Nat.lt_of_lt_of_le hi h.1) (h.2.2 i hi hx)⟩
section
variable {es : Nat} {ty : TypeId} {σ τ : St} {L : List AV} {X : AV}
theorem SlR.nil : SlR es ty σ [] .nil := .inl ⟨rfl, rfl⟩
theorem SlR.one (h : SlR es ty σ L X) : X.one = true := by rcases h with ⟨rfl, _⟩ | ⟨id, g, rfl, _⟩ <;> rfl
theorem SlR.flat (h : SlR es ty σ L X) : X.flat = true := by rcases h with ⟨rfl, _⟩ | ⟨id, g, rfl, _⟩ <;> rfl
theorem SlR.cells (h : SlR es ty σ L X) : X.cells = [X] := by rcases h with ⟨rfl, _⟩ | ⟨id, g, rfl, _⟩ <;> rfl
theorem SlR.move (h : SlR es ty σ L X) (hn : σ.n ≤ τ.n) (ho : ∀ i, i < σ.n → ¬ Oth X i → τ.ob i = σ.ob i) : SlR es ty τ L X := by
 rcases h with h | ⟨id, g, rfl, h2, h3⟩
 ·exact .inl h
 ·exact .inr ⟨id, g, rfl, Nat.lt_of_lt_of_le h2 hn, by rw [ho id h2 (fun h => h _ _ _ _ rfl)]; exact h3⟩
theorem SlR.oth (h : SlR es ty σ L X) {i : Nat} (hi : σ.n ≤ i) : Oth X i := by
 rcases h with ⟨rfl, _⟩ | ⟨id, g, rfl, h2, _⟩
 ·exact Oth.nil i
 ·exact Oth.sl (by omega)
theorem SlR.pub (h : SlR es ty σ L X) (ho : ∀ i, i < σ.n → ¬ Oth X i → τ.ob i = σ.ob i) (hp : ∀ x ∈ L, x.pur = true) (hk : ∀ x ∈ L, okE es x) : Pub τ X (.list es L) := by
 rcases h with ⟨rfl, rfl⟩ | ⟨id, g, rfl, h2, h3⟩
 ·exact .nl es
 ·exact Pub.of_sl (by rw [ho id h2 (fun h => h _ _ _ _ rfl)]; exact h3) rfl hp hk
theorem app_slr {b : Nat} {a : AV} {K : AV → St → Prop} (h : SlR es ty σ L X) (hm : L.length + 1 ≤ 9223372036854775807) (hb : (L.length + 1) * b ≤ 140737488355328)
  (k : ∀ X' τ, SlR es ty τ (L ++ [a]) X' → Kp σ X τ X' → K X' τ) : appC es b ty X (.list es [a]) σ K := by
 rcases h with ⟨rfl, rfl⟩ | ⟨id, g, rfl, h2, h3⟩
 ·rw [jP]
  simp only [List.length_nil, Nat.zero_add] at hb
  refine ⟨by simp [maxLen], by simpa using hb, fun h => by simp at h, fun _ => k _ _ (.inr ⟨σ.n, σ.c, rfl, Nat.lt_succ_self _, by simp [St.push, upd]⟩) ⟨Nat.le_succ _, fun i hi _ => ?_, fun i hi _ => Oth.sl (by omega)⟩⟩
  simp only [St.push]; rw [upd_ne _ _ _ _ (by omega)]
 ·rw [w_app_ll]
  refine ⟨_, h3, rfl, rfl, rfl, rfl, rfl, rfl, by rw [mxL]; simpa using hm, by simpa using hb, k _ _ (.inr ⟨id, σ.c, by simp, h2, by simp [St.renew, upd]⟩) ⟨Nat.le_refl _, fun i hi hx => ?_, fun i hi hx => Oth.sl hx.ne⟩⟩
  simp only [St.renew]
  rw [upd_ne _ _ _ _ (fun e => hx.ne e.symm)]
theorem app_slrs {b : Nat} {M : List AV} {K : AV → St → Prop} (h : SlR es ty σ L X) (hm : L.length + M.length ≤ 9223372036854775807) (hb : (L.length + M.length) * b ≤ 140737488355328)
  (k : ∀ X' τ, SlR es ty τ (L ++ M) X' → Kp σ X τ X' → K X' τ) : appC es b ty X (.list es M) σ K := by
 rcases h with ⟨rfl, rfl⟩ | ⟨id, g, rfl, h2, h3⟩
 ·rw [jP]
  simp only [List.length_nil, Nat.zero_add] at hm hb
  refine ⟨by rw [mxL]; omega, hb, fun h => k _ _ (.inl ⟨rfl, by rw [h]; rfl⟩) ⟨Nat.le_refl _, fun _ _ _ => rfl, fun _ _ h => h⟩, fun _ => k _ _ (.inr ⟨σ.n, σ.c, rfl, Nat.lt_succ_self _, by simp [St.push, upd]⟩) ⟨Nat.le_succ _, fun i hi _ => ?_, fun i hi _ => Oth.sl (by omega)⟩⟩
  simp only [St.push]; rw [upd_ne _ _ _ _ (by omega)]
 ·rw [w_app_ll]
  refine ⟨_, h3, rfl, rfl, rfl, rfl, rfl, rfl, by rw [mxL]; exact hm, hb, k _ _ (.inr ⟨id, σ.c, by simp, h2, by simp [St.renew, upd]⟩) ⟨Nat.le_refl _, fun i hi hx => ?_, fun i hi hx => Oth.sl hx.ne⟩⟩
  simp only [St.renew]
  rw [upd_ne _ _ _ _ (fun e => hx.ne e.symm)]
end
theorem NewO.slr {σ : St} {es : Nat} {ty : TypeId} {L : List AV} {r : AV} {τ : St} (h : NewO σ es ty L r τ) : SlR es ty τ L r ∧ σ.n ≤ τ.n ∧ (∀ i, i < σ.n → τ.ob i = σ.ob i) ∧ ∀ i, i < σ.n → Oth r i := by
 obtain ⟨id, g, rfl, h1, h2, h3, h4⟩ := h
 exact ⟨.inr ⟨id, g, rfl, h2, h3⟩, by omega, h4, fun i hi => Oth.sl (by omega)⟩
inductive PubS (σ : St) : List AV → List AV → Prop
 | nil : PubS σ [] []
 | cons {a b : AV} {l r : List AV} (h : Pub σ a b) (k : PubS σ l r) : PubS σ (a :: l) (b :: r)
theorem PubS.get {σ : St} {l r : List AV} (h : PubS σ l r) : l.length = r.length ∧ ∀ (i : Nat) (x y : AV), l[i]? = some x → r[i]? = some y → Pub σ x y := by
 induction h with
 | nil => exact ⟨rfl, fun i x y h => by simp at h⟩
 | cons h k ih =>
  refine ⟨by simp [ih.1], fun i x y hx hy => ?_⟩
  cases i with
  | zero => simp at hx hy; subst hx; subst hy; exact h
  | succ i => exact ih.2 i x y (by simpa using hx) (by simpa using hy)
theorem Pub.ag {σ : St} {l r : List AV} (h : PubS σ l r) : Pub σ (.agg l) (.agg r) := .agg h.get.1 h.get.2
theorem Pub.tu {σ : St} {l r : List AV} (h : PubS σ l r) : Pub σ (.tuple l) (.tuple r) := .tuple h.get.1 h.get.2
theorem Pub.e {σ : St} {a : AV} (h : a.pur = true) : Pub σ a a := .pure h
def NlR (a b : AV) : Prop := ∀ (S : Nat → Prop) (w : World) (v : Value), VP S w a v → VP S w b v
theorem NlR.rfl {a : AV} : NlR a a := fun _ _ _ h => h
theorem NlR.nil (es : Nat) : NlR .nil (.list es []) := fun S w v h => by cases h; exact .listNil _ _ _
inductive NlRs : List AV → List AV → Prop
 | nil : NlRs [] []
 | cons {a b : AV} {l r : List AV} (h : NlR a b) (k : NlRs l r) : NlRs (a :: l) (b :: r)
theorem NlRs.get {l r : List AV} (h : NlRs l r) : l.length = r.length ∧ ∀ (j : Nat) (y : AV), r[j]? = some y → ∃ x, l[j]? = some x ∧ NlR x y := by
 induction h with
 | nil => exact ⟨Eq.refl _, fun j y h => by simp at h⟩
 | cons h k ih =>
  refine ⟨by simp [ih.1], fun j y hy => ?_⟩
  cases j with
  | zero => simp at hy; subst hy; exact ⟨_, Eq.refl _, h⟩
  | succ j => exact ih.2 j y (by simpa using hy)
theorem NlRs.refl : ∀ (l : List AV), NlRs l l
 | [] => .nil
 | _ :: l => .cons .rfl (NlRs.refl l)
theorem NlR.agg {l r : List AV} (h : NlRs l r) : NlR (.agg l) (.agg r) := fun S w v hv => by
 cases hv with
 | agg hl hh =>
  refine .agg (by rw [hl, h.get.1]) fun j y u hy hu => ?_
  obtain ⟨x, hx, hxy⟩ := h.get.2 j y hy
  exact hxy S w u (hh j x u hx hu)
theorem pc_nl {P : Program} {f : Nat} {args args' : List AV} {r : AV} (h : PC P f args' r) (k : NlRs args args') : PC P f args r :=
 ⟨h.1, fun S w vs hlt hv => h.2 S w vs hlt ⟨by rw [hv.1, k.get.1], fun j y u hy hu => by obtain ⟨x, hx, hxy⟩ := k.get.2 j y hy; exact hxy S w u (hv.2 j x u hx hu)⟩⟩
def ER (es : Nat) (σ : St) (L : List AV) (E : AV) : Prop :=
 (E = .nil ∧ L = []) ∨ E = .list es L ∨ ∃ id g off o, E = .sl id g es off L.length ∧ id < σ.n ∧ σ.ob id = some o ∧ o.g = g ∧ o.es = es ∧ off + L.length ≤ o.l.length ∧ (o.l.drop off).take L.length = L
theorem hkeep_lt {af : List Nat} {R : List (Nat × Nat)} {ob ob' : Nat → Option AObj} {n : Nat} (h : ∀ x ∈ R, x.2 < n) (k : ∀ i, i < n → ob' i = ob i) : hkeep af R ob ob' := fun x hx => .inr (k _ (h x hx))
theorem tagR_lt {p n : Nat} {l : List Nat} (h : ∀ i ∈ l, i < n) : ∀ x ∈ tagR p l, x.2 < n := fun x hx => by
 obtain ⟨i, hi, rfl⟩ := List.mem_map.1 hx
 exact h i hi
theorem app_lt {n : Nat} {R S : List (Nat × Nat)} (h : ∀ x ∈ R, x.2 < n) (k : ∀ x ∈ S, x.2 < n) : ∀ x ∈ R ++ S, x.2 < n := fun x hx => (List.mem_append.1 hx).elim (h x) (k x)
section
variable {es : Nat} {σ τ : St} {L : List AV} {E : AV}
theorem ER.of_slr {ty : TypeId} (h : SlR es ty σ L E) : ER es σ L E := by
 rcases h with h | ⟨id, g, rfl, h2, h3⟩
 ·exact .inl h
 ·exact .inr (.inr ⟨id, g, 0, _, rfl, h2, h3, rfl, rfl, by simp, by simp⟩)
theorem ER.of_sl {id g : Nat} {ty : TypeId} {ro ap : Bool} (h : σ.ob id = some ⟨g, es, ty, ro, ap, L⟩) (hn : id < σ.n) : ER es σ L (.sl id g es 0 L.length) := .inr (.inr ⟨id, g, 0, _, rfl, hn, h, rfl, rfl, by simp, by simp⟩)
theorem ER.list (es : Nat) (σ : St) (L : List AV) : ER es σ L (.list es L) := .inr (.inl rfl)
theorem ER.one (h : ER es σ L E) : E.one = true := by rcases h with ⟨rfl, _⟩ | rfl | ⟨_, _, _, _, rfl, _⟩ <;> rfl
theorem ER.flat (h : ER es σ L E) : E.flat = true := by rcases h with ⟨rfl, _⟩ | rfl | ⟨_, _, _, _, rfl, _⟩ <;> rfl
theorem ER.cells (h : ER es σ L E) : E.cells = [E] := by rcases h with ⟨rfl, _⟩ | rfl | ⟨_, _, _, _, rfl, _⟩ <;> rfl
theorem ER.oid (h : ER es σ L E) : ∀ i ∈ E.oid, i < σ.n := by
 rcases h with ⟨rfl, _⟩ | rfl | ⟨id, _, _, _, rfl, h, _⟩ <;> intro i hi
 ·cases hi
 ·cases hi
 ·obtain rfl : i = id := by simpa [AV.oid] using hi
  exact h
theorem ER.move (h : ER es σ L E) (hn : σ.n ≤ τ.n) (ho : ∀ i, i < σ.n → ¬ Oth E i → ∀ o, σ.ob i = some o → ∃ b, τ.ob i = some { o with ro := b }) : ER es τ L E := by
 rcases h with h | h | ⟨id, g, off, o, rfl, h1, h2, h3, h4, h5, h6⟩
 ·exact .inl h
 ·exact .inr (.inl h)
 ·obtain ⟨b, hb⟩ := ho id h1 (fun h => h _ _ _ _ rfl) o h2
  exact .inr (.inr ⟨id, g, off, _, rfl, Nat.lt_of_lt_of_le h1 hn, hb, h3, h4, h5, h6⟩)
theorem ER.keep (h : ER es σ L E) (hn : σ.n ≤ τ.n) (ho : ∀ i, i < σ.n → ¬ Oth E i → τ.ob i = σ.ob i) : ER es τ L E :=
 h.move hn fun i hi h2 o h3 => ⟨o.ro, by rw [ho i hi h2]; exact h3⟩
theorem ER.pub (h : ER es σ L E) (hp : ∀ x ∈ L, x.pur = true) (hk : ∀ x ∈ L, okE es x) (ho : ∀ i, i < σ.n → ¬ Oth E i → ∀ o, σ.ob i = some o → ∃ b, τ.ob i = some { o with ro := b }) : Pub τ E (.list es L) := by
 rcases h with ⟨rfl, rfl⟩ | rfl | ⟨id, g, off, o, rfl, h1, h2, h3, h4, h5, h6⟩
 ·exact .nl es
 ·exact .pure rfl
 ·obtain ⟨b, hb⟩ := ho id h1 (fun h => h _ _ _ _ rfl) o h2
  refine .sl hb h3 h4 h5 (by simp only []; rw [h6]) (fun i x y hx hy => ?_) hk
  simp only [] at hx
  rw [h6, hy] at hx
  obtain rfl := Option.some.inj hx
  exact .pure (hp _ (List.mem_of_getElem? hy))
theorem ER.pub' (h : ER es σ L E) (hp : ∀ x ∈ L, x.pur = true) (hk : ∀ x ∈ L, okE es x) : Pub σ E (.list es L) := h.pub hp hk fun i _ _ o h => ⟨o.ro, h⟩
theorem ER.len (h : ER es σ L E) {K : AV → St → Prop} (k : K (.int .i64 L.length) σ) : lenC E σ K := by
 rcases h with ⟨rfl, rfl⟩ | rfl | ⟨id, g, off, o, rfl, _⟩
 ·simpa [lenC] using k
 ·simpa [lenC] using k
 ·simpa [lenC] using k
theorem ER.drop {K : AV → St → Prop} {kd : IntKind} {lo : Int} {k : Nat} (h : ER es σ L E) (hlo : lo = k) (hk : k ≤ L.length) (f : ∀ E', ER es σ (L.drop k) E' → (∀ i, Oth E i → Oth E' i) → K E' σ) : slcC es E (some (.int kd lo)) none σ K := by
 subst hlo
 rcases h with ⟨rfl, rfl⟩ | rfl | ⟨id, g, off, o, rfl, h1, h2, h3, h4, h5, h6⟩
 ·obtain rfl : k = 0 := by simpa using hk
  exact ⟨by simp, by simp, f _ (.inl ⟨rfl, rfl⟩) fun _ h => h⟩
 ·refine ⟨rfl, by omega, by simpa using hk, ?_⟩
  show K (.list es ((L.take L.length).drop (k : Int).toNat)) σ
  rw [List.take_length, Int.toNat_natCast]
  exact f _ (.inr (.inl rfl)) fun _ _ _ _ _ _ h => (by cases h)
 ·refine ⟨rfl, ⟨_, h2, h3⟩, by omega, by simpa using hk, ?_⟩
  show ((k : Int).toNat = L.length → K (.list es []) σ) ∧ ((k : Int).toNat < L.length → K (.sl id g es (off + (k : Int).toNat) (L.length - (k : Int).toNat)) σ)
  rw [Int.toNat_natCast]
  refine ⟨fun h => f _ (.inr (.inl ?_)) fun _ _ _ _ _ _ h => (by cases h), fun h => f _ (.inr (.inr ⟨id, g, off + k, o, by simp, h1, h2, h3, h4, by simp; omega, ?_⟩)) fun i hi => Oth.sl (Oth.ne hi)⟩
  ·rw [h, List.drop_length]
  ·have := congrArg (List.drop k) h6
   rw [← this]
   simp [List.drop_take, Nat.min_eq_left (show L.length - k ≤ o.l.length - (off + k) by omega)]
theorem ER.take {K : AV → St → Prop} {kd : IntKind} {hi : Int} {k : Nat} (h : ER es σ L E) (hhi : hi = k) (hk : k ≤ L.length) (f : ∀ E', ER es σ (L.take k) E' → (∀ i, Oth E i → Oth E' i) → K E' σ) : slcC es E none (some (.int kd hi)) σ K := by
 subst hhi
 rcases h with ⟨rfl, rfl⟩ | rfl | ⟨id, g, off, o, rfl, h1, h2, h3, h4, h5, h6⟩
 ·obtain rfl : k = 0 := by simpa using hk
  exact ⟨by simp, by simp, f _ (.inl ⟨rfl, rfl⟩) fun _ h => h⟩
 ·refine ⟨rfl, by omega, by simpa using hk, ?_⟩
  show K (.list es ((L.take (k : Int).toNat).drop 0)) σ
  rw [List.drop_zero, Int.toNat_natCast]
  exact f _ (.inr (.inl rfl)) fun _ _ _ _ _ _ h => (by cases h)
 ·refine ⟨rfl, ⟨_, h2, h3⟩, by omega, by simpa using hk, ?_⟩
  show (0 = (k : Int).toNat → K (.list es []) σ) ∧ (0 < (k : Int).toNat → K (.sl id g es off (k : Int).toNat) σ)
  rw [Int.toNat_natCast]
  refine ⟨fun h => f _ (.inr (.inl ?_)) fun _ _ _ _ _ _ h => (by cases h), fun h => f _ (.inr (.inr ⟨id, g, off, o, by simp [Nat.min_eq_left hk], h1, h2, h3, h4, by simp; omega, ?_⟩)) fun i hi => Oth.sl (Oth.ne hi)⟩
  ·rw [← h]; simp
  ·have := congrArg (List.take k) h6
   rw [← this]
   simp [List.take_take, Nat.min_eq_left (show min k L.length ≤ o.l.length - off by omega)]
theorem app_er {b : Nat} {ty : TypeId} {X : AV} {K : AV → St → Prop} (h : ER es σ L E) (k : appC es b ty X (.list es L) σ K) : appC es b ty X E σ K := by
 rcases h with ⟨rfl, rfl⟩ | rfl | ⟨id, g, off, o, rfl, h1, h2, h3, h4, h5, h6⟩
 ·obtain ⟨_, _, k⟩ := k
  exact ⟨fun _ _ h => (by cases h), fun _ _ _ _ _ h => (by rcases h with h | ⟨_, h⟩ <;> cases h), k⟩
 ·exact k
 ·obtain ⟨_, _, k⟩ := k
  refine ⟨fun _ _ h => (by cases h), fun _ _ _ _ _ h => (by rcases h with h | ⟨_, h⟩ <;> cases h; rfl), o, h2, h3, h4, h5, ?_⟩
  rw [h6]
  exact k
end
def fewB (t : List Int) : Bool := decide ((t.length : Int) ≤ 500)
theorem ok_mk_Few (t : List Int) : PC prog n_mk_Few [.list 1 (ints t)] (.bool (fewB t)) := by
 refine PC_of_body b_mk_Few (by simp) ?_
 simp only [c_mk_Few, go_sem, jA, jB, jC, jD, jE, jF, jG, jH, jI, jJ, ↓reduceIte, reduceCtorEq, jP, ints_length]
 exact Pub.of_eq rfl rfl
theorem eq_of_get {α : Type} {a b : List α} (hl : a.length = b.length) (h : ∀ j, j < a.length → a[j]? = b[j]?) : a = b := by
 apply List.ext_getElem? ; intro j
 by_cases hj : j < a.length
 ·exact h j hj
 ·rw [List.getElem?_eq_none (by omega), List.getElem?_eq_none (by omega)]
theorem shInts {c : List AV} (h : (Sh.slice 1 (.int .i64)).R c) : ∃ L : List Int, c = [.list 1 (ints L)] ∧ L.length ≤ 9223372036854775807 ∧ ∀ n ∈ L, (Lit.int .i64 n).wf = true := by
 obtain ⟨xs, rfl, hl, h⟩ := h
 obtain ⟨L, rfl, hL⟩ := exists_map (f := AV.int .i64) (Q := fun n => (Lit.int .i64 n).wf = true) fun x hx => by
  obtain ⟨cs, hr, _, rfl⟩ := h x hx
  obtain ⟨a, rfl, ha⟩ := hr
  exact ⟨a, ha, rfl⟩
 exact ⟨L, rfl, by simpa using hl, hL⟩
theorem wf_u8 {n : Int} (h : (Lit.int .u8 n).wf = true) : 0 ≤ n ∧ n ≤ 255 := by
 simp [Lit.wf, IntKind.min, IntKind.max, IntKind.signed, IntKind.bits] at h; omega
theorem ok_slices_IndexFunc__int (l : List Int) (hl : l.length ≤ 9223372036854775807) (f : Nat) (caps : List AV) (hcaps : caps.all AV.pur1 = true) (p : Int → Bool) (hp : ∀ x ∈ l, PC prog f (.int .i64 x :: caps) (.bool (p x))) :
  PC prog n_slices_IndexFunc__int [.list 1 (ints l), .func f caps] (.int .i64 (firstIdx p l)) := by
 refine PC_of_body b_slices_IndexFunc__int (by simp) ?_
 simp only [c_slices_IndexFunc__int, go_sem, jA, jB, jC, jD, jE, jF, jG, jH, jI, jJ, ↓reduceIte, reduceCtorEq, jP]
 refine awp_up l.length (fun k e _ => e 0 = .list 1 (ints l) ∧ e 1 = .func f caps ∧ e 7 = .int .i64 l.length ∧ e 8 = .int .i64 k ∧ ∀ j, j < k → ∀ x, l[j]? = some x → p x = false) ?_ ?_
 ·simp [go_sem, ints]
 ·rintro k e ob c hk ⟨h0, h1, h7, h8, hj⟩
  simp (maxSteps := 1000000) only [go_sem, jA, jB, jC, jD, jE, jF, jG, jH, jI, jJ, ↓reduceIte, reduceCtorEq, jP, h7, h8]
  refine cond_d (fun hlt => ?_) (fun hge => ?_)
  ·have hkl : k < l.length := by omega
   have hg : l[k]? = some l[k] := List.getElem?_eq_getElem hkl
   simp (maxSteps := 1000000) only [go_sem, jA, jB, jC, jD, jE, jF, jG, jH, jI, jJ, ↓reduceIte, reduceCtorEq, jP, h0, h1, h8, ints, hg]
   refine ⟨by omega, by omega, call_pc (hp _ (List.getElem_mem hkl)) (by simp only [List.all_eq_true] at hcaps; simp [go_sem]; intro a ha; have := hcaps a ha; cases a <;> simp_all [AV.pur, AV.pur1]) ?_⟩
   try simp (maxSteps := 1000000) only [go_sem, jA, jB, jC, jD, jE, jF, jG, jH, jI, jJ, ↓reduceIte, reduceCtorEq, jP]
   refine cond_split (fun hp1 => ?_) (fun hp0 => ?_) <;> simp (maxSteps := 1000000) only [go_sem, jA, jB, jC, jD, jE, jF, jG, jH, jI, jJ, ↓reduceIte, reduceCtorEq, jP, h8]
   ·exact Pub.of_eq (by rw [firstIdx_at p l k hkl hj hp1]) rfl
   ·simp (disch := omega) only [jO]
    exact up_next hkl ⟨by simp [go_sem, h0, ints], by simp [go_sem, h1], by simp [go_sem, h7], by simp [go_sem], lt_snoc hj hkl hp0⟩
  ·try simp (maxSteps := 1000000) only [go_sem, jA, jB, jC, jD, jE, jF, jG, jH, jI, jJ, ↓reduceIte, reduceCtorEq, jP]
   exact Pub.of_eq (by rw [firstIdx_none p l (fun j hj' => hj j (by omega))]) rfl
theorem ok_slices_ContainsFunc__int (l : List Int) (hl : l.length ≤ 9223372036854775807) (f : Nat) (caps : List AV) (hcaps : caps.all AV.pur1 = true) (p : Int → Bool) (hp : ∀ x ∈ l, PC prog f (.int .i64 x :: caps) (.bool (p x))) :
  PC prog n_slices_ContainsFunc__int [.list 1 (ints l), .func f caps] (.bool (l.any p)) := by
 refine PC_of_body b_slices_ContainsFunc__int (by simp) ?_
 simp only [c_slices_ContainsFunc__int, go_sem, jA, jB, jC, jD, jE, jF, jG, jH, jI, jJ, ↓reduceIte, reduceCtorEq, jP]
 refine call_pc (ok_slices_IndexFunc__int l hl f caps hcaps p hp) (by simp [go_sem, hcaps]) ?_
 try simp (maxSteps := 1000000) only [go_sem, jA, jB, jC, jD, jE, jF, jG, jH, jI, jJ, ↓reduceIte, reduceCtorEq, jP]
 exact Pub.of_eq (by rw [firstIdx_any]) rfl
abbrev ty_el_int : TypeId := 3
theorem hcl_slices_Clone__int (σ : St) (L : List AV) (hl : L.length * 8 ≤ 140737488355328) : HC prog n_slices_Clone__int [.list 1 L] σ (NewO σ 1 ty_el_int L) := by
 refine HC_of_body b_slices_Clone__int (by simp) ?_
 obtain ⟨ob, n, c⟩ := σ
 simp only [c_slices_Clone__int, go_sem, jA, jB, jC, jD, jE, jF, jG, jH, jI, jJ, ↓reduceIte, reduceCtorEq, jP]
 refine isnil_l (fun h => ?_) (fun h => ?_)
 ·subst h
  refine ⟨?_, ?_⟩
  ·try simp (disch := omega) only [go_sem, jA, jB, jC, jD, jE, jF, jG, jH, jI, jJ, ↓reduceIte, reduceCtorEq, jO, jM, jN, jK, jL]
   refine ⟨_, _, rfl, Nat.le_succ _, Nat.lt_succ_self _, (by first | rfl | (simp (disch := omega) only [go_sem, jA, jB, jC, jD, jE, jF, jG, jH, jI, jJ, ↓reduceIte, reduceCtorEq, jP, jO, jM, jN]; try rfl)), fun i hi => ?_⟩
   simp only at hi
   try simp (disch := omega) only [go_sem, jA, jB, jC, jD, jE, jF, jG, jH, jI, jJ, ↓reduceIte, reduceCtorEq, jO, jM, jN, jK, jL]
  ·try simp (disch := omega) only [go_sem, jA, jB, jC, jD, jE, jF, jG, jH, jI, jJ, ↓reduceIte, reduceCtorEq, jO, jM, jN, jK, jL]
   repeat (refine And.intro (by first | omega | (rw [mxL]; omega) | (simp [maxLen]; done) | (simp [maxLen]; omega)) ?_)
   refine ⟨_, _, rfl, Nat.le_succ _, Nat.lt_succ_self _, (by first | rfl | (simp (disch := omega) only [go_sem, jA, jB, jC, jD, jE, jF, jG, jH, jI, jJ, ↓reduceIte, reduceCtorEq, jP, jO, jM, jN]; try rfl)), fun i hi => ?_⟩
   simp only at hi
   try simp (disch := omega) only [go_sem, jA, jB, jC, jD, jE, jF, jG, jH, jI, jJ, ↓reduceIte, reduceCtorEq, jO, jM, jN, jK, jL]
 ·try simp (disch := omega) only [go_sem, jA, jB, jC, jD, jE, jF, jG, jH, jI, jJ, ↓reduceIte, reduceCtorEq, jO, jM, jN, jK, jL]
  repeat (refine And.intro (by first | omega | (rw [mxL]; omega) | (simp [maxLen]; done) | (simp [maxLen]; omega)) ?_)
  refine ⟨_, _, rfl, Nat.le_succ _, Nat.lt_succ_self _, (by first | rfl | (simp (disch := omega) only [go_sem, jA, jB, jC, jD, jE, jF, jG, jH, jI, jJ, ↓reduceIte, reduceCtorEq, jP, jO, jM, jN]; try rfl)), fun i hi => ?_⟩
  simp only at hi
  try simp (disch := omega) only [go_sem, jA, jB, jC, jD, jE, jF, jG, jH, jI, jJ, ↓reduceIte, reduceCtorEq, jO, jM, jN, jK, jL]
theorem okl_slices_Clone__int (L : List AV) (hl : L.length * 8 ≤ 140737488355328) (hp : ∀ x ∈ L, x.pur = true) (hk : ∀ x ∈ L, okE 1 x) : PC prog n_slices_Clone__int [.list 1 L] (.list 1 L) :=
 PC_of_HC b_slices_Clone__int ((hcl_slices_Clone__int St.empty L hl).mono fun r τ ⟨id, g, h1, _, _, h2, _⟩ => by rw [h1]; exact Pub.of_sl h2 rfl hp hk)
theorem ints_drop (l : List Int) (k : Nat) : (ints l).drop k = ints (l.drop k) := by simp [ints]
theorem ints_app (l r : List Int) : ints l ++ ints r = ints (l ++ r) := by simp [ints]
theorem ints_one (x : Int) : [AV.int .i64 x] = ints [x] := rfl
def minS : List Int → Int
 | [] => 0
 | a :: l => l.foldl min a
theorem foldl_min (l : List Int) : ∀ a b : Int, l.foldl min (min a b) = min a (l.foldl min b) := by
 induction l with
 | nil => intro a b; rfl
 | cons c l ih => intro a b; simp only [List.foldl_cons]; rw [show min (min a b) c = min a (min b c) by omega, ih]
theorem minS_cons (a : Int) (l : List Int) (h : l ≠ []) : minS (a :: l) = min a (minS l) := by
 cases l with
 | nil => exact absurd rfl h
 | cons b l => simp only [minS, List.foldl_cons]; rw [foldl_min]
theorem minS_mem : ∀ (l : List Int), l ≠ [] → minS l ∈ l
 | [a], _ => by simp [minS]
 | a :: b :: l, _ => by
  have ih := minS_mem (b :: l) (by simp)
  rw [minS_cons a _ (by simp)]
  rcases Int.le_total a (minS (b :: l)) with h | h
  ·rw [Int.min_eq_left h]; simp
  ·rw [Int.min_eq_right h]; exact List.mem_cons_of_mem _ ih
theorem take_snoc {α : Type} (l : List α) (k : Nat) (h : k < l.length) : l.take (k + 1) = l.take k ++ [l[k]] := by rw [List.take_add_one, List.getElem?_eq_getElem h]; rfl
def lls (ls : List (List Int)) : List AV := ls.map fun l => .list 1 (ints l)
theorem lls_length (l : List (List Int)) : (lls l).length = l.length := by simp [lls]
theorem lls_get (l : List (List Int)) (i : Nat) : (lls l)[i]? = (l[i]?).map (fun l => AV.list 1 (ints l)) := by simp [lls]
def tot (ls : List (List Int)) : Nat := (ls.map List.length).sum
def okFl (l : List Int) : Prop := ∀ x ∈ l, 0 ≤ x ∧ x ≤ 1073741824
def lastW (l : List Int) (w : Int) : List Int := l.drop (l.length - w.toNat)
def leastR (l : List Int) (w : Int) : Int × Bool := if w < 1 ∨ l = [] then (0, false) else (minS (lastW l w), true)
theorem lastW_ne {l : List Int} {w : Int} (hw : 1 ≤ w) (hl : l ≠ []) : lastW l w ≠ [] := by
 have := List.length_pos_iff.2 hl
 intro h
 have := congrArg List.length h
 simp [lastW] at this
 omega
theorem leastR_bd {l : List Int} {w : Int} (h : okFl l) : 0 ≤ (leastR l w).1 ∧ (leastR l w).1 ≤ 1073741824 := by
 unfold leastR
 split
 ·simp
 ·rename_i hh
  have hl : l ≠ [] := fun h => hh (.inr h)
  exact h _ (List.mem_of_mem_drop (minS_mem _ (lastW_ne (by omega) hl)))
def riseS (l : List Int) (w f : Int) : Int := if (leastR l w).2 then max 0 (f - (leastR l w).1) else 0
theorem ok_ref35_least (l : List Int) (w : Int) (hl : l.length ≤ 4611686018427387904) (hw : w ≤ 9223372036854775807) : PC prog n_ref35_least [.list 1 (ints l), .int .i64 w] (.tuple [.int .i64 (leastR l w).1, .bool (leastR l w).2]) := by
 refine PC_of_body b_ref35_least (by simp) ?_
 simp only [c_ref35_least, go_sem, jA, jB, jC, jD, jE, jF, jG, jH, jI, jJ, ↓reduceIte, reduceCtorEq, jP, ints_length]
 refine gd_fd rfl (fun h => ?_) (fun h => ?_) <;> simp (maxSteps := 1000000) only [go_sem, jA, jB, jC, jD, jE, jF, jG, jH, jI, jJ, ↓reduceIte, reduceCtorEq, jP, ints_length]
 ·rw [show leastR l w = (0, false) by unfold leastR; rw [if_pos (.inl h)]]
  exact Pub.of_eq rfl (by simp [go_sem, AV.pur])
 refine cond_d (fun h0 => ?_) (fun h0 => ?_) <;> simp (maxSteps := 1000000) only [go_sem, jA, jB, jC, jD, jE, jF, jG, jH, jI, jJ, ↓reduceIte, reduceCtorEq, jP, ints_length]
 ·have : l = [] := List.eq_nil_of_length_eq_zero (by omega)
  rw [show leastR l w = (0, false) by unfold leastR; rw [if_pos (.inr this)]]
  exact Pub.of_eq rfl (by simp [go_sem, AV.pur])
 have hne : l ≠ [] := fun h => h0 (by rw [h]; rfl)
 have hp := List.length_pos_iff.2 hne
 have hgl : l.length - 1 < l.length := by omega
 simp (maxSteps := 1000000) (disch := omega) only [go_sem, jA, jB, jC, jD, jE, jF, jG, jH, jI, jJ, ↓reduceIte, reduceCtorEq, jP, jO, ints_length, ints_get, show ((l.length : Int) - 1).toNat = l.length - 1 by omega, List.getElem?_eq_getElem hgl]
 refine ⟨by omega, by omega, ?_⟩
 have hres : leastR l w = (minS (lastW l w), true) := by unfold leastR; rw [if_neg (by rintro (h | h); omega; exact hne h)]
 refine awp_upF [6, 7, 21, 22, 23, 24, 25, 26, 27, 28, 29, 30, 31, 32, 33, 34, 35, 36, 37, 38, 39, 40] (by kernel_rfl) (min w.toNat l.length) (fun r e _ => e 6 = .int .i64 (minS (l.drop (l.length - max r 1))) ∧ e 7 = .int .i64 ((r : Int) + 1)) ?_ ?_
 ·refine ⟨?_, ?_⟩
  ·try simp (maxSteps := 1000000) only [go_sem, jA, jB, jC, jD, jE, jF, jG, jH, jI, jJ, ↓reduceIte, reduceCtorEq, jP]
   rw [show l.length - max 0 1 = l.length - 1 by omega, List.drop_eq_getElem_cons hgl, List.drop_of_length_le (by omega)]
   rfl
  ·simp [go_sem]
 ·rintro r f ob c hr ⟨h6, h7⟩
  simp (maxSteps := 1000000) only [go_sem, jA, jB, jC, jD, jE, jF, jG, jH, jI, jJ, ↓reduceIte, reduceCtorEq, jP] at h6 h7
  simp (maxSteps := 1000000) only [go_sem, jA, jB, jC, jD, jE, jF, jG, jH, jI, jJ, ↓reduceIte, reduceCtorEq, jP, h6, h7, ints_length]
  refine gd_td rfl (fun h1 => ?_) (fun h1 => ?_) <;> simp (maxSteps := 1000000) only [go_sem, jA, jB, jC, jD, jE, jF, jG, jH, jI, jJ, ↓reduceIte, reduceCtorEq, jP, ints_length, h6, h7]
  ·refine cond_d (fun h2 => ?_) (fun h2 => ?_) <;> simp (maxSteps := 1000000) only [go_sem, jA, jB, jC, jD, jE, jF, jG, jH, jI, jJ, ↓reduceIte, reduceCtorEq, jP, ints_length, h6, h7]
   ·have hk : l.length - (r + 1) < l.length := by omega
    simp (maxSteps := 1000000) (disch := omega) only [go_sem, jA, jB, jC, jD, jE, jF, jG, jH, jI, jJ, ↓reduceIte, reduceCtorEq, jP, jO, ints_length, ints_get, h6, h7, show ((l.length : Int) - ((r : Int) + 1)).toNat = l.length - (r + 1) by omega, List.getElem?_eq_getElem hk]
    refine ⟨by omega, by omega, up_next (by omega) ⟨?_, by (try simp (maxSteps := 1000000) only [go_sem, jA, jB, jC, jD, jE, jF, jG, jH, jI, jJ, ↓reduceIte, reduceCtorEq, jP]); rfl⟩⟩
    try simp (maxSteps := 1000000) only [go_sem, jA, jB, jC, jD, jE, jF, jG, jH, jI, jJ, ↓reduceIte, reduceCtorEq, jP]
    rw [show max (r + 1) 1 = r + 1 by omega, List.drop_eq_getElem_cons hk, show l.length - (r + 1) + 1 = l.length - r by omega]
    by_cases hr0 : r = 0
    ·subst hr0
     rw [show l.length - max 0 1 = l.length - 1 by omega, List.drop_of_length_le (by omega : l.length ≤ l.length - 0), List.drop_eq_getElem_cons hgl, List.drop_of_length_le (by omega)]
     simp [minS]
    ·rw [show max r 1 = r by omega, minS_cons _ _ (by intro h; have := congrArg List.length h; simp at this; omega)]
     congr 1; omega
   ·have hrr : max r 1 = max (min w.toNat l.length) 1 := by omega
    rw [hres]
    refine Pub.of_eq ?_ (by simp [go_sem, AV.pur])
    simp only [lastW]
    rw [show l.length - max r 1 = l.length - w.toNat by omega]
  ·rw [hres]
   refine Pub.of_eq ?_ (by simp [go_sem, AV.pur])
   simp only [lastW]
   rw [show l.length - max r 1 = l.length - w.toNat by omega]
theorem ok_ref35_Rise (l : List Int) (w f : Int) (hl : l.length ≤ 4611686018427387904) (hw : w ≤ 9223372036854775807) (hfl : okFl l) (hf : 0 ≤ f ∧ f ≤ 1073741824) : PC prog n_ref35_Rise [.list 1 (ints l), .int .i64 w, .int .i64 f] (.int .i64 (riseS l w f)) := by
 refine PC_of_body b_ref35_Rise (by simp) ?_
 simp only [c_ref35_Rise, go_sem, jA, jB, jC, jD, jE, jF, jG, jH, jI, jJ, ↓reduceIte, reduceCtorEq, jP]
 refine call_pc (ok_ref35_least l w hl hw) (by simp [go_sem]) ?_
 have hb := leastR_bd (w := w) hfl
 unfold riseS
 generalize leastR l w = x at *
 obtain ⟨x, ok⟩ := x
 cases ok with
 | false =>
  try simp (maxSteps := 1000000) only [go_sem, jA, jB, jC, jD, jE, jF, jG, jH, jI, jJ, ↓reduceIte, reduceCtorEq, jP]
  exact Pub.of_eq (by simp) rfl
 | true =>
  simp (maxSteps := 1000000) (disch := omega) only [go_sem, jA, jB, jC, jD, jE, jF, jG, jH, jI, jJ, ↓reduceIte, reduceCtorEq, jP, jO]
  exact Pub.of_eq (by simp) rfl
structure Wt where
 nd : Int
 w : Int
 lim : Int
 ld : Int
 deriving DecidableEq
structure Cs where
 k : Int
 s : Int
 deriving DecidableEq
structure Wn where
 p : Int
 t : Int
 cs : List Cs
 cm : Int
 deriving DecidableEq
structure Bo where
 ps : List Wt
 pa : List (List Int)
 ac : List Wn
 deriving DecidableEq
def wtv (x : Wt) : AV := .agg [.int .i64 x.nd, .int .i64 x.w, .int .i64 x.lim, .int .i64 x.ld]
def wts (l : List Wt) : List AV := l.map wtv
def csv (x : Cs) : AV := .agg [.int .i64 x.k, .int .i64 x.s]
def css (l : List Cs) : List AV := l.map csv
def wnv (x : Wn) : AV := .agg [.int .i64 x.p, .int .i64 x.t, .list 2 (css x.cs), .int .i64 x.cm]
def wns (l : List Wn) : List AV := l.map wnv
def bov (b : Bo) : AV := .agg [.list 4 (wts b.ps), .list 1 (lls b.pa), .list 4 (wns b.ac)]
def boZ : Bo := ⟨[], [], []⟩
def wnZ : Wn := ⟨0, 0, [], 0⟩
theorem wts_length (l : List Wt) : (wts l).length = l.length := by simp [wts]
theorem wts_get (l : List Wt) (i : Nat) : (wts l)[i]? = (l[i]?).map wtv := by simp [wts]
theorem wts_pur (l : List Wt) : ∀ x ∈ wts l, x.pur = true := by simp [wts, wtv, go_sem]
theorem wts_ok (l : List Wt) : ∀ x ∈ wts l, okE 4 x := by simp [wts, wtv, okE, go_sem]
theorem css_length (l : List Cs) : (css l).length = l.length := by simp [css]
theorem css_get (l : List Cs) (i : Nat) : (css l)[i]? = (l[i]?).map csv := by simp [css]
theorem css_pur (l : List Cs) : ∀ x ∈ css l, x.pur = true := by simp [css, csv, go_sem]
theorem css_ok (l : List Cs) : ∀ x ∈ css l, okE 2 x := by simp [css, csv, okE, go_sem]
theorem wns_length (l : List Wn) : (wns l).length = l.length := by simp [wns]
theorem wns_get (l : List Wn) (i : Nat) : (wns l)[i]? = (l[i]?).map wnv := by simp [wns]
theorem wnv_pur (x : Wn) : (wnv x).pur = true := by simp [wnv, go_sem, css_pur]
theorem wns_pur (l : List Wn) : ∀ x ∈ wns l, x.pur = true := by simp [wns, wnv_pur]
theorem wns_ok (l : List Wn) : ∀ x ∈ wns l, okE 4 x := by simp [wns, wnv, okE, go_sem]
theorem lls_pur (l : List (List Int)) : ∀ x ∈ lls l, x.pur = true := by simp [lls, go_sem, ints_pur]
theorem lls_ok (l : List (List Int)) : ∀ x ∈ lls l, okE 1 x := by simp [lls, okE, go_sem]
theorem bov_pur (b : Bo) : (bov b).pur = true := by
 have h1 := wts_pur b.ps
 have h2 := lls_pur b.pa
 have h3 := wns_pur b.ac
 first
  | (simp [bov, go_sem]; done)
  | (simp [bov, go_sem]; exact ⟨h1, h2, h3⟩)
def inW (x a b : Int) : Bool := decide (a ≤ x) && decide (x ≤ b)
def chB {α : Type} (R : α → α → Bool) : α → List α → Bool
 | _, [] => true
 | s, o :: r => R s o && chB R o r
def prG {α : Type} (s : α) (l : List α) (k : Nat) : α := if k = 0 then s else (l[k - 1]?).getD s
theorem chB_step {α : Type} (R : α → α → Bool) : ∀ (l : List α) (s : α) (k : Nat) (hk : k < l.length), chB R s (l.take (k + 1)) = (chB R s (l.take k) && R (prG s l k) l[k])
 | [], _, k, hk => by simp at hk
 | o :: r, s, 0, _ => by simp [chB, prG]
 | o :: r, s, k + 1, hk => by
  have hk' : k < r.length := by simpa using hk
  simp only [List.take_succ_cons, chB, List.getElem_cons_succ]
  rw [chB_step R r o k hk', Bool.and_assoc]
  congr 3
  cases k with
  | zero => simp [prG]
  | succ k =>
   have : r[k]? = some r[k] := List.getElem?_eq_getElem (by omega)
   simp [prG, this]
theorem chB_take {α : Type} (R : α → α → Bool) : ∀ (l : List α) (s : α) (k : Nat), chB R s l = true → chB R s (l.take k) = true
 | [], _, k, _ => by simp [chB]
 | o :: r, s, 0, _ => by simp [chB]
 | o :: r, s, k + 1, h => by
  simp only [chB, Bool.and_eq_true, List.take_succ_cons] at h ⊢
  exact ⟨h.1, chB_take R r o k h.2⟩
theorem chB_bad {α : Type} {R : α → α → Bool} {s : α} {l : List α} {k : Nat} (hk : k < l.length) (h : R (prG s l k) l[k] = false) : chB R s l = false := by
 cases e : chB R s l with
 | false => rfl
 | true =>
  have h1 := chB_take R l s (k + 1) e
  rw [chB_step R l s k hk, h, Bool.and_false] at h1
  cases h1
theorem chB_go {α : Type} {R : α → α → Bool} {s : α} {l : List α} {k : Nat} (hk : k < l.length) (h : chB R s (l.take k) = true) (h2 : R (prG s l k) l[k] = true) : chB R s (l.take (k + 1)) = true := by
 rw [chB_step R l s k hk, h, h2]; rfl
theorem prG_succ {α : Type} {s : α} {l : List α} {k : Nat} (hk : k < l.length) : prG s l (k + 1) = l[k] := by
 simp [prG, List.getElem?_eq_getElem hk]
theorem all_go {α : Type} {p : α → Bool} {l : List α} {k : Nat} (hk : k < l.length) (h : (l.take k).all p = true) (h2 : p l[k] = true) : (l.take (k + 1)).all p = true := by
 rw [take_snoc l k hk, List.all_append, h]; simp [h2]
theorem all_bad {α : Type} {p : α → Bool} {l : List α} {k : Nat} (hk : k < l.length) (h : p l[k] = false) : l.all p = false := by
 rw [List.all_eq_false]; exact ⟨_, List.getElem_mem hk, by simp [h]⟩
def flB (x : Int) : Bool := inW x 0 1073741824
def flsB (l : List Int) : Bool := l.all flB
theorem flsB_ok {l : List Int} (h : flsB l = true) : okFl l := fun x hx => by
 have := List.all_eq_true.1 h x hx
 simpa [flB, inW] using this
def wtB (p : Wt) : Bool := inW p.nd 0 11 && inW p.w 1 96 && inW p.ld 1 96 && inW p.lim 0 1073741824
def watE (l : List Wt) : Int := if 8 < l.length then 10 else if l.all wtB then 0 else 52
def csB (c : Cs) : Bool := inW c.k 1 4 && inW c.s 0 5
def csL (a b : Cs) : Bool := decide (a.k < b.k) || (decide (a.k = b.k) && decide (a.s < b.s))
def csR (a c : Cs) : Bool := csB c && csL a c
def cauB (l : List Cs) : Bool := chB csR ⟨0, 0⟩ l
def wnB (w : Wn) : Bool := inW w.t 0 16777216 && cauB w.cs && inW w.cm 0 96 && (decide (w.cs = []) || decide (w.cm = 0))
def wnR (n : Nat) (a w : Wn) : Bool := decide (a.p < w.p) && decide (w.p < n) && wnB w
def paB (x : Wt × List Int) : Bool := decide ((x.2.length : Int) ≤ x.1.w) && flsB x.2
def wn0 : Wn := ⟨-1, 0, [], 0⟩
def vdB (b : Bo) : Bool := decide (b.ps.length ≤ 8) && b.ps.all wtB && decide (b.pa.length = b.ps.length) && (b.ps.zip b.pa).all paB && chB (wnR b.ps.length) wn0 b.ac
def chkE (b : Bo) : Int := if vdB b then 0 else 50
structure BoL (b : Bo) : Prop where
 p : b.ps.length ≤ 9223372036854775807
 q : b.pa.length ≤ 9223372036854775807
 l : ∀ x ∈ b.pa, x.length ≤ 9223372036854775807
 a : b.ac.length ≤ 9223372036854775807
 c : ∀ w ∈ b.ac, w.cs.length ≤ 9223372036854775807
theorem watE_ok {l : List Wt} : watE l = 0 ↔ l.length ≤ 8 ∧ l.all wtB = true := by
 unfold watE
 split
 ·constructor
  ·intro h; cases h
  ·intro h; omega
 ·split
  ·rename_i h1 h2; exact ⟨fun _ => ⟨by omega, h2⟩, fun _ => rfl⟩
  ·rename_i h1 h2; exact ⟨fun h => (by cases h), fun h => absurd h.2 h2⟩
theorem vdB_eq {b : Bo} : vdB b = (decide (watE b.ps = 0) && decide (b.pa.length = b.ps.length) && (b.ps.zip b.pa).all paB && chB (wnR b.ps.length) wn0 b.ac) := by
 unfold vdB
 congr 3
 rw [Bool.eq_iff_iff]
 simp [watE_ok]
def lexC : List Int → List Int → Int
 | [], [] => 0
 | [], _ :: _ => -1
 | _ :: _, [] => 1
 | a :: r, b :: s => if a < b then -1 else if b < a then 1 else lexC r s
theorem lexC_lt (a b c d : Int) : (lexC [a, b] [c, d] < 0) = (csL ⟨a, b⟩ ⟨c, d⟩ = true) := by
 simp only [lexC, csL, Bool.or_eq_true, Bool.and_eq_true, decide_eq_true_eq, eq_iff_iff]
 split
 ·omega
 ·split
  ·omega
  ·split
   ·omega
   ·split <;> omega
theorem lexC_le (a b c d : Int) : (lexC [a, b] [c, d] ≤ 0) = (csL ⟨c, d⟩ ⟨a, b⟩ = false) := by
 simp only [lexC, csL, Bool.or_eq_false_iff, Bool.and_eq_false_iff, decide_eq_false_iff_not, eq_iff_iff]
 split
 ·omega
 ·split
  ·omega
  ·split
   ·omega
   ·split <;> omega
end Go.Proofs.Try
