/- OWN WORK, put together by tools/asm.py, seat.py, mini.py. -/
import Derived.Test.YtkbpllahboofgaaCode
import Derived.RangeFuncBox
import Derived.RangeFuncCalls
import Derived.RangeFuncLeaves
import Derived.Shelf.Abstract
import Derived.WalkKit
import Derived.OwnWalkIn
import Derived.TacticsInMore
import Derived.LoopNIn
import Derived.LoopIn
set_option linter.unusedSimpArgs false
set_option linter.unusedVariables false
set_option maxRecDepth 100000
set_option maxHeartbeats 1000000
namespace Go.Proofs.Try
open Go.Ab Go
open Int renaming reduceEq → jA, reduceLT → jB, reduceLE → jC, reduceToNat → jD
open Go.Ab renaming w_ite_ne → jM, w_ite_lt → jN, wrap_id → jO, w_app_nl → jP
open Nat renaming reduceLT → jE, reduceEqDiff → jF, reduceAdd → jG, reduceLeDiff → jH, reduceSub → jI, reduceMul → jJ, sub_zero → jK, sub_self → jL
theorem tmod_mod (n k : Int) (hk : 0 < k) : (n.tmod k + k).tmod k = n % k := by
 have h2 := Int.tmod_eq_emod (a := n) (b := k)
 have h3 := Int.emod_nonneg n (show k ≠ 0 by omega)
 have h4 := Int.emod_lt_of_pos n hk
 have h5 : 0 ≤ n.tmod k + k := by rw [h2]; split <;> omega
 rw [Int.tmod_eq_emod_of_nonneg h5, Int.add_emod_right, h2]
 split
 ·simp
 ·rw [show ((k.natAbs : Nat) : Int) = k by omega, Int.sub_emod_right]; exact Int.emod_emod_of_dvd n (Int.dvd_refl k)
theorem tmod_bd (n k : Int) (hk : 0 < k) : -k < n.tmod k ∧ n.tmod k < k := by
 have h2 := Int.tmod_eq_emod (a := n) (b := k)
 have h3 := Int.emod_nonneg n (show k ≠ 0 by omega)
 have h4 := Int.emod_lt_of_pos n hk
 by_cases h : 0 ≤ n ∨ k ∣ n
 ·rw [if_pos h] at h2; omega
 ·rw [if_neg h] at h2
  have : n % k ≠ 0 := fun h0 => h (.inr (Int.dvd_of_emod_eq_zero h0))
  omega
def ints (l : List Int) : List AV := l.map (.int .i64)
theorem ints_length (l : List Int) : (ints l).length = l.length := by simp [ints]
theorem ints_get (l : List Int) (i : Nat) : (ints l)[i]? = (l[i]?).map (AV.int .i64) := by simp [ints]
theorem ints_pur (l : List Int) : ∀ x ∈ ints l, x.pur = true := by simp [ints, go_sem]
theorem ints_ok (l : List Int) : ∀ x ∈ ints l, okE 1 x := by simp [ints, okE, go_sem]
structure Bd where
 lo : Int
 hi : Int
 deriving DecidableEq, Inhabited
def bdv (b : Bd) : AV := .agg [.int .i64 b.lo, .int .i64 b.hi]
def bds (l : List Bd) : List AV := l.map bdv
theorem bds_length (l : List Bd) : (bds l).length = l.length := by simp [bds]
theorem bds_get (l : List Bd) (i : Nat) : (bds l)[i]? = (l[i]?).map bdv := by simp [bds]
theorem bds_pur (l : List Bd) : ∀ x ∈ bds l, x.pur = true := by simp [bds, bdv, go_sem]
theorem bds_ok (l : List Bd) : ∀ x ∈ bds l, okE 2 x := by simp [bds, bdv, okE, go_sem]
def runS {α : Type} (f : α → α) (b : α) : Nat → α
 | 0 => b
 | k + 1 => f (runS f b k)
theorem ok_mk_Mod (n k : Int) (hk : 0 < k) (hk2 : k ≤ 4611686018427387904) : PC prog n_mk_Mod [.int .i64 n, .int .i64 k] (.int .i64 (n % k)) := by
 have h1 := tmod_bd n k hk
 refine PC_of_body b_mk_Mod (by simp) ?_
 simp (disch := omega) only [c_mk_Mod, go_sem, jA, jB, jC, jD, jE, jF, jG, jH, jI, jJ, ↓reduceIte, reduceCtorEq, jP, jO]
 exact ⟨by omega, by omega, Pub.of_eq (by rw [tmod_mod n k hk]) rfl⟩
def deckV (l : List Int) (at' : Nat) : AV := .agg [.list 1 (ints l), .int .i64 at']
def deckR (l : List Int) (at' : Nat) (n : Int) : Int × Nat := if n < 1 ∨ l.length ≤ at' then (0, at') else (l.getD at' 0 % n, at' + 1)
theorem deckR_bd (l : List Int) (at' : Nat) (n : Int) : 0 ≤ (deckR l at' n).1 ∧ ((deckR l at' n).1 = 0 ∨ (deckR l at' n).1 < n) := by
 unfold deckR
 split
 ·simp
 ·have h1 := Int.emod_nonneg (l.getD at' 0) (show n ≠ 0 by omega)
  have h2 := Int.emod_lt_of_pos (l.getD at' 0) (show 0 < n by omega)
  exact ⟨h1, .inr h2⟩
theorem upd_self {α : Type} (f : Nat → α) (i : Nat) (x : α) (h : f i = x) : upd f i x = f := by
 funext j; by_cases e : j = i
 ·subst e; rw [upd_same, h]
 ·rw [upd_ne _ _ _ _ e]
abbrev ty_Deck : TypeId := 63
theorem ok_mk_New (σ : St) (l : List Int) : HC prog n_mk_New [.list 1 (ints l)] σ (fun r σ' => r = .ptr σ.n σ.c 2 0 0 ∧ σ' = σ.push 2 ty_Deck [deckV l 0]) := by
 refine HC_of_body b_mk_New (by simp) ?_
 simp only [c_mk_New, go_sem, jA, jB, jC, jD, jE, jF, jG, jH, jI, jJ, ↓reduceIte, reduceCtorEq, jP]
 simp [deckV]
theorem ok_mk_Deck_Next (σ : St) (id g : Nat) (ty : TypeId) (ap : Bool) (l : List Int) (at' : Nat) (n : Int) (hob : σ.ob id = some ⟨g, 2, ty, false, ap, [deckV l at']⟩) (hn : n ≤ 4611686018427387904) (hl : l.length ≤ 9223372036854775807) :
  HC prog n_mk_Deck_Next [.ptr id g 2 0 0, .int .i64 n] σ (fun r σ' => r = .int .i64 (deckR l at' n).1 ∧ σ' = ⟨upd σ.ob id (some ⟨g, 2, ty, false, ap, [deckV l (deckR l at' n).2]⟩), σ.n, σ.c⟩) := by
 obtain ⟨ob, nn, cc⟩ := σ
 simp only at hob
 refine HC_of_body b_mk_Deck_Next (by simp) ?_
 simp only [c_mk_Deck_Next, go_sem, jA, jB, jC, jD, jE, jF, jG, jH, jI, jJ, ↓reduceIte, reduceCtorEq, jP, hob, deckV]
 have no : (n < 1 ∨ l.length ≤ at') → AV.int IntKind.i64 0 = AV.int IntKind.i64 (deckR l at' n).fst ∧ St.mk ob nn cc = St.mk (upd ob id (some ⟨g, 2, ty, false, ap, [.agg [.list 1 (ints l), .int .i64 (deckR l at' n).2]]⟩)) nn cc := by
  intro h
  rw [show deckR l at' n = (0, at') by unfold deckR; rw [if_pos h]]
  exact ⟨rfl, by have h1 := upd_self ob id _ hob; simp only [deckV] at h1 ⊢; rw [h1]⟩
 refine gd_fd rfl (fun h => ?_) (fun h => ?_) <;> simp (maxSteps := 1000000) only [go_sem, jA, jB, jC, jD, jE, jF, jG, jH, jI, jJ, ↓reduceIte, reduceCtorEq, jP, hob, deckV, ints_length]
 ·exact no (.inl h)
 refine cond_d (fun h2 => ?_) (fun h2 => ?_) <;> simp (maxSteps := 1000000) only [go_sem, jA, jB, jC, jD, jE, jF, jG, jH, jI, jJ, ↓reduceIte, reduceCtorEq, jP, hob, deckV, ints_length, ints_get]
 ·exact no (.inr (by omega))
 have hat : at' < l.length := by omega
 have hg : l[at']? = some l[at'] := List.getElem?_eq_getElem hat
 have hd : deckR l at' n = (l[at'] % n, at' + 1) := by unfold deckR; rw [if_neg (by omega)]; simp [List.getD_eq_getElem?_getD, hg]
 simp (maxSteps := 1000000) (disch := omega) only [go_sem, jA, jB, jC, jD, jE, jF, jG, jH, jI, jJ, ↓reduceIte, reduceCtorEq, jP, hg, jO]
 refine ⟨by omega, by omega, call_pc (ok_mk_Mod _ n (by omega) (by omega)) (by simp [go_sem]) ?_⟩
 simp (maxSteps := 1000000) only [go_sem, jA, jB, jC, jD, jE, jF, jG, jH, jI, jJ, ↓reduceIte, reduceCtorEq, jP, hd]
 simp
def Deck0 (σ : St) (id g : Nat) (t : List Int) (W : AV → Prop) (r : AV) (σ' : St) : Prop := ∃ r2 at2, Pub ⟨fun i => if i < σ.n then none else σ'.ob i, σ'.n, σ'.c⟩ r r2 ∧ W r2 ∧ σ'.ob id = some ⟨g, 2, ty_Deck, false, true, [deckV t at2]⟩ ∧ ∀ i, i < σ.n → i ≠ id → σ'.ob i = σ.ob i
def DeckR (σ : St) (id g : Nat) (t : List Int) (W : AV → Prop) (r : AV) (σ' : St) : Prop := ∃ at2 c, W r ∧ σ' = ⟨upd (fun i => if i < σ.n then σ.ob i else none) id (some ⟨g, 2, ty_Deck, false, true, [deckV t at2]⟩), σ.n, c⟩
theorem HC.deck {f : Nat} {args : List AV} {σ : St} {id g : Nat} {t : List Int} {W : AV → Prop} (hid : id < σ.n) (h : HC prog f args σ (Deck0 σ id g t W)) : HC prog f args σ (DeckR σ id g t W) := by
 refine HC.trunc σ.n (HC.seal (fun i => decide (i < σ.n)) h ?_)
 rintro r σ' ⟨r2, at2, h1, h2, h3, h4⟩
 refine ⟨r2, by simpa using h1, at2, σ'.c, h2, ?_⟩
 simp only [St.trunc]
 congr 1
 funext i
 simp only [upd]
 by_cases e : i = id
 ·subst e; simp [hid, h3]
 ·rw [if_neg e]
  by_cases hi : i < σ.n
  ·simp [hi, h4 i hi e]
  ·simp [hi]
theorem DeckR.use {σ σ' : St} {id g : Nat} {t : List Int} {W : AV → Prop} {r : AV} (h : DeckR σ id g t W r σ') (hid : id < σ.n) :
  W r ∧ σ'.n = σ.n ∧ (∃ at2, σ'.ob id = some ⟨g, 2, ty_Deck, false, true, [deckV t at2]⟩) ∧ ∀ i, i < σ.n → i ≠ id → σ'.ob i = σ.ob i := by
 obtain ⟨at2, c, h1, rfl⟩ := h
 exact ⟨h1, rfl, ⟨at2, by simp [upd]⟩, fun i hi h2 => by simp [upd, h2, hi]⟩
theorem upd_upd {α : Type} (f : Nat → α) (i : Nat) (x y : α) : upd (upd f i x) i y = upd f i y := by funext j; by_cases e : j = i <;> simp [upd, e]
def NewSl (σ : St) (es : Nat) (ty : TypeId) (l : List AV) (r : AV) (σ' : St) : Prop := ∃ g c, r = .sl (σ.n + 1) g es 0 l.length ∧ σ' = ⟨upd (upd σ.ob σ.n none) (σ.n + 1) (some ⟨g, es, ty, false, true, l⟩), σ.n + 2, c⟩
def NewSl1 (σ : St) (es : Nat) (ty : TypeId) (l : List AV) (r : AV) (σ' : St) : Prop := ∃ g c o, r = .sl (σ.n + 1) g es 0 l.length ∧ σ' = ⟨upd (upd σ.ob σ.n (some o)) (σ.n + 1) (some ⟨g, es, ty, false, true, l⟩), σ.n + 2, c⟩
theorem HC.new {f : Nat} {args : List AV} {σ : St} {es : Nat} {ty : TypeId} {l : List AV} (h : HC prog f args σ (NewSl1 σ es ty l)) : HC prog f args σ (NewSl σ es ty l) := by
 refine h.sub ?_
 rintro r σ' ⟨g, c, o, rfl, rfl⟩
 refine ⟨_, ?_, g, c, rfl, rfl⟩
 intro i o' h
 simp only [upd] at h ⊢
 split at h
 ·rename_i hi; rw [if_pos hi]; exact h
 ·rename_i hi
  rw [if_neg hi]
  split at h
  ·cases h
  ·rename_i h2; rw [if_neg h2]; exact h
theorem insG1 {L : List AV} {x z : AV} {i k m : Nat} (hi : i < L.length) (hk : k = L.length + 1 - i) (hm : m = 1) : (L.take i ++ List.replicate (L.length + 1 - i) z).take i ++ [x].take k ++ (L.take i ++ List.replicate (L.length + 1 - i) z).drop (i + m) = L.take i ++ x :: List.replicate (L.length - i) z := by
 subst hk; subst hm
 have h1 : (L.take i).length = i := by simp; omega
 rw [List.take_left' h1, List.take_of_length_le (l := [x]) (by simp; omega), List.drop_append, List.drop_of_length_le (l := L.take i) (by omega), h1, Nat.add_sub_cancel_left, List.drop_replicate, show L.length + 1 - i - 1 = L.length - i by omega]
 simp
theorem insG2 {L : List AV} {x z : AV} {i k l m : Nat} (hi : i < L.length) (hk : k = L.length - i) (hl : l = L.length - i) (hm : m = L.length - i) : (L.take i ++ x :: List.replicate (L.length - i) z).take (i + 1) ++ ((L.drop i).take k).take l ++ (L.take i ++ x :: List.replicate (L.length - i) z).drop (i + 1 + m) = L.take i ++ x :: L.drop i := by
 subst hk; subst hl; subst hm
 have h1 : (L.take i ++ [x]).length = i + 1 := by simp; omega
 rw [show L.take i ++ x :: List.replicate (L.length - i) z = (L.take i ++ [x]) ++ List.replicate (L.length - i) z by simp, List.take_left' h1, List.take_of_length_le (l := L.drop i) (by simp), List.take_of_length_le (l := L.drop i) (by simp), List.drop_of_length_le (l := (L.take i ++ [x]) ++ List.replicate (L.length - i) z) (by rw [List.length_append, h1, List.length_replicate]; omega)]
 simp
theorem insR1 {L : List AV} {i k m : Nat} (hi : i < L.length) (hk : k = L.length - i) (hm : m = L.length - i) : L.take (i + 1) ++ (L.drop i).take k ++ L.drop (i + 1 + m) = L.take (i + 1) ++ L.drop i := by
 subst hk; subst hm
 rw [List.take_of_length_le (l := L.drop i) (by simp), List.drop_of_length_le (l := L) (i := i + 1 + (L.length - i)) (by omega), List.append_nil]
theorem insR2 {L : List AV} {x : AV} {i k m : Nat} (hi : i < L.length) (hk : 1 ≤ k) (hm : m = 1) : (L.take (i + 1) ++ L.drop i).take i ++ [x].take k ++ (L.take (i + 1) ++ L.drop i).drop (i + m) = L.take i ++ x :: L.drop i := by
 subst hm
 have h1 : (L.take (i + 1)).length = i + 1 := by simp; omega
 rw [List.take_append_of_le_length (by omega), List.take_take, List.take_of_length_le (l := [x]) (by simpa using hk), List.drop_left' h1, show min i (i + 1) = i by omega]
 simp
def InsO (σ : St) (id es : Nat) (ty : TypeId) (L : List AV) (r : AV) (τ : St) : Prop :=
 ∃ id' g', r = .sl id' g' es 0 L.length ∧ (id' = id ∨ σ.n ≤ id') ∧ id' < τ.n ∧ σ.n ≤ τ.n ∧ τ.ob id' = some ⟨g', es, ty, false, true, L⟩ ∧ ∀ k, k < σ.n → k ≠ id → τ.ob k = σ.ob k
def NewO (σ : St) (es : Nat) (ty : TypeId) (L : List AV) (r : AV) (τ : St) : Prop := ∃ id g, r = .sl id g es 0 L.length ∧ σ.n ≤ id ∧ id < τ.n ∧ τ.ob id = some ⟨g, es, ty, false, true, L⟩ ∧ ∀ i, i < σ.n → τ.ob i = σ.ob i
def Oth (X : AV) (i : Nat) : Prop := ∀ g es o n, X ≠ .sl i g es o n
def SlR (es : Nat) (ty : TypeId) (σ : St) (L : List AV) (X : AV) : Prop := (X = .nil ∧ L = []) ∨ ∃ id g, X = .sl id g es 0 L.length ∧ id < σ.n ∧ σ.ob id = some ⟨g, es, ty, false, true, L⟩
theorem Oth.em {X : AV} {i : Nat} (h : ¬ ¬ Oth X i) : Oth X i := Classical.byContradiction h
theorem Oth.nil (i : Nat) : Oth .nil i := fun _ _ _ _ h => by cases h
theorem Oth.ne {id g es o n i : Nat} (h : Oth (.sl id g es o n) i) : ¬ id = i := fun e => h _ _ _ _ (by rw [e])
theorem Oth.sl {id g es o n i : Nat} (h : ¬ id = i) : Oth (.sl id g es o n) i := fun _ _ _ _ hh => by cases hh; exact h rfl
def Kp (σ : St) (X : AV) (τ : St) (X' : AV) : Prop := σ.n ≤ τ.n ∧ (∀ i, i < σ.n → Oth X i → τ.ob i = σ.ob i) ∧ ∀ i, i < σ.n → Oth X i → Oth X' i
theorem Kp.trans {σ τ ρ : St} {X Y Z : AV} (h : Kp σ X τ Y) (k : Kp τ Y ρ Z) : Kp σ X ρ Z :=
 ⟨Nat.le_trans h.1 k.1, fun i hi hx => (k.2.1 i (Nat.lt_of_lt_of_le hi h.1) (h.2.2 i hi hx)).trans (h.2.1 i hi hx), fun i hi hx => k.2.2 i (Nat.lt_of_lt_of_le hi h.1) (h.2.2 i hi hx)⟩
section
variable {es : Nat} {ty : TypeId} {σ τ : St} {L : List AV} {X : AV}
theorem SlR.nil : SlR es ty σ [] .nil := .inl ⟨rfl, rfl⟩
theorem SlR.one (h : SlR es ty σ L X) : X.one = true := by rcases h with ⟨rfl, _⟩ | ⟨id, g, rfl, _⟩ <;> rfl
theorem SlR.flat (h : SlR es ty σ L X) : X.flat = true := by rcases h with ⟨rfl, _⟩ | ⟨id, g, rfl, _⟩ <;> rfl
theorem SlR.cells (h : SlR es ty σ L X) : X.cells = [X] := by rcases h with ⟨rfl, _⟩ | ⟨id, g, rfl, _⟩ <;> rfl
theorem SlR.move (h : SlR es ty σ L X) (hn : σ.n ≤ τ.n) (ho : ∀ i, i < σ.n → ¬ Oth X i → τ.ob i = σ.ob i) : SlR es ty τ L X := by
 rcases h with h | ⟨id, g, rfl, h2, h3⟩
 ·exact .inl h
 ·exact .inr ⟨id, g, rfl, Nat.lt_of_lt_of_le h2 hn, by rw [ho id h2 (fun h => h _ _ _ _ rfl)]; exact h3⟩
theorem SlR.oth (h : SlR es ty σ L X) {i : Nat} (hi : σ.n ≤ i) : Oth X i := by
 rcases h with ⟨rfl, _⟩ | ⟨id, g, rfl, h2, _⟩
 ·exact Oth.nil i
 ·exact Oth.sl (by omega)
theorem SlR.pub (h : SlR es ty σ L X) (ho : ∀ i, i < σ.n → ¬ Oth X i → τ.ob i = σ.ob i) (hp : ∀ x ∈ L, x.pur = true) (hk : ∀ x ∈ L, okE es x) : Pub τ X (.list es L) := by
 rcases h with ⟨rfl, rfl⟩ | ⟨id, g, rfl, h2, h3⟩
 ·exact .nl es
 ·exact Pub.of_sl (by rw [ho id h2 (fun h => h _ _ _ _ rfl)]; exact h3) rfl hp hk
theorem app_slr {b : Nat} {a : AV} {K : AV → St → Prop} (h : SlR es ty σ L X) (hm : L.length + 1 ≤ 9223372036854775807) (hb : (L.length + 1) * b ≤ 140737488355328)
  (k : ∀ X' τ, SlR es ty τ (L ++ [a]) X' → Kp σ X τ X' → K X' τ) : appC es b ty X (.list es [a]) σ K := by
 rcases h with ⟨rfl, rfl⟩ | ⟨id, g, rfl, h2, h3⟩
 ·rw [jP]
  simp only [List.length_nil, Nat.zero_add] at hb
  refine ⟨by simp [maxLen], by simpa using hb, fun h => by simp at h, fun _ => k _ _ (.inr ⟨σ.n, σ.c, rfl, Nat.lt_succ_self _, by simp [St.push, upd]⟩) ⟨Nat.le_succ _, fun i hi _ => ?_, fun i hi _ => Oth.sl (by omega)⟩⟩
  simp only [St.push]; rw [upd_ne _ _ _ _ (by omega)]
 ·rw [w_app_ll]
  refine ⟨_, h3, rfl, rfl, rfl, rfl, rfl, rfl, by rw [mxL]; simpa using hm, by simpa using hb, k _ _ (.inr ⟨id, σ.c, by simp, h2, by simp [St.renew, upd]⟩) ⟨Nat.le_refl _, fun i hi hx => ?_, fun i hi hx => Oth.sl hx.ne⟩⟩
  simp only [St.renew]
  rw [upd_ne _ _ _ _ (fun e => hx.ne e.symm)]
theorem app_slrs {b : Nat} {M : List AV} {K : AV → St → Prop} (h : SlR es ty σ L X) (hm : L.length + M.length ≤ 9223372036854775807) (hb : (L.length + M.length) * b ≤ 140737488355328)
  (k : ∀ X' τ, SlR es ty τ (L ++ M) X' → Kp σ X τ X' → K X' τ) : appC es b ty X (.list es M) σ K := by
 rcases h with ⟨rfl, rfl⟩ | ⟨id, g, rfl, h2, h3⟩
 ·rw [jP]
  simp only [List.length_nil, Nat.zero_add] at hm hb
  refine ⟨by rw [mxL]; omega, hb, fun h => k _ _ (.inl ⟨rfl, by rw [h]; rfl⟩) ⟨Nat.le_refl _, fun _ _ _ => rfl, fun _ _ h => h⟩, fun _ => k _ _ (.inr ⟨σ.n, σ.c, rfl, Nat.lt_succ_self _, by simp [St.push, upd]⟩) ⟨Nat.le_succ _, fun i hi _ => ?_, fun i hi _ => Oth.sl (by omega)⟩⟩
  simp only [St.push]; rw [upd_ne _ _ _ _ (by omega)]
 ·rw [w_app_ll]
  refine ⟨_, h3, rfl, rfl, rfl, rfl, rfl, rfl, by rw [mxL]; exact hm, hb, k _ _ (.inr ⟨id, σ.c, by simp, h2, by simp [St.renew, upd]⟩) ⟨Nat.le_refl _, fun i hi hx => ?_, fun i hi hx => Oth.sl hx.ne⟩⟩
  simp only [St.renew]
  rw [upd_ne _ _ _ _ (fun e => hx.ne e.symm)]
end
inductive PubS (σ : St) : List AV → List AV → Prop
 | nil : PubS σ [] []
 | cons {a b : AV} {l r : List AV} (h : Pub σ a b) (k : PubS σ l r) : PubS σ (a :: l) (b :: r)
theorem PubS.get {σ : St} {l r : List AV} (h : PubS σ l r) : l.length = r.length ∧ ∀ (i : Nat) (x y : AV), l[i]? = some x → r[i]? = some y → Pub σ x y := by
 induction h with
 | nil => exact ⟨rfl, fun i x y h => by simp at h⟩
 | cons h k ih =>
  refine ⟨by simp [ih.1], fun i x y hx hy => ?_⟩
  cases i with
  | zero => simp at hx hy; subst hx; subst hy; exact h
  | succ i => exact ih.2 i x y (by simpa using hx) (by simpa using hy)
theorem Pub.ag {σ : St} {l r : List AV} (h : PubS σ l r) : Pub σ (.agg l) (.agg r) := .agg h.get.1 h.get.2
theorem Pub.tu {σ : St} {l r : List AV} (h : PubS σ l r) : Pub σ (.tuple l) (.tuple r) := .tuple h.get.1 h.get.2
theorem Pub.e {σ : St} {a : AV} (h : a.pur = true) : Pub σ a a := .pure h
def NlR (a b : AV) : Prop := ∀ (S : Nat → Prop) (w : World) (v : Value), VP S w a v → VP S w b v
theorem NlR.rfl {a : AV} : NlR a a := fun _ _ _ h => h
theorem NlR.nil (es : Nat) : NlR .nil (.list es []) := fun S w v h => by cases h; exact .listNil _ _ _
inductive NlRs : List AV → List AV → Prop
 | nil : NlRs [] []
 | cons {a b : AV} {l r : List AV} (h : NlR a b) (k : NlRs l r) : NlRs (a :: l) (b :: r)
theorem NlRs.get {l r : List AV} (h : NlRs l r) : l.length = r.length ∧ ∀ (j : Nat) (y : AV), r[j]? = some y → ∃ x, l[j]? = some x ∧ NlR x y := by
 induction h with
 | nil => exact ⟨Eq.refl _, fun j y h => by simp at h⟩
 | cons h k ih =>
  refine ⟨by simp [ih.1], fun j y hy => ?_⟩
  cases j with
  | zero => simp at hy; subst hy; exact ⟨_, Eq.refl _, h⟩
  | succ j => exact ih.2 j y (by simpa using hy)
theorem NlRs.refl : ∀ (l : List AV), NlRs l l
 | [] => .nil
 | _ :: l => .cons .rfl (NlRs.refl l)
theorem NlR.agg {l r : List AV} (h : NlRs l r) : NlR (.agg l) (.agg r) := fun S w v hv => by
 cases hv with
 | agg hl hh =>
  refine .agg (by rw [hl, h.get.1]) fun j y u hy hu => ?_
  obtain ⟨x, hx, hxy⟩ := h.get.2 j y hy
  exact hxy S w u (hh j x u hx hu)
theorem pc_nl {P : Program} {f : Nat} {args args' : List AV} {r : AV} (h : PC P f args' r) (k : NlRs args args') : PC P f args r :=
 ⟨h.1, fun S w vs hlt hv => h.2 S w vs hlt ⟨by rw [hv.1, k.get.1], fun j y u hy hu => by obtain ⟨x, hx, hxy⟩ := k.get.2 j y hy; exact hxy S w u (hv.2 j x u hx hu)⟩⟩
def ER (es : Nat) (σ : St) (L : List AV) (E : AV) : Prop :=
 (E = .nil ∧ L = []) ∨ E = .list es L ∨ ∃ id g off o, E = .sl id g es off L.length ∧ id < σ.n ∧ σ.ob id = some o ∧ o.g = g ∧ o.es = es ∧ off + L.length ≤ o.l.length ∧ (o.l.drop off).take L.length = L
theorem hkeep_lt {af : List Nat} {R : List (Nat × Nat)} {ob ob' : Nat → Option AObj} {n : Nat} (h : ∀ x ∈ R, x.2 < n) (k : ∀ i, i < n → ob' i = ob i) : hkeep af R ob ob' := fun x hx => .inr (k _ (h x hx))
theorem tagR_lt {p n : Nat} {l : List Nat} (h : ∀ i ∈ l, i < n) : ∀ x ∈ tagR p l, x.2 < n := fun x hx => by
 obtain ⟨i, hi, rfl⟩ := List.mem_map.1 hx
 exact h i hi
theorem app_lt {n : Nat} {R S : List (Nat × Nat)} (h : ∀ x ∈ R, x.2 < n) (k : ∀ x ∈ S, x.2 < n) : ∀ x ∈ R ++ S, x.2 < n := fun x hx => (List.mem_append.1 hx).elim (h x) (k x)
section
variable {es : Nat} {σ τ : St} {L : List AV} {E : AV}
theorem ER.of_slr {ty : TypeId} (h : SlR es ty σ L E) : ER es σ L E := by
 rcases h with h | ⟨id, g, rfl, h2, h3⟩
 ·exact .inl h
 ·exact .inr (.inr ⟨id, g, 0, _, rfl, h2, h3, rfl, rfl, by simp, by simp⟩)
theorem ER.of_sl {id g : Nat} {ty : TypeId} {ro ap : Bool} (h : σ.ob id = some ⟨g, es, ty, ro, ap, L⟩) (hn : id < σ.n) : ER es σ L (.sl id g es 0 L.length) := .inr (.inr ⟨id, g, 0, _, rfl, hn, h, rfl, rfl, by simp, by simp⟩)
theorem ER.list (es : Nat) (σ : St) (L : List AV) : ER es σ L (.list es L) := .inr (.inl rfl)
theorem ER.one (h : ER es σ L E) : E.one = true := by rcases h with ⟨rfl, _⟩ | rfl | ⟨_, _, _, _, rfl, _⟩ <;> rfl
theorem ER.flat (h : ER es σ L E) : E.flat = true := by rcases h with ⟨rfl, _⟩ | rfl | ⟨_, _, _, _, rfl, _⟩ <;> rfl
theorem ER.cells (h : ER es σ L E) : E.cells = [E] := by rcases h with ⟨rfl, _⟩ | rfl | ⟨_, _, _, _, rfl, _⟩ <;> rfl
theorem ER.oid (h : ER es σ L E) : ∀ i ∈ E.oid, i < σ.n := by
 rcases h with ⟨rfl, _⟩ | rfl | ⟨id, _, _, _, rfl, h, _⟩ <;> intro i hi
 ·cases hi
 ·cases hi
 ·obtain rfl : i = id := by simpa [AV.oid] using hi
  exact h
theorem ER.move (h : ER es σ L E) (hn : σ.n ≤ τ.n) (ho : ∀ i, i < σ.n → ¬ Oth E i → ∀ o, σ.ob i = some o → ∃ b, τ.ob i = some { o with ro := b }) : ER es τ L E := by
 rcases h with h | h | ⟨id, g, off, o, rfl, h1, h2, h3, h4, h5, h6⟩
 ·exact .inl h
 ·exact .inr (.inl h)
 ·obtain ⟨b, hb⟩ := ho id h1 (fun h => h _ _ _ _ rfl) o h2
  exact .inr (.inr ⟨id, g, off, _, rfl, Nat.lt_of_lt_of_le h1 hn, hb, h3, h4, h5, h6⟩)
theorem ER.keep (h : ER es σ L E) (hn : σ.n ≤ τ.n) (ho : ∀ i, i < σ.n → ¬ Oth E i → τ.ob i = σ.ob i) : ER es τ L E :=
 h.move hn fun i hi h2 o h3 => ⟨o.ro, by rw [ho i hi h2]; exact h3⟩
theorem ER.pub (h : ER es σ L E) (hp : ∀ x ∈ L, x.pur = true) (hk : ∀ x ∈ L, okE es x) (ho : ∀ i, i < σ.n → ¬ Oth E i → ∀ o, σ.ob i = some o → ∃ b, τ.ob i = some { o with ro := b }) : Pub τ E (.list es L) := by
 rcases h with ⟨rfl, rfl⟩ | rfl | ⟨id, g, off, o, rfl, h1, h2, h3, h4, h5, h6⟩
 ·exact .nl es
 ·exact .pure rfl
 ·obtain ⟨b, hb⟩ := ho id h1 (fun h => h _ _ _ _ rfl) o h2
  refine .sl hb h3 h4 h5 (by simp only []; rw [h6]) (fun i x y hx hy => ?_) hk
  simp only [] at hx
  rw [h6, hy] at hx
  obtain rfl := Option.some.inj hx
  exact .pure (hp _ (List.mem_of_getElem? hy))
theorem ER.len (h : ER es σ L E) {K : AV → St → Prop} (k : K (.int .i64 L.length) σ) : lenC E σ K := by
 rcases h with ⟨rfl, rfl⟩ | rfl | ⟨id, g, off, o, rfl, _⟩
 ·simpa [lenC] using k
 ·simpa [lenC] using k
 ·simpa [lenC] using k
theorem ER.drop {K : AV → St → Prop} {kd : IntKind} {lo : Int} {k : Nat} (h : ER es σ L E) (hlo : lo = k) (hk : k ≤ L.length) (f : ∀ E', ER es σ (L.drop k) E' → (∀ i, Oth E i → Oth E' i) → K E' σ) : slcC es E (some (.int kd lo)) none σ K := by
 subst hlo
 rcases h with ⟨rfl, rfl⟩ | rfl | ⟨id, g, off, o, rfl, h1, h2, h3, h4, h5, h6⟩
 ·obtain rfl : k = 0 := by simpa using hk
  exact ⟨by simp, by simp, f _ (.inl ⟨rfl, rfl⟩) fun _ h => h⟩
 ·refine ⟨rfl, by omega, by simpa using hk, ?_⟩
  show K (.list es ((L.take L.length).drop (k : Int).toNat)) σ
  rw [List.take_length, Int.toNat_natCast]
  exact f _ (.inr (.inl rfl)) fun _ _ _ _ _ _ h => (by cases h)
 ·refine ⟨rfl, ⟨_, h2, h3⟩, by omega, by simpa using hk, ?_⟩
  show ((k : Int).toNat = L.length → K (.list es []) σ) ∧ ((k : Int).toNat < L.length → K (.sl id g es (off + (k : Int).toNat) (L.length - (k : Int).toNat)) σ)
  rw [Int.toNat_natCast]
  refine ⟨fun h => f _ (.inr (.inl ?_)) fun _ _ _ _ _ _ h => (by cases h), fun h => f _ (.inr (.inr ⟨id, g, off + k, o, by simp, h1, h2, h3, h4, by simp; omega, ?_⟩)) fun i hi => Oth.sl (Oth.ne hi)⟩
  ·rw [h, List.drop_length]
  ·have := congrArg (List.drop k) h6
   rw [← this]
   simp [List.drop_take, Nat.min_eq_left (show L.length - k ≤ o.l.length - (off + k) by omega)]
theorem ER.take {K : AV → St → Prop} {kd : IntKind} {hi : Int} {k : Nat} (h : ER es σ L E) (hhi : hi = k) (hk : k ≤ L.length) (f : ∀ E', ER es σ (L.take k) E' → (∀ i, Oth E i → Oth E' i) → K E' σ) : slcC es E none (some (.int kd hi)) σ K := by
 subst hhi
 rcases h with ⟨rfl, rfl⟩ | rfl | ⟨id, g, off, o, rfl, h1, h2, h3, h4, h5, h6⟩
 ·obtain rfl : k = 0 := by simpa using hk
  exact ⟨by simp, by simp, f _ (.inl ⟨rfl, rfl⟩) fun _ h => h⟩
 ·refine ⟨rfl, by omega, by simpa using hk, ?_⟩
  show K (.list es ((L.take (k : Int).toNat).drop 0)) σ
  rw [List.drop_zero, Int.toNat_natCast]
  exact f _ (.inr (.inl rfl)) fun _ _ _ _ _ _ h => (by cases h)
 ·refine ⟨rfl, ⟨_, h2, h3⟩, by omega, by simpa using hk, ?_⟩
  show (0 = (k : Int).toNat → K (.list es []) σ) ∧ (0 < (k : Int).toNat → K (.sl id g es off (k : Int).toNat) σ)
  rw [Int.toNat_natCast]
  refine ⟨fun h => f _ (.inr (.inl ?_)) fun _ _ _ _ _ _ h => (by cases h), fun h => f _ (.inr (.inr ⟨id, g, off, o, by simp [Nat.min_eq_left hk], h1, h2, h3, h4, by simp; omega, ?_⟩)) fun i hi => Oth.sl (Oth.ne hi)⟩
  ·rw [← h]; simp
  ·have := congrArg (List.take k) h6
   rw [← this]
   simp [List.take_take, Nat.min_eq_left (show min k L.length ≤ o.l.length - off by omega)]
theorem ER.at (h : ER es σ L E) {k : Nat} (hk : k < L.length) : E = .list es L ∨ ∃ id g off o, E = .sl id g es off L.length ∧ id < σ.n ∧ σ.ob id = some o ∧ o.g = g ∧ o.es = es ∧ off + L.length ≤ o.l.length ∧ o.l[off + k]? = L[k]? := by
 rcases h with ⟨rfl, rfl⟩ | rfl | ⟨id, g, off, o, rfl, h1, h2, h3, h4, h5, h6⟩
 ·simp at hk
 ·exact .inl rfl
 ·refine .inr ⟨id, g, off, o, rfl, h1, h2, h3, h4, h5, ?_⟩
  have := congrArg (fun z => z[k]?) h6
  simp only [List.getElem?_take, if_pos hk, List.getElem?_drop] at this
  exact this
theorem app_er {b : Nat} {ty : TypeId} {X : AV} {K : AV → St → Prop} (h : ER es σ L E) (k : appC es b ty X (.list es L) σ K) : appC es b ty X E σ K := by
 rcases h with ⟨rfl, rfl⟩ | rfl | ⟨id, g, off, o, rfl, h1, h2, h3, h4, h5, h6⟩
 ·obtain ⟨_, _, k⟩ := k
  exact ⟨fun _ _ h => (by cases h), fun _ _ _ _ _ h => (by rcases h with h | ⟨_, h⟩ <;> cases h), k⟩
 ·exact k
 ·obtain ⟨_, _, k⟩ := k
  refine ⟨fun _ _ h => (by cases h), fun _ _ _ _ _ h => (by rcases h with h | ⟨_, h⟩ <;> cases h; rfl), o, h2, h3, h4, h5, ?_⟩
  rw [h6]
  exact k
end
def fewB (t : List Int) : Bool := decide ((t.length : Int) ≤ 500)
theorem ok_mk_Few (t : List Int) : PC prog n_mk_Few [.list 1 (ints t)] (.bool (fewB t)) := by
 refine PC_of_body b_mk_Few (by simp) ?_
 simp only [c_mk_Few, go_sem, jA, jB, jC, jD, jE, jF, jG, jH, jI, jJ, ↓reduceIte, reduceCtorEq, jP, ints_length]
 exact Pub.of_eq rfl rfl
theorem eq_of_get {α : Type} {a b : List α} (hl : a.length = b.length) (h : ∀ j, j < a.length → a[j]? = b[j]?) : a = b := by
 apply List.ext_getElem? ; intro j
 by_cases hj : j < a.length
 ·exact h j hj
 ·rw [List.getElem?_eq_none (by omega), List.getElem?_eq_none (by omega)]
theorem shInts {c : List AV} (h : (Sh.slice 1 (.int .i64)).R c) : ∃ L : List Int, c = [.list 1 (ints L)] ∧ L.length ≤ 9223372036854775807 ∧ ∀ n ∈ L, (Lit.int .i64 n).wf = true := by
 obtain ⟨xs, rfl, hl, h⟩ := h
 obtain ⟨L, rfl, hL⟩ := exists_map (f := AV.int .i64) (Q := fun n => (Lit.int .i64 n).wf = true) fun x hx => by
  obtain ⟨cs, hr, _, rfl⟩ := h x hx
  obtain ⟨a, rfl, ha⟩ := hr
  exact ⟨a, ha, rfl⟩
 exact ⟨L, rfl, by simpa using hl, hL⟩
theorem wf_u8 {n : Int} (h : (Lit.int .u8 n).wf = true) : 0 ≤ n ∧ n ≤ 255 := by
 simp [Lit.wf, IntKind.min, IntKind.max, IntKind.signed, IntKind.bits] at h; omega
def bsI (l : List Int) (x : Int) : Nat := l.findIdx fun y => decide (x ≤ y)
theorem bsI_le (l : List Int) (x : Int) : bsI l x ≤ l.length := List.findIdx_le_length
theorem bsI_eq (l : List Int) (x : Int) (i : Nat) (hi : i ≤ l.length) (h1 : ∀ k, k < i → ∀ y, l[k]? = some y → y < x) (h2 : ∀ k, i ≤ k → ∀ y, l[k]? = some y → x ≤ y) : bsI l x = i := by
 unfold bsI
 by_cases h : i < l.length
 ·rw [List.findIdx_eq h]
  refine ⟨by simpa using h2 i (Nat.le_refl _) _ (List.getElem?_eq_getElem h), fun j hj => ?_⟩
  have := h1 j hj _ (List.getElem?_eq_getElem (by omega))
  simp; omega
 ·have : i = l.length := by omega
  subst this
  rw [List.findIdx_eq_length]
  intro y hy
  obtain ⟨k, hk⟩ := List.getElem?_of_mem hy
  have := h1 k (List.getElem?_eq_some_iff.1 hk).1 y hk
  simp; omega
theorem bit_half (x : Int) (h0 : 0 ≤ x) (h1 : x ≤ 9223372036854775807) : bitD .shr .u64 x .u64 1 = some (.int .u64 (x / 2)) := by
 simp only [bitD, IntKind.bits]
 rw [if_pos (by omega)]
 have : (2 : Int) ^ min (1 : Int).toNat 64 = 2 := by decide
 rw [this, Int.fdiv_eq_ediv_of_nonneg _ (by omega)]
theorem wrap_u64 {n : Int} (h0 : 0 ≤ n) (h1 : n ≤ 18446744073709551615) : IntKind.u64.wrap n = n := by
 simp [IntKind.wrap, IntKind.bits, IntKind.signed]; omega
def Asc (l : List Int) : Prop := ∀ i j : Nat, i < j → ∀ x y, l[i]? = some x → l[j]? = some y → x ≤ y
theorem bsI_mem (l : List Int) (x : Int) (hs : Asc l) : l[bsI l x]? = some x ↔ x ∈ l := by
 constructor
 ·intro h; exact List.mem_of_getElem? h
 ·intro h
  have hlt : bsI l x < l.length := List.findIdx_lt_length.2 ⟨x, h, by simp⟩
  have h3 : x ≤ l[bsI l x] := of_decide_eq_true (List.findIdx_getElem (p := fun y => decide (x ≤ y)) (w := hlt))
  obtain ⟨i, hi⟩ := List.getElem?_of_mem h
  have h4 : bsI l x ≤ i := by
   rcases Nat.lt_or_ge i (bsI l x) with h5 | h5
   ·have := List.not_of_lt_findIdx h5
    rw [List.getElem?_eq_some_iff] at hi
    obtain ⟨_, rfl⟩ := hi
    simp at this
   ·exact h5
  rw [List.getElem?_eq_getElem hlt]
  by_cases e : i = bsI l x
  ·subst e; rw [List.getElem?_eq_getElem hlt] at hi; exact hi
  ·have := hs _ i (by omega) _ x (List.getElem?_eq_getElem hlt) hi
   congr 1; omega
theorem bsI_at {l : List Int} {x y : Int} (h : l[bsI l x]? = some y) : x ≤ y := by
 obtain ⟨hlt, rfl⟩ := List.getElem?_eq_some_iff.1 h
 exact of_decide_eq_true (List.findIdx_getElem (p := fun y => decide (x ≤ y)) (w := hlt))
theorem bsI_le_of {l : List Int} {x y : Int} {k : Nat} (h : l[k]? = some y) (hy : x ≤ y) : bsI l x ≤ k := by
 obtain ⟨hlt, rfl⟩ := List.getElem?_eq_some_iff.1 h
 rcases Nat.lt_or_ge k (bsI l x) with h5 | h5
 ·have := List.not_of_lt_findIdx h5
  simp at this; omega
 ·exact h5
abbrev ty_el_Bounds : TypeId := 35
theorem hcl_slices_Clone__Bounds (σ : St) (L : List AV) (hl : L.length * 16 ≤ 140737488355328) : HC prog n_slices_Clone__Bounds [.list 2 L] σ (NewO σ 2 ty_el_Bounds L) := by
 refine HC_of_body b_slices_Clone__Bounds (by simp) ?_
 obtain ⟨ob, n, c⟩ := σ
 simp only [c_slices_Clone__Bounds, go_sem, jA, jB, jC, jD, jE, jF, jG, jH, jI, jJ, ↓reduceIte, reduceCtorEq, jP]
 refine isnil_l (fun h => ?_) (fun h => ?_)
 ·subst h
  refine ⟨?_, ?_⟩
  ·try simp (disch := omega) only [go_sem, jA, jB, jC, jD, jE, jF, jG, jH, jI, jJ, ↓reduceIte, reduceCtorEq, jO, jM, jN, jK, jL]
   refine ⟨_, _, rfl, Nat.le_succ _, Nat.lt_succ_self _, (by first | rfl | (simp (disch := omega) only [go_sem, jA, jB, jC, jD, jE, jF, jG, jH, jI, jJ, ↓reduceIte, reduceCtorEq, jP, jO, jM, jN]; try rfl)), fun i hi => ?_⟩
   simp only at hi
   try simp (disch := omega) only [go_sem, jA, jB, jC, jD, jE, jF, jG, jH, jI, jJ, ↓reduceIte, reduceCtorEq, jO, jM, jN, jK, jL]
  ·try simp (disch := omega) only [go_sem, jA, jB, jC, jD, jE, jF, jG, jH, jI, jJ, ↓reduceIte, reduceCtorEq, jO, jM, jN, jK, jL]
   repeat (refine And.intro (by first | omega | (rw [mxL]; omega) | (simp [maxLen]; done) | (simp [maxLen]; omega)) ?_)
   refine ⟨_, _, rfl, Nat.le_succ _, Nat.lt_succ_self _, (by first | rfl | (simp (disch := omega) only [go_sem, jA, jB, jC, jD, jE, jF, jG, jH, jI, jJ, ↓reduceIte, reduceCtorEq, jP, jO, jM, jN]; try rfl)), fun i hi => ?_⟩
   simp only at hi
   try simp (disch := omega) only [go_sem, jA, jB, jC, jD, jE, jF, jG, jH, jI, jJ, ↓reduceIte, reduceCtorEq, jO, jM, jN, jK, jL]
 ·try simp (disch := omega) only [go_sem, jA, jB, jC, jD, jE, jF, jG, jH, jI, jJ, ↓reduceIte, reduceCtorEq, jO, jM, jN, jK, jL]
  repeat (refine And.intro (by first | omega | (rw [mxL]; omega) | (simp [maxLen]; done) | (simp [maxLen]; omega)) ?_)
  refine ⟨_, _, rfl, Nat.le_succ _, Nat.lt_succ_self _, (by first | rfl | (simp (disch := omega) only [go_sem, jA, jB, jC, jD, jE, jF, jG, jH, jI, jJ, ↓reduceIte, reduceCtorEq, jP, jO, jM, jN]; try rfl)), fun i hi => ?_⟩
  simp only at hi
  try simp (disch := omega) only [go_sem, jA, jB, jC, jD, jE, jF, jG, jH, jI, jJ, ↓reduceIte, reduceCtorEq, jO, jM, jN, jK, jL]
theorem okl_slices_Clone__Bounds (L : List AV) (hl : L.length * 16 ≤ 140737488355328) (hp : ∀ x ∈ L, x.pur = true) (hk : ∀ x ∈ L, okE 2 x) : PC prog n_slices_Clone__Bounds [.list 2 L] (.list 2 L) :=
 PC_of_HC b_slices_Clone__Bounds ((hcl_slices_Clone__Bounds St.empty L hl).mono fun r τ ⟨id, g, h1, _, _, h2, _⟩ => by rw [h1]; exact Pub.of_sl h2 rfl hp hk)
abbrev ty_el_Report : TypeId := 37
theorem hcl_slices_Clone__Report (σ : St) (L : List AV) (hl : L.length * 48 ≤ 140737488355328) : HC prog n_slices_Clone__Report [.list 6 L] σ (NewO σ 6 ty_el_Report L) := by
 refine HC_of_body b_slices_Clone__Report (by simp) ?_
 obtain ⟨ob, n, c⟩ := σ
 simp only [c_slices_Clone__Report, go_sem, jA, jB, jC, jD, jE, jF, jG, jH, jI, jJ, ↓reduceIte, reduceCtorEq, jP]
 refine isnil_l (fun h => ?_) (fun h => ?_)
 ·subst h
  refine ⟨?_, ?_⟩
  ·try simp (disch := omega) only [go_sem, jA, jB, jC, jD, jE, jF, jG, jH, jI, jJ, ↓reduceIte, reduceCtorEq, jO, jM, jN, jK, jL]
   refine ⟨_, _, rfl, Nat.le_succ _, Nat.lt_succ_self _, (by first | rfl | (simp (disch := omega) only [go_sem, jA, jB, jC, jD, jE, jF, jG, jH, jI, jJ, ↓reduceIte, reduceCtorEq, jP, jO, jM, jN]; try rfl)), fun i hi => ?_⟩
   simp only at hi
   try simp (disch := omega) only [go_sem, jA, jB, jC, jD, jE, jF, jG, jH, jI, jJ, ↓reduceIte, reduceCtorEq, jO, jM, jN, jK, jL]
  ·try simp (disch := omega) only [go_sem, jA, jB, jC, jD, jE, jF, jG, jH, jI, jJ, ↓reduceIte, reduceCtorEq, jO, jM, jN, jK, jL]
   repeat (refine And.intro (by first | omega | (rw [mxL]; omega) | (simp [maxLen]; done) | (simp [maxLen]; omega)) ?_)
   refine ⟨_, _, rfl, Nat.le_succ _, Nat.lt_succ_self _, (by first | rfl | (simp (disch := omega) only [go_sem, jA, jB, jC, jD, jE, jF, jG, jH, jI, jJ, ↓reduceIte, reduceCtorEq, jP, jO, jM, jN]; try rfl)), fun i hi => ?_⟩
   simp only at hi
   try simp (disch := omega) only [go_sem, jA, jB, jC, jD, jE, jF, jG, jH, jI, jJ, ↓reduceIte, reduceCtorEq, jO, jM, jN, jK, jL]
 ·try simp (disch := omega) only [go_sem, jA, jB, jC, jD, jE, jF, jG, jH, jI, jJ, ↓reduceIte, reduceCtorEq, jO, jM, jN, jK, jL]
  repeat (refine And.intro (by first | omega | (rw [mxL]; omega) | (simp [maxLen]; done) | (simp [maxLen]; omega)) ?_)
  refine ⟨_, _, rfl, Nat.le_succ _, Nat.lt_succ_self _, (by first | rfl | (simp (disch := omega) only [go_sem, jA, jB, jC, jD, jE, jF, jG, jH, jI, jJ, ↓reduceIte, reduceCtorEq, jP, jO, jM, jN]; try rfl)), fun i hi => ?_⟩
  simp only at hi
  try simp (disch := omega) only [go_sem, jA, jB, jC, jD, jE, jF, jG, jH, jI, jJ, ↓reduceIte, reduceCtorEq, jO, jM, jN, jK, jL]
theorem okl_slices_Clone__Report (L : List AV) (hl : L.length * 48 ≤ 140737488355328) (hp : ∀ x ∈ L, x.pur = true) (hk : ∀ x ∈ L, okE 6 x) : PC prog n_slices_Clone__Report [.list 6 L] (.list 6 L) :=
 PC_of_HC b_slices_Clone__Report ((hcl_slices_Clone__Report St.empty L hl).mono fun r τ ⟨id, g, h1, _, _, h2, _⟩ => by rw [h1]; exact Pub.of_sl h2 rfl hp hk)
structure Ac where
 fr : Int
 st : List Bd
 ins : List Bd
 outs : List Bd
def acv (a : Ac) : AV := .agg [.int .i64 a.fr, .list 2 (bds a.st), .list 2 (bds a.ins), .list 2 (bds a.outs)]
def mxV : Int := 274877906944
def eb (b : Bd) : Int := if b.lo < 0 ∨ mxV < b.hi then 1 else if b.hi < b.lo then 48 else 0
def el : List Bd → Int
 | [] => 0
 | b :: r => if eb b = 0 then el r else eb b
def fitB (b : Bd) : Prop := 0 ≤ b.lo ∧ b.lo ≤ b.hi ∧ b.hi ≤ mxV
theorem eb_zero {b : Bd} : eb b = 0 ↔ fitB b := by
 unfold eb fitB
 split
 ·simp; omega
 ·split
  ·simp; omega
  ·simp; omega
theorem el_zero {l : List Bd} : el l = 0 ↔ ∀ b ∈ l, fitB b := by
 induction l with
 | nil => simp [el]
 | cons b r ih =>
  simp only [el, List.mem_cons, forall_eq_or_imp]
  split
  ·rename_i h; rw [ih, ← eb_zero]; simp [h]
  ·rename_i h; rw [← eb_zero]; simp [h]
theorem el_take {l : List Bd} {k : Nat} {b : Bd} (hk : l[k]? = some b) (h : ∀ x ∈ l.take k, eb x = 0) : el l = if eb b = 0 then el (l.drop (k + 1)) else eb b := by
 induction k generalizing l with
 | zero =>
  cases l with
  | nil => simp at hk
  | cons x r => simp at hk; subst hk; simp [el]
 | succ k ih =>
  cases l with
  | nil => simp at hk
  | cons x r =>
   simp only [List.getElem?_cons_succ] at hk
   simp only [List.take_succ_cons, List.mem_cons, forall_eq_or_imp] at h
   rw [el, if_pos h.1, ih hk h.2]
   simp
def ef (a : Ac) : Int :=
 if a.ins.length = 0 ∨ a.outs.length ≠ a.ins.length ∨ a.st.length ≠ a.ins.length + 1 then 3
 else if 400 < a.ins.length then 10
 else if a.fr < 0 ∨ 16777216 - (a.ins.length : Int) < a.fr then 6 else 0
def chk (a : Ac) : Int := if ef a ≠ 0 then ef a else if el a.st ≠ 0 then el a.st else if el a.ins ≠ 0 then el a.ins else el a.outs
structure AcOK (a : Ac) : Prop where
 n1 : 1 ≤ a.ins.length
 n2 : a.ins.length ≤ 400
 no : a.outs.length = a.ins.length
 ns : a.st.length = a.ins.length + 1
 f0 : 0 ≤ a.fr
 f1 : a.fr ≤ 16777216 - (a.ins.length : Int)
 bs : ∀ b ∈ a.st, fitB b
 bi : ∀ b ∈ a.ins, fitB b
 bo : ∀ b ∈ a.outs, fitB b
theorem chk_ok {a : Ac} : chk a = 0 ↔ AcOK a := by
 have h6 : ef a = 0 ↔ (1 ≤ a.ins.length ∧ a.ins.length ≤ 400 ∧ a.outs.length = a.ins.length ∧ a.st.length = a.ins.length + 1 ∧ 0 ≤ a.fr ∧ a.fr ≤ 16777216 - (a.ins.length : Int)) := by
  unfold ef
  split
  ·simp; omega
  ·split
   ·simp; omega
   ·split
    ·simp; omega
    ·simp; omega
 have h : chk a = 0 ↔ ef a = 0 ∧ el a.st = 0 ∧ el a.ins = 0 ∧ el a.outs = 0 := by
  unfold chk
  split
  ·rename_i h; simp [h]
  ·rename_i h
   split
   ·rename_i h2; simp [h2]
   ·rename_i h2
    split
    ·rename_i h3; simp [h3]
    ·rename_i h3; simp at h h2 h3; simp [h, h2, h3]
 rw [h, h6, el_zero, el_zero, el_zero]
 exact ⟨fun ⟨⟨a1, a2, a3, a4, a5, a6⟩, b1, b2, b3⟩ => ⟨a1, a2, a3, a4, a5, a6, b1, b2, b3⟩, fun h => ⟨⟨h.n1, h.n2, h.no, h.ns, h.f0, h.f1⟩, h.bs, h.bi, h.bo⟩⟩
def inB (b : Bd) (v : Int) : Prop := b.lo ≤ v ∧ v ≤ b.hi
def meetB (a b : Bd) : Bd := ⟨max a.lo b.lo, min a.hi b.hi⟩
def fwB (s x y : Bd) : Bd := ⟨s.lo + x.lo - y.hi, s.hi + x.hi - y.lo⟩
def bwB (t x y : Bd) : Bd := ⟨t.lo - x.hi + y.lo, t.hi - x.lo + y.hi⟩
def inF (s t y : Bd) : Bd := ⟨t.lo - s.hi + y.lo, t.hi - s.lo + y.hi⟩
def outF (s t x : Bd) : Bd := ⟨s.lo + x.lo - t.hi, s.hi + x.hi - t.lo⟩
def valB (b : Bd) : Prop := b.lo ≤ b.hi
section
variable (S X Y : Nat → Bd) (n : Nat)
def chF : Nat → Bd
 | 0 => S 0
 | i + 1 => meetB (S (i + 1)) (fwB (chF i) (X i) (Y i))
def chG : Nat → Bd
 | 0 => chF S X Y n
 | k + 1 => meetB (chF S X Y (n - (k + 1))) (bwB (chG k) (X (n - (k + 1))) (Y (n - (k + 1))))
def chB (i : Nat) : Bd := chG S X Y n (n - i)
def chX (i : Nat) : Bd := meetB (X i) (inF (chB S X Y n i) (chB S X Y n (i + 1)) (Y i))
def chY (i : Nat) : Bd := meetB (Y i) (outF (chB S X Y n i) (chB S X Y n (i + 1)) (X i))
structure Hi (s x y : Nat → Int) : Prop where
 st : ∀ i, i ≤ n → inB (S i) (s i)
 ins : ∀ i, i < n → inB (X i) (x i)
 outs : ∀ i, i < n → inB (Y i) (y i)
 bal : ∀ i, i < n → s (i + 1) = s i + x i - y i
end
section
variable {S X Y : Nat → Bd} {n : Nat} {s x y : Nat → Int}
theorem chB_end : chB S X Y n n = chF S X Y n := by simp [chB, chG]
theorem chB_step {i : Nat} (h : i < n) : chB S X Y n i = meetB (chF S X Y i) (bwB (chB S X Y n (i + 1)) (X i) (Y i)) := by
 unfold chB
 obtain ⟨k, hk⟩ : ∃ k, n - i = k + 1 := ⟨n - i - 1, by omega⟩
 rw [hk, chG, show n - (i + 1) = k by omega, show n - (k + 1) = i by omega]
theorem Hi.F (h : Hi S X Y n s x y) : ∀ i, i ≤ n → inB (chF S X Y i) (s i)
 | 0, hi => h.st 0 hi
 | i + 1, hi => by
  have h1 := h.F i (by omega)
  have h2 := h.st (i + 1) hi
  have h3 := h.ins i (by omega)
  have h4 := h.outs i (by omega)
  have h5 := h.bal i (by omega)
  simp only [chF, meetB, fwB, inB] at *
  omega
theorem Hi.G (h : Hi S X Y n s x y) : ∀ k, k ≤ n → inB (chB S X Y n (n - k)) (s (n - k))
 | 0, _ => by rw [Nat.sub_zero, chB_end]; exact h.F n (Nat.le_refl _)
 | k + 1, hk => by
  have h1 := h.G k (by omega)
  rw [chB_step (by omega), show n - (k + 1) + 1 = n - k by omega]
  have h2 := h.F (n - (k + 1)) (by omega)
  have h3 := h.ins (n - (k + 1)) (by omega)
  have h4 := h.outs (n - (k + 1)) (by omega)
  have h5 := h.bal (n - (k + 1)) (by omega)
  rw [show n - (k + 1) + 1 = n - k by omega] at h5
  simp only [meetB, bwB, inB] at *
  omega
theorem Hi.B (h : Hi S X Y n s x y) {i : Nat} (hi : i ≤ n) : inB (chB S X Y n i) (s i) := by
 have := h.G (n - i) (by omega)
 rwa [show n - (n - i) = i by omega] at this
theorem chF_sub (i : Nat) (v : Int) (h : inB (chF S X Y i) v) : inB (S i) v := by
 cases i with
 | zero => exact h
 | succ i => simp only [chF, meetB, inB] at *; omega
theorem chB_F {i : Nat} (hi : i ≤ n) {v : Int} (h : inB (chB S X Y n i) v) : inB (chF S X Y i) v := by
 by_cases e : i = n
 ·subst e; rwa [chB_end] at h
 ·rw [chB_step (by omega)] at h
  simp only [meetB, inB] at *; omega
theorem split3 {a x y : Bd} (ha : valB a) (hx : valB x) (hy : valB y) {v : Int} (h : inB (fwB a x y) v) : ∃ p q r, inB a p ∧ inB x q ∧ inB y r ∧ v = p + q - r := by
 simp only [valB, inB, fwB] at *
 by_cases h1 : v ≤ a.hi + x.lo - y.hi
 ·exact ⟨v - x.lo + y.hi, x.lo, y.hi, by omega⟩
 ·by_cases h2 : v ≤ a.hi + x.hi - y.hi
  ·exact ⟨a.hi, v - a.hi + y.hi, y.hi, by omega⟩
  ·exact ⟨a.hi, x.hi, a.hi + x.hi - v, by omega⟩
structure Vd (S X Y : Nat → Bd) (n : Nat) : Prop where
 x : ∀ i, i < n → valB (X i)
 y : ∀ i, i < n → valB (Y i)
 f : ∀ i, i ≤ n → valB (chF S X Y i)
theorem Vd.b (h : Vd S X Y n) : ∀ k, k ≤ n → valB (chB S X Y n (n - k))
 | 0, _ => by rw [Nat.sub_zero, chB_end]; exact h.f n (Nat.le_refl _)
 | k + 1, hk => by
  have h1 := h.b k (by omega)
  rw [chB_step (by omega), show n - (k + 1) + 1 = n - k by omega]
  have h2 := h.f (n - (k + 1)) (by omega)
  have h3 := h.x (n - (k + 1)) (by omega)
  have h4 := h.y (n - (k + 1)) (by omega)
  have h5 := chB_F (S := S) (X := X) (Y := Y) (show n - k ≤ n by omega) (v := (chB S X Y n (n - k)).lo) (by simp only [inB, valB] at *; omega)
  have h6 := chB_F (S := S) (X := X) (Y := Y) (show n - k ≤ n by omega) (v := (chB S X Y n (n - k)).hi) (by simp only [inB, valB] at *; omega)
  rw [show n - k = (n - (k + 1)) + 1 by omega] at h5 h6 h1 ⊢
  simp only [chF, meetB, bwB, fwB, inB, valB] at *
  omega
theorem Vd.B (h : Vd S X Y n) {i : Nat} (hi : i ≤ n) : valB (chB S X Y n i) := by
 have := h.b (n - i) (by omega)
 rwa [show n - (n - i) = i by omega] at this
theorem Vd.cx (h : Vd S X Y n) {i : Nat} (hi : i < n) : valB (chX S X Y n i) := by
 have h1 := h.B (Nat.le_of_lt hi)
 have h2 := h.B (show i + 1 ≤ n from hi)
 have h3 := h.x i hi
 have h4 := h.y i hi
 have h5 := chB_F (S := S) (X := X) (Y := Y) (show i + 1 ≤ n from hi) (v := (chB S X Y n (i + 1)).lo) (by simp only [inB, valB] at *; omega)
 have h6 := chB_F (S := S) (X := X) (Y := Y) (show i + 1 ≤ n from hi) (v := (chB S X Y n (i + 1)).hi) (by simp only [inB, valB] at *; omega)
 rw [chB_step hi] at h1
 have h7 := h.f i (by omega)
 unfold chX
 rw [chB_step hi]
 simp only [chF, meetB, bwB, fwB, inF, inB, valB] at *
 omega
theorem Vd.cy (h : Vd S X Y n) {i : Nat} (hi : i < n) : valB (chY S X Y n i) := by
 have h1 := h.B (Nat.le_of_lt hi)
 have h2 := h.B (show i + 1 ≤ n from hi)
 have h3 := h.x i hi
 have h4 := h.y i hi
 have h5 := chB_F (S := S) (X := X) (Y := Y) (show i + 1 ≤ n from hi) (v := (chB S X Y n (i + 1)).lo) (by simp only [inB, valB] at *; omega)
 have h6 := chB_F (S := S) (X := X) (Y := Y) (show i + 1 ≤ n from hi) (v := (chB S X Y n (i + 1)).hi) (by simp only [inB, valB] at *; omega)
 rw [chB_step hi] at h1
 have h7 := h.f i (by omega)
 unfold chY
 rw [chB_step hi]
 simp only [chF, meetB, bwB, fwB, outF, inB, valB] at *
 omega
theorem Vd.on (h : Vd S X Y n) {i : Nat} (hi : i < n) {v : Int} (hv : inB (chB S X Y n i) v) : ∃ q r, inB (X i) q ∧ inB (Y i) r ∧ inB (chB S X Y n (i + 1)) (v + q - r) := by
 have h2 := h.B (show i + 1 ≤ n from hi)
 have h3 := h.x i hi
 have h4 := h.y i hi
 rw [chB_step hi] at hv
 obtain ⟨p, q, r, h5, h6, h7, h8⟩ := split3 (a := chB S X Y n (i + 1)) (x := Y i) (y := X i) h2 h4 h3 (v := v) (by simp only [meetB, bwB, fwB, inB] at *; omega)
 exact ⟨r, q, h7, h6, by rw [show v + r - q = p by omega]; exact h5⟩
theorem Vd.back (h : Vd S X Y n) {i : Nat} (hi : i < n) {v : Int} (hv : inB (chB S X Y n (i + 1)) v) : ∃ p q r, inB (X i) q ∧ inB (Y i) r ∧ inB (chB S X Y n i) p ∧ v = p + q - r := by
 have h2 := h.f i (by omega)
 have h3 := h.x i hi
 have h4 := h.y i hi
 have h5 := chB_F (show i + 1 ≤ n from hi) hv
 obtain ⟨p, q, r, h6, h7, h8, h9⟩ := split3 (a := chF S X Y i) (x := X i) (y := Y i) h2 h3 h4 (v := v) (by simp only [chF, meetB, inB] at *; omega)
 refine ⟨p, q, r, h7, h8, ?_, h9⟩
 rw [chB_step hi]
 simp only [meetB, bwB, inB] at *
 omega
theorem Vd.hiTo (h : Vd S X Y n) : ∀ (i : Nat), i ≤ n → ∀ v, inB (chB S X Y n i) v → ∃ s x y : Nat → Int, s i = v ∧ (∀ j, j ≤ i → inB (chB S X Y n j) (s j)) ∧ ∀ j, j < i → inB (X j) (x j) ∧ inB (Y j) (y j) ∧ s (j + 1) = s j + x j - y j
 | 0, _, v, hv => ⟨fun _ => v, fun _ => 0, fun _ => 0, rfl, fun j h1 => by rw [show j = 0 by omega]; exact hv, fun j h1 => by omega⟩
 | i + 1, hi, v, hv => by
  obtain ⟨p, q, r, h1, h2, h3, h4⟩ := h.back (show i < n by omega) hv
  obtain ⟨s, x, y, h5, h6, h7⟩ := h.hiTo i (by omega) p h3
  refine ⟨fun j => if j = i + 1 then v else s j, fun j => if j = i then q else x j, fun j => if j = i then r else y j, by simp, fun j a => ?_, fun j a => ?_⟩
  ·simp only
   split
   ·rename_i e; rw [e]; exact hv
   ·exact h6 j (by omega)
  ·simp only
   by_cases e : j = i
   ·subst e
    rw [if_pos rfl, if_pos rfl, if_pos rfl, if_neg (by omega)]
    exact ⟨h1, h2, by rw [h5]; exact h4⟩
   ·rw [if_neg e, if_neg e, if_neg (by omega), if_neg (by omega)]
    exact h7 j (by omega)
theorem Hi.vd (h : Hi S X Y n s x y) : Vd S X Y n :=
 ⟨fun i hi => by have := h.ins i hi; simp only [inB, valB] at *; omega, fun i hi => by have := h.outs i hi; simp only [inB, valB] at *; omega, fun i hi => by have := h.F i hi; simp only [inB, valB] at *; omega⟩
end
def stepsL (n : Nat) (back : Bool) : List Int := (List.range n).map fun (k : Nat) => if back then (n : Int) - 1 - (k : Int) else (k : Int)
theorem stepsL_length (n : Nat) (back : Bool) : (stepsL n back).length = n := by simp [stepsL]
theorem stepsL_get (n : Nat) (back : Bool) {k : Nat} (hk : k < n) : (stepsL n back)[k]? = some (if back then (n : Int) - 1 - (k : Int) else (k : Int)) := by simp [stepsL, hk]
theorem stepsL_mem {n : Nat} {back : Bool} {x : Int} (h : x ∈ stepsL n back) : 0 ≤ x ∧ x < n := by
 obtain ⟨k, hk, rfl⟩ := List.mem_map.1 h
 have := List.mem_range.1 hk
 split <;> omega
theorem acv_pur (a : Ac) : (acv a).pur = true := by simp [acv, go_sem, bds_pur]
def narB (b c : Bd) : Option Bd := if b.lo ≤ b.hi ∧ c.lo ≤ c.hi ∧ max b.lo c.lo ≤ min b.hi c.hi then some (meetB b c) else none
def meetR (b c : Bd) : Bd := (narB b c).getD ⟨0, 0⟩
theorem one_cells {x : AV} (h : x.one = true) : x.cells = [x] := by cases x <;> simp_all [AV.one, AV.cells]
theorem ok_quantity_Meet (b c : Bd) : PC prog n_quantity_Meet [bdv b, bdv c] (.tuple [bdv (meetR b c), .bool (narB b c).isSome]) := by
 have no : ∀ {σ : St}, narB b c = none → Pub σ (.tuple [.agg [.int .i64 0, .int .i64 0], .bool false]) (.tuple [bdv (meetR b c), .bool (narB b c).isSome]) := fun h => Pub.of_eq (by simp [meetR, h, bdv]) rfl
 refine PC_of_body b_quantity_Meet (by simp) ?_
 simp only [c_quantity_Meet, go_sem, jA, jB, jC, jD, jE, jF, jG, jH, jI, jJ, ↓reduceIte, reduceCtorEq, jP, bdv]
 refine gd_fd rfl (fun h => ?_) (fun h => ?_) <;> try simp (disch := omega) only [go_sem, jA, jB, jC, jD, jE, jF, jG, jH, jI, jJ, ↓reduceIte, reduceCtorEq, jO, jM, jN, jK, jL]
 ·exact no (by simp only [narB]; rw [if_neg (by omega)])
 refine gd_fd rfl (fun h2 => ?_) (fun h2 => ?_) <;> try simp (disch := omega) only [go_sem, jA, jB, jC, jD, jE, jF, jG, jH, jI, jJ, ↓reduceIte, reduceCtorEq, jO, jM, jN, jK, jL]
 ·exact no (by simp only [narB]; rw [if_neg (by omega)])
 refine cond_d (fun h3 => ?_) (fun h3 => ?_) <;> try simp (disch := omega) only [go_sem, jA, jB, jC, jD, jE, jF, jG, jH, jI, jJ, ↓reduceIte, reduceCtorEq, jO, jM, jN, jK, jL]
 ·exact no (by simp only [narB]; rw [if_neg (by omega)])
 have : narB b c = some (meetB b c) := by simp only [narB]; rw [if_pos (by omega)]
 exact Pub.of_eq (by simp [meetR, this, bdv, meetB]) rfl
def PutO (σ : St) (id : Nat) (o : AObj) (τ : St) : Prop := σ.n ≤ τ.n ∧ τ.ob id = some o ∧ ∀ k, k < σ.n → k ≠ id → τ.ob k = σ.ob k
def AsO (σ τ : St) : Prop := σ.n ≤ τ.n ∧ ∀ k, k < σ.n → τ.ob k = σ.ob k
theorem hc_ledger_narrow (σ : St) (id g i : Nat) (ty : TypeId) (L : List Bd) (b c : Bd) (hob : σ.ob id = some ⟨g, 2, ty, false, true, bds L⟩) (hi' : L[i]? = some b) (hid : id < σ.n) :
  HC prog n_ledger_narrow [.ptr id g 2 i 0, .int .i64 c.lo, .int .i64 c.hi] σ (fun r τ => r = .bool (narB b c).isSome ∧ PutO σ id ⟨g, 2, ty, false, true, bds (L.set i ((narB b c).getD b))⟩ τ) := by
 obtain ⟨ob, n, cc⟩ := σ
 simp only at hob hid
 have hlt := (List.getElem?_eq_some_iff.1 hi').1
 have hbi : (bds L)[i]? = some (bdv b) := by rw [bds_get, hi']; rfl
 have hset : ∀ b', (bds L).set i (bdv b') = bds (L.set i b') := fun b' => by simp [bds, List.map_set]
 have hself : L.set i b = L := by
  obtain ⟨_, h⟩ := List.getElem?_eq_some_iff.1 hi'
  rw [← h]; exact List.set_getElem_self _
 have hne : ¬ id = n := by omega
 refine HC_of_body b_ledger_narrow (by simp) ?_
 simp only [c_ledger_narrow, go_sem, jA, jB, jC, jD, jE, jF, jG, jH, jI, jJ, ↓reduceIte, reduceCtorEq, jP, hob, hbi, bdv]
 refine call_pc (ok_quantity_Meet b c) (by simp [go_sem, bdv]) ?_
 unfold meetR
 cases hn : narB b c with
 | none =>
  try simp (disch := omega) only [go_sem, jA, jB, jC, jD, jE, jF, jG, jH, jI, jJ, ↓reduceIte, reduceCtorEq, jO, jM, jN, jK, jL, Option.isSome, Option.getD, hob, hbi, bdv]
  rw [hself]
  refine ⟨Nat.le_succ _, ?_, fun k hk _ => ?_⟩
  ·try simp (disch := omega) only [go_sem, jA, jB, jC, jD, jE, jF, jG, jH, jI, jJ, ↓reduceIte, reduceCtorEq, jO, jM, jN, jK, jL, hne]; exact hob
  ·simp only at hk
   have h1 : ¬ k = n := by omega
   try simp (disch := omega) only [go_sem, jA, jB, jC, jD, jE, jF, jG, jH, jI, jJ, ↓reduceIte, reduceCtorEq, jO, jM, jN, jK, jL, h1]
 | some d =>
  have hs := hset d
  simp only [bdv] at hs
  try simp (disch := omega) only [go_sem, jA, jB, jC, jD, jE, jF, jG, jH, jI, jJ, ↓reduceIte, reduceCtorEq, jO, jM, jN, jK, jL, Option.isSome, Option.getD, hob, hbi, bdv, hs, bds_length, hne]
  refine ⟨Nat.le_succ _, ?_, fun k hk hk2 => ?_⟩
  ·try simp (disch := omega) only [go_sem, jA, jB, jC, jD, jE, jF, jG, jH, jI, jJ, ↓reduceIte, reduceCtorEq, jO, jM, jN, jK, jL, hne]
  ·simp only at hk
   have h1 : ¬ k = n := by omega
   try simp (disch := omega) only [go_sem, jA, jB, jC, jD, jE, jF, jG, jH, jI, jJ, ↓reduceIte, reduceCtorEq, jO, jM, jN, jK, jL, h1, hk2]
theorem hc_ledger_lists (σ : St) (id g : Nat) (ty : TypeId) (f x y z : AV) (hob : σ.ob id = some ⟨g, 4, ty, false, true, [.agg [f, x, y, z]]⟩) (hx : x.one = true) (hy : y.one = true) (hz : z.one = true) (hid : id < σ.n) :
  HC prog n_ledger_lists [.ptr id g 4 0 0] σ (fun r τ => r = .agg [x, y, z] ∧ AsO σ τ) := by
 obtain ⟨ob, n, c⟩ := σ
 simp only at hob hid
 refine HC_of_body b_ledger_lists (by simp) ?_
 have hn : ¬ id = n := by omega
 have cx := one_cells hx
 have cy := one_cells hy
 have cz := one_cells hz
 simp only [c_ledger_lists, go_sem, jA, jB, jC, jD, jE, jF, jG, jH, jI, jJ, ↓reduceIte, reduceCtorEq, jP, hob, hn, hx, hy, hz]
 try simp (disch := omega) only [go_sem, jA, jB, jC, jD, jE, jF, jG, jH, jI, jJ, ↓reduceIte, reduceCtorEq, jO, jM, jN, jK, jL, hob, hn, hx, hy, hz, cx, cy, cz]
 have one_flat : ∀ {x : AV}, x.one = true → x.flat = true := fun {x} h => by cases x <;> simp_all [AV.one, AV.flat]
 refine ⟨⟨one_flat hx, one_flat hy, one_flat hz⟩, Nat.le_succ _, fun k hk => ?_⟩
 simp only at hk
 have h1 : ¬ k = n := by omega
 try simp (disch := omega) only [go_sem, jA, jB, jC, jD, jE, jF, jG, jH, jI, jJ, ↓reduceIte, reduceCtorEq, jO, jM, jN, jK, jL, h1]
theorem ok_ref30_account (a : Ac) (hl : a.ins.length ≤ 9223372036854775807) (hs : a.st.length ≤ 9223372036854775807) : PC prog n_ref30_account [acv a] (.int .i64 (ef a)) := by
 refine PC_of_body b_ref30_account (by simp) ?_
 simp only [c_ref30_account, go_sem, jA, jB, jC, jD, jE, jF, jG, jH, jI, jJ, ↓reduceIte, reduceCtorEq, jP, acv, bds_length]
 have e3 : ∀ {σ : St}, (a.ins.length = 0 ∨ a.outs.length ≠ a.ins.length ∨ a.st.length ≠ a.ins.length + 1) → Pub σ (.int .i64 3) (.int .i64 (ef a)) := fun h => Pub.of_eq (by simp only [ef, if_pos h]) rfl
 refine gd_fd rfl (fun h => ?_) (fun h => ?_) <;> try simp (disch := omega) only [go_sem, jA, jB, jC, jD, jE, jF, jG, jH, jI, jJ, ↓reduceIte, reduceCtorEq, jO, jM, jN, jK, jL, bds_length]
 ·exact e3 (.inl (by omega))
 refine gd_fn rfl (fun h2 => ?_) (fun h2 => ?_) <;> try simp (disch := omega) only [go_sem, jA, jB, jC, jD, jE, jF, jG, jH, jI, jJ, ↓reduceIte, reduceCtorEq, jO, jM, jN, jK, jL, bds_length]
 ·exact e3 (.inr (.inl (by omega)))
 by_cases hnb : a.ins.length = 9223372036854775807
 ·have hw : IntKind.i64.wrap ((a.ins.length : Int) + 1) = -9223372036854775808 := by rw [hnb]; decide
  try simp (disch := omega) only [go_sem, jA, jB, jC, jD, jE, jF, jG, jH, jI, jJ, ↓reduceIte, reduceCtorEq, jO, jM, jN, jK, jL, hw]
  exact e3 (.inr (.inr (by omega)))
 try simp (disch := omega) only [go_sem, jA, jB, jC, jD, jE, jF, jG, jH, jI, jJ, ↓reduceIte, reduceCtorEq, jO, jM, jN, jK, jL]
 refine cond_n (fun h3 => ?_) (fun h3 => ?_) <;> try simp (disch := omega) only [go_sem, jA, jB, jC, jD, jE, jF, jG, jH, jI, jJ, ↓reduceIte, reduceCtorEq, jO, jM, jN, jK, jL, bds_length]
 ·exact e3 (.inr (.inr (by omega)))
 have hf : ¬ (a.ins.length = 0 ∨ a.outs.length ≠ a.ins.length ∨ a.st.length ≠ a.ins.length + 1) := by omega
 refine cond_d (fun h4 => ?_) (fun h4 => ?_) <;> try simp (disch := omega) only [go_sem, jA, jB, jC, jD, jE, jF, jG, jH, jI, jJ, ↓reduceIte, reduceCtorEq, jO, jM, jN, jK, jL, bds_length]
 ·exact Pub.of_eq (by simp only [ef, if_neg hf]; rw [if_pos (by omega)]) rfl
 refine gd_fd rfl (fun h5 => ?_) (fun h5 => ?_) <;> try simp (disch := omega) only [go_sem, jA, jB, jC, jD, jE, jF, jG, jH, jI, jJ, ↓reduceIte, reduceCtorEq, jO, jM, jN, jK, jL, bds_length]
 ·exact Pub.of_eq (by simp only [ef, if_neg hf]; rw [if_neg (by omega), if_pos (.inl h5)]) rfl
 refine cond_d (fun h6 => ?_) (fun h6 => ?_) <;> try simp (disch := omega) only [go_sem, jA, jB, jC, jD, jE, jF, jG, jH, jI, jJ, ↓reduceIte, reduceCtorEq, jO, jM, jN, jK, jL, bds_length]
 ·exact Pub.of_eq (by simp only [ef, if_neg hf]; rw [if_neg (by omega), if_pos (.inr h6)]) rfl
 exact Pub.of_eq (by simp only [ef, if_neg hf]; rw [if_neg (by omega), if_neg (by omega)]) rfl
def nthL (a : Ac) (k : Nat) (l : List Bd) : Prop := (k = 0 ∧ l = a.st) ∨ (k = 1 ∧ l = a.ins) ∨ (k = 2 ∧ l = a.outs)
def goodL (a : Ac) (k : Nat) : Prop := (1 ≤ k → el a.st = 0) ∧ (2 ≤ k → el a.ins = 0) ∧ (3 ≤ k → el a.outs = 0)
theorem nthL_ex (a : Ac) {k : Nat} (h : k < 3) : ∃ l, nthL a k l ∧ [AV.list 2 (bds a.st), .list 2 (bds a.ins), .list 2 (bds a.outs)][k]? = some (.list 2 (bds l)) := by
 rcases (by omega : k = 0 ∨ k = 1 ∨ k = 2) with rfl | rfl | rfl
 ·exact ⟨_, .inl ⟨rfl, rfl⟩, rfl⟩
 ·exact ⟨_, .inr (.inl ⟨rfl, rfl⟩), rfl⟩
 ·exact ⟨_, .inr (.inr ⟨rfl, rfl⟩), rfl⟩
theorem goodL_succ {a : Ac} {k : Nat} {l : List Bd} (hg : goodL a k) (hn : nthL a k l) (h : el l = 0) : goodL a (k + 1) := by
 unfold goodL at *
 rcases hn with ⟨rfl, rfl⟩ | ⟨rfl, rfl⟩ | ⟨rfl, rfl⟩
 ·exact ⟨fun _ => h, fun h => by omega, fun h => by omega⟩
 ·exact ⟨fun _ => hg.1 (by omega), fun _ => h, fun h => by omega⟩
 ·exact ⟨fun _ => hg.1 (by omega), fun _ => hg.2.1 (by omega), fun _ => h⟩
theorem chk_bad {a : Ac} {k : Nat} {l : List Bd} (hf : ef a = 0) (hg : goodL a k) (hn : nthL a k l) {j : Nat} {b : Bd} (hj : l[j]? = some b) (ht : ∀ x ∈ l.take j, eb x = 0) (hb : eb b ≠ 0) : chk a = eb b := by
 have h : el l = eb b := by rw [el_take hj ht, if_neg hb]
 unfold goodL at hg
 unfold chk
 rw [if_neg (by simp [hf])]
 rcases hn with ⟨rfl, rfl⟩ | ⟨rfl, rfl⟩ | ⟨rfl, rfl⟩
 ·rw [if_pos (by rw [h]; exact hb), h]
 ·rw [if_neg (by simp [hg.1 (by omega)]), if_pos (by rw [h]; exact hb), h]
 ·rw [if_neg (by simp [hg.1 (by omega)]), if_neg (by simp [hg.2.1 (by omega)]), h]
theorem chk_good {a : Ac} (hf : ef a = 0) (hg : goodL a 3) : chk a = 0 := by
 unfold chk
 rw [if_neg (by simp [hf]), if_neg (by simp [hg.1 (by omega)]), if_neg (by simp [hg.2.1 (by omega)]), hg.2.2 (by omega)]
theorem el_all {l : List Bd} (h : ∀ x ∈ l, eb x = 0) : el l = 0 := el_zero.2 fun b hb => eb_zero.1 (h b hb)
theorem take_all_snoc {l : List Bd} {j : Nat} {b : Bd} (hj : l[j]? = some b) (h : ∀ x ∈ l.take j, eb x = 0) (hb : eb b = 0) : ∀ x ∈ l.take (j + 1), eb x = 0 := by
 intro x hx
 rw [List.take_add_one, hj] at hx
 simp only [Option.toList, List.mem_append, List.mem_singleton] at hx
 rcases hx with hx | rfl
 ·exact h x hx
 ·exact hb
def AcL (a : Ac) : Prop := a.st.length ≤ 9223372036854775807 ∧ a.ins.length ≤ 9223372036854775807 ∧ a.outs.length ≤ 9223372036854775807
theorem AcL.nth {a : Ac} (h : AcL a) {k : Nat} {l : List Bd} (hn : nthL a k l) : l.length ≤ 9223372036854775807 := by
 rcases hn with ⟨_, rfl⟩ | ⟨_, rfl⟩ | ⟨_, rfl⟩
 ·exact h.1
 ·exact h.2.1
 ·exact h.2.2
theorem ok_ref30_Check (a : Ac) (hl : AcL a) : PC prog n_ref30_Check [acv a] (.int .i64 (chk a)) := by
 refine PC_of_body b_ref30_Check (by simp) ?_
 simp only [c_ref30_Check, go_sem, jA, jB, jC, jD, jE, jF, jG, jH, jI, jJ, ↓reduceIte, reduceCtorEq, jP, acv, bds_length]
 refine call_pc (ok_ref30_account a hl.2.1 hl.1) (by simp [go_sem, acv, bds_pur]) ?_
 try simp (disch := omega) only [go_sem, jA, jB, jC, jD, jE, jF, jG, jH, jI, jJ, ↓reduceIte, reduceCtorEq, jO, jM, jN, jK, jL]
 refine cond_n (fun h => ?_) (fun h => ?_) <;> try simp (disch := omega) only [go_sem, jA, jB, jC, jD, jE, jF, jG, jH, jI, jJ, ↓reduceIte, reduceCtorEq, jO, jM, jN, jK, jL]
 ·exact Pub.of_eq (by simp only [chk]; rw [if_pos h]) rfl
 refine awp_upF [2, 5, 7, 21, 22, 23, 24, 25, 26, 27, 28, 29, 30, 31, 32, 33, 34, 35, 36, 37, 38, 39, 40, 41, 42, 43, 44, 45] (by kernel_rfl) 3 (fun k e σ => e 21 = .int .i64 k ∧ goodL a k) ?_ ?_
 ·exact ⟨(by first | rfl | (simp (disch := omega) only [go_sem, jA, jB, jC, jD, jE, jF, jG, jH, jI, jJ, ↓reduceIte, reduceCtorEq, jP, jO, jM, jN]; try rfl)), fun h => by omega, fun h => by omega, fun h => by omega⟩
 ·rintro k fe ob c hk ⟨h21, hg⟩
  simp (maxSteps := 1000000) only [go_sem, jA, jB, jC, jD, jE, jF, jG, jH, jI, jJ, ↓reduceIte, reduceCtorEq, jP] at h21
  try simp (disch := omega) only [go_sem, jA, jB, jC, jD, jE, jF, jG, jH, jI, jJ, ↓reduceIte, reduceCtorEq, jO, jM, jN, jK, jL, h21]
  refine cond_d (fun hlt => ?_) (fun hge => ?_)
  ·have hk3 : k < 3 := by omega
   obtain ⟨l, hn, hk2⟩ := nthL_ex a hk3
   try simp (disch := omega) only [go_sem, jA, jB, jC, jD, jE, jF, jG, jH, jI, jJ, ↓reduceIte, reduceCtorEq, jO, jM, jN, jK, jL, h21, hk2, bds_length]
   refine ⟨by omega, by omega, ?_⟩
   have hll := hl.nth hn
   refine awp_upF [2, 7, 27, 28, 29, 30, 31, 32, 33, 34, 35, 36, 37, 38, 39, 40, 41, 42, 43, 44] (by kernel_rfl) l.length (fun j e σ => e 27 = .int .i64 j ∧ ∀ x ∈ l.take j, eb x = 0) ?_ ?_
   ·exact ⟨(by first | rfl | (simp (disch := omega) only [go_sem, jA, jB, jC, jD, jE, jF, jG, jH, jI, jJ, ↓reduceIte, reduceCtorEq, jP, jO, jM, jN]; try rfl)), by simp⟩
   ·rintro j fe2 ob2 c2 hj ⟨h27, ht⟩
    simp (maxSteps := 1000000) only [go_sem, jA, jB, jC, jD, jE, jF, jG, jH, jI, jJ, ↓reduceIte, reduceCtorEq, jP] at h27
    try simp (disch := omega) only [go_sem, jA, jB, jC, jD, jE, jF, jG, jH, jI, jJ, ↓reduceIte, reduceCtorEq, jO, jM, jN, jK, jL, h27, bds_length]
    refine cond_d (fun hlt => ?_) (fun hge => ?_)
    ·have hjl : j < l.length := by omega
     have hj2 : l[j]? = some l[j] := List.getElem?_eq_getElem hjl
     generalize l[j] = b at *
     try simp (disch := omega) only [go_sem, jA, jB, jC, jD, jE, jF, jG, jH, jI, jJ, ↓reduceIte, reduceCtorEq, jO, jM, jN, jK, jL, h27, hj2, bds_get, bds_length, Option.map_some, bdv]
     refine ⟨by omega, by omega, ?_⟩
     have hbad := chk_bad h hg hn hj2 ht
     refine gd_fd rfl (fun g1 => ?_) (fun g1 => ?_) <;> try simp (disch := omega) only [go_sem, jA, jB, jC, jD, jE, jF, jG, jH, jI, jJ, ↓reduceIte, reduceCtorEq, jO, jM, jN, jK, jL]
     ·have e : eb b = 1 := by unfold eb; rw [if_pos (.inl g1)]
      exact Pub.of_eq (by rw [hbad (by omega), e]) rfl
     refine cond_d (fun g2 => ?_) (fun g2 => ?_) <;> try simp (disch := omega) only [go_sem, jA, jB, jC, jD, jE, jF, jG, jH, jI, jJ, ↓reduceIte, reduceCtorEq, jO, jM, jN, jK, jL]
     ·have e : eb b = 1 := by unfold eb mxV; rw [if_pos (.inr g2)]
      exact Pub.of_eq (by rw [hbad (by omega), e]) rfl
     refine cond_d (fun g3 => ?_) (fun g3 => ?_) <;> try simp (disch := omega) only [go_sem, jA, jB, jC, jD, jE, jF, jG, jH, jI, jJ, ↓reduceIte, reduceCtorEq, jO, jM, jN, jK, jL]
     ·have e : eb b = 48 := by unfold eb mxV; rw [if_neg (by omega), if_pos g3]
      exact Pub.of_eq (by rw [hbad (by omega), e]) rfl
     try simp (disch := omega) only [go_sem, jA, jB, jC, jD, jE, jF, jG, jH, jI, jJ, ↓reduceIte, reduceCtorEq, jO, jM, jN, jK, jL, h27]
     refine up_next hjl ⟨(by first | rfl | (simp (disch := omega) only [go_sem, jA, jB, jC, jD, jE, jF, jG, jH, jI, jJ, ↓reduceIte, reduceCtorEq, jP, jO, jM, jN]; try rfl)), take_all_snoc hj2 ht ?_⟩
     unfold eb mxV; rw [if_neg (by omega), if_neg (by omega)]
    ·try simp (disch := omega) only [go_sem, jA, jB, jC, jD, jE, jF, jG, jH, jI, jJ, ↓reduceIte, reduceCtorEq, jO, jM, jN, jK, jL, h21]
     have : j = l.length := by omega
     subst this
     rw [List.take_length] at ht
     exact up_next hk3 ⟨(by first | rfl | (simp (disch := omega) only [go_sem, jA, jB, jC, jD, jE, jF, jG, jH, jI, jJ, ↓reduceIte, reduceCtorEq, jP, jO, jM, jN]; try rfl)), goodL_succ hg hn (el_all ht)⟩
  ·try simp (disch := omega) only [go_sem, jA, jB, jC, jD, jE, jF, jG, jH, jI, jJ, ↓reduceIte, reduceCtorEq, jO, jM, jN, jK, jL]
   have : k = 3 := by omega
   subst this
   exact Pub.of_eq (by rw [chk_good h hg]) rfl
theorem nthA_ex (a : Ac) {k : Nat} (h : k < 3) : ∃ l, nthL a k l ∧ ([.list 2 (bds a.st), .list 2 (bds a.ins), .list 2 (bds a.outs)] : List AV).getD (k * 1) .junk = .list 2 (bds l) := by
 obtain ⟨l, h1, h2⟩ := nthL_ex a h
 exact ⟨l, h1, by rw [Nat.mul_one, List.getD_eq_getElem?_getD, h2]; rfl⟩
theorem ok_ledger_Check (a : Ac) (hl : AcL a) : PC prog n_ledger_Check [acv a] (.int .i64 (chk a)) := by
 have l1 := hl.1
 have l2 := hl.2.1
 have l3 := hl.2.2
 refine PC_of_body b_ledger_Check (by simp) ?_
 simp only [c_ledger_Check, go_sem, jA, jB, jC, jD, jE, jF, jG, jH, jI, jJ, ↓reduceIte, reduceCtorEq, jP, acv, bds_length]
 have e3 : ∀ {σ : St}, (a.ins.length = 0 ∨ a.outs.length ≠ a.ins.length ∨ a.st.length ≠ a.ins.length + 1) → Pub σ (.int .i64 3) (.int .i64 (chk a)) := fun h => Pub.of_eq (by
  have : ef a = 3 := by simp only [ef, if_pos h]
  simp [chk, this]) rfl
 have ee : ∀ {σ : St} {e : Int}, ef a = e → e ≠ 0 → Pub σ (.int .i64 e) (.int .i64 (chk a)) := fun {σ e} h h0 => Pub.of_eq (by
  unfold chk
  rw [if_pos (by omega), h]) rfl
 refine gd_fd rfl (fun h => ?_) (fun h => ?_) <;> try simp (disch := omega) only [go_sem, jA, jB, jC, jD, jE, jF, jG, jH, jI, jJ, ↓reduceIte, reduceCtorEq, jO, jM, jN, jK, jL, bds_length]
 ·exact e3 (.inl (by omega))
 refine gd_fn rfl (fun h2 => ?_) (fun h2 => ?_) <;> try simp (disch := omega) only [go_sem, jA, jB, jC, jD, jE, jF, jG, jH, jI, jJ, ↓reduceIte, reduceCtorEq, jO, jM, jN, jK, jL, bds_length]
 ·exact e3 (.inr (.inl (by omega)))
 by_cases hnb : a.ins.length = 9223372036854775807
 ·have hw : IntKind.i64.wrap ((a.ins.length : Int) + 1) = -9223372036854775808 := by rw [hnb]; decide
  try simp (disch := omega) only [go_sem, jA, jB, jC, jD, jE, jF, jG, jH, jI, jJ, ↓reduceIte, reduceCtorEq, jO, jM, jN, jK, jL, hw]
  exact e3 (.inr (.inr (by omega)))
 try simp (disch := omega) only [go_sem, jA, jB, jC, jD, jE, jF, jG, jH, jI, jJ, ↓reduceIte, reduceCtorEq, jO, jM, jN, jK, jL]
 refine cond_n (fun h3 => ?_) (fun h3 => ?_) <;> try simp (disch := omega) only [go_sem, jA, jB, jC, jD, jE, jF, jG, jH, jI, jJ, ↓reduceIte, reduceCtorEq, jO, jM, jN, jK, jL, bds_length]
 ·exact e3 (.inr (.inr (by omega)))
 have hf0 : ¬ (a.ins.length = 0 ∨ a.outs.length ≠ a.ins.length ∨ a.st.length ≠ a.ins.length + 1) := by omega
 refine cond_d (fun h4 => ?_) (fun h4 => ?_) <;> try simp (disch := omega) only [go_sem, jA, jB, jC, jD, jE, jF, jG, jH, jI, jJ, ↓reduceIte, reduceCtorEq, jO, jM, jN, jK, jL, bds_length]
 ·exact ee (by simp only [ef, if_neg hf0]; rw [if_pos (by omega)]) (by omega)
 refine gd_fd rfl (fun h5 => ?_) (fun h5 => ?_) <;> try simp (disch := omega) only [go_sem, jA, jB, jC, jD, jE, jF, jG, jH, jI, jJ, ↓reduceIte, reduceCtorEq, jO, jM, jN, jK, jL, bds_length]
 ·exact ee (by simp only [ef, if_neg hf0]; rw [if_neg (by omega), if_pos (.inl h5)]) (by omega)
 refine cond_d (fun h6 => ?_) (fun h6 => ?_) <;> try simp (disch := omega) only [go_sem, jA, jB, jC, jD, jE, jF, jG, jH, jI, jJ, ↓reduceIte, reduceCtorEq, jO, jM, jN, jK, jL, bds_length]
 ·exact ee (by simp only [ef, if_neg hf0]; rw [if_neg (by omega), if_pos (.inr h6)]) (by omega)
 have h : ef a = 0 := by simp only [ef, if_neg hf0]; rw [if_neg (by omega), if_neg (by omega)]
 refine (hc_ledger_lists _ 0 _ _ _ _ _ _ rfl rfl rfl rfl (by simp [go_sem])).mono ?_
 rintro _ τ ⟨rfl, hn0, hτ⟩
 obtain ⟨ob, m, cc⟩ := τ
 try simp (disch := omega) only [go_sem, jA, jB, jC, jD, jE, jF, jG, jH, jI, jJ, ↓reduceIte, reduceCtorEq, jO, jM, jN, jK, jL]
 refine awp_upF [2, 5, 7, 44, 45, 46, 47, 48, 49, 50, 51, 52, 53, 54, 55, 56, 57, 58, 59, 60, 61, 62, 63, 64, 65, 66, 67] (by kernel_rfl) 3 (fun k e σ => e 44 = .int .i64 k ∧ goodL a k) ?_ ?_
 ·exact ⟨(by first | rfl | (simp (disch := omega) only [go_sem, jA, jB, jC, jD, jE, jF, jG, jH, jI, jJ, ↓reduceIte, reduceCtorEq, jP, jO, jM, jN]; try rfl)), fun h => by omega, fun h => by omega, fun h => by omega⟩
 ·rintro k fe ob c hk ⟨h21, hg⟩
  simp (maxSteps := 1000000) only [go_sem, jA, jB, jC, jD, jE, jF, jG, jH, jI, jJ, ↓reduceIte, reduceCtorEq, jP] at h21
  try simp (disch := omega) only [go_sem, jA, jB, jC, jD, jE, jF, jG, jH, jI, jJ, ↓reduceIte, reduceCtorEq, jO, jM, jN, jK, jL, h21]
  refine cond_d (fun hlt => ?_) (fun hge => ?_)
  ·have hk3 : k < 3 := by omega
   obtain ⟨l, hn, hk2⟩ := nthA_ex a hk3
   try simp (disch := omega) only [go_sem, jA, jB, jC, jD, jE, jF, jG, jH, jI, jJ, ↓reduceIte, reduceCtorEq, jO, jM, jN, jK, jL, h21, hk2, bds_length]
   refine ⟨by omega, by omega, by omega, ?_⟩
   have hll := hl.nth hn
   refine awp_upF [2, 7, 49, 50, 51, 52, 53, 54, 55, 56, 57, 58, 59, 60, 61, 62, 63, 64, 65, 66] (by kernel_rfl) l.length (fun j e σ => e 49 = .int .i64 j ∧ ∀ x ∈ l.take j, eb x = 0) ?_ ?_
   ·exact ⟨(by first | rfl | (simp (disch := omega) only [go_sem, jA, jB, jC, jD, jE, jF, jG, jH, jI, jJ, ↓reduceIte, reduceCtorEq, jP, jO, jM, jN]; try rfl)), by simp⟩
   ·rintro j fe2 ob2 c2 hj ⟨h27, ht⟩
    simp (maxSteps := 1000000) only [go_sem, jA, jB, jC, jD, jE, jF, jG, jH, jI, jJ, ↓reduceIte, reduceCtorEq, jP] at h27
    try simp (disch := omega) only [go_sem, jA, jB, jC, jD, jE, jF, jG, jH, jI, jJ, ↓reduceIte, reduceCtorEq, jO, jM, jN, jK, jL, h27, bds_length]
    refine cond_d (fun hlt => ?_) (fun hge => ?_)
    ·have hjl : j < l.length := by omega
     have hj2 : l[j]? = some l[j] := List.getElem?_eq_getElem hjl
     generalize l[j] = b at *
     try simp (disch := omega) only [go_sem, jA, jB, jC, jD, jE, jF, jG, jH, jI, jJ, ↓reduceIte, reduceCtorEq, jO, jM, jN, jK, jL, h27, hj2, bds_get, bds_length, Option.map_some, bdv]
     refine ⟨by omega, by omega, ?_⟩
     have hbad := chk_bad h hg hn hj2 ht
     refine gd_fd rfl (fun g1 => ?_) (fun g1 => ?_) <;> try simp (disch := omega) only [go_sem, jA, jB, jC, jD, jE, jF, jG, jH, jI, jJ, ↓reduceIte, reduceCtorEq, jO, jM, jN, jK, jL]
     ·have e : eb b = 1 := by unfold eb; rw [if_pos (.inl g1)]
      exact Pub.of_eq (by rw [hbad (by omega), e]) rfl
     refine cond_d (fun g2 => ?_) (fun g2 => ?_) <;> try simp (disch := omega) only [go_sem, jA, jB, jC, jD, jE, jF, jG, jH, jI, jJ, ↓reduceIte, reduceCtorEq, jO, jM, jN, jK, jL]
     ·have e : eb b = 1 := by unfold eb mxV; rw [if_pos (.inr g2)]
      exact Pub.of_eq (by rw [hbad (by omega), e]) rfl
     refine cond_d (fun g3 => ?_) (fun g3 => ?_) <;> try simp (disch := omega) only [go_sem, jA, jB, jC, jD, jE, jF, jG, jH, jI, jJ, ↓reduceIte, reduceCtorEq, jO, jM, jN, jK, jL]
     ·have e : eb b = 48 := by unfold eb mxV; rw [if_neg (by omega), if_pos g3]
      exact Pub.of_eq (by rw [hbad (by omega), e]) rfl
     try simp (disch := omega) only [go_sem, jA, jB, jC, jD, jE, jF, jG, jH, jI, jJ, ↓reduceIte, reduceCtorEq, jO, jM, jN, jK, jL, h27]
     refine up_next hjl ⟨(by first | rfl | (simp (disch := omega) only [go_sem, jA, jB, jC, jD, jE, jF, jG, jH, jI, jJ, ↓reduceIte, reduceCtorEq, jP, jO, jM, jN]; try rfl)), take_all_snoc hj2 ht ?_⟩
     unfold eb mxV; rw [if_neg (by omega), if_neg (by omega)]
    ·try simp (disch := omega) only [go_sem, jA, jB, jC, jD, jE, jF, jG, jH, jI, jJ, ↓reduceIte, reduceCtorEq, jO, jM, jN, jK, jL, h21]
     have : j = l.length := by omega
     subst this
     rw [List.take_length] at ht
     exact up_next hk3 ⟨(by first | rfl | (simp (disch := omega) only [go_sem, jA, jB, jC, jD, jE, jF, jG, jH, jI, jJ, ↓reduceIte, reduceCtorEq, jP, jO, jM, jN]; try rfl)), goodL_succ hg hn (el_all ht)⟩
  ·try simp (disch := omega) only [go_sem, jA, jB, jC, jD, jE, jF, jG, jH, jI, jJ, ↓reduceIte, reduceCtorEq, jO, jM, jN, jK, jL]
   have : k = 3 := by omega
   subst this
   exact Pub.of_eq (by rw [chk_good h hg]) rfl
section
open Go.RowKit Go.Shelf
attribute [local go_sem] Oper.semAt_some
set_option maxHeartbeats 4000000 in
theorem steps1_in (back : Bool) (n : Nat) (hn : n ≤ 4611686018427387904) (q l : Nat) (p1 p2 : Addr) (J Jx : List {x : Int // x ∈ stepsL n back} → World → Prop)
  (hY : ∀ pre x W, J pre W → pre.length < (stepsL n back).length → YieldAt Fence.wide (q - 1) prog l #[.int .i64 x.1] W fun e W' =>
   (e = .returned (.bool true) ∧ J (pre ++ [x]) W' ∧ (W.cell? p1 = some (.int .i64 n) → W.cell? p2 = some (.bool back) → W'.cell? p1 = some (.int .i64 n) ∧ W'.cell? p2 = some (.bool back))) ∨ (e = .returned (.bool false) ∧ Jx (pre ++ [x]) W'))
  (W : World) (hB1 : W.cell? p1 = some (.int .i64 n)) (hB2 : W.cell? p2 = some (.bool back)) (h0 : J [] W) :
  CallsIn Fence.wide q prog 67 #[.func (.yield l) #[] #[], .pointer (some p1), .pointer (some p2)] W fun e W' => (∃ v, e = .returned v) ∧
   ((∃ ys, ys.map (·.1) = stepsL n back ∧ J ys W') ∨ (∃ pre, pre.map (·.1) <+: stepsL n back ∧ Jx pre W')) := by
 have hF : Fence.wide.fn 67 := trivial
 have hd : Fence.wide.depth.isSome = true → 1 ≤ q := fun h => by simp [Fence.wide] at h
 cases back with
 | false =>
  refine callsIn_of_wp func67 rfl hF ?_ rfl
  simp only [ntmps67, List.size_toArray, List.length_cons, List.length_nil, Nat.reduceAdd, Nat.reduceSub, Array.replicate_succ, Array.replicate_zero, List.push_toArray, List.append_toArray, List.nil_append, List.cons_append]
  gi_wp2
  gi_loopw [7] (fun i wr => ∃ k : Nat, k ≤ n ∧ i = .int .i64 k ∧ (∃ pre, pre.map (·.1) = (stepsL n false).take k ∧ J pre wr) ∧ wr.cell? p1 = some (.int .i64 n) ∧ wr.cell? p2 = some (.bool false))
   (fun i _ => n - (intOf i).toNat)
  case atStart => exact ⟨0, Nat.zero_le _, rfl, ⟨[], by simp, h0⟩, hB1, hB2⟩
  case round =>
   obtain ⟨k, hk, rfl, ⟨pre, hpre, hJs⟩, hc1, hc2⟩ := hrel
   by_cases hlt : k < n
   ·have hget : (stepsL n false)[k]? = some ((k : Int)) := by rw [stepsL_get n false hlt]; rfl
    have hxm : (k : Int) ∈ stepsL n false := List.mem_of_getElem? hget
    have hlen : pre.length < (stepsL n false).length := by have := congrArg List.length hpre; simp [stepsL_length] at this; rw [stepsL_length]; omega
    have hpre2 : ∀ h : (k : Int) ∈ stepsL n false, (pre ++ [(⟨(k : Int), h⟩ : {x : Int // x ∈ stepsL n false})]).map (·.1) = (stepsL n false).take (k + 1) := fun h => by rw [List.take_add_one, hget, List.map_append, hpre]; rfl
    obtain ⟨fn, tmps, assign, body, hy, hR⟩ := hY pre ⟨(k : Int), hxm⟩ wr hJs hlen
    dsimp only at hy
    gi_wp2
    refine ⟨hd, ?_⟩
    refine hR.mono ?_
    rintro e W3 (⟨rfl, hJ3, hk3⟩ | ⟨rfl, hJx3⟩)
    ·obtain ⟨hc1', hc2'⟩ := hk3 hc1 hc2
     gi_wp2
     go_roundw
     case rel => exact ⟨k + 1, by omega, by simp, ⟨_, hpre2 _, hJ3⟩, hc1', hc2'⟩
     case measure => simp [intOf]; omega
    ·gi_wp2
     refine bodyPost_ret (results_none rfl _ _ _) rfl ?_
     exact ⟨⟨_, rfl⟩, .inr ⟨_, by rw [hpre2 _]; exact List.take_prefix _ _, hJx3⟩⟩
   ·obtain rfl : k = n := by omega
    gi_wp2
    go_end0
    exact ⟨⟨_, rfl⟩, .inl ⟨_, by rw [hpre, List.take_of_length_le (by rw [stepsL_length]; exact Nat.le_refl _)], hJs⟩⟩
 | true =>
  refine callsIn_of_wp func67 rfl hF ?_ rfl
  simp only [ntmps67, List.size_toArray, List.length_cons, List.length_nil, Nat.reduceAdd, Nat.reduceSub, Array.replicate_succ, Array.replicate_zero, List.push_toArray, List.append_toArray, List.nil_append, List.cons_append]
  gi_wp2
  gi_loopw [7] (fun i wr => ∃ k : Nat, k ≤ n ∧ i = .int .i64 k ∧ (∃ pre, pre.map (·.1) = (stepsL n true).take k ∧ J pre wr) ∧ wr.cell? p1 = some (.int .i64 n) ∧ wr.cell? p2 = some (.bool true))
   (fun i _ => n - (intOf i).toNat)
  case atStart => exact ⟨0, Nat.zero_le _, rfl, ⟨[], by simp, h0⟩, hB1, hB2⟩
  case round =>
   obtain ⟨k, hk, rfl, ⟨pre, hpre, hJs⟩, hc1, hc2⟩ := hrel
   by_cases hlt : k < n
   ·have hget : (stepsL n true)[k]? = some ((n : Int) - 1 - (k : Int)) := by rw [stepsL_get n true hlt]; rfl
    have hxm : (n : Int) - 1 - (k : Int) ∈ stepsL n true := List.mem_of_getElem? hget
    have hlen : pre.length < (stepsL n true).length := by have := congrArg List.length hpre; simp [stepsL_length] at this; rw [stepsL_length]; omega
    have hpre2 : ∀ h : (n : Int) - 1 - (k : Int) ∈ stepsL n true, (pre ++ [(⟨(n : Int) - 1 - (k : Int), h⟩ : {x : Int // x ∈ stepsL n true})]).map (·.1) = (stepsL n true).take (k + 1) := fun h => by rw [List.take_add_one, hget, List.map_append, hpre]; rfl
    obtain ⟨fn, tmps, assign, body, hy, hR⟩ := hY pre ⟨(n : Int) - 1 - (k : Int), hxm⟩ wr hJs hlen
    dsimp only at hy
    gi_wp2
    refine ⟨hd, ?_⟩
    refine hR.mono ?_
    rintro e W3 (⟨rfl, hJ3, hk3⟩ | ⟨rfl, hJx3⟩)
    ·obtain ⟨hc1', hc2'⟩ := hk3 hc1 hc2
     gi_wp2
     go_roundw
     case rel => exact ⟨k + 1, by omega, by simp, ⟨_, hpre2 _, hJ3⟩, hc1', hc2'⟩
     case measure => simp [intOf]; omega
    ·gi_wp2
     refine bodyPost_ret (results_none rfl _ _ _) rfl ?_
     exact ⟨⟨_, rfl⟩, .inr ⟨_, by rw [hpre2 _]; exact List.take_prefix _ _, hJx3⟩⟩
   ·obtain rfl : k = n := by omega
    gi_wp2
    go_end0
    exact ⟨⟨_, rfl⟩, .inl ⟨_, by rw [hpre, List.take_of_length_le (by rw [stepsL_length]; exact Nat.le_refl _)], hJs⟩⟩
theorem it_steps (n : Nat) (back : Bool) (hn : n ≤ 4611686018427387904) : ItC prog n_ledger_steps_1 [.int .i64 n, .bool back] (stepsL n back) := by
 refine ⟨fun args w => run_callFunc (okF_of_body b_ledger_steps_1) args w, fun k w ps hc l J Jx W hW _ _ hY h0 => ?_⟩
 obtain ⟨hl, hc⟩ := hc
 match ps, hl with
 | [p1, p2], _ =>
  obtain ⟨s1, v1, e1, c1⟩ := hc 0 p1 _ rfl rfl
  obtain ⟨s2, v2, e2, c2⟩ := hc 1 p2 _ rfl rfl
  simp only [scalV, Option.some.injEq] at e1 e2
  subst e1; subst e2
  have up : ∀ {p : Addr} {v : Value}, p.spot = none → w.cell? p = some v → W.cell? p = some v := fun {p v} hs hv => by
   obtain ⟨b, o, s⟩ := p
   simp only at hs; subst hs
   exact (hW.cell (p := ⟨b, o, none⟩) (isC.of_cell hv).lt).trans hv
  refine steps1_in back n hn k l p1 p2 J Jx (fun pre x W1 hJ hlen => ?_) W (up s1 c1) (up s2 c2) h0
  obtain ⟨fn, tmps, asn, body, y1, y2⟩ := hY pre x W1 hJ hlen
  refine ⟨fn, tmps, asn, body, y1, y2.mono ?_⟩
  rintro e W' (⟨h1, h2, h3⟩ | h)
  ·refine .inl ⟨h1, h2, fun k1 k2 => ?_⟩
   have h4 := (h3 ⟨rfl, fun i p x hp hx => by
    match i, hp, hx with
    | 0, hp, hx => simp at hp hx; subst hp; subst hx; exact ⟨s1, _, rfl, k1⟩
    | 1, hp, hx => simp at hp hx; subst hp; subst hx; exact ⟨s2, _, rfl, k2⟩
    | i + 2, hp, hx => simp at hp⟩).2
   obtain ⟨_, v1, e1, d1⟩ := h4 0 p1 _ rfl rfl
   obtain ⟨_, v2, e2, d2⟩ := h4 1 p2 _ rfl rfl
   simp only [scalV, Option.some.injEq] at e1 e2
   subst e1; subst e2
   exact ⟨d1, d2⟩
  ·exact .inr h
end
theorem hc_ledger_steps (σ : St) (n : Int) (back : Bool) : HC prog n_ledger_steps [.int .i64 n, .bool back] σ (fun r τ => r = .func n_ledger_steps_1 [.ptr σ.n σ.c 1 0 0, .ptr (σ.n + 1) (σ.c + 1) 1 0 0] ∧ AsO σ τ ∧ σ.n + 2 ≤ τ.n ∧ ∃ t1 t2, τ.ob σ.n = some ⟨σ.c, 1, t1, false, true, [.int .i64 n]⟩ ∧ τ.ob (σ.n + 1) = some ⟨σ.c + 1, 1, t2, false, true, [.bool back]⟩) := by
 obtain ⟨ob, m, c⟩ := σ
 refine HC_of_body b_ledger_steps (by simp) ?_
 simp only [c_ledger_steps, go_sem, jA, jB, jC, jD, jE, jF, jG, jH, jI, jJ, ↓reduceIte, reduceCtorEq, jP]
 try simp (disch := omega) only [go_sem, jA, jB, jC, jD, jE, jF, jG, jH, jI, jJ, ↓reduceIte, reduceCtorEq, jO, jM, jN, jK, jL]
 refine ⟨⟨by simp only; omega, fun k hk => ?_⟩, Nat.le_refl _, _, _, rfl, rfl⟩
 simp only at hk
 have h1 : ¬ k = m := by omega
 have h2 : ¬ k = m + 1 := by omega
 try simp (disch := omega) only [go_sem, jA, jB, jC, jD, jE, jF, jG, jH, jI, jJ, ↓reduceIte, reduceCtorEq, jO, jM, jN, jK, jL, h1, h2]
end Go.Proofs.Try
